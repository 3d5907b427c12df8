/- Texts laid as one by shake.py, cut to what the claim needs: Lits, RecD, RecN. (Names that begin with W and the print's groups (G..x, G..z): laid by the kit's print, cut.) -/
import Derived.Test.YtfflenbfapgilaaGreatZCn
import Derived.Test.YtfflenbfapgilaaGreatZCj
import Derived.Test.YtfflenbfapgilaaGreatZCg
set_option linter.unusedVariables false
set_option linter.unusedSimpArgs false
set_option maxHeartbeats 8000000
set_option maxRecDepth 100000
namespace Go.Proofs.YtfflenbfapgilaaGreat
open Go.RowKit Go.Proofs.YtfflenbfapgilaaGreatW.PrintWords
theorem NewTab.out {w w':World} {g:Nat} {l:List ByteArray} (h:NewTab w w' g l): ∃S,Tab w' S g l∧(∀k,S k→w.heap.size≤k)∧Below w.heap.size w w':=h
end Go.Proofs.YtfflenbfapgilaaGreat
namespace Go.Proofs.YtfflenbfapgilaaGreat
open Go.RowKit Go.Proofs.YtfflenbfapgilaaGreatW.PrintWords Go.Proofs.YtfflenbfapgilaaGreat.GRR
theorem info_dep:(Tryz.prog.info? 129).map (fun i=>(i.zero,i.size,i.bytes))=some (some (.agg #[.string ⟨#[]⟩,.int .u64 0,.bool false]),3,32):=by kernel_rfl
theorem R_empty {α:Type} (d:Kd α) (W:World) (base b:Nat) (e:TypeId) (ok:Nat→Prop) (h:W.heap[b]? =some (.cells #[] e (0,0))) (hb:base≤b) (hok:ok b):Kd.R d e W base ok (.slice (some ⟨b,0,none⟩) 0 0) []:=
 ⟨fun k hk=>by simp only[Value.ownBlock,Option.some.injEq]at hk;exact hk ▸ hok,[],⟨by simp,.inr ⟨b,0,#[],rfl,hb,h,Nat.le_refl _,by simp[maxLen],by simp,by simp⟩⟩,Reps.none _ _⟩
def nameB (s:ByteArray):Bool:=decide (1≤s.size∧s.size≤64)
theorem name_any (s:ByteArray) (w:World) (hs:s.size≤9223372036854775807):Calls Tryz.prog 61 #[.string s] w fun e w'=>e= .returned (.bool (nameB s))∧w=w':=by
 by_cases h1:1≤s.size
 ·have b1:decide ((1:Int)≤(s.size:Int))=true:=decide_eq_true (by omega)
  have e:nameB s=decide ((s.size:Int)≤64):=by unfold nameB;rw[Bool.eq_iff_iff,decide_eq_true_eq,decide_eq_true_eq];omega
  rw[e]
  go_enter Tryz.func61,Tryz.ntmps61
  go_wp2_with fail
  all_goals
   go_ret
   exact⟨by first|rfl|simp_all,rfl⟩
 ·have b1:decide ((1:Int)≤(s.size:Int))=false:=decide_eq_false (by omega)
  have e:nameB s=false:=by unfold nameB;rw[decide_eq_false_iff_not];omega
  rw[e]
  go_enter Tryz.func61,Tryz.ntmps61
  go_wp2_with fail
  all_goals
   go_ret
   exact⟨by first|rfl|simp_all,rfl⟩
def depsOk (v:Int):List ByteArray→List S129→Bool
 |_,[]=>true
 |met,d::r=>nameB d.f0&& !isIn met d.f0&& !(d.f2&&decide (v<3))&&depsOk v (met++[d.f0]) r
def depsB (v:Int) (t:ByteArray) (l:List S129):Bool:=depsOk v [t] l&&decide ((l.length:Int)≤16)
theorem rd_dep (l:List S129) (i:Nat) (h:i<l.length):rd_T129 l (i:Int)=l[i]:=by simp[rd_T129,h]
def NewRec (w w':World) (g:Nat) (l:List ByteArray) (b0:Nat) (v:Value):Prop:=
 ∃S,Tab w' S g l∧(∀k,S k→w.heap.size≤k)∧Below w.heap.size w w'∧(∀k,S k→k≠b0)∧∃a0 a1 a2 a4 a5 a6,w'.heap[b0]? =some (.cells #[a0,a1,a2,v,a4,a5,a6] 49 (0,0))
theorem deps_any (v:Int) (x0:Int) (x1:ByteArray) (x2:Int) (A:Option Addr) (c:Nat) (l:List S129) (x4 x5:Int) (x6:ByteArray) (w:World) (hr:Kd.C k129 w A l.length l) (hc:l.length≤c) (hl:l.length≤3010) (hz: ∀d∈l,d.f0.size≤maxLen) (hx:x1.size≤maxLen):
  Calls Tryz.prog 62 #[.int .i64 v,.agg #[.int .i64 x0,.string x1,.int .u64 x2,.slice A l.length c,.int .u64 x4,.int .u64 x5,.string x6]] w fun e w'=>e= .returned (.bool (depsB v x1 l))∧Below w.heap.size w w':=by
 have HR:=hQ hr
 have HZ:=hQ hz
 have HX:=hQ hx
 clear hr hz hx
 obtain⟨vb,hvb⟩:=eX (decide (v<3))
 have hC1:=C_block_str ((w.alloc (.cells #[.int .i64 x0,.string x1,.int .u64 x2,.slice A l.length c,.int .u64 x4,.int .u64 x5,.string x6] 49)).alloc (.cells #[.string x1] 9)) (w.heap.size+1) 9 (0,0) [x1] (by have:=heap_new (w.alloc (.cells #[.int .i64 x0,.string x1,.int .u64 x2,.slice A l.length c,.int .u64 x4,.int .u64 x5,.string x6] 49)) (.cells #[.string x1] 9);rwa [heap_size_alloc]at this) (by simp)
 have HN:=hQ (new_any (some ⟨w.heap.size+1,0,none⟩) 1 [x1] _ hC1 (Nat.le_refl _) (by simp;exact HX.out) (by simp))
 have hb0:Below w.heap.size w ((w.alloc (.cells #[.int .i64 x0,.string x1,.int .u64 x2,.slice A l.length c,.int .u64 x4,.int .u64 x5,.string x6] 49)).alloc (.cells #[.string x1] 9)):=((Below.refl _ _).alloc (Nat.le_refl _) _).alloc (by simp) _
 have HB0:=hQ hb0
 have hbx:((w.alloc (.cells #[.int .i64 x0,.string x1,.int .u64 x2,.slice A l.length c,.int .u64 x4,.int .u64 x5,.string x6] 49)).alloc (.cells #[.string x1] 9)).heap[w.heap.size]? =_:=blk_alloc (heap_new w _) _
 have HBX:=hQ hbx
 obtain⟨D,hD⟩:=eX (depsOk v [x1] l)
 have hres:depsB v x1 l=(D&&decide ((l.length:Int)≤16)):=by unfold depsB;rw[hD]
 have HRES:=hQ hres
 have HVB:=hQ hvb
 have HD:=hQ hD
 clear hC1 hb0 hbx hres hD
 go_enter Tryz.func62,Tryz.ntmps62
 go_wp2_with fail
 generalize (w.alloc (.cells #[.int .i64 x0,.string x1,.int .u64 x2,.slice A l.length c,.int .u64 x4,.int .u64 x5,.string x6] 49)).alloc (.cells #[.string x1] 9)=w0 at*
 refine HN.out.mono ?_
 rintro e w1 ⟨rfl,hd⟩
 rw[show tnew [x1]=[x1] from tnew_self (by simp)]at hd
 generalize w0.heap.size=g at hd ⊢
 have hblt:=(Array.getElem?_eq_some_iff.1 HBX.out).1
 obtain⟨S,hT,hS,hB⟩:=hd
 have h1:NewTab w w1 g [x1]:=⟨S,hT,fun k hk=>Nat.le_trans HB0.out.size (hS k hk),HB0.out.trans (hB.mono HB0.out.size)⟩
 obtain⟨b0,hb0⟩: ∃b0,b0=w.heap.size:=⟨_,rfl⟩
 have hbk:w1.heap[b0]? =some (.cells #[.int .i64 x0,.string x1,.int .u64 x2,.slice A l.length c,.int .u64 x4,.int .u64 x5,.string x6] 49 (0,0)):=by rw[hb0];exact blk_below HBX.out hB
 have hc3:w1.cell? ⟨b0,3,none⟩=some (.slice A l.length c):=(cell_of_blk hbk 3).trans rfl
 have hnS: ∀k,S k→k≠b0:=fun k hk e=>by have:=hS k hk;omega
 have H1:=hQ (show NewRec w w1 g [x1] b0 (.slice A l.length c) from⟨S,hT,fun k hk=>Nat.le_trans HB0.out.size (hS k hk),HB0.out.trans (hB.mono HB0.out.size),hnS,_,_,_,_,_,_,hbk⟩)
 rw[←hb0]
 clear hT hS hB h1 hbk hnS hblt HBX HB0 HN
 clear hb0
 go_wp2_with fail
 go_loopw [17] (fun u17 wr=>∃(i:Nat) (met:List ByteArray),i≤l.length∧u17= .int .i64 i∧met.length≤1+i∧Hid (NewRec w wr g met b0 (.slice A l.length c))∧Hid (depsOk v met (l.drop i)=D)) (fun u _=>l.length-(intOf u).toNat)
 case atStart=>exact⟨0,[x1],by omega,rfl,by simp,H1,HD⟩
 case round=>
  obtain⟨i,met,hi,rfl,hml,hrel,hdd⟩:=hrel
  by_cases hlt:i<l.length
  ·obtain ⟨S,hT,hS,hB,hnS,a0,a1,a2,a4,a5,a6,hbk⟩:=hrel.out
   obtain⟨ad,had,hcl0,hcl1,hcl2⟩:=at_T129 (Kd.C_below HR.out hB) (i:Int) (by omega) (by omega)
   subst had
   rw[Int.toNat_natCast,rd_dep l i hlt]at hcl0 hcl1 hcl2
   have hds:=hdd.out
   rw[List.drop_eq_getElem_cons hlt]at hds
   have hsz:=HZ.out l[i] (List.getElem_mem _)
   generalize l[i]=d at hcl0 hcl1 hcl2 hds hsz
   obtain⟨d0,d1,d2⟩:=d
   simp only at hcl0 hcl1 hcl2 hsz
   simp only[depsOk]at hds
   rw[HVB.out]at hds
   have HDS:=hQ hds
   have hb1:=(Below.refl wr.heap.size wr).alloc (Nat.le_refl _) (.cells #[.string d0,.int .u64 d1,.bool d2] 129)
   have hT1:=hT.keep (Kp.of_below hb1 (fun _=>False)) (fun _ _ h=>h)
   have hbd:=heap_new wr (.cells #[.string d0,.int .u64 d1,.bool d2] 129)
   have hnd: ∀k,S k→k≠wr.heap.size:=fun k hk e=>by have:=hT.lt k hk;omega
   have hbk1:=blk_below hbk hb1
   have HID:=hQ (id_any hT1 d0 hsz (by omega))
   have HNM:=hQ (fun W=>name_any d0 W (by simp only[maxLen]at hsz;omega))
   have HAll:=hQ (And.intro hT1 (And.intro hS (And.intro (hB.trans (hb1.mono hB.size)) (And.intro hnS (And.intro hnd (And.intro hbk1 hbd))))))
   obtain⟨bd,hbd2⟩: ∃bd,bd=wr.heap.size:=⟨_,rfl⟩
   rw[←hbd2]at HAll
   have HBD:=hQ hbd2
   obtain⟨p,hp⟩:=eX (posOf met d0)
   obtain⟨nb,hnb⟩:=eX (nameB d0)
   obtain⟨ib,hib⟩:=eX (isIn met d0)
   rw[hp,hib]at HID
   rw[hnb]at HNM
   rw[hnb,hib]at HDS
   have HIB:=hQ hib
   clear hds hsz hT hT1 hS hB hnS hnd hbk hbk1 hbd hb1 hbd2 hp hnb hib hdd hrel
   go_wp2_with fail
   rw[←HBD.out]
   generalize wr.alloc (.cells #[.string d0,.int .u64 d1,.bool d2] 129)=W at*
   refine HID.out.mono ?_
   rintro e w2 ⟨rfl,hd⟩
   obtain⟨hT1,hS,hB,hnS,hnd,hbk1,hbd⟩:=HAll.out
   obtain⟨S2,hT2,hS2,hK2⟩:=hd
   have hszW:=(Array.getElem?_eq_some_iff.1 hbk1).1
   have hszD:=(Array.getElem?_eq_some_iff.1 hbd).1
   have hbk2:=hK2.heap hbk1 (fun h=>hnS _ h rfl)
   have hbd2:=hK2.heap hbd (fun h=>hnd _ h rfl)
   have hN2:NewRec w w2 g (tput met d0) b0 (.slice (some ad) l.length c):=⟨S2,hT2,fun k hk=>(hS2 k hk).elim (hS k) (fun h=>Nat.le_trans hB.size h),((Kp.of_below hB S).trans hK2 (fun k hk=> .inl hk)).to_below hS,fun k hk e=>(hS2 k hk).elim (fun h=>hnS k h e) (fun h=>by omega),_,_,_,_,_,_,hbk2⟩
   have HN2:=hQ hN2
   have hbe:=HN2.out.choose_spec.2.2.1
   have hcd0:w2.cell? ⟨bd,0,none⟩=some (.string d0):=(cell_of_blk hbd2 0).trans rfl
   have hcd2:w2.cell? ⟨bd,2,none⟩=some (.bool d2):=(cell_of_blk hbd2 2).trans rfl
   have hc23:w2.cell? ⟨b0,3,none⟩=some (.slice (some ad) l.length c):=(cell_of_blk hbk2 3).trans rfl
   have HBE:=hQ hbe
   clear hT1 hS hB hnS hnd hbk1 hbd hT2 hS2 hK2 hbk2 hbd2 hN2 hbe HAll HID
   have hvv:decide (v<3)=vb:=HVB.out
   cases nb with
   |false=>
    go_wp2_with fail
    refine(HNM.out _).mono ?_
    rintro e w3 ⟨rfl,rfl⟩
    go_wp2_with fail
    go_ret
    have h:=HDS.out
    exact⟨by rw[HRES.out,←h];rfl,HBE.out⟩
   | true=>
    cases ib with
    |true=>
     go_wp2_with fail
     refine(HNM.out _).mono ?_
     rintro e w3 ⟨rfl,rfl⟩
     go_wp2_with fail
     go_ret
     have h:=HDS.out
     exact⟨by rw[HRES.out,←h];rfl,HBE.out⟩
    | false=>
     cases d2 with
     | false=>
      go_wp2_with fail
      refine(HNM.out _).mono ?_
      rintro e w3 ⟨rfl,rfl⟩
      go_wp2
      go_roundw
      case rel=>
       rw[tput_out (isIn_ne.1 HIB.out)]at HN2
       exact⟨i+1,met++[d0],by omega,by go_num,by simp;omega,HN2,hQ HDS.out⟩
      case measure=>simp[intOf];omega
     | true=>
      cases vb with
      |true=>
       go_wp2_with fail
       refine(HNM.out _).mono ?_
       rintro e w3 ⟨rfl,rfl⟩
       go_wp2_with fail
       go_ret
       have h:=HDS.out
       exact⟨by rw[HRES.out,←h];rfl,HBE.out⟩
      | false=>
       go_wp2_with fail
       refine(HNM.out _).mono ?_
       rintro e w3 ⟨rfl,rfl⟩
       go_wp2
       go_roundw
       case rel=>
        rw[tput_out (isIn_ne.1 HIB.out)]at HN2
        exact⟨i+1,met++[d0],by omega,by go_num,by simp;omega,HN2,hQ HDS.out⟩
       case measure=>simp[intOf];omega
  ·obtain rfl:i=l.length:=by omega
   have hds:=hdd.out
   rw[List.drop_of_length_le (Nat.le_refl _)]at hds
   obtain⟨S,hT,hS,hB,hnS,a0,a1,a2,a4,a5,a6,hbk⟩:=hrel.out
   have hc23:wr.cell? ⟨b0,3,none⟩=some (.slice A l.length c):=(cell_of_blk hbk 3).trans rfl
   have HDS:=hQ hds
   have HB:=hQ hB
   clear hds hT hS hB hnS hbk hrel hdd
   go_wp2_with fail
   go_ret
   exact⟨by rw[HRES.out,←HDS.out];simp[depsOk],HB.out⟩
theorem R_block_str (W:World) (base b:Nat) (e:TypeId) (xs:List ByteArray) (ok:Nat→Prop) (h:W.heap[b]? =some (.cells (xs.map Value.string).toArray e (0,0))) (hb:base≤b) (hx:xs.length≤maxLen) (hok:ok b):
  Kd.R Kd.string e W base ok (.slice (some ⟨b,0,none⟩) xs.length xs.length) xs:=by
 refine⟨fun k hk=> ?_,xs.map Value.string,⟨by simp[Kd.string,Kd.scalar],.inr ⟨b,xs.length,_,rfl,hb,h,Nat.le_refl _,hx,by simp[Kd.string,Kd.scalar], ?_⟩⟩, ?_⟩
 ·simp only[Value.ownBlock,Option.some.injEq]at hk;exact hk ▸ hok
 ·show List.take (xs.length*1) _=_
  rw[Nat.mul_one];exact List.take_of_length_le (by simp)
 ·refine⟨by simp[Kd.string,Kd.scalar],fun j p hj=> ?_⟩
  show _=[Value.string p]
  rw[show Kd.string.sz=1 from rfl,Nat.mul_one]
  apply List.ext_getElem?
  intro i
  rw[List.getElem?_take,List.getElem?_drop,List.getElem?_map]
  match i with
  | 0=>simp[hj]
  |i+1=>simp
structure NamesRel (w wr:World) (b0:Nat) (vs:Array Value) (v:Value) (xs:List ByteArray):Prop where
 row:Kd.R Kd.string 9 wr w.heap.size (fun k=>k≠b0) v xs
 below:Below w.heap.size w wr
 box:wr.heap[b0]? =some (.cells vs 49 (0,0))
def namesL (x1:ByteArray) (l:List S129) (x6:ByteArray):List ByteArray:=x1::l.map (·.f0)++(if x6.toList=[]then []else [x6])
theorem names_any (x0:Int) (x1:ByteArray) (x2:Int) (A:Option Addr) (c:Nat) (l:List S129) (x4 x5:Int) (x6:ByteArray) (w:World) (hr:Kd.C k129 w A l.length l) (hc:l.length≤c) (hl:l.length≤3010) (hz: ∀d∈l,d.f0.size≤maxLen) (hx:x1.size≤maxLen) (hx6:x6.size≤maxLen):
  Calls Tryz.prog 36 #[.agg #[.int .i64 x0,.string x1,.int .u64 x2,.slice A l.length c,.int .u64 x4,.int .u64 x5,.string x6]] w fun e w'=>∃v:Value,e= .returned v∧Kd.R Kd.string 9 w' w.heap.size (fun _=>True) v (tnew (namesL x1 l x6))∧Below w.heap.size w w':=by
 have HR:=hQ hr
 have HZ:=hQ hz
 have HX:=hQ hx
 have HX6:=hQ hx6
 clear hr hz hx hx6
 obtain⟨w0,hw0⟩:=eX ((w.alloc (.cells #[.int .i64 x0,.string x1,.int .u64 x2,.slice A l.length c,.int .u64 x4,.int .u64 x5,.string x6] 49)).alloc (.cells #[.string x1] 9))
 have h0:NamesRel w w0 w.heap.size #[.int .i64 x0,.string x1,.int .u64 x2,.slice A l.length c,.int .u64 x4,.int .u64 x5,.string x6] (.slice (some ⟨w.heap.size+1,0,none⟩) 1 1) [x1]:=by
  rw[←hw0]
  refine⟨R_block_str _ _ _ _ [x1] _ (by have:=heap_new (w.alloc (.cells #[.int .i64 x0,.string x1,.int .u64 x2,.slice A l.length c,.int .u64 x4,.int .u64 x5,.string x6] 49)) (.cells #[.string x1] 9);rwa [heap_size_alloc]at this) (by omega) (by simp[maxLen]) (by omega),((Below.refl _ _).alloc (Nat.le_refl _) _).alloc (by simp) _,blk_alloc (heap_new w _) _⟩
 have H0:=hQ h0
 have HW0:=hQ hw0
 clear h0 hw0
 obtain⟨b0,hb0⟩: ∃b0,b0=w.heap.size:=⟨_,rfl⟩
 rw[←hb0]at H0
 have HB0:=hQ hb0
 clear hb0
 go_enter Tryz.func36,Tryz.ntmps36
 go_wp2_with fail
 rw[HW0.out,←HB0.out]
 obtain⟨vs,hvs⟩: ∃vs:Array Value,#[.int .i64 x0,.string x1,.int .u64 x2,.slice A l.length c,.int .u64 x4,.int .u64 x5,.string x6]=vs:=⟨_,rfl⟩
 rw[hvs]at H0
 have HVS:=hQ hvs
 clear HW0 hvs
 go_loopw [3,17] (fun u3 u17 wr=>∃(i:Nat),i≤l.length∧u17= .int .i64 i∧Hid (NamesRel w wr b0 vs u3 (x1::(l.take i).map (·.f0)))) (fun _ u _=>l.length-(intOf u).toNat)
 case atStart=>exact⟨0,by omega,rfl,H0⟩
 case round=>
  clear H0
  obtain⟨i,hi,rfl,hrel⟩:=hrel
  by_cases hlt:i<l.length
  ·obtain ⟨hrow,hB,hbox⟩:=hrel.out
   obtain⟨ad,had,hcl0,hcl1,hcl2⟩:=at_T129 (Kd.C_below HR.out hB) (i:Int) (by omega) (by omega)
   subst had
   rw[Int.toNat_natCast,rd_dep l i hlt]at hcl0 hcl1 hcl2
   have hst:x1::(l.take (i+1)).map (·.f0)=(x1::(l.take i).map (·.f0))++[l[i].f0]:=by
    rw[List.take_succ_eq_append_getElem hlt,List.map_append];rfl
   have hln:(x1::(l.take i).map (·.f0)).length≤1+i:=by simp;omega
   generalize l[i]=d at hcl0 hcl1 hcl2 hst
   obtain⟨d0,d1,d2⟩:=d
   simp only at hcl0 hcl1 hcl2 hst
   obtain⟨A3,c3,rfl⟩:=Kd.R_slice hrow
   generalize (x1::(l.take i).map (·.f0))=xs at*
   have hb1:=(Below.refl wr.heap.size wr).alloc (Nat.le_refl _) (.cells #[.string d0,.int .u64 d1,.bool d2] 129)
   have hbs:=(Array.getElem?_eq_some_iff.1 hbox).1
   have HROW:=hQ (Kd.R_below hrow hb1)
   have HBOX:=hQ (blk_below hbox hb1)
   have HBL:=hQ (hB.trans (hb1.mono hB.size))
   have HST:=hQ hst
   clear hrow hB hbox hst hrel hb1
   have hws:=HBL.out.size
   have hwr:=heap_size_alloc wr (.cells #[.string d0,.int .u64 d1,.bool d2] 129)
   have HWR:=hQ hwr
   clear hwr
   go_wp2_with (at_builtin;refine Halt.mk ?_)
   refine Halt.of ?_
   rw[←HWR.out]
   have hwr2:wr.heap.size≤(wr.alloc (.cells #[.string d0,.int .u64 d1,.bool d2] 129)).heap.size:=by rw[HWR.out];omega
   clear HWR
   generalize wr.alloc (.cells #[.string d0,.int .u64 d1,.bool d2] 129)=W at*
   refine Kd.R_append Kd.string (w0:=w) w.heap.size rfl (.tmp 21) (.tmp 24) 52 9 (.string ⟨#[]⟩) 16 rfl Tryz.underlying52 info_str rfl (by decide) (by decide) _ xs d0 [.string d0] _ (fun _=>False) rfl rfl rfl (fun _ h=>h.elim) (fun k hk=>by omega) HROW.out HBL.out hws (by omega) ?_
   intro v1 w1 hr1 hb2 hg1 _
   have hb3:w1.heap[b0]? =_:=(hg1.block b0 (by omega) (fun e=>HROW.out.1 b0 e.symm rfl)).trans HBOX.out
   have HN:=hQ (show NamesRel w w1 b0 vs v1 (xs++[d0]) from⟨hr1,hb2,hb3⟩)
   clear hr1 hb2 hg1 hb3 HROW HBOX HBL
   go_wp2
   go_roundw
   case rel=>exact⟨i+1,by omega,by go_num,by rw[HST.out];exact HN⟩
   case measure=>simp[intOf];omega
  ·obtain rfl:i=l.length:=by omega
   rw[List.take_of_length_le (Nat.le_refl _)]at hrel
   obtain⟨hrow,hB,hbox⟩:=hrel.out
   have hbs:=(Array.getElem?_eq_some_iff.1 hbox).1
   obtain⟨A3,c3,hv3⟩:=Kd.R_slice hrow
   subst hv3
   rw[←HVS.out]at hbox
   have hcb:wr.cell? ⟨b0,6,none⟩=some (.string x6):=(cell_of_blk hbox 6).trans rfl
   have hln:(x1::l.map (·.f0)).length≤1+l.length:=by simp;omega
   have hwide: ∀s∈namesL x1 l x6,s.size≤maxLen:=by
    intro s hs
    simp only[namesL,List.cons_append,List.mem_cons,List.mem_append,List.mem_map]at hs
    rcases hs with rfl|⟨d,hd,rfl⟩|hs
    ·exact HX.out
    ·exact HZ.out d hd
    ·split at hs
     ·simp at hs
     ·simp at hs;rw[hs];exact HX6.out
   have hlen:(namesL x1 l x6).length≤2+l.length:=by
    unfold namesL
    split<;>simp<;>omega
   have HWIDE:=hQ hwide
   have HLEN:=hQ hlen
   by_cases h6:x6.toList=[]
   ·have b6:x6.toList.isEmpty=true:=by rw[h6];rfl
    have hnm:namesL x1 l x6=x1::l.map (·.f0):=by unfold namesL;rw[if_pos h6];simp
    rw[←hnm]at hrow hln hrel
    have hrd:=Kd.R_reads' hrow
    have HNEW:=hQ (new_any A3 c3 (namesL x1 l x6) wr hrd.2.2 hrd.2.1 hwide (by omega))
    have HB:=hQ hB
    rw[←hnm]
    clear hrow hB hbox hrel hwide hlen hrd hnm
    generalize hNM:namesL x1 l x6=nm at*
    have HNMM:=hQ hNM
    clear hNM
    go_wp2_with fail
    refine HNEW.out.mono ?_
    rintro e w2 ⟨rfl,hd⟩
    obtain⟨S,hT,hS,hB2⟩:=hd
    have hB3:=HB.out.trans (hB2.mono HB.out.size)
    have hS': ∀k,S k→w.heap.size≤k:=fun k hk=>Nat.le_trans HB.out.size (hS k hk)
    clear hS hB2 HB HNEW
    generalize wr.heap.size=g at*
    have htl:=tnew_len nm
    have hlen2:=HLEN.out
    have hT0:=hT.len
    have HLN:=hQ (len_any hT)
    have HS:=hQ hS'
    have HPL:=hQ (And.intro hT hB3)
    clear hT hS' hB3 HWIDE
    generalize hLL:tnew nm=L at*
    have HLL:=hQ hLL
    clear hLL
    go_wp2_with fail
    refine HLN.out.mono ?_
    rintro e w3 ⟨rfl,rfl⟩
    clear HLN
    go_wp2_with fail
    go_loopw [7,39] (fun u7 u39 wq=>∃(i:Nat),i≤L.length∧u39= .int .i64 i∧Hid (Tab wq S g L∧Below w.heap.size w wq)∧Hid (Kd.R Kd.string 9 wq w.heap.size (fun k=>¬S k) u7 (L.take i))) (fun _ u _=>L.length-(intOf u).toNat)
    case atStart=>exact⟨0,by omega,rfl,HPL,hQ (by rw[List.take_zero];exact Kd.R_nil _ _ _ _ _)⟩
    case round=>
     clear HPL
     obtain⟨j,hj,rfl,hpl,hrow⟩:=hrel
     by_cases hjt:j<L.length
     ·have HTX:=hQ (text_in hpl.out.1 j hjt)
      have HST:=hQ (show L.take (j+1)=L.take j++[L[j]] from List.take_succ_eq_append_getElem hjt)
      have hjl:(L.take j).length≤j:=by rw[List.length_take];omega
      have hr0:=hrow.out
      obtain⟨A7,c7,hv7⟩:=Kd.R_slice hr0
      subst hv7
      have HROW:=hQ hr0
      have HLT:=hQ hpl.out.1.lt
      have HBL:=hQ hpl.out.2
      have HTT:=hQ hpl.out.1
      clear hr0 hrow hpl
      generalize L[j]=s at*
      generalize L.take j=xs at*
      go_wp2_with fail
      refine HTX.out.mono ?_
      rintro e w4 ⟨rfl,rfl⟩
      clear HTX
      go_wp2_with (at_builtin;refine Halt.mk ?_)
      refine Halt.of ?_
      refine Kd.R_append Kd.string (w0:=w) w.heap.size rfl (.tmp 49) (.tmp 51) 52 9 (.string ⟨#[]⟩) 16 rfl Tryz.underlying52 info_str rfl (by decide) (by decide) _ xs s [.string s] _ (fun _=>False) rfl rfl rfl (fun _ h=>h.elim) (fun k hk hs=>by have:=HLT.out k hs;omega) HROW.out HBL.out HBL.out.size (by omega) ?_
      intro v1 w1 hr1 hb2 hg1 _
      have hT2:=HTT.out.keep (S2:=fun k=>¬S k) ⟨hg1.os,hg1.tape,hg1.output,hg1.size,fun k hk hn=>hg1.block k hk (fun e=>hn (HROW.out.1 k e.symm))⟩ (fun k h h'=>h' h)
      have HP:=hQ (And.intro hT2 hb2)
      have HR1:=hQ hr1
      clear hr1 hb2 hg1 hT2 HROW HBL HTT
      go_wp2
      go_roundw
      case rel=>exact⟨j+1,by omega,by go_num,HP,by rw[HST.out];exact HR1⟩
      case measure=>simp[intOf];omega
     ·obtain rfl:j=L.length:=by omega
      rw[List.take_of_length_le (Nat.le_refl _)]at hrow
      go_wp2_with fail
      go_ret
      exact⟨u7,rfl,by rw[HNMM.out,HLL.out];exact Kd.R_mono hrow.out (fun _ _=>trivial),hpl.out.2⟩
   ·have b6:x6.toList.isEmpty=false:=by
     cases hh:x6.toList with
     |nil=>exact absurd hh h6
     |cons a b=>rfl
    have hnm:namesL x1 l x6=(x1::l.map (·.f0))++[x6]:=by unfold namesL;rw[if_neg h6]
    generalize (x1::l.map (·.f0))=xs at*
    have HROW:=hQ hrow
    have HBL:=hQ hB
    have HNM:=hQ hnm
    clear hrow hB hbox hrel hwide hlen hnm
    go_wp2_with (at_builtin;refine Halt.mk ?_)
    refine Halt.of ?_
    refine Kd.R_append Kd.string (w0:=w) w.heap.size rfl (.tmp 30) (.tmp 33) 52 9 (.string ⟨#[]⟩) 16 rfl Tryz.underlying52 info_str rfl (by decide) (by decide) _ xs x6 [.string x6] _ (fun _=>False) rfl rfl rfl (fun _ h=>h.elim) (fun k hk=>by omega) HROW.out HBL.out HBL.out.size (by omega) ?_
    clear HROW HBL
    intro v1 wr hr1 hb2 _ _
    rw[←HNM.out]at hr1
    obtain⟨A4,c4,hv4⟩:=Kd.R_slice hr1
    subst hv4
    have hrd:=Kd.R_reads' hr1
    have hlen3:=HLEN.out
    have HNEW:=hQ (new_any A4 c4 (namesL x1 l x6) wr hrd.2.2 hrd.2.1 HWIDE.out (by omega))
    have HB:=hQ hb2
    clear hr1 hb2 hrd HNM
    generalize hNM:namesL x1 l x6=nm at*
    have HNMM:=hQ hNM
    clear hNM
    go_wp2_with fail
    refine HNEW.out.mono ?_
    rintro e w2 ⟨rfl,hd⟩
    obtain⟨S,hT,hS,hB2⟩:=hd
    have hB3:=HB.out.trans (hB2.mono HB.out.size)
    have hS': ∀k,S k→w.heap.size≤k:=fun k hk=>Nat.le_trans HB.out.size (hS k hk)
    clear hS hB2 HB HNEW
    generalize wr.heap.size=g at*
    have htl:=tnew_len nm
    have hlen2:=HLEN.out
    have hT0:=hT.len
    have HLN:=hQ (len_any hT)
    have HS:=hQ hS'
    have HPL:=hQ (And.intro hT hB3)
    clear hT hS' hB3 HWIDE
    generalize hLL:tnew nm=L at*
    have HLL:=hQ hLL
    clear hLL
    go_wp2_with fail
    refine HLN.out.mono ?_
    rintro e w3 ⟨rfl,rfl⟩
    clear HLN
    go_wp2_with fail
    go_loopw [7,39] (fun u7 u39 wq=>∃(i:Nat),i≤L.length∧u39= .int .i64 i∧Hid (Tab wq S g L∧Below w.heap.size w wq)∧Hid (Kd.R Kd.string 9 wq w.heap.size (fun k=>¬S k) u7 (L.take i))) (fun _ u _=>L.length-(intOf u).toNat)
    case atStart=>exact⟨0,by omega,rfl,HPL,hQ (by rw[List.take_zero];exact Kd.R_nil _ _ _ _ _)⟩
    case round=>
     clear HPL
     obtain⟨j,hj,rfl,hpl,hrow⟩:=hrel
     by_cases hjt:j<L.length
     ·have HTX:=hQ (text_in hpl.out.1 j hjt)
      have HST:=hQ (show L.take (j+1)=L.take j++[L[j]] from List.take_succ_eq_append_getElem hjt)
      have hjl:(L.take j).length≤j:=by rw[List.length_take];omega
      have hr0:=hrow.out
      obtain⟨A7,c7,hv7⟩:=Kd.R_slice hr0
      subst hv7
      have HROW:=hQ hr0
      have HLT:=hQ hpl.out.1.lt
      have HBL:=hQ hpl.out.2
      have HTT:=hQ hpl.out.1
      clear hr0 hrow hpl
      generalize L[j]=s at*
      generalize L.take j=xs at*
      go_wp2_with fail
      refine HTX.out.mono ?_
      rintro e w4 ⟨rfl,rfl⟩
      clear HTX
      go_wp2_with (at_builtin;refine Halt.mk ?_)
      refine Halt.of ?_
      refine Kd.R_append Kd.string (w0:=w) w.heap.size rfl (.tmp 49) (.tmp 51) 52 9 (.string ⟨#[]⟩) 16 rfl Tryz.underlying52 info_str rfl (by decide) (by decide) _ xs s [.string s] _ (fun _=>False) rfl rfl rfl (fun _ h=>h.elim) (fun k hk hs=>by have:=HLT.out k hs;omega) HROW.out HBL.out HBL.out.size (by omega) ?_
      intro v1 w1 hr1 hb2 hg1 _
      have hT2:=HTT.out.keep (S2:=fun k=>¬S k) ⟨hg1.os,hg1.tape,hg1.output,hg1.size,fun k hk hn=>hg1.block k hk (fun e=>hn (HROW.out.1 k e.symm))⟩ (fun k h h'=>h' h)
      have HP:=hQ (And.intro hT2 hb2)
      have HR1:=hQ hr1
      clear hr1 hb2 hg1 hT2 HROW HBL HTT
      go_wp2
      go_roundw
      case rel=>exact⟨j+1,by omega,by go_num,HP,by rw[HST.out];exact HR1⟩
      case measure=>simp[intOf];omega
     ·obtain rfl:j=L.length:=by omega
      rw[List.take_of_length_le (Nat.le_refl _)]at hrow
      go_wp2_with fail
      go_ret
      exact⟨u7,rfl,by rw[HNMM.out,HLL.out];exact Kd.R_mono hrow.out (fun _ _=>trivial),hpl.out.2⟩
end Go.Proofs.YtfflenbfapgilaaGreat
