/- Texts laid as one by shake.py, cut to what the claim needs: My, TabM, CrcS. (Names that begin with W and the print's groups (G..x, G..z): laid by the kit's print, cut.) -/
import Derived.Test.YtfflenbfapgilaaGreatProg
import Derived.Test.YtfflenbfapgilaaGreatZCc
import Derived.WalkKit
import Derived.WalkSpells
import Derived.WalkLawsBesides
import Derived.Lib.Hide
import Derived.Lib.SlBytesConst
import Derived.Laws.BitsAllLaws
import Derived.Test.YtfflenbfapgilaaGreatZCz
set_option linter.unusedVariables false
set_option linter.unusedSimpArgs false
set_option maxHeartbeats 8000000
set_option maxRecDepth 100000
namespace Go.Proofs.YtfflenbfapgilaaGreat
open Go.RowKit Go.Proofs.YtfflenbfapgilaaGreatW.PrintWords
def Halt (p:Prop):Prop:=p
theorem Halt.mk {p:Prop} (h:Halt p):p:=h
theorem Halt.of {p:Prop} (h:p):Halt p:=h
def isByte (x:Int):Bool:=decide (0≤x∧x<256)
def nats (l:List Int):List Nat:=l.map Int.toNat
theorem w64 (x:Int) (h1: -9223372036854775808≤x) (h2:x≤9223372036854775807):wrap64 x=x:=by unfold wrap64;omega
theorem C_block (k:IntKind) (W:World) (b:Nat) (e:TypeId) (fr:Nat×Nat) (xs:List Int) (h:W.heap[b]? =some (.cells (xs.map (Value.int k)).toArray e fr)) (hx:xs.length≤9223372036854775807):
  Kd.C (Kd.int k) W (some ⟨b,0,none⟩) xs.length xs:=by
 refine⟨rfl,hx,fun _=>⟨_,rfl,fun j p hj=>⟨[.int k p],rfl,rfl,fun i u hu=> ?_⟩⟩⟩
 match i with
 | 0=>
  have e0:(⟨b,0,none⟩:Addr).add (j*(Kd.int k).sz+0)=⟨b,j,none⟩:=by simp[Addr.add,Kd.int,Kd.scalar];omega
  rw[e0]
  simp only[World.cell?,h,Option.isSome_none,Bool.false_eq_true,if_false]
  simp only[List.getElem?_toArray,List.getElem?_map,hj,Option.map_some]
  simpa using hu
 |i+1=>simp at hu
theorem reps_nums (k:IntKind) (W:World) (base:Nat) (okp:Nat→Prop) (xs:List Int):Reps ((Kd.int k).M W base okp) 1 xs (xs.map (Value.int k)):=by
 refine⟨by simp,fun j p hj=> ?_⟩
 show _=[Value.int k p]
 rw[Nat.mul_one]
 have hj':=(List.getElem?_eq_some_iff.1 hj)
 obtain⟨h1,h2⟩:=hj'
 apply List.ext_getElem?
 intro i
 rw[List.getElem?_take,List.getElem?_drop,List.getElem?_map]
 match i with
 | 0=>simp[hj]
 |i+1=>simp
theorem R_block (k:IntKind) (W:World) (base b:Nat) (e:TypeId) (xs:List Int) (ok:Nat→Prop) (h:W.heap[b]? =some (.cells (xs.map (Value.int k)).toArray e (0,0))) (hb:base≤b) (hx:xs.length≤maxLen) (hok:ok b):
  Kd.R (Kd.int k) e W base ok (.slice (some ⟨b,0,none⟩) xs.length xs.length) xs:=by
 refine⟨fun k hk=> ?_,xs.map (Value.int k),⟨by simp[Kd.int,Kd.scalar],.inr ⟨b,xs.length,_,rfl,hb,h,Nat.le_refl _,hx,by simp[Kd.int,Kd.scalar], ?_⟩⟩,reps_nums ..⟩
 ·simp only[Value.ownBlock,Option.some.injEq]at hk;exact hk ▸ hok
 ·show List.take (xs.length*1) _=_
  rw[Nat.mul_one];exact List.take_of_length_le (by simp)
theorem heap_new (w:World) (o:Obj):(w.alloc o).heap[w.heap.size]? =some o:=by
 show(w.heap.push o)[w.heap.size]? =_
 simp
theorem heap_new_old (w:World) (o:Obj) (k:Nat) (h:k<w.heap.size):(w.alloc o).heap[k]? =w.heap[k]? :=Below.heap_alloc w o k h
theorem heap_size_alloc (w:World) (o:Obj):(w.alloc o).heap.size=w.heap.size+1:=by
 show(w.heap.push o).size=_
 simp
theorem unfrozen_of {W:World} {g:Nat} {cur:Array Value} {e:TypeId} (h:W.heap[g]? =some (.cells cur e (0,0))) (i:Nat):W.frozen? ⟨g,i,none⟩=false:=by
 simp[World.frozen?,h]
theorem info_u8:(Tryz.prog.info? 5).map (fun i=>(i.zero,i.size,i.bytes))=some (some (.int .u8 0),1,1):=by kernel_rfl
theorem bytes_of_wf {l:List Int} (h: ∀x∈l,(Lit.int .u8 x).wf=true): ∀x∈l,0≤x∧x<256:=by
 intro x hx
 have:=h x hx
 simp[Lit.wf,IntKind.min,IntKind.max,IntKind.signed,IntKind.bits]at this;omega
end Go.Proofs.YtfflenbfapgilaaGreat
namespace Go.Proofs.YtfflenbfapgilaaGreat
def sEq (s t:ByteArray):Bool:=s.data.toList==t.data.toList
theorem sEq_iff {s t:ByteArray}:sEq s t=true↔s=t:=by
 unfold sEq
 rw[beq_iff_eq]
 exact⟨fun h=>ByteArray.ext (Array.ext' h),fun h=>by rw[h]⟩
theorem sEq_refl (s:ByteArray):sEq s s=true:=sEq_iff.2 rfl
theorem sEq_ne {s t:ByteArray}:sEq s t=false↔s≠t:=by
 cases h:sEq s t
 ·simp;intro e;rw[sEq_iff.2 e]at h;cases h
 ·simp;exact sEq_iff.1 h
def isIn (l:List ByteArray) (s:ByteArray):Bool:=l.any (sEq s)
def posOf (l:List ByteArray) (s:ByteArray):Nat:=l.findIdx (sEq s)
theorem isIn_iff {l:List ByteArray} {s:ByteArray}:isIn l s=true↔s∈l:=by
 unfold isIn
 rw[List.any_eq_true]
 exact⟨fun⟨x,hx,h⟩=>by rw[sEq_iff.1 h];exact hx,fun h=>⟨s,h,sEq_refl s⟩⟩
theorem isIn_ne {l:List ByteArray} {s:ByteArray}:isIn l s=false↔s ∉ l:=by
 rw[←isIn_iff];simp
theorem posOf_le (l:List ByteArray) (s:ByteArray):posOf l s≤l.length:=List.findIdx_le_length
theorem posOf_lt {l:List ByteArray} {s:ByteArray} (h:s∈l):posOf l s<l.length:=List.findIdx_lt_length_of_exists ⟨s,h,sEq_refl s⟩
theorem posOf_get {l:List ByteArray} {s:ByteArray} (h:s∈l):l[posOf l s]? =some s:=by
 have hlt:=posOf_lt h
 rw[List.getElem?_eq_getElem hlt]
 have:=List.findIdx_getElem (w:=hlt)
 exact congrArg some (sEq_iff.1 this).symm
theorem posOf_none {l:List ByteArray} {s:ByteArray} (h:s ∉ l):posOf l s=l.length:=by
 unfold posOf
 rw[List.findIdx_eq_length]
 intro x hx
 exact sEq_ne.2 (fun e=>h (by rw[e];exact hx))
theorem posOf_app {l r:List ByteArray} {s:ByteArray} (h:s∈l):posOf (l++r) s=posOf l s:=by
 unfold posOf
 rw[List.findIdx_append,if_pos]
 exact posOf_lt h
theorem posOf_app_not {l r:List ByteArray} {s:ByteArray} (h:s ∉ l):posOf (l++r) s=l.length+posOf r s:=by
 unfold posOf
 rw[List.findIdx_append,if_neg]
 ·omega
 ·have:=posOf_none h
  unfold posOf at this
  omega
theorem posOf_at {l:List ByteArray} (hn:l.Nodup) (i:Nat) (h:i<l.length):posOf l l[i]=i:=by
 have hm:=List.getElem_mem h
 have h1:=posOf_get hm
 have hlt:=posOf_lt hm
 rw[List.getElem?_eq_getElem hlt]at h1
 have h2:=Option.some.inj h1
 exact(List.getElem_inj hn).1 h2
def tput (l:List ByteArray) (s:ByteArray):List ByteArray:=if isIn l s then l else l++[s]
theorem tput_in {l:List ByteArray} {s:ByteArray} (h:s∈l):tput l s=l:=by unfold tput;rw[isIn_iff.2 h];rfl
theorem tput_out {l:List ByteArray} {s:ByteArray} (h:s ∉ l):tput l s=l++[s]:=by unfold tput;rw[isIn_ne.2 h];rfl
theorem mem_tput {l:List ByteArray} {s u:ByteArray}:u∈tput l s↔u∈l∨u=s:=by
 by_cases h:s∈l
 ·rw[tput_in h]
  exact⟨.inl,fun h'=>h'.elim id (fun e=>by rw[e];exact h)⟩
 ·rw[tput_out h,List.mem_append];simp
theorem tput_nodup {l:List ByteArray} (s:ByteArray) (h:l.Nodup):(tput l s).Nodup:=by
 by_cases hs:s∈l
 ·rw[tput_in hs];exact h
 ·rw[tput_out hs,List.nodup_append]
  refine⟨h,by simp, ?_⟩
  intro a ha b hb
  simp at hb
  subst hb
  intro e;subst e;exact hs ha
theorem tput_len_le (l:List ByteArray) (s:ByteArray):(tput l s).length≤l.length+1:=by
 unfold tput;split
 ·omega
 ·simp
theorem tput_len_ge (l:List ByteArray) (s:ByteArray):l.length≤(tput l s).length:=by
 unfold tput;split
 ·omega
 ·simp
def tnewOn (l ts:List ByteArray):List ByteArray:=ts.foldl tput l
def tnew (ts:List ByteArray):List ByteArray:=tnewOn [] ts
theorem tnewOn_snoc (l ts:List ByteArray) (s:ByteArray):tnewOn l (ts++[s])=tput (tnewOn l ts) s:=by
 unfold tnewOn;rw[List.foldl_append];rfl
theorem tnew_snoc (ts:List ByteArray) (s:ByteArray):tnew (ts++[s])=tput (tnew ts) s:=tnewOn_snoc _ _ _
theorem tnew_take (ts:List ByteArray) (i:Nat) (h:i<ts.length):tnew (ts.take (i+1))=tput (tnew (ts.take i)) ts[i]:=by
 rw[List.take_succ_eq_append_getElem h,tnew_snoc]
theorem tnewOn_nodup (l ts:List ByteArray) (h:l.Nodup):(tnewOn l ts).Nodup:=by
 unfold tnewOn
 induction ts generalizing l with
 |nil=>exact h
 |cons s ts ih=>exact ih _ (tput_nodup s h)
theorem mem_tnewOn (l ts:List ByteArray) (u:ByteArray):u∈tnewOn l ts↔u∈l∨u∈ts:=by
 unfold tnewOn
 induction ts generalizing l with
 |nil=>simp
 | cons s ts ih=>
  rw[List.foldl_cons,ih,mem_tput,List.mem_cons]
  constructor
  ·rintro ((h|h)|h)
   ·exact .inl h
   ·exact .inr (.inl h)
   ·exact .inr (.inr h)
  ·rintro (h|h|h)
   ·exact .inl (.inl h)
   ·exact .inl (.inr h)
   ·exact .inr h
theorem mem_tnew (ts:List ByteArray) (u:ByteArray):u∈tnew ts↔u∈ts:=by
 unfold tnew;rw[mem_tnewOn];simp
theorem tnewOn_len (l ts:List ByteArray):(tnewOn l ts).length≤l.length+ts.length:=by
 unfold tnewOn
 induction ts generalizing l with
 |nil=>simp
 |cons s ts ih=>
  have h1:=ih (tput l s)
  have h2:=tput_len_le l s
  rw[List.foldl_cons,List.length_cons];omega
theorem tnew_len (ts:List ByteArray):(tnew ts).length≤ts.length:=by have:=tnewOn_len [] ts;simpa [tnew]using this
theorem tnewOn_self (l:List ByteArray): ∀(ts:List ByteArray),(l++ts).Nodup→tnewOn l ts=l++ts:=by
 intro ts
 induction ts generalizing l with
 |nil=>intro _;simp[tnewOn]
 | cons s ts ih=>
  intro h
  have hs:s ∉ l:=by
   rw[List.nodup_append]at h
   exact fun hm=>h.2.2 s hm s (by simp) rfl
  show tnewOn (tput l s) ts=_
  rw[tput_out hs,ih (l++[s]) (by simpa using h)]
  simp
theorem tnew_self {l:List ByteArray} (h:l.Nodup):tnew l=l:=by
 have:=tnewOn_self [] l (by simpa using h)
 simpa [tnew]using this
theorem posOf_take {l:List ByteArray} (n:Nat) {s:ByteArray} (h:s∈l.take n):posOf (l.take n) s=posOf l s:=by
 have h2:=posOf_app (r:=l.drop n) h
 rw[List.take_append_drop]at h2
 exact h2.symm
end Go.Proofs.YtfflenbfapgilaaGreat
namespace Go.Proofs.YtfflenbfapgilaaGreat
open Go.RowKit Go.Proofs.YtfflenbfapgilaaGreatW.PrintWords
def crc_Sum.f (l0:List (List Int)):Option Int:=if l0.all (fun l=>l.all isByte)=true then some ((Crc.sum (nats l0.flatten):Nat):Int)else none
theorem crc_Sum.calls (A0:Option Addr) (c0:Nat) (l0:List (List Int)) (r:Int) (w:World) (hr0:Kd.C (Kd.slice 5 (Kd.int .u8)) w A0 l0.length l0) (hc0:l0.length≤c0) (h:crc_Sum.f l0=some r):
  Calls Tryz.prog 42 #[.slice A0 l0.length c0] w fun e w'=>e= .returned (.int .u32 r)∧Below w.heap.size w w':=by
 unfold crc_Sum.f at h
 split at h
 case isFalse=>cases h
 case isTrue hb=>
 injection h with h
 have hR:=hQ h
 have hC:=hQ hr0
 have hB:=hQ hb
 have hmx:=hr0.2.1
 clear h hr0 hb
 go_enter Tryz.func42,Tryz.ntmps42
 go_wp2_with (go_at_call 73;refine(halves_any _).mono ?_;rintro e w1 ⟨rfl,hb1⟩)
 rw[show #[.int .u32 (Crc.stn 4 0:Nat),.int .u32 (Crc.stn 4 1:Nat),.int .u32 (Crc.stn 4 2:Nat),.int .u32 (Crc.stn 4 3:Nat),.int .u32 (Crc.stn 4 4:Nat),.int .u32 (Crc.stn 4 5:Nat),.int .u32 (Crc.stn 4 6:Nat),.int .u32 (Crc.stn 4 7:Nat),.int .u32 (Crc.stn 4 8:Nat),.int .u32 (Crc.stn 4 9:Nat),.int .u32 (Crc.stn 4 10:Nat),.int .u32 (Crc.stn 4 11:Nat),.int .u32 (Crc.stn 4 12:Nat),.int .u32 (Crc.stn 4 13:Nat),.int .u32 (Crc.stn 4 14:Nat),.int .u32 (Crc.stn 4 15:Nat)]=(tabL 16).toArray from rfl]
 generalize hW:w1.alloc (Obj.cells (tabL 16).toArray 141)=W
 have hbW:Below w.heap.size w W:=by rw[←hW];exact hb1.alloc hb1.size _
 have hT: ∀i:Nat,i<16→W.cell? ⟨w1.heap.size,i,none⟩=some (.int .u32 (Crc.stn 4 i:Nat)):=by
  intro i hi
  have:=tabL_get 16 i hi
  rw[if_pos hi]at this
  rw[←hW];simp[this]
 clear hW hb1
 go_loop [4,12] (fun v4 v12=>∃i:Nat,i≤l0.length∧v12= .int .i64 i∧v4= .int .u32 (Crc.run Crc.top (nats (l0.take i).flatten):Nat)) (fun _ v=>l0.length-(intOf v).toNat)
 case atStart=>exact⟨0,by omega,rfl,rfl⟩
 case round=>
  obtain⟨i,hi,rfl,rfl⟩:=hrel
  by_cases hlt:i<l0.length
  ·obtain ⟨ad,cs,rfl,hcs,⟨Ap,cp,rfl,hlp,hrp⟩,hcell⟩:=Kd.C_get hC.out [] (i:Int) (by omega) (by omega)
   have hcell:=pw_cell_below hbW (hcell 0 _ rfl)
   have hp1:=hrp.2.1
   rw[Int.toNat_natCast]at*
   generalize hp:l0.getD i []=p at*
   have HP:=hQ hp
   clear hp hcs
   simp only[Kd.slice,Nat.mul_one,Nat.add_zero]at hcell
   have HrP:=hQ hrp
   clear hrp
   have hbp: ∀x∈p,0≤x∧x<256:=by
    have hm:p∈l0:=by
     rw[←HP.out,List.getD_eq_getElem?_getD,List.getElem?_eq_getElem hlt];simp
    intro x hx
    have:=List.all_eq_true.1 (List.all_eq_true.1 hB.out p hm) x hx
    simpa [isByte]using this
   have hnp: ∀x∈nats p,x<256:=by
    intro x hx
    obtain⟨y,hy,rfl⟩:=List.mem_map.1 hx
    have:=hbp y hy;omega
   have hnt:Crc.run Crc.top (nats (l0.take i).flatten)<4294967296:=by
    apply Crc.run_lt _ _ (by unfold Crc.top;omega)
    intro x hx
    obtain⟨y,hy,rfl⟩:=List.mem_map.1 hx
    obtain⟨q,hq,hy⟩:=List.mem_flatten.1 hy
    have:=List.all_eq_true.1 (List.all_eq_true.1 hB.out q (List.mem_of_mem_take hq)) y hy
    simp[isByte]at this;omega
   have hN:Hid (nats (l0.take (i+1)).flatten=nats (l0.take i).flatten++nats p):=by
    rw[List.take_succ_eq_append_getElem hlt,List.flatten_append,←HP.out,List.getD_eq_getElem?_getD,List.getElem?_eq_getElem hlt]
    simp[nats,Hid]
   generalize hs:Crc.run Crc.top (nats (l0.take i).flatten)=s at*
   have HS:=hQ hs
   have HBP:=hQ hbp
   have HNP:=hQ hnp
   have HT:=hQ hT
   clear hs hbp hnp hT
   go_wp2
   go_loop [4,18] (fun v4 v18=>∃j:Nat,j≤p.length∧v18= .int .i64 j∧v4= .int .u32 (Crc.run s (nats (p.take j)):Nat)) (fun _ v=>p.length-(intOf v).toNat)
   case atStart=>exact⟨0,by omega,rfl,rfl⟩
   case round=>
    obtain⟨j,hj,rfl,rfl⟩:=hrel
    by_cases hlj:j<p.length
    ·obtain ⟨ap,rfl,hcx⟩:=Kd.at_int HrP.out (j:Int) (by omega) (by omega)
     have hcx:=pw_cell_below hbW hcx
     have hx:=HBP.out (rd p j) (by unfold rd;rw[Int.toNat_natCast,List.getD_eq_getElem?_getD,List.getElem?_eq_getElem hlj];simp)
     have hc:Crc.run s (nats (p.take j))<4294967296:=Crc.run_lt _ _ hnt (fun x hx=>HNP.out x (by
      obtain⟨y,hy,rfl⟩:=List.mem_map.1 hx
      exact List.mem_map.2 ⟨y,List.mem_of_mem_take hy,rfl⟩))
     have hnx:Hid (Crc.run s (nats (p.take (j+1)))=Crc.byte (Crc.run s (nats (p.take j))) (rd p j).toNat):=by
      rw[List.take_succ_eq_append_getElem hlj]
      have:rd p j=p[j]:=by unfold rd;rw[Int.toNat_natCast,List.getD_eq_getElem?_getD,List.getElem?_eq_getElem hlj];rfl
      rw[this]
      show Crc.run s (nats (p.take j++[p[j]]))=_
      unfold nats
      rw[List.map_append,Crc.run_append];rfl
     generalize hcc:Crc.run s (nats (p.take j))=c at*
     clear hcc
     obtain⟨x,hxe⟩:=Int.eq_ofNat_of_zero_le hx.1
     rw[hxe]at hcx hx hnx
     rw[Int.toNat_natCast]at hcx hnx
     clear hxe
     obtain⟨n1,hn1,HN1⟩: ∃n1:Nat,n1<16∧Hid ((c^^^x)%16=n1):=⟨_,by omega,rfl⟩
     obtain⟨c1,hc1,HC1⟩: ∃c1:Nat,c1<4294967296∧Hid ((c/16)^^^Crc.stn 4 n1=c1):=⟨_,Nat.xor_lt_two_pow (n:=32) (by omega) (Crc.stn_lt _ _ (by omega)),rfl⟩
     obtain⟨n2,hn2,HN2⟩: ∃n2:Nat,n2<16∧Hid ((c1^^^(x/16))%16=n2):=⟨_,by omega,rfl⟩
     obtain⟨c2,hc2,HC2⟩: ∃c2:Nat,c2<4294967296∧Hid ((c1/16)^^^Crc.stn 4 n2=c2):=⟨_,Nat.xor_lt_two_pow (n:=32) (by omega) (Crc.stn_lt _ _ (by omega)),rfl⟩
     have e1:Go.bits .and .u32 (Go.bits .xor .u32 (c:Int) (x:Int)) 15=(n1:Int):=by
      rw[u32_xor_nat c x hc (by omega),show(15:Int)=((15:Nat):Int) from rfl,u32_and_nat _ 15 (Nat.xor_lt_two_pow (n:=32) hc (by omega)) (by decide),nat_mask4,HN1.out]
     have e2:Go.bits .xor .u32 ((c:Int)/16) ((Crc.stn 4 n1:Nat):Int)=(c1:Int):=by
      rw[show((c:Int)/16)=((c/16:Nat):Int)by omega,u32_xor_nat _ _ (by omega) (Crc.stn_lt _ _ (by omega)),HC1.out]
     have e3:Go.bits .and .u32 (Go.bits .xor .u32 (c1:Int) ((x:Int)/16)) 15=(n2:Int):=by
      rw[show((x:Int)/16)=((x/16:Nat):Int)by omega,u32_xor_nat c1 (x/16) hc1 (by omega),show(15:Int)=((15:Nat):Int) from rfl,u32_and_nat _ 15 (Nat.xor_lt_two_pow (n:=32) hc1 (by omega)) (by decide),nat_mask4,HN2.out]
     have e4:Go.bits .xor .u32 ((c1:Int)/16) ((Crc.stn 4 n2:Nat):Int)=(c2:Int):=by
      rw[show((c1:Int)/16)=((c1/16:Nat):Int)by omega,u32_xor_nat _ _ (by omega) (Crc.stn_lt _ _ (by omega)),HC2.out]
     have HE:Hid (c2=Crc.byte c x):=by
      have:=Crc.byte_halves c x (by omega)
      simp only[HN1.out,HC1.out,HN2.out,HC2.out]at this
      exact this
     have t1:=HT.out n1 hn1
     have t2:=HT.out n2 hn2
     go_wp2
     go_round
     case rel=>exact⟨j+1,by omega,by go_num,by rw[hnx.out,HE.out]⟩
     case measure=>simp[intOf];omega
    ·obtain rfl:j=p.length:=by omega
     go_wp2
     go_round
     case rel=>exact⟨i+1,by omega,by go_num,by rw[hN.out,Crc.run_append,HS.out,List.take_length]⟩
     case measure=>simp[intOf];omega
  ·obtain rfl:i=l0.length:=by omega
   have hnt:Crc.run Crc.top (nats l0.flatten)<4294967296:=by
    apply Crc.run_lt _ _ (by unfold Crc.top;omega)
    intro x hx
    obtain⟨y,hy,rfl⟩:=List.mem_map.1 hx
    obtain⟨q,hq,hy⟩:=List.mem_flatten.1 hy
    have:=List.all_eq_true.1 (List.all_eq_true.1 hB.out q hq) y hy
    simp[isByte]at this;omega
   rw[List.take_length]
   have e5:Go.bits .xor .u32 IntKind.u32.max ((Crc.run Crc.top (nats l0.flatten):Nat):Int)=((Crc.sum (nats l0.flatten):Nat):Int):=by
    rw[show IntKind.u32.max=((4294967295:Nat):Int) from rfl,u32_xor_nat _ _ (by decide) hnt];rfl
   go_wp2
   go_ret
   exact⟨by rw[←hR.out];rfl,hbW⟩
end Go.Proofs.YtfflenbfapgilaaGreat
