/- Texts laid as one by shake.py, cut to what the claim needs: FrHa. (Names that begin with W and the print's groups (G..x, G..z): laid by the kit's print, cut.) -/
import Derived.Test.YtfflenbfapgilaaGreatZCD
import Derived.Test.YtfflenbfapgilaaGreatZCe
import Derived.Test.YtfflenbfapgilaaGreatZCp
set_option linter.unusedVariables false
set_option linter.unusedSimpArgs false
set_option maxHeartbeats 8000000
set_option maxRecDepth 100000
namespace Go.Proofs.YtfflenbfapgilaaGreat
open Go.RowKit Go.Proofs.YtfflenbfapgilaaGreatW.PrintWords Go.Proofs.YtfflenbfapgilaaGreat.GVB
theorem wholeH_iff (l:List Int) (hb: ∀x∈l,0≤x∧x<256) (m:Nat) (hm:m+4≤l.length):wholeB l (m:Int)=true↔crcB (Crc.sum (nats (l.take m)))=(l.take (m+4)).drop m:=by
 have hl4:(l.take (m+4)).drop m=[rd l m,rd l (m+1),rd l (m+2),rd l (m+3)]:=by
  apply List.ext_getElem?
  intro i
  have hr: ∀j:Nat,j<l.length→l[j]? =some (rd l (j:Int)):=fun j hj=>by simp[rd,hj]
  match i with
  | 0=>rw[List.getElem?_drop,List.getElem?_take_of_lt (by omega),hr _ (by omega)];rfl
  | 1=>rw[List.getElem?_drop,List.getElem?_take_of_lt (by omega),hr _ (by omega)];rfl
  | 2=>rw[List.getElem?_drop,List.getElem?_take_of_lt (by omega),hr _ (by omega)];rfl
  | 3=>rw[List.getElem?_drop,List.getElem?_take_of_lt (by omega),hr _ (by omega)];rfl
  |i+4=>rw[List.getElem?_drop,List.getElem?_take,if_neg (by omega)];simp
 have hbr: ∀x∈(l.take (m+4)).drop m,0≤x∧x<256:=fun x hx=>hb x (List.mem_of_mem_take (List.mem_of_mem_drop hx))
 have hlt:=Crc.sum_lt (nats (l.take m)) (by intro x hx;simp only[nats,List.mem_map]at hx;obtain⟨y,hy,rfl⟩:=hx;have:=hb y (List.mem_of_mem_take hy);omega)
 rw[hl4]at hbr ⊢
 unfold wholeB crcB at4
 rw[Int.toNat_natCast]
 have hs0:(0:Int)≤((Crc.sum (nats (l.take m)):Nat):Int)∧((Crc.sum (nats (l.take m)):Nat):Int)<4294967296:=by omega
 generalize ((Crc.sum (nats (l.take m)):Nat):Int)=s at hs0 ⊢
 simp only[List.mem_cons,List.not_mem_nil,or_false,forall_eq_or_imp,forall_eq]at hbr
 simp only[List.cons.injEq,and_true,Bool.and_eq_true,decide_eq_true_eq]
 omega
def RfPost (w:World) (r:ByteArray×Int×Int) (e:Ending) (w':World):Prop:=e= .returned (.tuple #[.string r.1,.int .i64 r.2.1,.int .i64 r.2.2])∧Below w.heap.size w w'
theorem sum_eq (l:List Int) (hb: ∀x∈l,0≤x∧x<256) (lo q:Nat) (hlq:lo≤q) (hq:q+4≤l.length):((strOfNums (crcB (Crc.sum (nats ((l.take q).drop lo))))).toList==(strOfNums ((l.take (q+4)).drop q)).toList)=wholeB (l.drop lo) ((q-lo:Nat):Int):=by
 have hbd: ∀x∈l.drop lo,0≤x∧x<256:=fun x hx=>hb x (List.mem_of_mem_drop hx)
 have hiff:=wholeH_iff (l.drop lo) hbd (q-lo) (by rw[List.length_drop];omega)
 have e1:(l.drop lo).take (q-lo)=(l.take q).drop lo:=List.drop_take.symm
 have e2:((l.drop lo).take (q-lo+4)).drop (q-lo)=(l.take (q+4)).drop q:=by
  rw[show q-lo+4=q+4-lo by omega,←List.drop_take,List.drop_drop,show lo+(q-lo)=q by omega]
 rw[e1,e2]at hiff
 have hbt: ∀x∈(l.take (q+4)).drop q,0≤x∧x<256:=fun x hx=>hb x (List.mem_of_mem_take (List.mem_of_mem_drop hx))
 have hbc: ∀x∈crcB (Crc.sum (nats ((l.take q).drop lo))),0≤x∧x<256:=by intro x hx;unfold crcB at hx;simp at hx;omega
 rw[Bool.eq_iff_iff,beq_iff_eq,tl_nums hbc hbt,hiff]
theorem rfgetH_any (l:List Int) (hb: ∀x∈l,0≤x∧x<256) (hl:l.length≤4000) (at0:Int) (ha:0≤at0∧at0≤l.length) (w:World):Calls Tryz.prog 27 #[.string (strOfNums l),.int .i64 at0] w (RfPost w (fgetS l at0)):=by
 have hs:(strOfNums l).size=l.length:=strOfNums_size l
 have d1:decide (at0<0)=false:=decide_eq_false (by omega)
 have d2:decide ((l.length:Int)<at0)=false:=decide_eq_false (by omega)
 by_cases h0:at0=(l.length:Int)
 ·have e:fgetS l at0=(⟨#[]⟩,0,6):=by unfold fgetS;rw[if_pos h0]
  rw[e]
  subst h0
  generalize strOfNums l=s at hs ⊢
  clear ha d1 d2 hb
  go_enter Tryz.func27,Tryz.ntmps27
  go_wp2_with fail
  go_ret3
  exact⟨rfl,Below.refl _ _⟩
 ·have d3:(at0==(l.length:Int))=false:=beq_false_of_ne h0
  have HG:=hQ (bref_any l 2048 w at0 hb (by omega) (by omega))
  rcases bgetS_cases l hb at0 2048 with⟨e,he,h⟩|⟨lo,p,q,hlo,hgs,h3,h4,h5,h6⟩
  ·have ef:fgetS l at0=(⟨#[]⟩,0,e):=by unfold fgetS;rw[if_neg h0,he,if_pos (by show e≠0;omega)]
   rw[ef]
   rw[he]at HG
   have hne:(e !=0)=true:=by simp;omega
   generalize strOfNums l=s at hs HG ⊢
   clear ha hb he h ef h0
   go_enter Tryz.func27,Tryz.ntmps27
   go_wp2_with fail
   refine HG.out.mono ?_
   rintro e2 w1 ⟨rfl,hb1⟩
   have HB1:=hQ hb1
   clear hb1
   go_wp2_with fail
   go_ret3
   exact⟨rfl,HB1.out⟩
  ·clear h6
   rw[hgs]at HG
   have hsz:(strOfNums ((l.take q).drop p)).size=q-p:=by rw[strOfNums_size,List.length_drop,List.length_take];omega
   have hw4:IntKind.i64.wrap ((q:Int)+4)=(q:Int)+4:=by rw[IntWalk.i64_in _ (by omega)]
   by_cases c1:(strOfNums ((l.take q).drop p)).size=0
   ·have ef:fgetS l at0=(⟨#[]⟩,0,3):=by unfold fgetS;rw[if_neg h0,hgs,if_neg (by simp),if_pos c1]
    rw[ef]
    have hz:strOfNums ((l.take q).drop p)=⟨#[]⟩:=ByteArray.ext (Array.eq_empty_of_size_eq_zero c1)
    rw[hz]at HG
    generalize strOfNums l=s at hs HG ⊢
    clear ha hb hgs ef h0 hsz c1 hz hlo hw4
    go_enter Tryz.func27,Tryz.ntmps27
    go_wp2_with fail
    refine HG.out.mono ?_
    rintro e2 w1 ⟨rfl,hb1⟩
    have HB1:=hQ hb1
    clear hb1
    go_wp2_with fail
    go_ret3
    exact⟨rfl,HB1.out⟩
   ·have hne1:(strOfNums ((l.take q).drop p)).toList.isEmpty=false:=toList_empty c1
    by_cases c2:(l.length:Int)-(q:Int)<4
    ·have ef:fgetS l at0=(⟨#[]⟩,0,2):=by unfold fgetS;rw[if_neg h0,hgs,if_neg (by simp),if_neg c1,if_pos c2]
     rw[ef]
     have d4:decide ((l.length:Int)<(q:Int)+4)=true:=decide_eq_true (by omega)
     generalize strOfNums ((l.take q).drop p)=S at HG hne1
     generalize strOfNums l=s at hs HG ⊢
     clear ha hb hgs ef h0 hsz c1 c2 hlo
     go_enter Tryz.func27,Tryz.ntmps27
     go_wp2_with fail
     refine HG.out.mono ?_
     rintro e2 w1 ⟨rfl,hb1⟩
     have HB1:=hQ hb1
     clear hb1
     go_wp2_with fail
     go_ret3
     exact⟨rfl,HB1.out⟩
    ·have ef:fgetS l at0=if wholeB (l.drop lo) ((q-lo:Nat):Int)=false then(⟨#[]⟩,0,4)else(strOfNums ((l.take q).drop p),(q:Int)+4,0):=by
      unfold fgetS
      rw[if_neg h0,hgs,if_neg (by simp),if_neg c1,if_neg c2]
      dsimp only
      rw[hlo,Int.toNat_natCast,show(q:Int)-(lo:Int)=((q-lo:Nat):Int)by omega]
     rw[ef]
     have hbm: ∀x∈(l.take q).drop lo,0≤x∧x<256:=fun x hx=>hb x (List.mem_of_mem_take (List.mem_of_mem_drop hx))
     have hlm:((l.take q).drop lo).length=q-lo:=by rw[List.length_drop,List.length_take];omega
     have hlt:=Crc.sum_lt (nats ((l.take q).drop lo)) (by intro x hx;simp only[nats,List.mem_map]at hx;obtain⟨y,hy,rfl⟩:=hx;have:=hbm y hy;omega)
     have HSUM:=hQ (fun(W:World)=>rsum_any ((l.take q).drop lo) hbm (by omega) W)
     have HBYT:=hQ (fun(W:World)=>tephraref03_Bytes.calls _ _ W (rbytes_is (Crc.sum (nats ((l.take q).drop lo))) hlt))
     have heq:=sum_eq l hb lo q (by omega) (by omega)
     have hx1:=str_mid l lo q
     have hx2:=str_mid l q (q+4)
     have d4:decide ((l.length:Int)<(q:Int)+4)=false:=decide_eq_false (by omega)
     obtain⟨bw,hbw⟩:=eX (wholeB (l.drop lo) ((q-lo:Nat):Int))
     rw[hbw]at heq ⊢
     obtain⟨q4,hq4⟩: ∃x:Nat,q+4=x:=⟨_,rfl⟩
     have hq4i:(q:Int)+4=(q4:Int):=by omega
     rw[hq4]at hx2 heq
     rw[hq4i]at hw4 d4 ⊢
     have haq:at0≤(q:Int):=by omega
     have d5:decide ((l.length:Int)<(q:Int)+4)=false:=decide_eq_false (by omega)
     have hqq4:q≤q4:=by omega
     have hq4l:q4≤l.length:=by omega
     generalize strOfNums ((l.take q).drop p)=S at HG hne1 ⊢
     generalize strOfNums ((l.take q).drop lo)=sm at HSUM hx1
     rw[show lo=at0.toNat by omega]at hx1
     generalize crcB (Crc.sum (nats ((l.take q).drop lo)))=cb at HBYT heq
     generalize ((Crc.sum (nats ((l.take q).drop lo)):Nat):Int)=sv at HSUM HBYT
     generalize strOfNums ((l.take q4).drop q)=s4 at hx2 heq
     generalize strOfNums cb=cs at HBYT heq
     generalize strOfNums l=s at hs HG hx1 hx2 ⊢
     have HEQ:=hQ heq
     have HX:=hQ (And.intro hx1 hx2)
     have HQ4:=hQ hq4i
     have ha0:0≤at0:=ha.1
     have haq:at0≤(q:Int):=by omega
     clear ha hb hgs ef h0 hsz c1 c2 hbm hlm hlt hbw heq hx1 hx2 hq4 hq4i hlo
     obtain⟨R,hR⟩:=eX ((if bw=false then((⟨#[]⟩:ByteArray),(0:Int),(4:Int))else(S,(q4:Int),0)))
     rw[hR]
     have HRR:=hQ hR
     clear hR
     go_enter Tryz.func27,Tryz.ntmps27
     go_wp2_with fail
     refine HG.out.mono ?_
     rintro e2 w1 ⟨rfl,hb1⟩
     have HB1:=hQ hb1
     clear hb1
     go_wp2_with fail
     refine region_calm (n:=12) (byList [isV (.string s),isV (.int .i64 at0),isV (.int .i64 (q:Int)),isV (.string sm),isV (.int .u32 sv),isV (.string cs),isV (.string s),isV (.int .i64 (q:Int)),isV (.int .i64 (q:Int)),isV (.int .i64 (q4:Int)),isV (.string s4),isV (.bool (!bw))]) (by kernel_rfl) rfl (byList_lasts ?_) (by kernel_rfl) (by kernel_rfl) (by kernel_rfl) (show AllLt 12 _ from ?_) ?_
     ·intro p hp
      simp only[List.mem_cons,List.not_mem_nil,or_false]at hp
      rcases hp with rfl|rfl|rfl|rfl|rfl|rfl|rfl|rfl|rfl|rfl|rfl|rfl<;>first|exact isV_lasts|exact isC_lasts
     ·refine allLt_succ (allLt_succ (allLt_succ (allLt_succ (allLt_succ (allLt_succ (allLt_succ (allLt_succ (allLt_succ (allLt_succ (allLt_succ (allLt_succ (allLt_zero _) ?_) ?_) ?_) ?_) ?_) ?_) ?_) ?_) ?_) ?_) ?_) ?_
      ·refine StepOk.run (get_lit rfl) rfl fun a W hS hB hd=> ?_
       have e0:=hS.get (t:=0) rfl rfl
       refine wp_value (c:= .string s) ?_ rfl
       go_simp
      ·refine StepOk.run (get_lit rfl) rfl fun a W hS hB hd=> ?_
       have e1:=hS.get (t:=1) rfl rfl
       refine wp_value (c:= .int .i64 at0) ?_ rfl
       go_simp
      ·refine StepOk.run (get_lit rfl) rfl fun a W hS hB hd=> ?_
       have e8:=hS.get (t:=8) rfl rfl
       refine wp_value (c:= .int .i64 (q:Int)) ?_ rfl
       go_simp
      ·refine StepOk.run (get_lit rfl) rfl fun a W hS hB hd=> ?_
       have e39:=(hd 0 rfl).bool rfl rfl rfl
       have e40:=(hd 1 rfl).bool rfl rfl rfl
       have e41:=(hd 2 rfl).bool rfl rfl rfl
       refine wp_value (c:= .string sm) ?_ rfl
       have hx:=HX.out.1
       go_simp
      ·refine StepOk.run (get_lit rfl) rfl fun a W hS hB hd=> ?_
       have e42:=(hd 3 rfl).bool rfl rfl rfl
       refine wp_called Tryz.func26 (by kernel_rfl) rfl #[.string sm] rfl (by simp[Act.eval, *]) ?_
       refine(HSUM.out W).mono ?_
       rintro e9 w9 ⟨rfl,hb9⟩
       exact⟨_,rfl,rfl,hb9⟩
      ·refine StepOk.run (get_lit rfl) rfl fun a W hS hB hd=> ?_
       have e43:=(hd 4 rfl).bool rfl rfl rfl
       refine wp_called Tryz.func25 (by kernel_rfl) rfl #[.int .u32 sv] rfl (by simp[Act.eval, *]) ?_
       refine(HBYT.out W).mono ?_
       rintro e9 w9 ⟨rfl,hb9⟩
       exact⟨_,rfl,rfl,hb9⟩
      ·refine StepOk.run (get_lit rfl) rfl fun a W hS hB hd=> ?_
       have e0:=hS.get (t:=0) rfl rfl
       refine wp_value (c:= .string s) ?_ rfl
       go_simp
      ·refine StepOk.run (get_lit rfl) rfl fun a W hS hB hd=> ?_
       have e8:=hS.get (t:=8) rfl rfl
       refine wp_value (c:= .int .i64 (q:Int)) ?_ rfl
       go_simp
      ·refine StepOk.run (get_lit rfl) rfl fun a W hS hB hd=> ?_
       have e8:=hS.get (t:=8) rfl rfl
       refine wp_value (c:= .int .i64 (q:Int)) ?_ rfl
       go_simp
      ·refine StepOk.run (get_lit rfl) rfl fun a W hS hB hd=> ?_
       have e47:=(hd 8 rfl).bool rfl rfl rfl
       refine wp_value (c:= .int .i64 (q4:Int)) ?_ rfl
       have hq4i:=HQ4.out
       go_simp
      ·refine StepOk.run (get_lit rfl) rfl fun a W hS hB hd=> ?_
       have e45:=(hd 6 rfl).bool rfl rfl rfl
       have e46:=(hd 7 rfl).bool rfl rfl rfl
       have e48:=(hd 9 rfl).bool rfl rfl rfl
       refine wp_value (c:= .string s4) ?_ rfl
       have hx:=HX.out.2
       go_simp
      ·refine StepOk.run (get_lit rfl) rfl fun a W hS hB hd=> ?_
       have e44:=(hd 5 rfl).bool rfl rfl rfl
       have e49:=(hd 10 rfl).bool rfl rfl rfl
       refine wp_value (c:= .bool (!bw)) ?_ rfl
       have heq:=HEQ.out
       go_simp
     ·intro a W hS hB hh
      have e50:a.tmps[50]? =some (.bool (!bw)):=(hh 11 (by omega)).bool rfl rfl rfl
      have HBR:=hQ hB
      obtain⟨zz,hlit,hzz⟩:=same_litz hS
      clear hh hS hB
      simp only[List.filterMap_cons,List.filterMap_nil,List.foldl_cons,List.foldl_nil,List.setIfInBounds_toArray,List.set_cons_zero,List.set_cons_succ]at hlit
      rw[hzz 50 _ e50]at hlit
      clear e50
      clear hzz;subst hlit
      cases bw with
      |false=>
       have hrr:=HRR.out
       rw[if_pos rfl]at hrr
       subst hrr
       go_wp2_with fail
       go_ret3
       exact⟨rfl,HB1.out.trans (HBR.out.mono HB1.out.size)⟩
      |true=>
       have hrr:=HRR.out
       rw[if_neg (by decide)]at hrr
       subst hrr
       have hq4i:=HQ4.out
       go_wp2_with fail
       go_ret3
       exact⟨rfl,HB1.out.trans (HBR.out.mono HB1.out.size)⟩
theorem info_strH:(Tryz.prog.info? 9).map (fun i=>(i.zero,i.size,i.bytes))=some (some (.string ⟨#[]⟩),1,16):=by kernel_rfl
theorem info_i64H:(Tryz.prog.info? 3).map (fun i=>(i.zero,i.size,i.bytes))=some (some (.int .i64 0),1,8):=by kernel_rfl
theorem rfrunH_any (l:List Int) (hb: ∀x∈l,0≤x∧x<256) (hl:l.length≤4000) (at0:Int) (ha:0≤at0∧at0≤l.length) (w:World):
  Calls Tryz.prog 13 #[.string (strOfNums l),.int .i64 at0] w fun e w'=>∃v0 v1:Value,e= .returned (.tuple #[v0,v1])∧Kd.R Kd.string 9 w' w.heap.size (fun _=>True) v0 ((runs l at0).map (·.1))∧Kd.R (Kd.int .i64) 3 w' w.heap.size (fun _=>True) v1 ((runs l at0).map (·.2))∧Below w.heap.size w w':=by
 have HG:=hQ (fun(z:Int) (hz:0≤z∧z≤l.length) (W:World)=>rfgetH_any l hb hl z hz W)
 have HAT:=hQ (runs_at l hb at0)
 have HFAR:=hQ (fgetS_far l hb)
 have hrl:(runs l at0).length≤4001:=by
  have:=runs_len (l.length+1) l at0
  unfold runs;omega
 have hbeh: ∀i x,(runs l at0)[i]? =some x→behind (runs l at0) at0 (i+1)=x.2:=by
  intro i x hx
  unfold behind
  rw[if_neg (by omega),Nat.add_sub_cancel,List.getD_eq_getElem?_getD,hx]
  rfl
 have HBEH:=hQ hbeh
 have HB0:Hid (behind (runs l at0) at0 0=at0):=hQ rfl
 obtain⟨its,hits⟩:=eX (runs l at0)
 rw[hits]at HAT hrl HBEH HB0 ⊢
 obtain⟨M6,hM6⟩:=eX (its.map (·.1))
 obtain⟨M7,hM7⟩:=eX (its.map (·.2))
 rw[hM6,hM7]
 have HM:=hQ (And.intro hM6 hM7)
 have HML:Hid (M6.length=its.length∧M7.length=its.length):=hQ (by rw[←hM6,←hM7,List.length_map,List.length_map];exact⟨rfl,rfl⟩)
 clear hM6 hM7
 obtain⟨s,hs⟩:=eX (strOfNums l)
 rw[hs]at HG ⊢
 have HA:=hQ ha
 clear hb hits hs hbeh ha
 have hz:w.heap.size≤w.heap.size:=Nat.le_refl _
 have a1:Below w.heap.size w (w.alloc (.cells #[] 9)):=(Below.refl _ _).alloc (Nat.le_refl _) _
 have a2:Below w.heap.size w ((w.alloc (.cells #[] 9)).alloc (.cells #[] 3)):=a1.alloc (by rw[heap_size_alloc];omega) _
 have k6:((w.alloc (.cells #[] 9)).alloc (.cells #[] 3)).heap[w.heap.size]? =some (.cells #[] 9 (0,0)):=blk_alloc (heap_new _ _) _
 have k7:((w.alloc (.cells #[] 9)).alloc (.cells #[] 3)).heap[w.heap.size+1]? =some (.cells #[] 3 (0,0)):=by
  have:=heap_new (w.alloc (.cells #[] 9)) (.cells #[] 3)
  rwa [heap_size_alloc]at this
 have HS6:=hQ (R_block_str _ w.heap.size w.heap.size _ [] (fun _=>True) k6 hz (by simp[maxLen]) trivial)
 have HS7:=hQ (R_block .i64 _ w.heap.size (w.heap.size+1) _ [] (fun _=>True) k7 (by omega) (by simp[maxLen]) trivial)
 have HSB:=hQ a2
 clear a1 a2 k6 k7 hz
 go_enter Tryz.func13,Tryz.ntmps13
 go_wp2_with fail
 go_loopw [1,6,7] (fun u1 u6 u7 wr=>∃(i:Nat) (z:Int),i≤its.length∧u1= .int .i64 z∧Hid (z=behind its at0 i∧0≤z∧z≤l.length)∧Hid (Kd.R Kd.string 9 wr w.heap.size (fun _=>True) u6 (M6.take i))∧Hid (Kd.R (Kd.int .i64) 3 wr w.heap.size (fun _=>True) u7 (M7.take i))∧Hid (Below w.heap.size w wr)) (fun u _ _ _=>((l.length:Int)+1-intOf u).toNat)
 case atStart=>exact⟨0,at0,by omega,rfl,hQ ⟨HB0.out.symm,HA.out⟩,HS6,HS7,HSB⟩
 case round=>
  clear HS6 HS7 HSB
  obtain⟨i,z,hi,rfl,HZ,HS,HI,HB⟩:=hrel
  obtain⟨A6,c6,rfl⟩:=Kd.R_slice HS.out
  obtain⟨A7,c7,rfl⟩:=Kd.R_slice HI.out
  have hg:=HG.out z HZ.out.2 wr
  have hat:=HAT.out i hi
  rw[←HZ.out.1]at hat
  have hfar:=HFAR.out z
  generalize fgetS l z=F at hg hat hfar
  obtain⟨S,nx,er⟩:=F
  unfold RfPost at hg
  dsimp only at hg hat hfar
  have HGT:=hQ hg
  have HATI:=hQ hat
  have HFR:=hQ hfar
  clear hg hat hfar
  go_wp2_with fail
  refine HGT.out.mono ?_
  rintro e wb ⟨rfl,hbb⟩
  have HS1:=hQ (Kd.R_below HS.out hbb)
  have HI1:=hQ (Kd.R_below HI.out hbb)
  have HB1:=hQ (HB.out.trans (hbb.mono HB.out.size))
  clear hbb HS HI HB HGT
  by_cases he:er=0
  ·subst he
   obtain ⟨y,hy⟩: ∃y,its[i]? =some y:=by
    cases h:its[i]? with
    |none=>exact absurd rfl (HATI.out.2 h)
    |some y=>exact⟨y,rfl⟩
   obtain⟨_,hyy⟩:=HATI.out.1 y hy
   subst hyy
   obtain⟨hz0,hz6,hzl⟩:=HFR.out rfl
   have hil:i<its.length:=(List.getElem?_eq_some_iff.1 hy).1
   have HTK:Hid (M6.take (i+1)=M6.take i++[S]∧M7.take (i+1)=M7.take i++[nx]∧nx=behind its at0 (i+1)):=hQ ⟨by rw[List.take_add_one,←HM.out.1,List.getElem?_map,hy];rfl,by rw[List.take_add_one,←HM.out.2,List.getElem?_map,hy];rfl,(HBEH.out i _ hy).symm⟩
   have hl6:(M6.take i).length≤4001:=by rw[List.length_take];have:=HML.out;omega
   have hl7:(M7.take i).length≤4001:=by rw[List.length_take];have:=HML.out;omega
   obtain⟨xs6,hx6⟩:=eX (M6.take i)
   obtain⟨xs7,hx7⟩:=eX (M7.take i)
   rw[hx6]at HS1 HTK hl6 ⊢
   rw[hx7]at HI1 HTK hl7 ⊢
   clear hy hx6 hx7
   go_wp2_with (at_builtin;refine Halt.mk ?_)
   refine Halt.of ?_
   refine Kd.R_append Kd.string (w0:=w) w.heap.size rfl (.tmp 24) (.tmp 26) 52 9 (.string ⟨#[]⟩) 16 rfl Tryz.underlying52 info_strH rfl (by decide) (by omega) _ xs6 S [.string S] (fun _=>True) (fun _=>False) rfl rfl rfl (fun _ h=>h.elim) (fun _ _=>trivial) HS1.out HB1.out HB1.out.size (by omega) ?_
   intro v1 w2 hR6 hb2 hg _
   obtain⟨ys6,hy6⟩:=eX (xs6++[S])
   rw[hy6]at hR6 HTK
   have HI2:=hQ (Kd.R_over HI1.out HS1.out (by decide) hg)
   have HR6:=hQ hR6
   have HB2:=hQ hb2
   clear hR6 hb2 hg hy6
   obtain⟨A16,c16,rfl⟩:=Kd.R_slice HR6.out
   go_wp2_with (at_builtin;refine Halt.mk ?_)
   refine Halt.of ?_
   refine Kd.R_append (Kd.int .i64) (w0:=w) w.heap.size rfl (.tmp 28) (.tmp 30) 25 3 (.int .i64 0) 8 rfl Tryz.underlying25 info_i64H rfl (by decide) (by omega) _ xs7 nx [.int .i64 nx] (fun _=>True) (fun _=>False) rfl rfl rfl (fun _ h=>h.elim) (fun _ _=>trivial) HI2.out HB2.out HB2.out.size (by omega) ?_
   intro v2 w3 hR7 hb3 hg _
   obtain⟨ys7,hy7⟩:=eX (xs7++[nx])
   rw[hy7]at hR7 HTK
   have HR63:=hQ (Kd.R_over HR6.out HI2.out (by decide) hg)
   have HR7:=hQ hR7
   have HB3:=hQ hb3
   clear hR7 hb3 hg hy7
   obtain⟨A17,c17,rfl⟩:=Kd.R_slice HR7.out
   go_wp2_with fail
   go_roundw
   case rel=>exact⟨i+1,nx,by omega,rfl,hQ ⟨HTK.out.2.2,by omega,by omega⟩,by rw[HTK.out.1];exact HR63,by rw[HTK.out.2.1];exact HR7,HB3⟩
   case measure=>simp[intOf];omega
  ·have hne:(er !=0)=true:=by simpa using he
   have hin:i=its.length:=by
    rcases Nat.lt_or_ge i its.length with h|h
    ·exact absurd (HATI.out.1 _ (List.getElem?_eq_getElem h)).1 he
    ·omega
   have HE:Hid (M6.take i=M6∧M7.take i=M7):=hQ ⟨List.take_of_length_le (by have:=HML.out;omega),List.take_of_length_le (by have:=HML.out;omega)⟩
   rw[HE.out.1]at HS1 ⊢
   rw[HE.out.2]at HI1 ⊢
   clear hin
   go_wp2_with fail
   go_ret2
   exact⟨_,_,rfl,HS1.out,HI1.out,HB1.out⟩
theorem rversH_any (l:List Int) (hb: ∀x∈l,0≤x∧x<256) (hl:l.length≤1000000) (w:World):
  Calls Tryz.prog 12 #[.string (strOfNums l)] w fun e w'=>e= .returned (.tuple #[.int .i64 (versF l).1,.int .i64 (versF l).2])∧Below w.heap.size w w':=by
 have hs:(strOfNums l).size=l.length:=strOfNums_size l
 by_cases h8:l.length<8
 ·have e:versF l=(0,2):=by unfold versF;rw[if_pos h8]
  rw[e]
  have d1:decide ((l.length:Int)<8)=true:=decide_eq_true (by omega)
  generalize strOfNums l=s at hs ⊢
  clear hb e h8
  go_enter Tryz.func12,Tryz.ntmps12
  go_wp2_with fail
  go_ret2
  exact⟨rfl,Below.refl _ _⟩
 ·have d1:decide ((l.length:Int)<8)=false:=decide_eq_false (by omega)
  have hx3:=str_mid l 0 3
  have htp:((strOfNums ((l.take 3).drop 0)).toList==[84,80,72])=tphB l:=rfl
  cases htb:tphB l with
  |false=>
   have e:versF l=(0,3):=by unfold versF;rw[if_neg h8,if_pos htb]
   rw[e]
   rw[htb]at htp
   have hl3:3≤l.length:=by omega
   generalize strOfNums ((l.take 3).drop 0)=s3 at hx3 htp
   generalize strOfNums l=s at hs hx3 ⊢
   clear hb e h8 htb
   go_enter Tryz.func12,Tryz.ntmps12
   go_wp2_with fail
   go_ret2
   exact⟨rfl,Below.refl _ _⟩
  | true=>
   rw[htb]at htp
   have hbm: ∀x∈(l.take 4).drop 0,0≤x∧x<256:=fun x hx=>hb x (List.mem_of_mem_take (List.mem_of_mem_drop hx))
   have hlm:((l.take 4).drop 0).length=4:=by rw[List.length_drop,List.length_take];omega
   have hlt:=Crc.sum_lt (nats ((l.take 4).drop 0)) (by intro x hx;simp only[nats,List.mem_map]at hx;obtain⟨y,hy,rfl⟩:=hx;have:=hbm y hy;omega)
   have HSUM:=hQ (fun(W:World)=>rsum_any ((l.take 4).drop 0) hbm (by omega) W)
   have HBYT:=hQ (fun(W:World)=>tephraref03_Bytes.calls _ _ W (rbytes_is (Crc.sum (nats ((l.take 4).drop 0))) hlt))
   have heq:=sum_eq l hb 0 4 (by omega) (by omega)
   have hx1:=str_mid l 0 4
   have hx2:=str_mid l 4 8
   have e0:wholeB (l.drop 0) ((4-0:Nat):Int)=wholeB l 4:=rfl
   rw[e0]at heq
   obtain⟨d,hd⟩:=eX (rd l 3)
   have hbt:bt (strOfNums l) 3=d:=by
    have:=bt_num l hb 3 (by omega)
    rw[show((3:Nat):Int)=3 from rfl]at this
    rw[this,←hd,show rd l 3=l[3]by simp[rd,show 3<l.length by omega]]
    have:=hb l[3] (List.getElem_mem _)
    omega
   have hdr:0≤d∧d<256:=by
    rw[←hd,show rd l 3=l[3]by simp[rd,show 3<l.length by omega]]
    exact hb l[3] (List.getElem_mem _)
   have hx14: ∀h:3<(strOfNums l).size,(((strOfNums l)[3]'h).toNat:Int)=d:=fun h=>(bt_at (strOfNums l) 3 h).trans hbt
   have hl8:8≤l.length:=by omega
   obtain⟨R,hR⟩:=eX (versF l)
   have hv:R=if wholeB l 4=false then(0,4)else if decide (1≤d∧d≤3)=false then(0,11)else(d,0):=by
    rw[←hR,←hd];unfold versF;rw[if_neg h8,if_neg (by rw[htb];decide)]
   rw[hR]
   have HV:=hQ hv
   obtain⟨bw,hbw⟩:=eX (wholeB l 4)
   rw[hbw]at heq HV
   generalize strOfNums ((l.take 3).drop 0)=s3 at hx3 htp
   generalize strOfNums ((l.take 4).drop 0)=sm at HSUM hx1
   generalize crcB (Crc.sum (nats ((l.take 4).drop 0)))=cb at HBYT heq
   generalize ((Crc.sum (nats ((l.take 4).drop 0)):Nat):Int)=sv at HSUM HBYT
   generalize strOfNums ((l.take (4+4)).drop 4)=s4 at hx2 heq
   generalize strOfNums cb=cs at HBYT heq
   generalize strOfNums l=s at hs hx1 hx2 hx3 hx14 hbt ⊢
   have HEQ:=hQ heq
   have HX:=hQ (And.intro hx1 (And.intro hx2 hs))
   have HBT:=hQ hx14
   clear hb h8 htb hbm hlm hlt heq hx1 hx2 e0 hd hbt hx14 hR hv hbw
   go_enter Tryz.func12,Tryz.ntmps12
   go_wp2_with fail
   refine region_calm (n:=7) (byList [isV (.string s),isV (.string sm),isV (.int .u32 sv),isV (.string cs),isV (.string s),isV (.string s4),isV (.bool (!bw))]) (by kernel_rfl) rfl (byList_lasts ?_) (by kernel_rfl) (by kernel_rfl) (by kernel_rfl) (show AllLt 7 _ from ?_) ?_
   ·intro p hp
    simp only[List.mem_cons,List.not_mem_nil,or_false]at hp
    rcases hp with rfl|rfl|rfl|rfl|rfl|rfl|rfl<;>first|exact isV_lasts|exact isC_lasts
   ·refine allLt_succ (allLt_succ (allLt_succ (allLt_succ (allLt_succ (allLt_succ (allLt_succ (allLt_zero _) ?_) ?_) ?_) ?_) ?_) ?_) ?_
    ·refine StepOk.run (get_lit rfl) rfl fun a W hS hB hd=> ?_
     have e0:=hS.get (t:=0) rfl rfl
     refine wp_value (c:= .string s) ?_ rfl
     go_simp
    ·refine StepOk.run (get_lit rfl) rfl fun a W hS hB hd=> ?_
     have e10:=(hd 0 rfl).bool rfl rfl rfl
     refine wp_value (c:= .string sm) ?_ rfl
     have h4: ¬(l.length:Int)<4:=by omega
     have hx:=HX.out.1
     have hs:=HX.out.2.2
     go_simp
    ·refine StepOk.run (get_lit rfl) rfl fun a W hS hB hd=> ?_
     have e11:=(hd 1 rfl).bool rfl rfl rfl
     refine wp_called Tryz.func26 (by kernel_rfl) rfl #[.string sm] rfl (by simp[Act.eval, *]) ?_
     refine(HSUM.out W).mono ?_
     rintro e9 w9 ⟨rfl,hb9⟩
     exact⟨_,rfl,rfl,hb9⟩
    ·refine StepOk.run (get_lit rfl) rfl fun a W hS hB hd=> ?_
     have e12:=(hd 2 rfl).bool rfl rfl rfl
     refine wp_called Tryz.func25 (by kernel_rfl) rfl #[.int .u32 sv] rfl (by simp[Act.eval, *]) ?_
     refine(HBYT.out W).mono ?_
     rintro e9 w9 ⟨rfl,hb9⟩
     exact⟨_,rfl,rfl,hb9⟩
    ·refine StepOk.run (get_lit rfl) rfl fun a W hS hB hd=> ?_
     have e0:=hS.get (t:=0) rfl rfl
     refine wp_value (c:= .string s) ?_ rfl
     go_simp
    ·refine StepOk.run (get_lit rfl) rfl fun a W hS hB hd=> ?_
     have e14:=(hd 4 rfl).bool rfl rfl rfl
     refine wp_value (c:= .string s4) ?_ rfl
     have h4: ¬(l.length:Int)<8:=by omega
     have hx:=HX.out.2.1
     have hs:=HX.out.2.2
     go_simp
    ·refine StepOk.run (get_lit rfl) rfl fun a W hS hB hd=> ?_
     have e13:=(hd 3 rfl).bool rfl rfl rfl
     have e15:=(hd 5 rfl).bool rfl rfl rfl
     refine wp_value (c:= .bool (!bw)) ?_ rfl
     have heq:=HEQ.out
     go_simp
   ·intro a W hS hB hh
    have e16:a.tmps[16]? =some (.bool (!bw)):=(hh 6 (by omega)).bool rfl rfl rfl
    have HBR:=hQ hB
    obtain⟨zz,hlit,hzz⟩:=same_litz hS
    clear hh hS hB
    simp only[List.filterMap_cons,List.filterMap_nil,List.foldl_cons,List.foldl_nil,List.setIfInBounds_toArray,List.set_cons_zero,List.set_cons_succ]at hlit
    rw[hzz 16 _ e16]at hlit
    clear e16
    clear hzz;subst hlit
    cases bw with
    |false=>
     have hv:=HV.out
     rw[if_pos rfl]at hv
     subst hv
     go_wp2_with fail
     go_ret2
     exact⟨rfl,HBR.out⟩
    | true=>
     have hv:=HV.out
     rw[if_neg (by decide)]at hv
     have HV2:=hQ hv
     have hx14:=HBT.out
     clear hv
     by_cases h1:d<1
     ·have q1:decide (d<1)=true:=decide_eq_true h1
      have hv:=HV2.out
      rw[if_pos (decide_eq_false (by omega))]at hv
      subst hv
      go_wp2_with fail
      go_ret2
      exact⟨rfl,HBR.out⟩
     ·have q1:decide (d<1)=false:=decide_eq_false h1
      by_cases h2:3<d
      ·have q2:decide (3<d)=true:=decide_eq_true h2
       have hv:=HV2.out
       rw[if_pos (decide_eq_false (by omega))]at hv
       subst hv
       go_wp2_with fail
       go_ret2
       exact⟨rfl,HBR.out⟩
      ·have q2:decide (3<d)=false:=decide_eq_false h2
       have hv:=HV2.out
       rw[if_neg (by rw[decide_eq_true (by omega)];decide)]at hv
       subst hv
       have q3:IntKind.i64.wrap d=d:=by rw[IntWalk.i64_in _ (by omega)]
       go_wp2_with fail
       go_ret2
       exact⟨rfl,HBR.out⟩
end Go.Proofs.YtfflenbfapgilaaGreat
