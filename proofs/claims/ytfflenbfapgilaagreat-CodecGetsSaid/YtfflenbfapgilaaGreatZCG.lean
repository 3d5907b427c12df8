/- Texts laid as one by shake.py, cut to what the claim needs: SchM, WkF, WkG. (Names that begin with W and the print's groups (G..x, G..z): laid by the kit's print, cut.) -/
import Derived.Test.YtfflenbfapgilaaGreatZCv
import Derived.Test.YtfflenbfapgilaaGreatZCe
import Derived.Deep.QuietTactic
import Derived.BigQuiet
set_option linter.unusedVariables false
set_option linter.unusedSimpArgs false
set_option maxHeartbeats 8000000
set_option maxRecDepth 100000
namespace Go.Proofs.YtfflenbfapgilaaGreat
open Go.RowKit Go.Proofs.YtfflenbfapgilaaGreatW.PrintWords Go.Proofs.YtfflenbfapgilaaGreat.GRR
def RPutPost (W:World) (A:Option Addr) (c:Nat) (T:List ByteArray) (F:List (List Int)×List ByteArray×Int) (e:Ending) (W':World):Prop:=
 ∃v1 A' c',e= .returned (.tuple #[v1,.slice A' F.2.1.length c', .int .i64 F.2.2])∧Kd.R Kd.string 9 W' W.heap.size (fun _=>True) v1 (F.1.map strOfNums)∧F.2.1.length≤c'∧Kd.C Kd.string W' A' F.2.1.length F.2.1∧Below W.heap.size W W'∧((A'=A∧c'=c∧F.2.1=T)∨Kd.R Kd.string 9 W' W.heap.size (fun _=>True) (.slice A' F.2.1.length c') F.2.1)
theorem add_str (a b:List Int) (h:a.length+b.length≤1000000) (W:World):(Op.stringOp .add (strOfNums a) (strOfNums b)).run Tryz.prog W= .ok (.string (strOfNums (a++b))) W:=by
 rw[strOfNums_app]
 exact run_string_add_sum W _ _ (by rw[strOfNums_size,strOfNums_size];omega)
theorem add_def (s:ByteArray) (h:s.size≤1000000) (W:World):(Op.stringOp .add ⟨#[0]⟩ s).run Tryz.prog W= .ok (.string (strOfNums (defE s))) W:=by
 have e:strOfNums (defE s)=⟨#[0]⟩++s:=by
  unfold defE
  rw[show(0::bytesOf s)=[0]++bytesOf s from rfl,strOfNums_app,bytes_str]
  rfl
 rw[e]
 exact run_string_add_sum W _ _ (by show 1+s.size≤_;omega)
theorem put1_any (n:Int) (h:0≤n∧n<18446744073709551616) (W:World):Calls Tryz.prog 58 #[.int .u64 n] W fun e w'=>e= .returned (.string (strOfNums (ints (vb n.toNat))))∧Below W.heap.size W w':=by
 have:=refput_any n.toNat (by omega) W
 rwa [Int.toNat_of_nonneg h.1]at this
structure RPSt (W X:World) (b5:Nat) (rec:Array Value) (A:Option Addr) (c:Nat) (T:List ByteArray) (tv:Value) (L:List ByteArray) (ov:Value) (rows:List (List Int)) (nv:Value) (ns:List ByteArray):Prop where
 bl:Below W.heap.size W X
 box:X.heap[b5]? =some (.cells rec 49 (0,0))
 ini:Kd.C Kd.string W A T.length T∧T.length≤c
 tb:(L=T∧tv= .slice A T.length c)∨Kd.R Kd.string 9 X W.heap.size (fun k=>some k≠ov.ownBlock) tv L
 rw:Kd.R Kd.string 9 X W.heap.size (fun _=>True) ov (rows.map strOfNums)
 nm:Kd.R Kd.string 9 X W.heap.size (fun k=>some k≠ov.ownBlock) nv ns
section
variable {W X X':World} {b5:Nat} {rec:Array Value} {A:Option Addr} {c:Nat} {T:List ByteArray} {tv:Value} {L:List ByteArray} {ov:Value} {rows:List (List Int)} {nv:Value} {ns:List ByteArray}
theorem RPSt.tab (h:RPSt W X b5 rec A c T tv L ov rows nv ns): ∃A' c',tv= .slice A' L.length c'∧L.length≤c'∧Kd.C Kd.string X A' L.length L:=by
 rcases h.tb with⟨rfl,e⟩|hR
 ·exact⟨A,c,e,h.ini.2,Kd.C_below h.ini.1 h.bl⟩
 ·obtain⟨A',c',e,h1,h2⟩:=Kd.R_reads hR
  exact⟨A',c',e,h1,h2⟩
theorem RPSt.below (h:RPSt W X b5 rec A c T tv L ov rows nv ns) (hb:Below X.heap.size X X'):RPSt W X' b5 rec A c T tv L ov rows nv ns:=
 ⟨h.bl.trans (hb.mono h.bl.size),blk_below h.box hb,h.ini,h.tb.imp id (fun hR=>Kd.R_below hR hb),Kd.R_below h.rw hb,Kd.R_below h.nm hb⟩
theorem RPSt.pushed {ov':Value} {rows':List (List Int)} (h:RPSt W X b5 rec A c T tv L ov rows nv ns) (hR:Kd.R Kd.string 9 X' W.heap.size (fun _=>True) ov' (rows'.map strOfNums)) (hB:Below W.heap.size W X') (hg:X.grownBy X' ov.ownBlock) (hat:ov'.ownBlock=ov.ownBlock∨∃b,ov'.ownBlock=some b∧X.heap.size≤b):RPSt W X' b5 rec A c T tv L ov' rows' nv ns:=by
 have keep: ∀{v:Value} {xs:List ByteArray},Kd.R Kd.string 9 X W.heap.size (fun k=>some k≠ov.ownBlock) v xs→Kd.R Kd.string 9 X' W.heap.size (fun k=>some k≠ov'.ownBlock) v xs:=fun hT=>by
  refine Kd.R_mono (Kd.R_grown (Kd.R_bound hT) hg (fun k hk=>hk.1)) (fun k hk e=> ?_)
  rcases hat with hat|⟨b,hb,hle⟩
  ·rw[hat]at e;exact hk.1 e
  ·rw[hb]at e
   injection e with e
   have:=hk.2.2.1
   omega
 refine⟨hB,(hg.block b5 (blk_lt h.box) (fun e=> ?_)).trans h.box,h.ini,h.tb.imp id (fun hT=>keep hT),hR,keep h.nm⟩
 ·obtain⟨_,_,C,hC⟩:=own_typed_R h.rw b5 e.symm
  rw[h.box]at hC
  injection hC with hC
  injection hC with _ hC
  exact absurd hC (by decide)
theorem RPSt.tabled {tv':Value} {L':List ByteArray} (h:RPSt W X b5 rec A c T tv L ov rows nv ns) (hb:Below X.heap.size X X') (hR:Kd.R Kd.string 9 X' X.heap.size (fun _=>True) tv' L'):RPSt W X' b5 rec A c T tv' L' ov rows nv ns:=
 ⟨h.bl.trans (hb.mono h.bl.size),blk_below h.box hb,h.ini,.inr (Kd.R_mono (Kd.R_lower (Kd.R_bound hR) h.bl.size) (fun k hk e=>by have:=(own_typed_R h.rw k e.symm).2.1;have:=hk.2.1;omega)),Kd.R_below h.rw hb,Kd.R_below h.nm hb⟩
end
theorem rput9_1 (Wq:World) (v:Int) (A2:Option Addr) (c2:Nat) (T2:List ByteArray) (hC:Kd.C Kd.string Wq A2 T2.length T2) (hc:T2.length≤c2) (hT:T2.length≤100000) (k0:Int) (x1:ByteArray) (x2:Int) (B:Option Addr) (d:Nat) (l:List S129) (x4 x5:Int) (x6:ByteArray)
  (hrow:Kd.C k129 Wq B l.length l) (hd:l.length≤d) (hok:RecOk x1 l x6) (hv:v=1) (hm:mayB v k0 x1 x2 l x4 x5 x6=true) (h2:0≤x2∧x2<18446744073709551616) (h4:0≤x4∧x4<18446744073709551616) (h5:0≤x5∧x5<18446744073709551616) (hdr: ∀y∈l,0≤y.f1∧y.f1<18446744073709551616):
  Calls Tryz.prog 30 #[.int .i64 v,.slice A2 T2.length c2,.agg #[.int .i64 k0,.string x1,.int .u64 x2,.slice B l.length d,.int .u64 x4,.int .u64 x5,.string x6]] Wq (RPutPost Wq A2 c2 T2 (putF v T2 k0 x1 x2 l x4 x5 x6)):=by
 have hpf:putF v T2 k0 x1 x2 l x4 x5 x6=((moreE T2 T2)++[lastE v T2 k0 x1 x2 l x4 x5 x6],T2,0):=by
  unfold putF
  rw[if_pos (show 1≤v∧v≤3 by omega),if_pos hm]
  rw[if_neg (show ¬1<v by omega)]
 rw[hpf]
 obtain⟨wz,hwz⟩:=eX ((Wq.alloc (.cells #[.int .i64 k0,.string x1,.int .u64 x2,.slice B l.length d,.int .u64 x4,.int .u64 x5,.string x6] 49)).alloc (.cells #[] 9))
 have hbz:Below Wq.heap.size Wq wz:=by rw[←hwz];exact((Below.refl _ _).alloc (Nat.le_refl _) _).alloc (by rw[heap_size_alloc];omega) _
 have hkz:wz.heap[Wq.heap.size]? =some (.cells #[.int .i64 k0,.string x1,.int .u64 x2,.slice B l.length d,.int .u64 x4,.int .u64 x5,.string x6] 49 (0,0)):=by rw[←hwz,heap_new_old _ _ _ (by rw[heap_size_alloc];omega)];exact heap_new _ _
 have hke:wz.heap[Wq.heap.size+1]? =some (.cells #[] 9 (0,0)):=by rw[←hwz];exact heap_new2 _ _ _
 obtain⟨b5,hb5⟩:=eX (Wq.heap.size)
 rw[hb5]at hkz hke
 have hre:=R_empty Kd.string wz Wq.heap.size (b5+1) 9 (fun _=>True) hke (by omega) trivial
 have M:=may_facts hm
 have HMY:=hQ (rmay_any v k0 x1 x2 l x4 x5 x6 B d wz (Kd.C_below hrow hbz))
 rw[hm]at HMY
 have HC:=hQ hC
 have HRO:=hQ hrow
 have HBZ:=hQ hbz
 have HKZ:=hQ hkz
 have HWZ:=hQ hwz
 have HREZ:=hQ hre
 have HB5:=hQ hb5
 have HM:=hQ M
 have HR2:=hQ h2
 have HR4:=hQ h4
 have HR5:=hQ h5
 have HDR:=hQ hdr
 have HV:=hQ hv
 have HKW:=hQ (show IntKind.u64.wrap k0=k0 by have:=M.k;rw[IntKind.wrap_u64];omega)
 have HLW:=hQ (show IntKind.u64.wrap (l.length:Int)=(l.length:Int)by have:=M.n;rw[IntKind.wrap_u64];omega)
 have hln:l.length≤16:=M.n
 have d1:decide (v<1)=false:=decide_eq_false (by omega)
 have d3:decide (3<v)=false:=decide_eq_false (by omega)
 have d2:decide (1<v)=false:=decide_eq_false (by omega)
 have d4:decide (v<3)=true:=decide_eq_true (by omega)
 have d5:decide (2<v)=false:=decide_eq_false (by omega)
 clear hpf hC hrow hbz hkz hke hre hwz hb5 M h2 h4 h5 hdr hm hv hok
 go_enter Tryz.func30,Tryz.ntmps30
 go_wp2_with fail
 rw[HWZ.out,HB5.out]
 refine HMY.out.mono ?_
 rintro e wa ⟨rfl,hb⟩
 have HBA:=hQ (HBZ.out.trans (hb.mono HBZ.out.size))
 have HBX:=hQ (blk_below HKZ.out hb)
 have HRE:=hQ (Kd.R_below HREZ.out hb)
 clear hb HREZ HWZ HKZ
 obtain⟨y0,y1,y2,y3,y4,y5,y6⟩:=facts7 HBX.out
 have hst:RPSt Wq wa b5 #[.int .i64 k0,.string x1,.int .u64 x2,.slice B l.length d,.int .u64 x4,.int .u64 x5,.string x6] A2 c2 T2 (.slice A2 T2.length c2) T2 (.slice (some ⟨b5+1,0,none⟩) 0 0) [] (.slice none 0 0) []:=⟨HBA.out,HBX.out,⟨HC.out,hc⟩,.inl ⟨rfl,rfl⟩,HRE.out,Kd.R_nil _ _ _ _ _⟩
 have H:=hQ hst
 have hin:v≠1→∀s∈namesL x1 l x6,s∈T2:=fun h=>absurd HV.out h
 have hrl:([]:List (List Int)).length≤100:=by simp
 clear hst HRE HBA HBX y1 y2 y3 y4 y5 y6 y0
 obtain⟨A2',c2',e2,hc2,hC2⟩:=H.out.tab
 obtain⟨rfl,_,rfl⟩:A2=A2'∧T2.length=T2.length∧c2=c2':=by injection e2 with a1 a2 a3;exact⟨a1,a2,a3⟩
 have HC2:=hQ hC2
 have HRW:=hQ hrl
 have HRL:=hQ hrl
 have HIN:=hQ hin
 obtain⟨q0,hq0⟩:=eX (ints (vb k0.toNat))
 obtain⟨q1,hq1⟩:=eX (textE v T2 x1)
 obtain⟨q2,hq2⟩:=eX (ints (vb x2.toNat))
 obtain⟨q3,hq3⟩:=eX (ints (vb ((l.length:Int)).toNat))
 have hK:=HM.out.k
 have l0:q0.length≤10:=by rw[←hq0];exact vbI_len k0 (by omega)
 have l1:q1.length≤74:=by rw[←hq1];exact textE_len v T2 (by omega) x1 HM.out.t.2
 have l2:q2.length≤10:=by rw[←hq2];exact vbI_len x2 HR2.out.2
 have l3:q3.length≤10:=by rw[←hq3];exact vbI_len (l.length:Int) (by omega)
 have HQ0:=hQ (fun(W':World)=>put1_any k0 (by omega) W')
 have HQ1:=hQ (fun(W':World) (hb:Below wa.heap.size wa W')=>rtext9_any v A2 c2 T2 x1 W' (Kd.C_below HC2.out hb) hc2 (by omega) (by have:=HM.out.t.2;omega) (fun h=>hin h x1 (by unfold namesL;simp)))
 have HQ2:=hQ (fun(W':World)=>put1_any x2 HR2.out W')
 have HQ3:=hQ (fun(W':World)=>put1_any (l.length:Int) (by omega) W')
 rw[hq0]at HQ0
 rw[hq1]at HQ1
 rw[hq2]at HQ2
 rw[hq3]at HQ3
 have HAD:=hQ (add_str q0 q1 (by omega))
 obtain⟨p0,hp0⟩:=eX (q0++q1)
 have lp0:p0.length≤84:=by rw[←hp0,List.length_append];omega
 have HAD2:=hQ (add_str p0 q2 (by omega))
 have HAD3:=hQ (add_str (p0++q2) q3 (by rw[List.length_append];omega))
 obtain⟨P,hP⟩:=eX (p0++q2++q3)
 have lP:P.length≤104:=by rw[←hP,List.length_append,List.length_append];omega
 have HQE:=hQ (And.intro hq0 (And.intro hq1 (And.intro hq2 hq3)))
 have HP0:=hQ hp0
 have HPP:=hQ hP
 have HBX:=hQ H.out.box
 have HKK:=hQ hK
 clear hC2 hq0 hq1 hq2 hq3 hp0 hP hin hK
 go_wp2_with fail
 refine region_calm (n:=11) (byList [isV (.pointer (some ⟨b5,0,none⟩)),isV (.int .i64 k0),isV (.int .u64 k0),isV (.string (strOfNums q0)),isV (.int .i64 v),isV (.slice A2 T2.length c2),isV (.pointer (some ⟨b5,1,none⟩)),isV (.string x1),isV (.string (strOfNums q1)),isV (.string (strOfNums (q0++q1))),isV (.string (strOfNums (q0++q1)))]) (by kernel_rfl) rfl (byList_lasts ?_) (by kernel_rfl) (by kernel_rfl) (by kernel_rfl) (show AllLt 11 _ from ?_) ?_
 ·intro p hp
  simp only[List.mem_cons,List.not_mem_nil,or_false]at hp
  rcases hp with rfl|rfl|rfl|rfl|rfl|rfl|rfl|rfl|rfl|rfl|rfl<;>first|exact isV_lasts|exact isC_lasts
 ·refine allLt_succ (allLt_succ (allLt_succ (allLt_succ (allLt_succ (allLt_succ (allLt_succ (allLt_succ (allLt_succ (allLt_succ (allLt_succ (allLt_zero _) ?_) ?_) ?_) ?_) ?_) ?_) ?_) ?_) ?_) ?_) ?_
  ·refine StepOk.run (get_lit rfl) rfl fun a W hS hB hd=> ?_
   have e5:=hS.get (t:=5) rfl rfl
   refine wp_value (c:= .pointer (some ⟨b5,0,none⟩)) ?_ rfl
   go_simp
  ·refine StepOk.run (get_lit rfl) rfl fun a W hS hB hd=> ?_
   have e62:=(hd 0 rfl).bool rfl rfl rfl
   refine wp_value (c:= .int .i64 k0) ?_ rfl
   have hx:=blk_below HBX.out hB
   have hcW:=bcl hx 0 rfl
   go_simp
  ·refine StepOk.run (get_lit rfl) rfl fun a W hS hB hd=> ?_
   have e63:=(hd 1 rfl).bool rfl rfl rfl
   refine wp_value (c:= .int .u64 k0) ?_ rfl
   have hw:=HKW.out
   go_simp
  ·refine StepOk.run (get_lit rfl) rfl fun a W hS hB hd=> ?_
   have e64:=(hd 2 rfl).bool rfl rfl rfl
   refine wp_called Tryz.func58 (by kernel_rfl) rfl #[.int .u64 k0] rfl (by simp[Act.eval, *]) ?_
   refine(HQ0.out W).mono ?_
   rintro e w9 ⟨rfl,hb9⟩
   exact⟨_,rfl,rfl,hb9⟩
  ·refine StepOk.run (get_lit rfl) rfl fun a W hS hB hd=> ?_
   have e0:=hS.get (t:=0) rfl rfl
   refine wp_value (c:= .int .i64 v) ?_ rfl
   go_simp
  ·refine StepOk.run (get_lit rfl) rfl fun a W hS hB hd=> ?_
   have e1:=hS.get (t:=1) rfl rfl
   refine wp_value (c:= .slice A2 T2.length c2) ?_ rfl
   go_simp
  ·refine StepOk.run (get_lit rfl) rfl fun a W hS hB hd=> ?_
   have e5:=hS.get (t:=5) rfl rfl
   refine wp_value (c:= .pointer (some ⟨b5,1,none⟩)) ?_ rfl
   go_simp
  ·refine StepOk.run (get_lit rfl) rfl fun a W hS hB hd=> ?_
   have e68:=(hd 6 rfl).bool rfl rfl rfl
   refine wp_value (c:= .string x1) ?_ rfl
   have hx:=blk_below HBX.out hB
   have hcW:=bcl hx 1 rfl
   go_simp
  ·refine StepOk.run (get_lit rfl) rfl fun a W hS hB hd=> ?_
   have e66:=(hd 4 rfl).bool rfl rfl rfl
   have e67:=(hd 5 rfl).bool rfl rfl rfl
   have e69:=(hd 7 rfl).bool rfl rfl rfl
   refine wp_called Tryz.func59 (by kernel_rfl) rfl #[.int .i64 v,.slice A2 T2.length c2,.string x1] rfl (by simp[Act.eval, *]) ?_
   refine(HQ1.out W hB).mono ?_
   rintro e w9 ⟨rfl,hb9⟩
   exact⟨_,rfl,rfl,hb9⟩
  ·refine StepOk.run (get_lit rfl) rfl fun a W hS hB hd=> ?_
   have e65:=(hd 3 rfl).bool rfl rfl rfl
   have e70:=(hd 8 rfl).bool rfl rfl rfl
   refine wp_value (c:= .string (strOfNums (q0++q1))) ?_ rfl
   have hadd:=HAD.out W
   go_simp
  ·refine StepOk.run (get_lit rfl) rfl fun a W hS hB hd=> ?_
   have e71:=(hd 9 rfl).bool rfl rfl rfl
   refine wp_value (c:= .string (strOfNums (q0++q1))) ?_ rfl
   go_simp
 ·intro a W hS hB hh
  have e12:a.tmps[12]? =some (.string (strOfNums (q0++q1))):=(hh 10 (by omega)).bool rfl rfl rfl
  have HBR:=hQ hB
  obtain⟨zz,hlit,hzz⟩:=same_litz hS
  clear hh hS hB
  simp only[List.filterMap_cons,List.filterMap_nil,List.foldl_cons,List.foldl_nil,List.setIfInBounds_toArray,List.set_cons_zero,List.set_cons_succ]at hlit
  rw[hzz 12 _ e12]at hlit
  clear e12
  clear hzz;subst hlit
  have HX:=hQ (H.out.below HBR.out)
  rw[HP0.out]
  clear HBX HQ0 HQ1 HAD H
  have HBX:=hQ HX.out.box
  rcases HKK.out with hk|hk
  ·have hkd:(k0==1)=true:=by rw[hk];rfl
   have hkd2:decide (k0=1)=true:=decide_eq_true hk
   have hkn: ¬k0=2:=by omega
   have HKN:=hQ (And.intro hk hkn)
   clear hk hkn
   have y0:=bcl HBX.out 0 rfl
   go_wp2_with fail
   clear y0
   refine region_calm2 (n:=12) (byList [isV (.string (strOfNums p0)),isV (.pointer (some ⟨b5,2,none⟩)),isV (.int .u64 x2),isV (.string (strOfNums q2)),isV (.string (strOfNums (p0++q2))),isV (.pointer (some ⟨b5,3,none⟩)),isV (.slice B l.length d),isV (.int .i64 (l.length:Int)),isV (.int .u64 (l.length:Int)),isV (.string (strOfNums q3)),isV (.string (strOfNums (p0++q2++q3))),isV (.string (strOfNums (p0++q2++q3)))]) (by kernel_rfl) rfl (byList_lasts ?_) (by kernel_rfl) (by kernel_rfl) (by kernel_rfl) (show AllLt 12 _ from ?_) ?_
   ·intro p hp
    simp only[List.mem_cons,List.not_mem_nil,or_false]at hp
    rcases hp with rfl|rfl|rfl|rfl|rfl|rfl|rfl|rfl|rfl|rfl|rfl|rfl<;>first|exact isV_lasts|exact isC_lasts
   ·refine allLt_succ (allLt_succ (allLt_succ (allLt_succ (allLt_succ (allLt_succ (allLt_succ (allLt_succ (allLt_succ (allLt_succ (allLt_succ (allLt_succ (allLt_zero _) ?_) ?_) ?_) ?_) ?_) ?_) ?_) ?_) ?_) ?_) ?_) ?_
    ·refine StepOk2.run (get_lit rfl) rfl fun a W hS hB hd hE=> ?_
     have e12:a.tmps[12]? =some (.string (strOfNums p0)):=hE.get (j:=11) rfl rfl rfl rfl
     refine wp_value (c:= .string (strOfNums p0)) ?_ rfl
     go_simp
    ·refine StepOk2.of ?_
     refine StepOk.run (get_lit rfl) rfl fun a W hS hB hd=> ?_
     have e5:=hS.get (t:=5) rfl rfl
     refine wp_value (c:= .pointer (some ⟨b5,2,none⟩)) ?_ rfl
     go_simp
    ·refine StepOk2.of ?_
     refine StepOk.run (get_lit rfl) rfl fun a W hS hB hd=> ?_
     have e76:=(hd 1 rfl).bool rfl rfl rfl
     refine wp_value (c:= .int .u64 x2) ?_ rfl
     have hx:=blk_below HBX.out hB
     have hcW:=bcl hx 2 rfl
     go_simp
    ·refine StepOk2.of ?_
     refine StepOk.run (get_lit rfl) rfl fun a W hS hB hd=> ?_
     have e77:=(hd 2 rfl).bool rfl rfl rfl
     refine wp_called Tryz.func58 (by kernel_rfl) rfl #[.int .u64 x2] rfl (by simp[Act.eval, *]) ?_
     refine(HQ2.out W).mono ?_
     rintro e w9 ⟨rfl,hb9⟩
     exact⟨_,rfl,rfl,hb9⟩
    ·refine StepOk2.of ?_
     refine StepOk.run (get_lit rfl) rfl fun a W hS hB hd=> ?_
     have e75:=(hd 0 rfl).bool rfl rfl rfl
     have e78:=(hd 3 rfl).bool rfl rfl rfl
     refine wp_value (c:= .string (strOfNums (p0++q2))) ?_ rfl
     have hadd:=HAD2.out W
     go_simp
    ·refine StepOk2.of ?_
     refine StepOk.run (get_lit rfl) rfl fun a W hS hB hd=> ?_
     have e5:=hS.get (t:=5) rfl rfl
     refine wp_value (c:= .pointer (some ⟨b5,3,none⟩)) ?_ rfl
     go_simp
    ·refine StepOk2.of ?_
     refine StepOk.run (get_lit rfl) rfl fun a W hS hB hd=> ?_
     have e80:=(hd 5 rfl).bool rfl rfl rfl
     refine wp_value (c:= .slice B l.length d) ?_ rfl
     have hx:=blk_below HBX.out hB
     have hcW:=bcl hx 3 rfl
     go_simp
    ·refine StepOk2.of ?_
     refine StepOk.run (get_lit rfl) rfl fun a W hS hB hd=> ?_
     have e81:=(hd 6 rfl).bool rfl rfl rfl
     refine wp_value (c:= .int .i64 (l.length:Int)) ?_ rfl
     go_simp
    ·refine StepOk2.of ?_
     refine StepOk.run (get_lit rfl) rfl fun a W hS hB hd=> ?_
     have e82:=(hd 7 rfl).bool rfl rfl rfl
     refine wp_value (c:= .int .u64 (l.length:Int)) ?_ rfl
     have hw:=HLW.out
     go_simp
    ·refine StepOk2.of ?_
     refine StepOk.run (get_lit rfl) rfl fun a W hS hB hd=> ?_
     have e83:=(hd 8 rfl).bool rfl rfl rfl
     refine wp_called Tryz.func58 (by kernel_rfl) rfl #[.int .u64 (l.length:Int)] rfl (by simp[Act.eval, *]) ?_
     refine(HQ3.out W).mono ?_
     rintro e w9 ⟨rfl,hb9⟩
     exact⟨_,rfl,rfl,hb9⟩
    ·refine StepOk2.of ?_
     refine StepOk.run (get_lit rfl) rfl fun a W hS hB hd=> ?_
     have e79:=(hd 4 rfl).bool rfl rfl rfl
     have e84:=(hd 9 rfl).bool rfl rfl rfl
     refine wp_value (c:= .string (strOfNums (p0++q2++q3))) ?_ rfl
     have hadd:=HAD3.out W
     go_simp
    ·refine StepOk2.of ?_
     refine StepOk.run (get_lit rfl) rfl fun a W hS hB hd=> ?_
     have e85:=(hd 10 rfl).bool rfl rfl rfl
     refine wp_value (c:= .string (strOfNums (p0++q2++q3))) ?_ rfl
     go_simp
   ·intro a W hS hB hh
    have e12:a.tmps[12]? =some (.string (strOfNums (p0++q2++q3))):=(hh 11 (by omega)).bool rfl rfl rfl
    have HBR:=hQ hB
    obtain⟨zz,hlit,hzz⟩:=same_litz hS
    clear hh hS hB
    simp only[List.filterMap_cons,List.filterMap_nil,List.foldl_cons,List.foldl_nil,List.setIfInBounds_toArray,List.set_cons_zero,List.set_cons_succ]at hlit
    rw[hzz 12 _ e12]at hlit
    clear e12
    clear hzz;subst hlit
    rw[HPP.out]
    have HX2:=hQ (HX.out.below HBR.out)
    clear HBX HX HQ2 HQ3 HAD2 HAD3
    have y3:=bcl HX2.out.box 3 rfl
    go_wp2_with fail
    clear y3
    go_loopw [12,13] (fun u12 u13 wr=>∃(i:Nat),i≤l.length∧u13= .int .i64 (i:Int)∧u12= .string (strOfNums (P++depsE v T2 (l.take i)))∧Hid (RPSt Wq wr b5 #[.int .i64 k0,.string x1,.int .u64 x2,.slice B l.length d,.int .u64 x4,.int .u64 x5,.string x6] A2 c2 T2 (.slice A2 T2.length c2) T2 (.slice (some ⟨b5+1,0,none⟩) 0 0) ([]:List (List Int)) (.slice none 0 0) [])) (fun _ u _=>l.length-(intOf u).toNat)
    case atStart=>exact⟨0,by omega,rfl,by simp[depsE],HX2⟩
    case round=>
     clear HX2
     obtain⟨i,hi,rfl,rfl,H⟩:=hrel
     have y3:=bcl H.out.box 3 rfl
     by_cases hlt:i<l.length
     ·have hdl:decide ((i:Int)<(l.length:Int))=true:=decide_eq_true (by omega)
      obtain⟨ad,hAd,g0,g1,g2⟩:=at_T129 (Kd.C_below HRO.out H.out.bl) (i:Int) (by omega) (by omega)
      subst hAd
      obtain⟨dd,hdd⟩:=eX (l[i])
      have hrd:rd_T129 l (i:Int)=dd:=by simp[rd_T129,hlt,hdd]
      rw[hrd,Int.toNat_natCast]at g0 g1 g2
      have hmem:dd∈l:=hdd ▸ List.getElem_mem _
      have htk:=depsE_take v T2 l i hlt
      rw[hdd]at htk
      have hdf:=HM.out.d dd hmem
      have hdg:=HDR.out dd hmem
      have hdn:v≠1→dd.f0∈T2:=fun h=>HIN.out h dd.f0 (by unfold namesL;rw[List.mem_append];exact .inl (List.mem_cons_of_mem _ (List.mem_map.2 ⟨dd,hmem,rfl⟩)))
      have hle:=depsE_len v T2 (by omega) (l.take i) (fun y hy=>⟨(HM.out.d y (List.mem_of_mem_take hy)).2.1,(HDR.out y (List.mem_of_mem_take hy)).2⟩)
      rw[List.length_take]at hle
      obtain⟨s,hh,o⟩:=dd
      dsimp only at g0 g1 g2 hdf hdg hdn htk
      obtain⟨PD,hPD⟩:=eX (P++depsE v T2 (l.take i))
      have lPD:PD.length≤2000:=by rw[←hPD,List.length_append];omega
      have hnx:P++depsE v T2 (l.take (i+1))=(PD++depE v T2 ⟨s,hh,o⟩)++ints (vb hh.toNat):=by rw[htk,←hPD];simp only[List.append_assoc]
      rw[hPD]
      have hDe:=depE_len v T2 (by omega) ⟨s,hh,o⟩ hdf.2.1
      have hHe:=vbI_len hh hdg.2
      have HPU:=hQ (fun(W':World)=>put1_any hh hdg W')
      have HNX:=hQ hnx
      have hC2r:Kd.C Kd.string wr A2 T2.length T2:=by
       obtain⟨A2',c2',e,_,h2⟩:=H.out.tab
       injection e with e1 e2 e3
       subst e1
       exact h2
      have HTX:=hQ (fun(W':World) (hb:Below wr.heap.size wr W')=>rtext9_any v A2 c2 T2 s W' (Kd.C_below hC2r hb) hc2 (by omega) (by have:=hdf.2.1;omega) hdn)
      have hde:depE v T2 ⟨s,hh,o⟩=textE v T2 s:=by unfold depE;rw[if_pos (by have:=HV.out;omega)]
      rw[hde]at hDe HNX
      clear htk hdd hrd hmem hdf hdg hdn hle hPD hnx hC2r hde
      generalize textE v T2 s=t1 at*
      generalize ints (vb hh.toNat)=t2 at*
      have hadd1:=add_str PD t1 (by omega)
      have hadd2:=add_str (PD++t1) t2 (by rw[List.length_append];omega)
      have hba:Below wr.heap.size wr (wr.alloc (.cells #[.string s,.int .u64 hh,.bool o] 129)):=(Below.refl _ _).alloc (Nat.le_refl _) _
      have hka:(wr.alloc (.cells #[.string s,.int .u64 hh,.bool o] 129)).heap[wr.heap.size]? =some (.cells #[.string s,.int .u64 hh,.bool o] 129 (0,0)):=heap_new _ _
      have HBA:=hQ hba
      have HKA:=hQ hka
      clear hba hka
      go_wp2_with fail
      refine(HTX.out _ HBA.out).mono ?_
      rintro e wb ⟨rfl,hb⟩
      have hk:=blk_below HKA.out hb
      have e1:wb.cell? ⟨wr.heap.size,1,none⟩=some (.int .u64 hh):=(blk_cell hk 1).trans rfl
      have HB1:=hQ (HBA.out.trans (hb.mono HBA.out.size))
      clear hb hk g0 g1 g2
      go_wp2_with fail
      refine(HPU.out wb).mono ?_
      rintro e wc ⟨rfl,hb⟩
      have HH:=hQ (H.out.below (HB1.out.trans (hb.mono HB1.out.size)))
      clear hb e1
      go_wp2_with fail
      go_roundw
      case rel=>exact⟨i+1,by omega,by go_num,by rw[HNX.out,List.append_assoc],HH⟩
      case measure=>simp[intOf];omega
     ·obtain rfl:i=l.length:=by omega
      have hdl:decide ((l.length:Int)<(l.length:Int))=false:=decide_eq_false (by omega)
      rw[List.take_length]
      obtain⟨PE,hPE⟩:=eX (P++depsE v T2 l)
      have hle:=depsE_len v T2 (by omega) l (fun y hy=>⟨(HM.out.d y hy).2.1,(HDR.out y hy).2⟩)
      have lPE:PE.length≤2000:=by rw[←hPE,List.length_append];omega
      rw[hPE]
      obtain⟨q4,hq4⟩:=eX (ints (vb x4.toNat))
      obtain⟨q5,hq5⟩:=eX (ints (vb x5.toNat))
      have l4:q4.length≤10:=by rw[←hq4];exact vbI_len x4 HR4.out.2
      have l5:q5.length≤10:=by rw[←hq5];exact vbI_len x5 HR5.out.2
      have HQ4:=hQ (fun(W':World)=>put1_any x4 HR4.out W')
      have HQ5:=hQ (fun(W':World)=>put1_any x5 HR5.out W')
      rw[hq4]at HQ4
      rw[hq5]at HQ5
      have hadd4:=add_str PE q4 (by omega)
      have hadd5:=add_str (PE++q4) q5 (by rw[List.length_append];omega)
      have HPE:=hQ hPE
      have HQ45:=hQ (And.intro hq4 hq5)
      clear hPE hle hq4 hq5
      have y4:=bcl H.out.box 4 rfl
      go_wp2_with fail
      refine(HQ4.out wr).mono ?_
      rintro e wb ⟨rfl,hb⟩
      have HZ:=hQ (H.out.below hb)
      clear hb y3 y4
      have HLE:Hid (lastE v T2 k0 x1 x2 l x4 x5 x6=PE++q4):=hQ (by
       unfold lastE bodyE
       rw[if_neg HKN.out.2,if_neg (show ¬2≤v by have:=HV.out;omega),if_neg (show ¬3≤v by have:=HV.out;omega),←HPE.out,←HPP.out,←HP0.out,←HQE.out.1,←HQE.out.2.1,←HQE.out.2.2.1,←HQE.out.2.2.2,←HQ45.out.1,HKN.out.1,Int.toNat_natCast]
       rw[show ints (vb ((1:Int).toNat))=[1] from vb_k 1 (by omega)]
       simp only[List.append_assoc,List.append_nil])
      have hmr:(([]:List (List Int)).map strOfNums).length≤1000000:=by rw[List.length_map];have:=HRL.out;omega
      go_wp2_with (at_builtin;refine Halt.mk ?_)
      refine Halt.of ?_
      have hb4:Below wb.heap.size wb (wb.alloc (.cells #[.string (strOfNums (PE++q4))] 9)):=(Below.refl _ _).alloc (Nat.le_refl _) _
      have hk4:(wb.alloc (.cells #[.string (strOfNums (PE++q4))] 9)).heap[wb.heap.size]? =some (.cells #[.string (strOfNums (PE++q4))] 9 (0,0)):=heap_new _ _
      have hZ4:=HZ.out.below hb4
      refine Kd.R_append_rows Kd.string (w0:=Wq) Wq.heap.size rfl (.tmp 164) (.tmp 166) 52 9 (.string ⟨#[]⟩) 16 rfl Tryz.underlying52 info_str9 rfl (by decide) (by omega) _ (([]:List (List Int)).map strOfNums) [strOfNums (PE++q4)] _ _ _ (fun _=>True) (fun _=>False) rfl rfl hZ4.rw (row_val _ hk4) ?_ (fun _ h=>h.elim) (fun _ _=>trivial) hZ4.bl hZ4.bl.size (by omega) ?_
      ·rintro _ _ ⟨rfl,rfl⟩;rfl
      intro v6 w6 hR6 hb6 hg6 hat6
      have e6:([]:List (List Int)).map strOfNums++[strOfNums (PE++q4)]=((([]:List (List Int))++[(PE++q4)]).map strOfNums):=by rw[List.map_append];rfl
      rw[e6]at hR6
      have h6:=hZ4.pushed hR6 hb6 hg6 hat6
      obtain⟨A8,c8,e8,hc8,hC8⟩:=h6.tab
      obtain⟨rfl,_,rfl⟩:A2=A8∧T2.length=T2.length∧c2=c8:=by injection e8 with a1 a2 a3;exact⟨a1,a2,a3⟩
      have HE:=hQ (And.intro h6 (And.intro hc8 hC8))
      obtain⟨Ar,cr,e9⟩:=Kd.R_slice hR6
      subst e9
      clear hR6 hb6 hg6 hat6 e6 h6 e8 hc8 hC8 hb4 hk4 hZ4
      go_wp2_with fail
      go_ret3
      obtain⟨h6,hc8,hC8⟩:=HE.out
      refine⟨_,A2,c2,rfl, ?_,hc8,hC8,h6.bl,h6.tb.imp (fun h=>by obtain⟨e1,e2⟩:=h;injection e2 with a1 a2 a3;exact⟨a1,a3,e1⟩) (fun hR=>Kd.R_mono hR (fun _ _=>trivial))⟩
      have h9:=h6.rw
      show Kd.R Kd.string 9 _ _ _ _ ((moreE T2 T2++[lastE v T2 k0 x1 x2 l x4 x5 x6]).map strOfNums)
      rw[HLE.out]
      first|exact h9|(rw[moreE_self];exact h9)
  ·have hkd:(k0==1)=false:=by rw[hk];rfl
   have hkd2:decide (k0=1)=false:=decide_eq_false (by omega)
   have y0:=bcl HBX.out 0 rfl
   have HZ:=HX
   have HLE:Hid (lastE v T2 k0 x1 x2 l x4 x5 x6=p0):=hQ (by
    unfold lastE
    rw[if_pos hk,List.append_nil,←HP0.out,←HQE.out.1,←HQE.out.2.1,hk]
    rw[show ints (vb ((2:Int).toNat))=[2] from vb_k 2 (by omega)])
   clear hk
   have hmr:(([]:List (List Int)).map strOfNums).length≤1000000:=by rw[List.length_map];have:=HRL.out;omega
   go_wp2_with (at_builtin;refine Halt.mk ?_)
   refine Halt.of ?_
   have hb4:Below W.heap.size W (W.alloc (.cells #[.string (strOfNums p0)] 9)):=(Below.refl _ _).alloc (Nat.le_refl _) _
   have hk4:(W.alloc (.cells #[.string (strOfNums p0)] 9)).heap[W.heap.size]? =some (.cells #[.string (strOfNums p0)] 9 (0,0)):=heap_new _ _
   have hZ4:=HZ.out.below hb4
   refine Kd.R_append_rows Kd.string (w0:=Wq) Wq.heap.size rfl (.tmp 164) (.tmp 166) 52 9 (.string ⟨#[]⟩) 16 rfl Tryz.underlying52 info_str9 rfl (by decide) (by omega) _ (([]:List (List Int)).map strOfNums) [strOfNums p0] _ _ _ (fun _=>True) (fun _=>False) rfl rfl hZ4.rw (row_val _ hk4) ?_ (fun _ h=>h.elim) (fun _ _=>trivial) hZ4.bl hZ4.bl.size (by omega) ?_
   ·rintro _ _ ⟨rfl,rfl⟩;rfl
   intro v6 w6 hR6 hb6 hg6 hat6
   have e6:([]:List (List Int)).map strOfNums++[strOfNums p0]=((([]:List (List Int))++[p0]).map strOfNums):=by rw[List.map_append];rfl
   rw[e6]at hR6
   have h6:=hZ4.pushed hR6 hb6 hg6 hat6
   obtain⟨A8,c8,e8,hc8,hC8⟩:=h6.tab
   obtain⟨rfl,_,rfl⟩:A2=A8∧T2.length=T2.length∧c2=c8:=by injection e8 with a1 a2 a3;exact⟨a1,a2,a3⟩
   have HE:=hQ (And.intro h6 (And.intro hc8 hC8))
   obtain⟨Ar,cr,e9⟩:=Kd.R_slice hR6
   subst e9
   clear hR6 hb6 hg6 hat6 e6 h6 e8 hc8 hC8 hb4 hk4 hZ4
   go_wp2_with fail
   go_ret3
   obtain⟨h6,hc8,hC8⟩:=HE.out
   refine⟨_,A2,c2,rfl, ?_,hc8,hC8,h6.bl,h6.tb.imp (fun h=>by obtain⟨e1,e2⟩:=h;injection e2 with a1 a2 a3;exact⟨a1,a3,e1⟩) (fun hR=>Kd.R_mono hR (fun _ _=>trivial))⟩
   have h9:=h6.rw
   show Kd.R Kd.string 9 _ _ _ _ ((moreE T2 T2++[lastE v T2 k0 x1 x2 l x4 x5 x6]).map strOfNums)
   rw[HLE.out]
   first|exact h9|(rw[moreE_self];exact h9)
theorem rput9_2 (Wq:World) (v:Int) (A:Option Addr) (c:Nat) (T:List ByteArray) (hC:Kd.C Kd.string Wq A T.length T) (hc:T.length≤c) (hT:T.length≤100000) (k0:Int) (x1:ByteArray) (x2:Int) (B:Option Addr) (d:Nat) (l:List S129) (x4 x5:Int) (x6:ByteArray)
  (hrow:Kd.C k129 Wq B l.length l) (hd:l.length≤d) (hok:RecOk x1 l x6) (hv:v=2) (hm:mayB v k0 x1 x2 l x4 x5 x6=true) (h2:0≤x2∧x2<18446744073709551616) (h4:0≤x4∧x4<18446744073709551616) (h5:0≤x5∧x5<18446744073709551616) (hdr: ∀y∈l,0≤y.f1∧y.f1<18446744073709551616):
  Calls Tryz.prog 30 #[.int .i64 v,.slice A T.length c,.agg #[.int .i64 k0,.string x1,.int .u64 x2,.slice B l.length d,.int .u64 x4,.int .u64 x5,.string x6]] Wq (RPutPost Wq A c T (putF v T k0 x1 x2 l x4 x5 x6)):=by
 have hpf:putF v T k0 x1 x2 l x4 x5 x6=((moreE T (tnewOn T (tnew (namesL x1 l x6))))++[lastE v (tnewOn T (tnew (namesL x1 l x6))) k0 x1 x2 l x4 x5 x6],(tnewOn T (tnew (namesL x1 l x6))),0):=by
  unfold putF
  rw[if_pos (show 1≤v∧v≤3 by omega),if_pos hm]
  rw[if_pos (show 1<v by omega)]
 rw[hpf]
 obtain⟨wz,hwz⟩:=eX ((Wq.alloc (.cells #[.int .i64 k0,.string x1,.int .u64 x2,.slice B l.length d,.int .u64 x4,.int .u64 x5,.string x6] 49)).alloc (.cells #[] 9))
 have hbz:Below Wq.heap.size Wq wz:=by rw[←hwz];exact((Below.refl _ _).alloc (Nat.le_refl _) _).alloc (by rw[heap_size_alloc];omega) _
 have hkz:wz.heap[Wq.heap.size]? =some (.cells #[.int .i64 k0,.string x1,.int .u64 x2,.slice B l.length d,.int .u64 x4,.int .u64 x5,.string x6] 49 (0,0)):=by rw[←hwz,heap_new_old _ _ _ (by rw[heap_size_alloc];omega)];exact heap_new _ _
 have hke:wz.heap[Wq.heap.size+1]? =some (.cells #[] 9 (0,0)):=by rw[←hwz];exact heap_new2 _ _ _
 obtain⟨b5,hb5⟩:=eX (Wq.heap.size)
 rw[hb5]at hkz hke
 have hre:=R_empty Kd.string wz Wq.heap.size (b5+1) 9 (fun _=>True) hke (by omega) trivial
 have M:=may_facts hm
 have HMY:=hQ (rmay_any v k0 x1 x2 l x4 x5 x6 B d wz (Kd.C_below hrow hbz))
 rw[hm]at HMY
 have HC:=hQ hC
 have HRO:=hQ hrow
 have HBZ:=hQ hbz
 have HKZ:=hQ hkz
 have HWZ:=hQ hwz
 have HREZ:=hQ hre
 have HB5:=hQ hb5
 have HM:=hQ M
 have HR2:=hQ h2
 have HR4:=hQ h4
 have HR5:=hQ h5
 have HDR:=hQ hdr
 have HV:=hQ hv
 have HKW:=hQ (show IntKind.u64.wrap k0=k0 by have:=M.k;rw[IntKind.wrap_u64];omega)
 have HLW:=hQ (show IntKind.u64.wrap (l.length:Int)=(l.length:Int)by have:=M.n;rw[IntKind.wrap_u64];omega)
 have hln:l.length≤16:=M.n
 have HNM:=hQ (fun(Wq':World) (hb:Below Wq.heap.size Wq Wq')=>tephraref08_Names.calls 6001 k0 x1 x2 B d l x4 x5 x6 _ Wq' (Kd.C_below hrow hb) hd (names_is k0 x1 x2 l x4 x5 x6 (by omega) _ (by omega)))
 have d1:decide (v<1)=false:=decide_eq_false (by omega)
 have d3:decide (3<v)=false:=decide_eq_false (by omega)
 have d2:decide (1<v)=true:=decide_eq_true (by omega)
 have d4:decide (v<3)=true:=decide_eq_true (by omega)
 have d5:decide (2<v)=false:=decide_eq_false (by omega)
 clear hpf hC hrow hbz hkz hke hre hwz hb5 M h2 h4 h5 hdr hm hv hok
 go_enter Tryz.func30,Tryz.ntmps30
 go_wp2_with fail
 rw[HWZ.out,HB5.out]
 refine HMY.out.mono ?_
 rintro e wa ⟨rfl,hb⟩
 have HBA:=hQ (HBZ.out.trans (hb.mono HBZ.out.size))
 have HBX:=hQ (blk_below HKZ.out hb)
 have HRE:=hQ (Kd.R_below HREZ.out hb)
 clear hb HREZ HWZ HKZ
 obtain⟨y0,y1,y2,y3,y4,y5,y6⟩:=facts7 HBX.out
 go_wp2_with fail
 clear y0 y1 y2 y3 y4 y5 y6
 refine(HNM.out wa HBA.out).mono ?_
 rintro e wb ⟨vn,rfl,hRn,hb⟩
 obtain⟨An,cn,rfl⟩:=Kd.R_slice hRn
 have HNS:=hQ (names_few (x1:=x1) (l:=l) (x6:=x6) HM.out.t.2 HM.out.n (fun d hd=>(HM.out.d d hd).2.1) HM.out.tag.1)
 generalize hns:tnew (namesL x1 l x6)=ns at*
 have HNN:=hQ hns
 have hbb:Below Wq.heap.size Wq wb:=HBA.out.trans (hb.mono HBA.out.size)
 have hsa:b5+1<wa.heap.size:=(own_typed_R HRE.out (b5+1) rfl).2.1
 have hst:RPSt Wq wb b5 #[.int .i64 k0,.string x1,.int .u64 x2,.slice B l.length d,.int .u64 x4,.int .u64 x5,.string x6] A c T (.slice A T.length c) T (.slice (some ⟨b5+1,0,none⟩) 0 0) [] (.slice An ns.length cn) ns:=
  ⟨hbb,blk_below HBX.out hb,⟨HC.out,hc⟩,.inl ⟨rfl,rfl⟩,Kd.R_below HRE.out hb,Kd.R_mono (Kd.R_lower (Kd.R_bound hRn) HBA.out.size) (fun k hk e=>by injection e with e;replace e:k=b5+1:=e;have:=hk.2.1;have:=HB5.out;omega)⟩
 have HST:=hQ hst
 clear hb hbb hRn hst hns HBX HRE HNM HBA hsa
 go_wp2_with fail
 go_loopw [1,9,11] (fun u1 u9 u11 wr=>∃(i:Nat),i≤ns.length∧u11= .int .i64 (i:Int)∧Hid (RPSt Wq wr b5 #[.int .i64 k0,.string x1,.int .u64 x2,.slice B l.length d,.int .u64 x4,.int .u64 x5,.string x6] A c T u1 (tnewOn T (ns.take i)) u9 (moreE T (tnewOn T (ns.take i))) (.slice An ns.length cn) ns)) (fun _ _ u _=>ns.length-(intOf u).toNat)
 case atStart=>exact⟨0,by omega,rfl,hQ (by rw[List.take_zero,show tnewOn T []=T from rfl,moreE_self];exact HST.out)⟩
 case round=>
  clear HST
  obtain⟨i,hi,rfl,H⟩:=hrel
  have hn18:=HNS.out.1
  by_cases hlt:i<ns.length
  ·have hdl:decide ((i:Int)<(ns.length:Int))=true:=decide_eq_true (by omega)
   obtain⟨adn,hAn,hcell⟩:=Kd.at_string (Kd.R_reads' H.out.nm).2.2 (i:Int) (by omega) (by omega)
   subst hAn
   rw[Int.toNat_natCast]at hcell
   obtain⟨s,hs⟩:=eX (ns[i])
   have hrd:rdOf ByteArray.empty ns (i:Int)=s:=by simp[rdOf,hlt,hs]
   rw[hrd]at hcell
   have HRD:=hQ hrd
   have hsz:=HNS.out.2 s (hs ▸ List.getElem_mem _)
   have htk:=tnewOn_take T ns i hlt
   rw[hs]at htk
   have hll:=tnewOn_len T (ns.take i)
   have hge:=tnewOn_ge T (ns.take i)
   rw[List.length_take]at hll
   generalize tnewOn T (ns.take i)=L at*
   obtain⟨A2,c2,rfl,hc2,hC2⟩:=H.out.tab
   have HPL:=hQ (tephraref07_Place.calls (L.length+1) A2 c2 L s (posI8 L s) wr hC2 hc2 (place_is8 L (by omega) s _ (by omega)))
   have hpd:decide (posI8 L s<0)= !(isIn L s):=by
    unfold posI8
    cases isIn L s with
    |true=>simp
    |false=>simp
   have HTK:=hQ htk
   have HSZ:=hQ (And.intro hsz (And.intro hll hge))
   clear hrd hs htk hsz hll hge hC2
   by_cases hin:s∈L
   ·rw[isIn_iff.2 hin,Bool.not_true]at hpd
    have HMO:=hQ (And.intro (moreE_in (T:=T) hin) (tput_in hin))
    generalize posI8 L s=q at HPL hpd
    clear hin
    go_wp2_with fail
    refine HPL.out.mono ?_
    rintro e wc ⟨rfl,hdr⟩
    have hb:=hdr.below
    have HH:=hQ (H.out.below hb)
    clear hdr hb hcell
    go_wp2_with fail
    go_roundw
    case rel=>exact⟨i+1,by omega,by go_num,hQ (by rw[HTK.out,HMO.out.2];exact HH.out)⟩
    case measure=>simp[intOf];omega
   ·rw[isIn_ne.2 hin,Bool.not_false]at hpd
    have HMO:=hQ (moreE_out (T:=T) HSZ.out.2.2 hin)
    have hadd:=add_def s (by have:=HSZ.out.1;omega)
    have HNI:=hQ hin
    generalize posI8 L s=q at HPL hpd
    clear hin
    go_wp2_with fail
    refine HPL.out.mono ?_
    rintro e wc ⟨rfl,hdr⟩
    have hb:=hdr.below
    have HH:=hQ (H.out.below hb)
    have hcell2:=pw_cell_below hb hcell
    clear hdr hb hcell
    obtain⟨A9,c9,e9⟩:=Kd.R_slice HH.out.rw
    rw[List.length_map]at e9
    subst e9
    have hmr:((moreE T L).map strOfNums).length≤1000000:=by have:=HSZ.out.2.1;rw[List.length_map];unfold moreE;rw[List.length_map,List.length_drop];omega
    go_wp2_with (at_builtin;refine Halt.mk ?_)
    refine Halt.of ?_
    have hb4:Below wc.heap.size wc (wc.alloc (.cells #[.string (strOfNums (defE s))] 9)):=(Below.refl _ _).alloc (Nat.le_refl _) _
    have hk4:(wc.alloc (.cells #[.string (strOfNums (defE s))] 9)).heap[wc.heap.size]? =some (.cells #[.string (strOfNums (defE s))] 9 (0,0)):=heap_new _ _
    have hH4:=HH.out.below hb4
    refine Kd.R_append_rows Kd.string (w0:=Wq) Wq.heap.size rfl (.tmp 48) (.tmp 54) 52 9 (.string ⟨#[]⟩) 16 rfl Tryz.underlying52 info_str9 rfl (by decide) (by omega) _ ((moreE T L).map strOfNums) [strOfNums (defE s)] _ _ _ (fun _=>True) (fun _=>False) rfl rfl hH4.rw (row_val _ hk4) ?_ (fun _ h=>h.elim) (fun _ _=>trivial) hH4.bl hH4.bl.size (by omega) ?_
    ·rintro _ _ ⟨rfl,rfl⟩;rfl
    intro v6 w6 hR6 hb6 hg6 hat6
    have e6:(moreE T L).map strOfNums++[strOfNums (defE s)]=((moreE T L++[defE s]).map strOfNums):=by rw[List.map_append];rfl
    rw[e6]at hR6
    have h6:=hH4.pushed hR6 hb6 hg6 hat6
    obtain⟨A6,c6,e6v,hc6,hC6⟩:=h6.tab
    obtain⟨rfl,_,rfl⟩:A2=A6∧L.length=L.length∧c2=c6:=by injection e6v with a1 a2 a3;exact⟨a1,a2,a3⟩
    have HTP:=hQ (rtput_any A2 c2 L s w6 hC6 hc6 (by have:=HSZ.out.2.1;omega))
    obtain⟨ad9,hA9,hcell6⟩:=Kd.at_string (Kd.R_reads' h6.nm).2.2 (i:Int) (by omega) (by omega)
    obtain rfl:adn=ad9:=Option.some.inj hA9
    rw[Int.toNat_natCast,HRD.out]at hcell6
    have H6:=hQ h6
    clear hR6 hb6 hg6 hat6 e6 h6 e6v hC6 hA9 hb4 hk4 hH4 hcell2 hadd HPL
    go_wp2_with fail
    refine HTP.out.mono ?_
    rintro e w7 ⟨A7,c7,rfl,hc7,hC7,hb7,hR7⟩
    have H7:=hQ (H6.out.tabled hb7 (hR7 HNI.out))
    clear hC7 hb7 hR7 hcell6 HTP H6
    go_wp2_with fail
    go_roundw
    case rel=>exact⟨i+1,by omega,by go_num,hQ (by rw[HTK.out,HMO.out];exact H7.out)⟩
    case measure=>simp[intOf];omega
  ·obtain rfl:i=ns.length:=by omega
   rw[List.take_of_length_le (Nat.le_refl _)]at H
   have hrl:(moreE T (tnewOn T ns)).length≤100:=by unfold moreE;rw[List.length_map,List.length_drop];have:=tnewOn_len T ns;omega
   have hin:v≠1→∀s∈namesL x1 l x6,s∈tnewOn T ns:=fun _ s hs=>by rw[mem_tnewOn,←HNN.out,mem_tnew];exact .inr hs
   have hT2:(tnewOn T ns).length≤200000:=by have:=tnewOn_len T ns;omega
   generalize tnewOn T ns=T2 at*
   generalize moreE T T2=rows at*
   obtain⟨A9,c9,e9⟩:=Kd.R_slice H.out.rw
   rw[List.length_map]at e9
   subst e9
   obtain⟨A2,c2,e2,hc2,hC2⟩:=H.out.tab
   subst e2
   have HC2:=hQ hC2
   have HRW:=hQ hrl
   have HRL:=hQ hrl
   have HIN:=hQ hin
   obtain⟨q0,hq0⟩:=eX (ints (vb k0.toNat))
   obtain⟨q1,hq1⟩:=eX (textE v T2 x1)
   obtain⟨q2,hq2⟩:=eX (ints (vb x2.toNat))
   obtain⟨q3,hq3⟩:=eX (ints (vb ((l.length:Int)).toNat))
   have hK:=HM.out.k
   have l0:q0.length≤10:=by rw[←hq0];exact vbI_len k0 (by omega)
   have l1:q1.length≤74:=by rw[←hq1];exact textE_len v T2 (by omega) x1 HM.out.t.2
   have l2:q2.length≤10:=by rw[←hq2];exact vbI_len x2 HR2.out.2
   have l3:q3.length≤10:=by rw[←hq3];exact vbI_len (l.length:Int) (by omega)
   have HQ0:=hQ (fun(W':World)=>put1_any k0 (by omega) W')
   have HQ1:=hQ (fun(W':World) (hb:Below wr.heap.size wr W')=>rtext9_any v A2 c2 T2 x1 W' (Kd.C_below HC2.out hb) hc2 (by omega) (by have:=HM.out.t.2;omega) (fun h=>hin h x1 (by unfold namesL;simp)))
   have HQ2:=hQ (fun(W':World)=>put1_any x2 HR2.out W')
   have HQ3:=hQ (fun(W':World)=>put1_any (l.length:Int) (by omega) W')
   rw[hq0]at HQ0
   rw[hq1]at HQ1
   rw[hq2]at HQ2
   rw[hq3]at HQ3
   have HAD:=hQ (add_str q0 q1 (by omega))
   obtain⟨p0,hp0⟩:=eX (q0++q1)
   have lp0:p0.length≤84:=by rw[←hp0,List.length_append];omega
   have HAD2:=hQ (add_str p0 q2 (by omega))
   have HAD3:=hQ (add_str (p0++q2) q3 (by rw[List.length_append];omega))
   obtain⟨P,hP⟩:=eX (p0++q2++q3)
   have lP:P.length≤104:=by rw[←hP,List.length_append,List.length_append];omega
   have HQE:=hQ (And.intro hq0 (And.intro hq1 (And.intro hq2 hq3)))
   have HP0:=hQ hp0
   have HPP:=hQ hP
   have HBX:=hQ H.out.box
   have HKK:=hQ hK
   clear hC2 hq0 hq1 hq2 hq3 hp0 hP hin hK
   go_wp2_with fail
   refine region_calm (n:=11) (byList [isV (.pointer (some ⟨b5,0,none⟩)),isV (.int .i64 k0),isV (.int .u64 k0),isV (.string (strOfNums q0)),isV (.int .i64 v),isV (.slice A2 T2.length c2),isV (.pointer (some ⟨b5,1,none⟩)),isV (.string x1),isV (.string (strOfNums q1)),isV (.string (strOfNums (q0++q1))),isV (.string (strOfNums (q0++q1)))]) (by kernel_rfl) rfl (byList_lasts ?_) (by kernel_rfl) (by kernel_rfl) (by kernel_rfl) (show AllLt 11 _ from ?_) ?_
   ·intro p hp
    simp only[List.mem_cons,List.not_mem_nil,or_false]at hp
    rcases hp with rfl|rfl|rfl|rfl|rfl|rfl|rfl|rfl|rfl|rfl|rfl<;>first|exact isV_lasts|exact isC_lasts
   ·refine allLt_succ (allLt_succ (allLt_succ (allLt_succ (allLt_succ (allLt_succ (allLt_succ (allLt_succ (allLt_succ (allLt_succ (allLt_succ (allLt_zero _) ?_) ?_) ?_) ?_) ?_) ?_) ?_) ?_) ?_) ?_) ?_
    ·refine StepOk.run (get_lit rfl) rfl fun a W hS hB hd=> ?_
     have e5:=hS.get (t:=5) rfl rfl
     refine wp_value (c:= .pointer (some ⟨b5,0,none⟩)) ?_ rfl
     go_simp
    ·refine StepOk.run (get_lit rfl) rfl fun a W hS hB hd=> ?_
     have e62:=(hd 0 rfl).bool rfl rfl rfl
     refine wp_value (c:= .int .i64 k0) ?_ rfl
     have hx:=blk_below HBX.out hB
     have hcW:=bcl hx 0 rfl
     go_simp
    ·refine StepOk.run (get_lit rfl) rfl fun a W hS hB hd=> ?_
     have e63:=(hd 1 rfl).bool rfl rfl rfl
     refine wp_value (c:= .int .u64 k0) ?_ rfl
     have hw:=HKW.out
     go_simp
    ·refine StepOk.run (get_lit rfl) rfl fun a W hS hB hd=> ?_
     have e64:=(hd 2 rfl).bool rfl rfl rfl
     refine wp_called Tryz.func58 (by kernel_rfl) rfl #[.int .u64 k0] rfl (by simp[Act.eval, *]) ?_
     refine(HQ0.out W).mono ?_
     rintro e w9 ⟨rfl,hb9⟩
     exact⟨_,rfl,rfl,hb9⟩
    ·refine StepOk.run (get_lit rfl) rfl fun a W hS hB hd=> ?_
     have e0:=hS.get (t:=0) rfl rfl
     refine wp_value (c:= .int .i64 v) ?_ rfl
     go_simp
    ·refine StepOk.run (get_lit rfl) rfl fun a W hS hB hd=> ?_
     have e1:=hS.get (t:=1) rfl rfl
     refine wp_value (c:= .slice A2 T2.length c2) ?_ rfl
     go_simp
    ·refine StepOk.run (get_lit rfl) rfl fun a W hS hB hd=> ?_
     have e5:=hS.get (t:=5) rfl rfl
     refine wp_value (c:= .pointer (some ⟨b5,1,none⟩)) ?_ rfl
     go_simp
    ·refine StepOk.run (get_lit rfl) rfl fun a W hS hB hd=> ?_
     have e68:=(hd 6 rfl).bool rfl rfl rfl
     refine wp_value (c:= .string x1) ?_ rfl
     have hx:=blk_below HBX.out hB
     have hcW:=bcl hx 1 rfl
     go_simp
    ·refine StepOk.run (get_lit rfl) rfl fun a W hS hB hd=> ?_
     have e66:=(hd 4 rfl).bool rfl rfl rfl
     have e67:=(hd 5 rfl).bool rfl rfl rfl
     have e69:=(hd 7 rfl).bool rfl rfl rfl
     refine wp_called Tryz.func59 (by kernel_rfl) rfl #[.int .i64 v,.slice A2 T2.length c2,.string x1] rfl (by simp[Act.eval, *]) ?_
     refine(HQ1.out W hB).mono ?_
     rintro e w9 ⟨rfl,hb9⟩
     exact⟨_,rfl,rfl,hb9⟩
    ·refine StepOk.run (get_lit rfl) rfl fun a W hS hB hd=> ?_
     have e65:=(hd 3 rfl).bool rfl rfl rfl
     have e70:=(hd 8 rfl).bool rfl rfl rfl
     refine wp_value (c:= .string (strOfNums (q0++q1))) ?_ rfl
     have hadd:=HAD.out W
     go_simp
    ·refine StepOk.run (get_lit rfl) rfl fun a W hS hB hd=> ?_
     have e71:=(hd 9 rfl).bool rfl rfl rfl
     refine wp_value (c:= .string (strOfNums (q0++q1))) ?_ rfl
     go_simp
   ·intro a W hS hB hh
    have e12:a.tmps[12]? =some (.string (strOfNums (q0++q1))):=(hh 10 (by omega)).bool rfl rfl rfl
    have HBR:=hQ hB
    obtain⟨zz,hlit,hzz⟩:=same_litz hS
    clear hh hS hB
    simp only[List.filterMap_cons,List.filterMap_nil,List.foldl_cons,List.foldl_nil,List.setIfInBounds_toArray,List.set_cons_zero,List.set_cons_succ]at hlit
    rw[hzz 12 _ e12]at hlit
    clear e12
    clear hzz;subst hlit
    have HX:=hQ (H.out.below HBR.out)
    rw[HP0.out]
    clear HBX HQ0 HQ1 HAD H
    have HBX:=hQ HX.out.box
    rcases HKK.out with hk|hk
    ·have hkd:(k0==1)=true:=by rw[hk];rfl
     have hkd2:decide (k0=1)=true:=decide_eq_true hk
     have hkn: ¬k0=2:=by omega
     have HKN:=hQ (And.intro hk hkn)
     clear hk hkn
     have y0:=bcl HBX.out 0 rfl
     go_wp2_with fail
     clear y0
     refine region_calm2 (n:=12) (byList [isV (.string (strOfNums p0)),isV (.pointer (some ⟨b5,2,none⟩)),isV (.int .u64 x2),isV (.string (strOfNums q2)),isV (.string (strOfNums (p0++q2))),isV (.pointer (some ⟨b5,3,none⟩)),isV (.slice B l.length d),isV (.int .i64 (l.length:Int)),isV (.int .u64 (l.length:Int)),isV (.string (strOfNums q3)),isV (.string (strOfNums (p0++q2++q3))),isV (.string (strOfNums (p0++q2++q3)))]) (by kernel_rfl) rfl (byList_lasts ?_) (by kernel_rfl) (by kernel_rfl) (by kernel_rfl) (show AllLt 12 _ from ?_) ?_
     ·intro p hp
      simp only[List.mem_cons,List.not_mem_nil,or_false]at hp
      rcases hp with rfl|rfl|rfl|rfl|rfl|rfl|rfl|rfl|rfl|rfl|rfl|rfl<;>first|exact isV_lasts|exact isC_lasts
     ·refine allLt_succ (allLt_succ (allLt_succ (allLt_succ (allLt_succ (allLt_succ (allLt_succ (allLt_succ (allLt_succ (allLt_succ (allLt_succ (allLt_succ (allLt_zero _) ?_) ?_) ?_) ?_) ?_) ?_) ?_) ?_) ?_) ?_) ?_) ?_
      ·refine StepOk2.run (get_lit rfl) rfl fun a W hS hB hd hE=> ?_
       have e12:a.tmps[12]? =some (.string (strOfNums p0)):=hE.get (j:=11) rfl rfl rfl rfl
       refine wp_value (c:= .string (strOfNums p0)) ?_ rfl
       go_simp
      ·refine StepOk2.of ?_
       refine StepOk.run (get_lit rfl) rfl fun a W hS hB hd=> ?_
       have e5:=hS.get (t:=5) rfl rfl
       refine wp_value (c:= .pointer (some ⟨b5,2,none⟩)) ?_ rfl
       go_simp
      ·refine StepOk2.of ?_
       refine StepOk.run (get_lit rfl) rfl fun a W hS hB hd=> ?_
       have e76:=(hd 1 rfl).bool rfl rfl rfl
       refine wp_value (c:= .int .u64 x2) ?_ rfl
       have hx:=blk_below HBX.out hB
       have hcW:=bcl hx 2 rfl
       go_simp
      ·refine StepOk2.of ?_
       refine StepOk.run (get_lit rfl) rfl fun a W hS hB hd=> ?_
       have e77:=(hd 2 rfl).bool rfl rfl rfl
       refine wp_called Tryz.func58 (by kernel_rfl) rfl #[.int .u64 x2] rfl (by simp[Act.eval, *]) ?_
       refine(HQ2.out W).mono ?_
       rintro e w9 ⟨rfl,hb9⟩
       exact⟨_,rfl,rfl,hb9⟩
      ·refine StepOk2.of ?_
       refine StepOk.run (get_lit rfl) rfl fun a W hS hB hd=> ?_
       have e75:=(hd 0 rfl).bool rfl rfl rfl
       have e78:=(hd 3 rfl).bool rfl rfl rfl
       refine wp_value (c:= .string (strOfNums (p0++q2))) ?_ rfl
       have hadd:=HAD2.out W
       go_simp
      ·refine StepOk2.of ?_
       refine StepOk.run (get_lit rfl) rfl fun a W hS hB hd=> ?_
       have e5:=hS.get (t:=5) rfl rfl
       refine wp_value (c:= .pointer (some ⟨b5,3,none⟩)) ?_ rfl
       go_simp
      ·refine StepOk2.of ?_
       refine StepOk.run (get_lit rfl) rfl fun a W hS hB hd=> ?_
       have e80:=(hd 5 rfl).bool rfl rfl rfl
       refine wp_value (c:= .slice B l.length d) ?_ rfl
       have hx:=blk_below HBX.out hB
       have hcW:=bcl hx 3 rfl
       go_simp
      ·refine StepOk2.of ?_
       refine StepOk.run (get_lit rfl) rfl fun a W hS hB hd=> ?_
       have e81:=(hd 6 rfl).bool rfl rfl rfl
       refine wp_value (c:= .int .i64 (l.length:Int)) ?_ rfl
       go_simp
      ·refine StepOk2.of ?_
       refine StepOk.run (get_lit rfl) rfl fun a W hS hB hd=> ?_
       have e82:=(hd 7 rfl).bool rfl rfl rfl
       refine wp_value (c:= .int .u64 (l.length:Int)) ?_ rfl
       have hw:=HLW.out
       go_simp
      ·refine StepOk2.of ?_
       refine StepOk.run (get_lit rfl) rfl fun a W hS hB hd=> ?_
       have e83:=(hd 8 rfl).bool rfl rfl rfl
       refine wp_called Tryz.func58 (by kernel_rfl) rfl #[.int .u64 (l.length:Int)] rfl (by simp[Act.eval, *]) ?_
       refine(HQ3.out W).mono ?_
       rintro e w9 ⟨rfl,hb9⟩
       exact⟨_,rfl,rfl,hb9⟩
      ·refine StepOk2.of ?_
       refine StepOk.run (get_lit rfl) rfl fun a W hS hB hd=> ?_
       have e79:=(hd 4 rfl).bool rfl rfl rfl
       have e84:=(hd 9 rfl).bool rfl rfl rfl
       refine wp_value (c:= .string (strOfNums (p0++q2++q3))) ?_ rfl
       have hadd:=HAD3.out W
       go_simp
      ·refine StepOk2.of ?_
       refine StepOk.run (get_lit rfl) rfl fun a W hS hB hd=> ?_
       have e85:=(hd 10 rfl).bool rfl rfl rfl
       refine wp_value (c:= .string (strOfNums (p0++q2++q3))) ?_ rfl
       go_simp
     ·intro a W hS hB hh
      have e12:a.tmps[12]? =some (.string (strOfNums (p0++q2++q3))):=(hh 11 (by omega)).bool rfl rfl rfl
      have HBR:=hQ hB
      obtain⟨zz,hlit,hzz⟩:=same_litz hS
      clear hh hS hB
      simp only[List.filterMap_cons,List.filterMap_nil,List.foldl_cons,List.foldl_nil,List.setIfInBounds_toArray,List.set_cons_zero,List.set_cons_succ]at hlit
      rw[hzz 12 _ e12]at hlit
      clear e12
      clear hzz;subst hlit
      rw[HPP.out]
      have HX2:=hQ (HX.out.below HBR.out)
      clear HBX HX HQ2 HQ3 HAD2 HAD3
      have y3:=bcl HX2.out.box 3 rfl
      go_wp2_with fail
      clear y3
      go_loopw [12,13] (fun u12 u13 wr=>∃(i:Nat),i≤l.length∧u13= .int .i64 (i:Int)∧u12= .string (strOfNums (P++depsE v T2 (l.take i)))∧Hid (RPSt Wq wr b5 #[.int .i64 k0,.string x1,.int .u64 x2,.slice B l.length d,.int .u64 x4,.int .u64 x5,.string x6] A c T (.slice A2 T2.length c2) T2 (.slice A9 rows.length c9) rows (.slice An ns.length cn) ns)) (fun _ u _=>l.length-(intOf u).toNat)
      case atStart=>exact⟨0,by omega,rfl,by simp[depsE],HX2⟩
      case round=>
       clear HX2
       obtain⟨i,hi,rfl,rfl,H⟩:=hrel
       have y3:=bcl H.out.box 3 rfl
       by_cases hlt:i<l.length
       ·have hdl:decide ((i:Int)<(l.length:Int))=true:=decide_eq_true (by omega)
        obtain⟨ad,hAd,g0,g1,g2⟩:=at_T129 (Kd.C_below HRO.out H.out.bl) (i:Int) (by omega) (by omega)
        subst hAd
        obtain⟨dd,hdd⟩:=eX (l[i])
        have hrd:rd_T129 l (i:Int)=dd:=by simp[rd_T129,hlt,hdd]
        rw[hrd,Int.toNat_natCast]at g0 g1 g2
        have hmem:dd∈l:=hdd ▸ List.getElem_mem _
        have htk:=depsE_take v T2 l i hlt
        rw[hdd]at htk
        have hdf:=HM.out.d dd hmem
        have hdg:=HDR.out dd hmem
        have hdn:v≠1→dd.f0∈T2:=fun h=>HIN.out h dd.f0 (by unfold namesL;rw[List.mem_append];exact .inl (List.mem_cons_of_mem _ (List.mem_map.2 ⟨dd,hmem,rfl⟩)))
        have hle:=depsE_len v T2 (by omega) (l.take i) (fun y hy=>⟨(HM.out.d y (List.mem_of_mem_take hy)).2.1,(HDR.out y (List.mem_of_mem_take hy)).2⟩)
        rw[List.length_take]at hle
        obtain⟨s,hh,o⟩:=dd
        dsimp only at g0 g1 g2 hdf hdg hdn htk
        obtain⟨PD,hPD⟩:=eX (P++depsE v T2 (l.take i))
        have lPD:PD.length≤2000:=by rw[←hPD,List.length_append];omega
        have hnx:P++depsE v T2 (l.take (i+1))=(PD++depE v T2 ⟨s,hh,o⟩)++ints (vb hh.toNat):=by rw[htk,←hPD];simp only[List.append_assoc]
        rw[hPD]
        have hDe:=depE_len v T2 (by omega) ⟨s,hh,o⟩ hdf.2.1
        have hHe:=vbI_len hh hdg.2
        have HPU:=hQ (fun(W':World)=>put1_any hh hdg W')
        have HNX:=hQ hnx
        have hC2r:Kd.C Kd.string wr A2 T2.length T2:=by
         obtain⟨A',c',e,_,h2⟩:=H.out.tab
         injection e with e1 e2 e3
         subst e1
         exact h2
        have HTX:=hQ (fun(W':World) (hb:Below wr.heap.size wr W')=>rtext9_any v A2 c2 T2 s W' (Kd.C_below hC2r hb) hc2 (by omega) (by have:=hdf.2.1;omega) hdn)
        have hde:depE v T2 ⟨s,hh,o⟩=textE v T2 s:=by unfold depE;rw[if_pos (by have:=HV.out;omega)]
        rw[hde]at hDe HNX
        clear htk hdd hrd hmem hdf hdg hdn hle hPD hnx hC2r hde
        generalize textE v T2 s=t1 at*
        generalize ints (vb hh.toNat)=t2 at*
        have hadd1:=add_str PD t1 (by omega)
        have hadd2:=add_str (PD++t1) t2 (by rw[List.length_append];omega)
        have hba:Below wr.heap.size wr (wr.alloc (.cells #[.string s,.int .u64 hh,.bool o] 129)):=(Below.refl _ _).alloc (Nat.le_refl _) _
        have hka:(wr.alloc (.cells #[.string s,.int .u64 hh,.bool o] 129)).heap[wr.heap.size]? =some (.cells #[.string s,.int .u64 hh,.bool o] 129 (0,0)):=heap_new _ _
        have HBA:=hQ hba
        have HKA:=hQ hka
        clear hba hka
        go_wp2_with fail
        refine(HTX.out _ HBA.out).mono ?_
        rintro e wb ⟨rfl,hb⟩
        have hk:=blk_below HKA.out hb
        have e1:wb.cell? ⟨wr.heap.size,1,none⟩=some (.int .u64 hh):=(blk_cell hk 1).trans rfl
        have HB1:=hQ (HBA.out.trans (hb.mono HBA.out.size))
        clear hb hk g0 g1 g2
        go_wp2_with fail
        refine(HPU.out wb).mono ?_
        rintro e wc ⟨rfl,hb⟩
        have HH:=hQ (H.out.below (HB1.out.trans (hb.mono HB1.out.size)))
        clear hb e1
        go_wp2_with fail
        go_roundw
        case rel=>exact⟨i+1,by omega,by go_num,by rw[HNX.out,List.append_assoc],HH⟩
        case measure=>simp[intOf];omega
       ·obtain rfl:i=l.length:=by omega
        have hdl:decide ((l.length:Int)<(l.length:Int))=false:=decide_eq_false (by omega)
        rw[List.take_length]
        obtain⟨PE,hPE⟩:=eX (P++depsE v T2 l)
        have hle:=depsE_len v T2 (by omega) l (fun y hy=>⟨(HM.out.d y hy).2.1,(HDR.out y hy).2⟩)
        have lPE:PE.length≤2000:=by rw[←hPE,List.length_append];omega
        rw[hPE]
        obtain⟨q4,hq4⟩:=eX (ints (vb x4.toNat))
        obtain⟨q5,hq5⟩:=eX (ints (vb x5.toNat))
        have l4:q4.length≤10:=by rw[←hq4];exact vbI_len x4 HR4.out.2
        have l5:q5.length≤10:=by rw[←hq5];exact vbI_len x5 HR5.out.2
        have HQ4:=hQ (fun(W':World)=>put1_any x4 HR4.out W')
        have HQ5:=hQ (fun(W':World)=>put1_any x5 HR5.out W')
        rw[hq4]at HQ4
        rw[hq5]at HQ5
        have hadd4:=add_str PE q4 (by omega)
        have hadd5:=add_str (PE++q4) q5 (by rw[List.length_append];omega)
        have HPE:=hQ hPE
        have HQ45:=hQ (And.intro hq4 hq5)
        clear hPE hle hq4 hq5
        have y4:=bcl H.out.box 4 rfl
        go_wp2_with fail
        refine(HQ4.out wr).mono ?_
        rintro e wb ⟨rfl,hb⟩
        have HZ:=hQ (H.out.below hb)
        clear hb y3 y4
        have y5:=bcl HZ.out.box 5 rfl
        go_wp2_with fail
        refine(HQ5.out wb).mono ?_
        rintro e wc ⟨rfl,hb⟩
        have HZ:=hQ (HZ.out.below hb)
        clear hb y5
        have HLE:Hid (lastE v T2 k0 x1 x2 l x4 x5 x6=PE++(q4++q5)):=hQ (by
         unfold lastE bodyE
         rw[if_neg HKN.out.2,if_pos (show 2≤v by have:=HV.out;omega),if_neg (show ¬3≤v by have:=HV.out;omega),HQ45.out.2,←HPE.out,←HPP.out,←HP0.out,←HQE.out.1,←HQE.out.2.1,←HQE.out.2.2.1,←HQE.out.2.2.2,←HQ45.out.1,HKN.out.1,Int.toNat_natCast]
         rw[show ints (vb ((1:Int).toNat))=[1] from vb_k 1 (by omega)]
         simp only[List.append_assoc,List.append_nil])
        have hmr:(rows.map strOfNums).length≤1000000:=by rw[List.length_map];have:=HRL.out;omega
        go_wp2_with (at_builtin;refine Halt.mk ?_)
        refine Halt.of ?_
        have hb4:Below wc.heap.size wc (wc.alloc (.cells #[.string (strOfNums (PE++(q4++q5)))] 9)):=(Below.refl _ _).alloc (Nat.le_refl _) _
        have hk4:(wc.alloc (.cells #[.string (strOfNums (PE++(q4++q5)))] 9)).heap[wc.heap.size]? =some (.cells #[.string (strOfNums (PE++(q4++q5)))] 9 (0,0)):=heap_new _ _
        have hZ4:=HZ.out.below hb4
        refine Kd.R_append_rows Kd.string (w0:=Wq) Wq.heap.size rfl (.tmp 164) (.tmp 166) 52 9 (.string ⟨#[]⟩) 16 rfl Tryz.underlying52 info_str9 rfl (by decide) (by omega) _ (rows.map strOfNums) [strOfNums (PE++(q4++q5))] _ _ _ (fun _=>True) (fun _=>False) rfl rfl hZ4.rw (row_val _ hk4) ?_ (fun _ h=>h.elim) (fun _ _=>trivial) hZ4.bl hZ4.bl.size (by omega) ?_
        ·rintro _ _ ⟨rfl,rfl⟩;rfl
        intro v6 w6 hR6 hb6 hg6 hat6
        have e6:rows.map strOfNums++[strOfNums (PE++(q4++q5))]=((rows++[(PE++(q4++q5))]).map strOfNums):=by rw[List.map_append];rfl
        rw[e6]at hR6
        have h6:=hZ4.pushed hR6 hb6 hg6 hat6
        obtain⟨A8,c8,e8,hc8,hC8⟩:=h6.tab
        obtain⟨rfl,_,rfl⟩:A2=A8∧T2.length=T2.length∧c2=c8:=by injection e8 with a1 a2 a3;exact⟨a1,a2,a3⟩
        have HE:=hQ (And.intro h6 (And.intro hc8 hC8))
        obtain⟨Ar,cr,e9⟩:=Kd.R_slice hR6
        rw[List.length_map,List.length_append,List.length_singleton]at e9
        subst e9
        clear hR6 hb6 hg6 hat6 e6 h6 e8 hc8 hC8 hb4 hk4 hZ4
        go_wp2_with fail
        go_ret3
        obtain⟨h6,hc8,hC8⟩:=HE.out
        refine⟨_,A2,c2,rfl, ?_,hc8,hC8,h6.bl,h6.tb.imp (fun h=>by obtain⟨e1,e2⟩:=h;injection e2 with a1 a2 a3;exact⟨a1,a3,e1⟩) (fun hR=>Kd.R_mono hR (fun _ _=>trivial))⟩
        have h9:=h6.rw
        show Kd.R Kd.string 9 _ _ _ _ ((rows++[lastE v T2 k0 x1 x2 l x4 x5 x6]).map strOfNums)
        rw[HLE.out]
        first|exact h9|(rw[moreE_self];exact h9)
    ·have hkd:(k0==1)=false:=by rw[hk];rfl
     have hkd2:decide (k0=1)=false:=decide_eq_false (by omega)
     have y0:=bcl HBX.out 0 rfl
     have HZ:=HX
     have HLE:Hid (lastE v T2 k0 x1 x2 l x4 x5 x6=p0):=hQ (by
      unfold lastE
      rw[if_pos hk,List.append_nil,←HP0.out,←HQE.out.1,←HQE.out.2.1,hk]
      rw[show ints (vb ((2:Int).toNat))=[2] from vb_k 2 (by omega)])
     clear hk
     have hmr:(rows.map strOfNums).length≤1000000:=by rw[List.length_map];have:=HRL.out;omega
     go_wp2_with (at_builtin;refine Halt.mk ?_)
     refine Halt.of ?_
     have hb4:Below W.heap.size W (W.alloc (.cells #[.string (strOfNums p0)] 9)):=(Below.refl _ _).alloc (Nat.le_refl _) _
     have hk4:(W.alloc (.cells #[.string (strOfNums p0)] 9)).heap[W.heap.size]? =some (.cells #[.string (strOfNums p0)] 9 (0,0)):=heap_new _ _
     have hZ4:=HZ.out.below hb4
     refine Kd.R_append_rows Kd.string (w0:=Wq) Wq.heap.size rfl (.tmp 164) (.tmp 166) 52 9 (.string ⟨#[]⟩) 16 rfl Tryz.underlying52 info_str9 rfl (by decide) (by omega) _ (rows.map strOfNums) [strOfNums p0] _ _ _ (fun _=>True) (fun _=>False) rfl rfl hZ4.rw (row_val _ hk4) ?_ (fun _ h=>h.elim) (fun _ _=>trivial) hZ4.bl hZ4.bl.size (by omega) ?_
     ·rintro _ _ ⟨rfl,rfl⟩;rfl
     intro v6 w6 hR6 hb6 hg6 hat6
     have e6:rows.map strOfNums++[strOfNums p0]=((rows++[p0]).map strOfNums):=by rw[List.map_append];rfl
     rw[e6]at hR6
     have h6:=hZ4.pushed hR6 hb6 hg6 hat6
     obtain⟨A8,c8,e8,hc8,hC8⟩:=h6.tab
     obtain⟨rfl,_,rfl⟩:A2=A8∧T2.length=T2.length∧c2=c8:=by injection e8 with a1 a2 a3;exact⟨a1,a2,a3⟩
     have HE:=hQ (And.intro h6 (And.intro hc8 hC8))
     obtain⟨Ar,cr,e9⟩:=Kd.R_slice hR6
     rw[List.length_map,List.length_append,List.length_singleton]at e9
     subst e9
     clear hR6 hb6 hg6 hat6 e6 h6 e8 hc8 hC8 hb4 hk4 hZ4
     go_wp2_with fail
     go_ret3
     obtain⟨h6,hc8,hC8⟩:=HE.out
     refine⟨_,A2,c2,rfl, ?_,hc8,hC8,h6.bl,h6.tb.imp (fun h=>by obtain⟨e1,e2⟩:=h;injection e2 with a1 a2 a3;exact⟨a1,a3,e1⟩) (fun hR=>Kd.R_mono hR (fun _ _=>trivial))⟩
     have h9:=h6.rw
     show Kd.R Kd.string 9 _ _ _ _ ((rows++[lastE v T2 k0 x1 x2 l x4 x5 x6]).map strOfNums)
     rw[HLE.out]
     first|exact h9|(rw[moreE_self];exact h9)
theorem rput9_3 (Wq:World) (v:Int) (A:Option Addr) (c:Nat) (T:List ByteArray) (hC:Kd.C Kd.string Wq A T.length T) (hc:T.length≤c) (hT:T.length≤100000) (k0:Int) (x1:ByteArray) (x2:Int) (B:Option Addr) (d:Nat) (l:List S129) (x4 x5:Int) (x6:ByteArray)
  (hrow:Kd.C k129 Wq B l.length l) (hd:l.length≤d) (hok:RecOk x1 l x6) (hv:v=3) (hm:mayB v k0 x1 x2 l x4 x5 x6=true) (h2:0≤x2∧x2<18446744073709551616) (h4:0≤x4∧x4<18446744073709551616) (h5:0≤x5∧x5<18446744073709551616) (hdr: ∀y∈l,0≤y.f1∧y.f1<18446744073709551616):
  Calls Tryz.prog 30 #[.int .i64 v,.slice A T.length c,.agg #[.int .i64 k0,.string x1,.int .u64 x2,.slice B l.length d,.int .u64 x4,.int .u64 x5,.string x6]] Wq (RPutPost Wq A c T (putF v T k0 x1 x2 l x4 x5 x6)):=by
 have hpf:putF v T k0 x1 x2 l x4 x5 x6=((moreE T (tnewOn T (tnew (namesL x1 l x6))))++[lastE v (tnewOn T (tnew (namesL x1 l x6))) k0 x1 x2 l x4 x5 x6],(tnewOn T (tnew (namesL x1 l x6))),0):=by
  unfold putF
  rw[if_pos (show 1≤v∧v≤3 by omega),if_pos hm]
  rw[if_pos (show 1<v by omega)]
 rw[hpf]
 obtain⟨wz,hwz⟩:=eX ((Wq.alloc (.cells #[.int .i64 k0,.string x1,.int .u64 x2,.slice B l.length d,.int .u64 x4,.int .u64 x5,.string x6] 49)).alloc (.cells #[] 9))
 have hbz:Below Wq.heap.size Wq wz:=by rw[←hwz];exact((Below.refl _ _).alloc (Nat.le_refl _) _).alloc (by rw[heap_size_alloc];omega) _
 have hkz:wz.heap[Wq.heap.size]? =some (.cells #[.int .i64 k0,.string x1,.int .u64 x2,.slice B l.length d,.int .u64 x4,.int .u64 x5,.string x6] 49 (0,0)):=by rw[←hwz,heap_new_old _ _ _ (by rw[heap_size_alloc];omega)];exact heap_new _ _
 have hke:wz.heap[Wq.heap.size+1]? =some (.cells #[] 9 (0,0)):=by rw[←hwz];exact heap_new2 _ _ _
 obtain⟨b5,hb5⟩:=eX (Wq.heap.size)
 rw[hb5]at hkz hke
 have hre:=R_empty Kd.string wz Wq.heap.size (b5+1) 9 (fun _=>True) hke (by omega) trivial
 have M:=may_facts hm
 have HMY:=hQ (rmay_any v k0 x1 x2 l x4 x5 x6 B d wz (Kd.C_below hrow hbz))
 rw[hm]at HMY
 have HC:=hQ hC
 have HRO:=hQ hrow
 have HBZ:=hQ hbz
 have HKZ:=hQ hkz
 have HWZ:=hQ hwz
 have HREZ:=hQ hre
 have HB5:=hQ hb5
 have HM:=hQ M
 have HR2:=hQ h2
 have HR4:=hQ h4
 have HR5:=hQ h5
 have HDR:=hQ hdr
 have HV:=hQ hv
 have HKW:=hQ (show IntKind.u64.wrap k0=k0 by have:=M.k;rw[IntKind.wrap_u64];omega)
 have HLW:=hQ (show IntKind.u64.wrap (l.length:Int)=(l.length:Int)by have:=M.n;rw[IntKind.wrap_u64];omega)
 have hln:l.length≤16:=M.n
 have HNM:=hQ (fun(Wq':World) (hb:Below Wq.heap.size Wq Wq')=>tephraref08_Names.calls 6001 k0 x1 x2 B d l x4 x5 x6 _ Wq' (Kd.C_below hrow hb) hd (names_is k0 x1 x2 l x4 x5 x6 (by omega) _ (by omega)))
 have d1:decide (v<1)=false:=decide_eq_false (by omega)
 have d3:decide (3<v)=false:=decide_eq_false (by omega)
 have d2:decide (1<v)=true:=decide_eq_true (by omega)
 have d4:decide (v<3)=false:=decide_eq_false (by omega)
 have d5:decide (2<v)=true:=decide_eq_true (by omega)
 clear hpf hC hrow hbz hkz hke hre hwz hb5 M h2 h4 h5 hdr hm hv hok
 go_enter Tryz.func30,Tryz.ntmps30
 go_wp2_with fail
 rw[HWZ.out,HB5.out]
 refine HMY.out.mono ?_
 rintro e wa ⟨rfl,hb⟩
 have HBA:=hQ (HBZ.out.trans (hb.mono HBZ.out.size))
 have HBX:=hQ (blk_below HKZ.out hb)
 have HRE:=hQ (Kd.R_below HREZ.out hb)
 clear hb HREZ HWZ HKZ
 obtain⟨y0,y1,y2,y3,y4,y5,y6⟩:=facts7 HBX.out
 go_wp2_with fail
 clear y0 y1 y2 y3 y4 y5 y6
 refine(HNM.out wa HBA.out).mono ?_
 rintro e wb ⟨vn,rfl,hRn,hb⟩
 obtain⟨An,cn,rfl⟩:=Kd.R_slice hRn
 have HNS:=hQ (names_few (x1:=x1) (l:=l) (x6:=x6) HM.out.t.2 HM.out.n (fun d hd=>(HM.out.d d hd).2.1) HM.out.tag.1)
 generalize hns:tnew (namesL x1 l x6)=ns at*
 have HNN:=hQ hns
 have hbb:Below Wq.heap.size Wq wb:=HBA.out.trans (hb.mono HBA.out.size)
 have hsa:b5+1<wa.heap.size:=(own_typed_R HRE.out (b5+1) rfl).2.1
 have hst:RPSt Wq wb b5 #[.int .i64 k0,.string x1,.int .u64 x2,.slice B l.length d,.int .u64 x4,.int .u64 x5,.string x6] A c T (.slice A T.length c) T (.slice (some ⟨b5+1,0,none⟩) 0 0) [] (.slice An ns.length cn) ns:=
  ⟨hbb,blk_below HBX.out hb,⟨HC.out,hc⟩,.inl ⟨rfl,rfl⟩,Kd.R_below HRE.out hb,Kd.R_mono (Kd.R_lower (Kd.R_bound hRn) HBA.out.size) (fun k hk e=>by injection e with e;replace e:k=b5+1:=e;have:=hk.2.1;have:=HB5.out;omega)⟩
 have HST:=hQ hst
 clear hb hbb hRn hst hns HBX HRE HNM HBA hsa
 go_wp2_with fail
 go_loopw [1,9,11] (fun u1 u9 u11 wr=>∃(i:Nat),i≤ns.length∧u11= .int .i64 (i:Int)∧Hid (RPSt Wq wr b5 #[.int .i64 k0,.string x1,.int .u64 x2,.slice B l.length d,.int .u64 x4,.int .u64 x5,.string x6] A c T u1 (tnewOn T (ns.take i)) u9 (moreE T (tnewOn T (ns.take i))) (.slice An ns.length cn) ns)) (fun _ _ u _=>ns.length-(intOf u).toNat)
 case atStart=>exact⟨0,by omega,rfl,hQ (by rw[List.take_zero,show tnewOn T []=T from rfl,moreE_self];exact HST.out)⟩
 case round=>
  clear HST
  obtain⟨i,hi,rfl,H⟩:=hrel
  have hn18:=HNS.out.1
  by_cases hlt:i<ns.length
  ·have hdl:decide ((i:Int)<(ns.length:Int))=true:=decide_eq_true (by omega)
   obtain⟨adn,hAn,hcell⟩:=Kd.at_string (Kd.R_reads' H.out.nm).2.2 (i:Int) (by omega) (by omega)
   subst hAn
   rw[Int.toNat_natCast]at hcell
   obtain⟨s,hs⟩:=eX (ns[i])
   have hrd:rdOf ByteArray.empty ns (i:Int)=s:=by simp[rdOf,hlt,hs]
   rw[hrd]at hcell
   have HRD:=hQ hrd
   have hsz:=HNS.out.2 s (hs ▸ List.getElem_mem _)
   have htk:=tnewOn_take T ns i hlt
   rw[hs]at htk
   have hll:=tnewOn_len T (ns.take i)
   have hge:=tnewOn_ge T (ns.take i)
   rw[List.length_take]at hll
   generalize tnewOn T (ns.take i)=L at*
   obtain⟨A2,c2,rfl,hc2,hC2⟩:=H.out.tab
   have HPL:=hQ (tephraref07_Place.calls (L.length+1) A2 c2 L s (posI8 L s) wr hC2 hc2 (place_is8 L (by omega) s _ (by omega)))
   have hpd:decide (posI8 L s<0)= !(isIn L s):=by
    unfold posI8
    cases isIn L s with
    |true=>simp
    |false=>simp
   have HTK:=hQ htk
   have HSZ:=hQ (And.intro hsz (And.intro hll hge))
   clear hrd hs htk hsz hll hge hC2
   by_cases hin:s∈L
   ·rw[isIn_iff.2 hin,Bool.not_true]at hpd
    have HMO:=hQ (And.intro (moreE_in (T:=T) hin) (tput_in hin))
    generalize posI8 L s=q at HPL hpd
    clear hin
    go_wp2_with fail
    refine HPL.out.mono ?_
    rintro e wc ⟨rfl,hdr⟩
    have hb:=hdr.below
    have HH:=hQ (H.out.below hb)
    clear hdr hb hcell
    go_wp2_with fail
    go_roundw
    case rel=>exact⟨i+1,by omega,by go_num,hQ (by rw[HTK.out,HMO.out.2];exact HH.out)⟩
    case measure=>simp[intOf];omega
   ·rw[isIn_ne.2 hin,Bool.not_false]at hpd
    have HMO:=hQ (moreE_out (T:=T) HSZ.out.2.2 hin)
    have hadd:=add_def s (by have:=HSZ.out.1;omega)
    have HNI:=hQ hin
    generalize posI8 L s=q at HPL hpd
    clear hin
    go_wp2_with fail
    refine HPL.out.mono ?_
    rintro e wc ⟨rfl,hdr⟩
    have hb:=hdr.below
    have HH:=hQ (H.out.below hb)
    have hcell2:=pw_cell_below hb hcell
    clear hdr hb hcell
    obtain⟨A9,c9,e9⟩:=Kd.R_slice HH.out.rw
    rw[List.length_map]at e9
    subst e9
    have hmr:((moreE T L).map strOfNums).length≤1000000:=by have:=HSZ.out.2.1;rw[List.length_map];unfold moreE;rw[List.length_map,List.length_drop];omega
    go_wp2_with (at_builtin;refine Halt.mk ?_)
    refine Halt.of ?_
    have hb4:Below wc.heap.size wc (wc.alloc (.cells #[.string (strOfNums (defE s))] 9)):=(Below.refl _ _).alloc (Nat.le_refl _) _
    have hk4:(wc.alloc (.cells #[.string (strOfNums (defE s))] 9)).heap[wc.heap.size]? =some (.cells #[.string (strOfNums (defE s))] 9 (0,0)):=heap_new _ _
    have hH4:=HH.out.below hb4
    refine Kd.R_append_rows Kd.string (w0:=Wq) Wq.heap.size rfl (.tmp 48) (.tmp 54) 52 9 (.string ⟨#[]⟩) 16 rfl Tryz.underlying52 info_str9 rfl (by decide) (by omega) _ ((moreE T L).map strOfNums) [strOfNums (defE s)] _ _ _ (fun _=>True) (fun _=>False) rfl rfl hH4.rw (row_val _ hk4) ?_ (fun _ h=>h.elim) (fun _ _=>trivial) hH4.bl hH4.bl.size (by omega) ?_
    ·rintro _ _ ⟨rfl,rfl⟩;rfl
    intro v6 w6 hR6 hb6 hg6 hat6
    have e6:(moreE T L).map strOfNums++[strOfNums (defE s)]=((moreE T L++[defE s]).map strOfNums):=by rw[List.map_append];rfl
    rw[e6]at hR6
    have h6:=hH4.pushed hR6 hb6 hg6 hat6
    obtain⟨A6,c6,e6v,hc6,hC6⟩:=h6.tab
    obtain⟨rfl,_,rfl⟩:A2=A6∧L.length=L.length∧c2=c6:=by injection e6v with a1 a2 a3;exact⟨a1,a2,a3⟩
    have HTP:=hQ (rtput_any A2 c2 L s w6 hC6 hc6 (by have:=HSZ.out.2.1;omega))
    obtain⟨ad9,hA9,hcell6⟩:=Kd.at_string (Kd.R_reads' h6.nm).2.2 (i:Int) (by omega) (by omega)
    obtain rfl:adn=ad9:=Option.some.inj hA9
    rw[Int.toNat_natCast,HRD.out]at hcell6
    have H6:=hQ h6
    clear hR6 hb6 hg6 hat6 e6 h6 e6v hC6 hA9 hb4 hk4 hH4 hcell2 hadd HPL
    go_wp2_with fail
    refine HTP.out.mono ?_
    rintro e w7 ⟨A7,c7,rfl,hc7,hC7,hb7,hR7⟩
    have H7:=hQ (H6.out.tabled hb7 (hR7 HNI.out))
    clear hC7 hb7 hR7 hcell6 HTP H6
    go_wp2_with fail
    go_roundw
    case rel=>exact⟨i+1,by omega,by go_num,hQ (by rw[HTK.out,HMO.out];exact H7.out)⟩
    case measure=>simp[intOf];omega
  ·obtain rfl:i=ns.length:=by omega
   rw[List.take_of_length_le (Nat.le_refl _)]at H
   have hrl:(moreE T (tnewOn T ns)).length≤100:=by unfold moreE;rw[List.length_map,List.length_drop];have:=tnewOn_len T ns;omega
   have hin:v≠1→∀s∈namesL x1 l x6,s∈tnewOn T ns:=fun _ s hs=>by rw[mem_tnewOn,←HNN.out,mem_tnew];exact .inr hs
   have hT2:(tnewOn T ns).length≤200000:=by have:=tnewOn_len T ns;omega
   generalize tnewOn T ns=T2 at*
   generalize moreE T T2=rows at*
   obtain⟨A9,c9,e9⟩:=Kd.R_slice H.out.rw
   rw[List.length_map]at e9
   subst e9
   obtain⟨A2,c2,e2,hc2,hC2⟩:=H.out.tab
   subst e2
   have HC2:=hQ hC2
   have HRW:=hQ hrl
   have HRL:=hQ hrl
   have HIN:=hQ hin
   obtain⟨q0,hq0⟩:=eX (ints (vb k0.toNat))
   obtain⟨q1,hq1⟩:=eX (textE v T2 x1)
   obtain⟨q2,hq2⟩:=eX (ints (vb x2.toNat))
   obtain⟨q3,hq3⟩:=eX (ints (vb ((l.length:Int)).toNat))
   have hK:=HM.out.k
   have l0:q0.length≤10:=by rw[←hq0];exact vbI_len k0 (by omega)
   have l1:q1.length≤74:=by rw[←hq1];exact textE_len v T2 (by omega) x1 HM.out.t.2
   have l2:q2.length≤10:=by rw[←hq2];exact vbI_len x2 HR2.out.2
   have l3:q3.length≤10:=by rw[←hq3];exact vbI_len (l.length:Int) (by omega)
   have HQ0:=hQ (fun(W':World)=>put1_any k0 (by omega) W')
   have HQ1:=hQ (fun(W':World) (hb:Below wr.heap.size wr W')=>rtext9_any v A2 c2 T2 x1 W' (Kd.C_below HC2.out hb) hc2 (by omega) (by have:=HM.out.t.2;omega) (fun h=>hin h x1 (by unfold namesL;simp)))
   have HQ2:=hQ (fun(W':World)=>put1_any x2 HR2.out W')
   have HQ3:=hQ (fun(W':World)=>put1_any (l.length:Int) (by omega) W')
   rw[hq0]at HQ0
   rw[hq1]at HQ1
   rw[hq2]at HQ2
   rw[hq3]at HQ3
   have HAD:=hQ (add_str q0 q1 (by omega))
   obtain⟨p0,hp0⟩:=eX (q0++q1)
   have lp0:p0.length≤84:=by rw[←hp0,List.length_append];omega
   have HAD2:=hQ (add_str p0 q2 (by omega))
   have HAD3:=hQ (add_str (p0++q2) q3 (by rw[List.length_append];omega))
   obtain⟨P,hP⟩:=eX (p0++q2++q3)
   have lP:P.length≤104:=by rw[←hP,List.length_append,List.length_append];omega
   have HQE:=hQ (And.intro hq0 (And.intro hq1 (And.intro hq2 hq3)))
   have HP0:=hQ hp0
   have HPP:=hQ hP
   have HBX:=hQ H.out.box
   have HKK:=hQ hK
   clear hC2 hq0 hq1 hq2 hq3 hp0 hP hin hK
   go_wp2_with fail
   refine region_calm (n:=11) (byList [isV (.pointer (some ⟨b5,0,none⟩)),isV (.int .i64 k0),isV (.int .u64 k0),isV (.string (strOfNums q0)),isV (.int .i64 v),isV (.slice A2 T2.length c2),isV (.pointer (some ⟨b5,1,none⟩)),isV (.string x1),isV (.string (strOfNums q1)),isV (.string (strOfNums (q0++q1))),isV (.string (strOfNums (q0++q1)))]) (by kernel_rfl) rfl (byList_lasts ?_) (by kernel_rfl) (by kernel_rfl) (by kernel_rfl) (show AllLt 11 _ from ?_) ?_
   ·intro p hp
    simp only[List.mem_cons,List.not_mem_nil,or_false]at hp
    rcases hp with rfl|rfl|rfl|rfl|rfl|rfl|rfl|rfl|rfl|rfl|rfl<;>first|exact isV_lasts|exact isC_lasts
   ·refine allLt_succ (allLt_succ (allLt_succ (allLt_succ (allLt_succ (allLt_succ (allLt_succ (allLt_succ (allLt_succ (allLt_succ (allLt_succ (allLt_zero _) ?_) ?_) ?_) ?_) ?_) ?_) ?_) ?_) ?_) ?_) ?_
    ·refine StepOk.run (get_lit rfl) rfl fun a W hS hB hd=> ?_
     have e5:=hS.get (t:=5) rfl rfl
     refine wp_value (c:= .pointer (some ⟨b5,0,none⟩)) ?_ rfl
     go_simp
    ·refine StepOk.run (get_lit rfl) rfl fun a W hS hB hd=> ?_
     have e62:=(hd 0 rfl).bool rfl rfl rfl
     refine wp_value (c:= .int .i64 k0) ?_ rfl
     have hx:=blk_below HBX.out hB
     have hcW:=bcl hx 0 rfl
     go_simp
    ·refine StepOk.run (get_lit rfl) rfl fun a W hS hB hd=> ?_
     have e63:=(hd 1 rfl).bool rfl rfl rfl
     refine wp_value (c:= .int .u64 k0) ?_ rfl
     have hw:=HKW.out
     go_simp
    ·refine StepOk.run (get_lit rfl) rfl fun a W hS hB hd=> ?_
     have e64:=(hd 2 rfl).bool rfl rfl rfl
     refine wp_called Tryz.func58 (by kernel_rfl) rfl #[.int .u64 k0] rfl (by simp[Act.eval, *]) ?_
     refine(HQ0.out W).mono ?_
     rintro e w9 ⟨rfl,hb9⟩
     exact⟨_,rfl,rfl,hb9⟩
    ·refine StepOk.run (get_lit rfl) rfl fun a W hS hB hd=> ?_
     have e0:=hS.get (t:=0) rfl rfl
     refine wp_value (c:= .int .i64 v) ?_ rfl
     go_simp
    ·refine StepOk.run (get_lit rfl) rfl fun a W hS hB hd=> ?_
     have e1:=hS.get (t:=1) rfl rfl
     refine wp_value (c:= .slice A2 T2.length c2) ?_ rfl
     go_simp
    ·refine StepOk.run (get_lit rfl) rfl fun a W hS hB hd=> ?_
     have e5:=hS.get (t:=5) rfl rfl
     refine wp_value (c:= .pointer (some ⟨b5,1,none⟩)) ?_ rfl
     go_simp
    ·refine StepOk.run (get_lit rfl) rfl fun a W hS hB hd=> ?_
     have e68:=(hd 6 rfl).bool rfl rfl rfl
     refine wp_value (c:= .string x1) ?_ rfl
     have hx:=blk_below HBX.out hB
     have hcW:=bcl hx 1 rfl
     go_simp
    ·refine StepOk.run (get_lit rfl) rfl fun a W hS hB hd=> ?_
     have e66:=(hd 4 rfl).bool rfl rfl rfl
     have e67:=(hd 5 rfl).bool rfl rfl rfl
     have e69:=(hd 7 rfl).bool rfl rfl rfl
     refine wp_called Tryz.func59 (by kernel_rfl) rfl #[.int .i64 v,.slice A2 T2.length c2,.string x1] rfl (by simp[Act.eval, *]) ?_
     refine(HQ1.out W hB).mono ?_
     rintro e w9 ⟨rfl,hb9⟩
     exact⟨_,rfl,rfl,hb9⟩
    ·refine StepOk.run (get_lit rfl) rfl fun a W hS hB hd=> ?_
     have e65:=(hd 3 rfl).bool rfl rfl rfl
     have e70:=(hd 8 rfl).bool rfl rfl rfl
     refine wp_value (c:= .string (strOfNums (q0++q1))) ?_ rfl
     have hadd:=HAD.out W
     go_simp
    ·refine StepOk.run (get_lit rfl) rfl fun a W hS hB hd=> ?_
     have e71:=(hd 9 rfl).bool rfl rfl rfl
     refine wp_value (c:= .string (strOfNums (q0++q1))) ?_ rfl
     go_simp
   ·intro a W hS hB hh
    have e12:a.tmps[12]? =some (.string (strOfNums (q0++q1))):=(hh 10 (by omega)).bool rfl rfl rfl
    have HBR:=hQ hB
    obtain⟨zz,hlit,hzz⟩:=same_litz hS
    clear hh hS hB
    simp only[List.filterMap_cons,List.filterMap_nil,List.foldl_cons,List.foldl_nil,List.setIfInBounds_toArray,List.set_cons_zero,List.set_cons_succ]at hlit
    rw[hzz 12 _ e12]at hlit
    clear e12
    clear hzz;subst hlit
    have HX:=hQ (H.out.below HBR.out)
    rw[HP0.out]
    clear HBX HQ0 HQ1 HAD H
    have HBX:=hQ HX.out.box
    rcases HKK.out with hk|hk
    ·have hkd:(k0==1)=true:=by rw[hk];rfl
     have hkd2:decide (k0=1)=true:=decide_eq_true hk
     have hkn: ¬k0=2:=by omega
     have HKN:=hQ (And.intro hk hkn)
     clear hk hkn
     have y0:=bcl HBX.out 0 rfl
     go_wp2_with fail
     clear y0
     refine region_calm2 (n:=12) (byList [isV (.string (strOfNums p0)),isV (.pointer (some ⟨b5,2,none⟩)),isV (.int .u64 x2),isV (.string (strOfNums q2)),isV (.string (strOfNums (p0++q2))),isV (.pointer (some ⟨b5,3,none⟩)),isV (.slice B l.length d),isV (.int .i64 (l.length:Int)),isV (.int .u64 (l.length:Int)),isV (.string (strOfNums q3)),isV (.string (strOfNums (p0++q2++q3))),isV (.string (strOfNums (p0++q2++q3)))]) (by kernel_rfl) rfl (byList_lasts ?_) (by kernel_rfl) (by kernel_rfl) (by kernel_rfl) (show AllLt 12 _ from ?_) ?_
     ·intro p hp
      simp only[List.mem_cons,List.not_mem_nil,or_false]at hp
      rcases hp with rfl|rfl|rfl|rfl|rfl|rfl|rfl|rfl|rfl|rfl|rfl|rfl<;>first|exact isV_lasts|exact isC_lasts
     ·refine allLt_succ (allLt_succ (allLt_succ (allLt_succ (allLt_succ (allLt_succ (allLt_succ (allLt_succ (allLt_succ (allLt_succ (allLt_succ (allLt_succ (allLt_zero _) ?_) ?_) ?_) ?_) ?_) ?_) ?_) ?_) ?_) ?_) ?_) ?_
      ·refine StepOk2.run (get_lit rfl) rfl fun a W hS hB hd hE=> ?_
       have e12:a.tmps[12]? =some (.string (strOfNums p0)):=hE.get (j:=11) rfl rfl rfl rfl
       refine wp_value (c:= .string (strOfNums p0)) ?_ rfl
       go_simp
      ·refine StepOk2.of ?_
       refine StepOk.run (get_lit rfl) rfl fun a W hS hB hd=> ?_
       have e5:=hS.get (t:=5) rfl rfl
       refine wp_value (c:= .pointer (some ⟨b5,2,none⟩)) ?_ rfl
       go_simp
      ·refine StepOk2.of ?_
       refine StepOk.run (get_lit rfl) rfl fun a W hS hB hd=> ?_
       have e76:=(hd 1 rfl).bool rfl rfl rfl
       refine wp_value (c:= .int .u64 x2) ?_ rfl
       have hx:=blk_below HBX.out hB
       have hcW:=bcl hx 2 rfl
       go_simp
      ·refine StepOk2.of ?_
       refine StepOk.run (get_lit rfl) rfl fun a W hS hB hd=> ?_
       have e77:=(hd 2 rfl).bool rfl rfl rfl
       refine wp_called Tryz.func58 (by kernel_rfl) rfl #[.int .u64 x2] rfl (by simp[Act.eval, *]) ?_
       refine(HQ2.out W).mono ?_
       rintro e w9 ⟨rfl,hb9⟩
       exact⟨_,rfl,rfl,hb9⟩
      ·refine StepOk2.of ?_
       refine StepOk.run (get_lit rfl) rfl fun a W hS hB hd=> ?_
       have e75:=(hd 0 rfl).bool rfl rfl rfl
       have e78:=(hd 3 rfl).bool rfl rfl rfl
       refine wp_value (c:= .string (strOfNums (p0++q2))) ?_ rfl
       have hadd:=HAD2.out W
       go_simp
      ·refine StepOk2.of ?_
       refine StepOk.run (get_lit rfl) rfl fun a W hS hB hd=> ?_
       have e5:=hS.get (t:=5) rfl rfl
       refine wp_value (c:= .pointer (some ⟨b5,3,none⟩)) ?_ rfl
       go_simp
      ·refine StepOk2.of ?_
       refine StepOk.run (get_lit rfl) rfl fun a W hS hB hd=> ?_
       have e80:=(hd 5 rfl).bool rfl rfl rfl
       refine wp_value (c:= .slice B l.length d) ?_ rfl
       have hx:=blk_below HBX.out hB
       have hcW:=bcl hx 3 rfl
       go_simp
      ·refine StepOk2.of ?_
       refine StepOk.run (get_lit rfl) rfl fun a W hS hB hd=> ?_
       have e81:=(hd 6 rfl).bool rfl rfl rfl
       refine wp_value (c:= .int .i64 (l.length:Int)) ?_ rfl
       go_simp
      ·refine StepOk2.of ?_
       refine StepOk.run (get_lit rfl) rfl fun a W hS hB hd=> ?_
       have e82:=(hd 7 rfl).bool rfl rfl rfl
       refine wp_value (c:= .int .u64 (l.length:Int)) ?_ rfl
       have hw:=HLW.out
       go_simp
      ·refine StepOk2.of ?_
       refine StepOk.run (get_lit rfl) rfl fun a W hS hB hd=> ?_
       have e83:=(hd 8 rfl).bool rfl rfl rfl
       refine wp_called Tryz.func58 (by kernel_rfl) rfl #[.int .u64 (l.length:Int)] rfl (by simp[Act.eval, *]) ?_
       refine(HQ3.out W).mono ?_
       rintro e w9 ⟨rfl,hb9⟩
       exact⟨_,rfl,rfl,hb9⟩
      ·refine StepOk2.of ?_
       refine StepOk.run (get_lit rfl) rfl fun a W hS hB hd=> ?_
       have e79:=(hd 4 rfl).bool rfl rfl rfl
       have e84:=(hd 9 rfl).bool rfl rfl rfl
       refine wp_value (c:= .string (strOfNums (p0++q2++q3))) ?_ rfl
       have hadd:=HAD3.out W
       go_simp
      ·refine StepOk2.of ?_
       refine StepOk.run (get_lit rfl) rfl fun a W hS hB hd=> ?_
       have e85:=(hd 10 rfl).bool rfl rfl rfl
       refine wp_value (c:= .string (strOfNums (p0++q2++q3))) ?_ rfl
       go_simp
     ·intro a W hS hB hh
      have e12:a.tmps[12]? =some (.string (strOfNums (p0++q2++q3))):=(hh 11 (by omega)).bool rfl rfl rfl
      have HBR:=hQ hB
      obtain⟨zz,hlit,hzz⟩:=same_litz hS
      clear hh hS hB
      simp only[List.filterMap_cons,List.filterMap_nil,List.foldl_cons,List.foldl_nil,List.setIfInBounds_toArray,List.set_cons_zero,List.set_cons_succ]at hlit
      rw[hzz 12 _ e12]at hlit
      clear e12
      clear hzz;subst hlit
      rw[HPP.out]
      have HX2:=hQ (HX.out.below HBR.out)
      clear HBX HX HQ2 HQ3 HAD2 HAD3
      have y3:=bcl HX2.out.box 3 rfl
      go_wp2_with fail
      clear y3
      go_loopw [12,13] (fun u12 u13 wr=>∃(i:Nat),i≤l.length∧u13= .int .i64 (i:Int)∧u12= .string (strOfNums (P++depsE v T2 (l.take i)))∧Hid (RPSt Wq wr b5 #[.int .i64 k0,.string x1,.int .u64 x2,.slice B l.length d,.int .u64 x4,.int .u64 x5,.string x6] A c T (.slice A2 T2.length c2) T2 (.slice A9 rows.length c9) rows (.slice An ns.length cn) ns)) (fun _ u _=>l.length-(intOf u).toNat)
      case atStart=>exact⟨0,by omega,rfl,by simp[depsE],HX2⟩
      case round=>
       clear HX2
       obtain⟨i,hi,rfl,rfl,H⟩:=hrel
       have y3:=bcl H.out.box 3 rfl
       by_cases hlt:i<l.length
       ·have hdl:decide ((i:Int)<(l.length:Int))=true:=decide_eq_true (by omega)
        obtain⟨ad,hAd,g0,g1,g2⟩:=at_T129 (Kd.C_below HRO.out H.out.bl) (i:Int) (by omega) (by omega)
        subst hAd
        obtain⟨dd,hdd⟩:=eX (l[i])
        have hrd:rd_T129 l (i:Int)=dd:=by simp[rd_T129,hlt,hdd]
        rw[hrd,Int.toNat_natCast]at g0 g1 g2
        have hmem:dd∈l:=hdd ▸ List.getElem_mem _
        have htk:=depsE_take v T2 l i hlt
        rw[hdd]at htk
        have hdf:=HM.out.d dd hmem
        have hdg:=HDR.out dd hmem
        have hdn:v≠1→dd.f0∈T2:=fun h=>HIN.out h dd.f0 (by unfold namesL;rw[List.mem_append];exact .inl (List.mem_cons_of_mem _ (List.mem_map.2 ⟨dd,hmem,rfl⟩)))
        have hle:=depsE_len v T2 (by omega) (l.take i) (fun y hy=>⟨(HM.out.d y (List.mem_of_mem_take hy)).2.1,(HDR.out y (List.mem_of_mem_take hy)).2⟩)
        rw[List.length_take]at hle
        obtain⟨s,hh,o⟩:=dd
        dsimp only at g0 g1 g2 hdf hdg hdn htk
        obtain⟨PD,hPD⟩:=eX (P++depsE v T2 (l.take i))
        have lPD:PD.length≤2000:=by rw[←hPD,List.length_append];omega
        have hnx:P++depsE v T2 (l.take (i+1))=(PD++depE v T2 ⟨s,hh,o⟩)++ints (vb hh.toNat):=by rw[htk,←hPD];simp only[List.append_assoc]
        rw[hPD]
        have hDe:=depE_len v T2 (by omega) ⟨s,hh,o⟩ hdf.2.1
        have hHe:=vbI_len hh hdg.2
        have HPU:=hQ (fun(W':World)=>put1_any hh hdg W')
        have HNX:=hQ hnx
        have hC2r:Kd.C Kd.string wr A2 T2.length T2:=by
         obtain⟨A',c',e,_,h2⟩:=H.out.tab
         injection e with e1 e2 e3
         subst e1
         exact h2
        have hde:depE v T2 ⟨s,hh,o⟩=ints (vb (2*atI T2 s+(if o=true then 1 else 0)).toNat):=by unfold depE;rw[if_neg (by have:=HV.out;omega)]
        rw[hde]at hDe HNX
        have hsT:=hdn (by have:=HV.out;omega)
        have hat:=atI_bd T2 s (by omega)
        have hPl: ∀W',Below wr.heap.size wr W'→_:=fun W' hb=>tephraref07_Place.calls (T2.length+1) A2 c2 T2 s (posI8 T2 s) W' (Kd.C_below hC2r hb) hc2 (place_is8 T2 (by omega) s _ (by omega))
        rw[atI_pos hsT]at hPl
        obtain⟨n,hn⟩:=eX (atI T2 s)
        rw[hn]at hPl hat hDe HNX
        have HPL:=hQ hPl
        clear htk hdd hrd hmem hdf hdg hdn hle hPD hnx hC2r hde hPl hsT hn
        have kw1:IntKind.u64.wrap n=n:=by rw[IntKind.wrap_u64];omega
        have kw2:IntKind.u64.wrap (2*n)=2*n:=by rw[IntKind.wrap_u64];omega
        have kw3:IntKind.u64.wrap (2*n+1)=2*n+1:=by rw[IntKind.wrap_u64];omega
        have HK1:=hQ kw1
        have HK2:=hQ kw2
        have HK3:=hQ kw3
        clear kw1 kw2 kw3
        generalize ints (vb hh.toNat)=t2 at*
        have hba:Below wr.heap.size wr (wr.alloc (.cells #[.string s,.int .u64 hh,.bool o] 129)):=(Below.refl _ _).alloc (Nat.le_refl _) _
        have hka:(wr.alloc (.cells #[.string s,.int .u64 hh,.bool o] 129)).heap[wr.heap.size]? =some (.cells #[.string s,.int .u64 hh,.bool o] 129 (0,0)):=heap_new _ _
        have HBA:=hQ hba
        have HKA:=hQ hka
        clear hba hka
        go_wp2_with fail
        refine(HPL.out _ HBA.out).mono ?_
        rintro e wb ⟨rfl,hdr⟩
        have hb:=hdr.below
        have hk:=blk_below HKA.out hb
        have HB1:=hQ (HBA.out.trans (hb.mono HBA.out.size))
        have HKB:=hQ hk
        clear hb hk hdr g0 g1 g2
        have e1:wb.cell? ⟨wr.heap.size,1,none⟩=some (.int .u64 hh):=(blk_cell HKB.out 1).trans rfl
        have e2:wb.cell? ⟨wr.heap.size,2,none⟩=some (.bool o):=(blk_cell HKB.out 2).trans rfl
        have kw1:=HK1.out
        have kw2:=HK2.out
        have kw3:=HK3.out
        cases o with
        |true=>
         obtain⟨m,hm⟩:=eX (2*n+1)
         have hdm:ints (vb (2*n+(if true=true then 1 else 0)).toNat)=ints (vb m.toNat):=by rw[if_pos rfl,hm]
         rw[hdm]at hDe HNX
         have HP1:=hQ (fun(W':World)=>put1_any m (by omega) W')
         generalize ints (vb m.toNat)=t1 at*
         have hadd1:=add_str PD t1 (by omega)
         have hadd2:=add_str (PD++t1) t2 (by rw[List.length_append];omega)
         rw[hm]at kw3
         have hm2:=hm
         have kw4:IntKind.u64.wrap (2*n+1)=m:=by rw[hm];exact kw3
         clear hm kw3
         go_wp2_with fail
         refine(HP1.out wb).mono ?_
         rintro e wc ⟨rfl,hb⟩
         have hk:=blk_below HKB.out hb
         have e1:wc.cell? ⟨wr.heap.size,1,none⟩=some (.int .u64 hh):=(blk_cell hk 1).trans rfl
         have HB2:=hQ (HB1.out.trans (hb.mono HB1.out.size))
         clear hb hk e2
         go_wp2_with fail
         refine(HPU.out wc).mono ?_
         rintro e wd ⟨rfl,hb⟩
         have HH:=hQ (H.out.below (HB2.out.trans (hb.mono HB2.out.size)))
         clear hb e1
         go_wp2_with fail
         go_roundw
         case rel=>exact⟨i+1,by omega,by go_num,by rw[HNX.out,List.append_assoc],HH⟩
         case measure=>simp[intOf];omega
        |false=>
         have hdm:ints (vb (2*n+(if false=true then 1 else 0)).toNat)=ints (vb (2*n).toNat):=by rw[if_neg (by simp),Int.add_zero]
         rw[hdm]at hDe HNX
         have HP1:=hQ (fun(W':World)=>put1_any (2*n) (by omega) W')
         generalize ints (vb (2*n).toNat)=t1 at*
         have hadd1:=add_str PD t1 (by omega)
         have hadd2:=add_str (PD++t1) t2 (by rw[List.length_append];omega)
         clear kw3
         go_wp2_with fail
         refine(HP1.out wb).mono ?_
         rintro e wc ⟨rfl,hb⟩
         have hk:=blk_below HKB.out hb
         have e1:wc.cell? ⟨wr.heap.size,1,none⟩=some (.int .u64 hh):=(blk_cell hk 1).trans rfl
         have HB2:=hQ (HB1.out.trans (hb.mono HB1.out.size))
         clear hb hk e2
         go_wp2_with fail
         refine(HPU.out wc).mono ?_
         rintro e wd ⟨rfl,hb⟩
         have HH:=hQ (H.out.below (HB2.out.trans (hb.mono HB2.out.size)))
         clear hb e1
         go_wp2_with fail
         go_roundw
         case rel=>exact⟨i+1,by omega,by go_num,by rw[HNX.out,List.append_assoc],HH⟩
         case measure=>simp[intOf];omega
       ·obtain rfl:i=l.length:=by omega
        have hdl:decide ((l.length:Int)<(l.length:Int))=false:=decide_eq_false (by omega)
        rw[List.take_length]
        obtain⟨PE,hPE⟩:=eX (P++depsE v T2 l)
        have hle:=depsE_len v T2 (by omega) l (fun y hy=>⟨(HM.out.d y hy).2.1,(HDR.out y hy).2⟩)
        have lPE:PE.length≤2000:=by rw[←hPE,List.length_append];omega
        rw[hPE]
        obtain⟨q4,hq4⟩:=eX (ints (vb x4.toNat))
        obtain⟨q5,hq5⟩:=eX (ints (vb x5.toNat))
        have l4:q4.length≤10:=by rw[←hq4];exact vbI_len x4 HR4.out.2
        have l5:q5.length≤10:=by rw[←hq5];exact vbI_len x5 HR5.out.2
        have HQ4:=hQ (fun(W':World)=>put1_any x4 HR4.out W')
        have HQ5:=hQ (fun(W':World)=>put1_any x5 HR5.out W')
        rw[hq4]at HQ4
        rw[hq5]at HQ5
        have hadd4:=add_str PE q4 (by omega)
        have hadd5:=add_str (PE++q4) q5 (by rw[List.length_append];omega)
        have HPE:=hQ hPE
        have HQ45:=hQ (And.intro hq4 hq5)
        clear hPE hle hq4 hq5
        have y4:=bcl H.out.box 4 rfl
        go_wp2_with fail
        refine(HQ4.out wr).mono ?_
        rintro e wb ⟨rfl,hb⟩
        have HZ:=hQ (H.out.below hb)
        clear hb y3 y4
        have y5:=bcl HZ.out.box 5 rfl
        go_wp2_with fail
        refine(HQ5.out wb).mono ?_
        rintro e wc ⟨rfl,hb⟩
        have HZ:=hQ (HZ.out.below hb)
        clear hb y5
        by_cases h6:x6.size=0
        ·have hem:x6.toList.isEmpty=true:=by rw[List.isEmpty_iff];exact tl_nil.2 h6
         have hem2:(x6.toList==([]:List UInt8))=true:=by rw[tl_nil.2 h6];rfl
         have hem3:(x6.toList !=([]:List UInt8))=false:=by rw[tl_nil.2 h6];rfl
         obtain⟨q6,hq6⟩:=eX (ints (vb 0))
         have htg:tagE T2 x6=q6:=by unfold tagE;rw[if_pos h6,hq6]
         have l6:q6.length≤10:=by rw[←hq6];exact vbI_len 0 (by omega)
         have HQ6:=hQ (fun(W':World)=>put1_any 0 (by omega) W')
         rw[Int.toNat_zero,hq6]at HQ6
         have HLE:Hid (lastE v T2 k0 x1 x2 l x4 x5 x6=PE++(q4++(q5++q6))):=hQ (by
          unfold lastE bodyE
          rw[if_neg HKN.out.2,if_pos (show 2≤v by have:=HV.out;omega),if_pos (show 3≤v by have:=HV.out;omega),HQ45.out.2,htg,←HPE.out,←HPP.out,←HP0.out,←HQE.out.1,←HQE.out.2.1,←HQE.out.2.2.1,←HQE.out.2.2.2,←HQ45.out.1,HKN.out.1,Int.toNat_natCast]
          rw[show ints (vb ((1:Int).toNat))=[1] from vb_k 1 (by omega)]
          simp only[List.append_assoc,List.append_nil])
         have hadd6:=add_str (PE++(q4++q5)) q6 (by simp only[List.length_append];omega)
         clear h6 hq6 htg
         have y6:=bcl HZ.out.box 6 rfl
         go_wp2_with fail
         refine(HQ6.out wc).mono ?_
         rintro e wd ⟨rfl,hb⟩
         have HZ:=hQ (HZ.out.below hb)
         clear hb y6
         have y6:=bcl HZ.out.box 6 rfl
         have hmr:(rows.map strOfNums).length≤1000000:=by rw[List.length_map];have:=HRL.out;omega
         go_wp2_with (at_builtin;refine Halt.mk ?_)
         refine Halt.of ?_
         have hb4:Below wd.heap.size wd (wd.alloc (.cells #[.string (strOfNums (PE++(q4++(q5++q6))))] 9)):=(Below.refl _ _).alloc (Nat.le_refl _) _
         have hk4:(wd.alloc (.cells #[.string (strOfNums (PE++(q4++(q5++q6))))] 9)).heap[wd.heap.size]? =some (.cells #[.string (strOfNums (PE++(q4++(q5++q6))))] 9 (0,0)):=heap_new _ _
         have hZ4:=HZ.out.below hb4
         refine Kd.R_append_rows Kd.string (w0:=Wq) Wq.heap.size rfl (.tmp 164) (.tmp 166) 52 9 (.string ⟨#[]⟩) 16 rfl Tryz.underlying52 info_str9 rfl (by decide) (by omega) _ (rows.map strOfNums) [strOfNums (PE++(q4++(q5++q6)))] _ _ _ (fun _=>True) (fun _=>False) rfl rfl hZ4.rw (row_val _ hk4) ?_ (fun _ h=>h.elim) (fun _ _=>trivial) hZ4.bl hZ4.bl.size (by omega) ?_
         ·rintro _ _ ⟨rfl,rfl⟩;rfl
         intro v6 w6 hR6 hb6 hg6 hat6
         have e6:rows.map strOfNums++[strOfNums (PE++(q4++(q5++q6)))]=((rows++[(PE++(q4++(q5++q6)))]).map strOfNums):=by rw[List.map_append];rfl
         rw[e6]at hR6
         have h6:=hZ4.pushed hR6 hb6 hg6 hat6
         obtain⟨A8,c8,e8,hc8,hC8⟩:=h6.tab
         obtain⟨rfl,_,rfl⟩:A2=A8∧T2.length=T2.length∧c2=c8:=by injection e8 with a1 a2 a3;exact⟨a1,a2,a3⟩
         have HE:=hQ (And.intro h6 (And.intro hc8 hC8))
         obtain⟨Ar,cr,e9⟩:=Kd.R_slice hR6
         rw[List.length_map,List.length_append,List.length_singleton]at e9
         subst e9
         clear hR6 hb6 hg6 hat6 e6 h6 e8 hc8 hC8 hb4 hk4 hZ4
         go_wp2_with fail
         go_ret3
         obtain⟨h6,hc8,hC8⟩:=HE.out
         refine⟨_,A2,c2,rfl, ?_,hc8,hC8,h6.bl,h6.tb.imp (fun h=>by obtain⟨e1,e2⟩:=h;injection e2 with a1 a2 a3;exact⟨a1,a3,e1⟩) (fun hR=>Kd.R_mono hR (fun _ _=>trivial))⟩
         have h9:=h6.rw
         show Kd.R Kd.string 9 _ _ _ _ ((rows++[lastE v T2 k0 x1 x2 l x4 x5 x6]).map strOfNums)
         rw[HLE.out]
         first|exact h9|(rw[moreE_self];exact h9)
        ·have hne:x6.toList≠[]:=fun h=>h6 (tl_nil.1 h)
         have hem:x6.toList.isEmpty=false:=by rw[Bool.eq_false_iff,ne_eq,List.isEmpty_iff];exact hne
         have hem2:(x6.toList==([]:List UInt8))=false:=by simpa using hne
         have hem3:(x6.toList !=([]:List UInt8))=true:=by simpa using hne
         have hsT:=HIN.out (by have:=HV.out;omega) x6 (by unfold namesL;rw[if_neg hne];simp)
         have hat:=atI_bd T2 x6 (by omega)
         obtain⟨A',c',e9,_,hCz⟩:=HZ.out.tab
         obtain⟨rfl,_,rfl⟩:A2=A'∧T2.length=T2.length∧c2=c':=by injection e9 with a1 a2 a3;exact⟨a1,a2,a3⟩
         have hPl:=tephraref07_Place.calls (T2.length+1) A2 c2 T2 x6 (posI8 T2 x6) wc hCz hc2 (place_is8 T2 (by omega) x6 _ (by omega))
         rw[atI_pos hsT]at hPl
         obtain⟨n,hn⟩:=eX (atI T2 x6)
         obtain⟨q6,hq6⟩:=eX (ints (vb (n+1).toNat))
         have htg:tagE T2 x6=q6:=by unfold tagE;rw[if_neg h6,hn,hq6]
         rw[hn]at hPl hat
         have HPL:=hQ hPl
         have l6:q6.length≤10:=by rw[←hq6];exact vbI_len (n+1) (by omega)
         have HQ6:=hQ (fun(W':World)=>put1_any (n+1) (by omega) W')
         rw[hq6]at HQ6
         have HLE:Hid (lastE v T2 k0 x1 x2 l x4 x5 x6=PE++(q4++(q5++q6))):=hQ (by
          unfold lastE bodyE
          rw[if_neg HKN.out.2,if_pos (show 2≤v by have:=HV.out;omega),if_pos (show 3≤v by have:=HV.out;omega),HQ45.out.2,htg,←HPE.out,←HPP.out,←HP0.out,←HQE.out.1,←HQE.out.2.1,←HQE.out.2.2.1,←HQE.out.2.2.2,←HQ45.out.1,HKN.out.1,Int.toNat_natCast]
          rw[show ints (vb ((1:Int).toNat))=[1] from vb_k 1 (by omega)]
          simp only[List.append_assoc,List.append_nil])
         have hadd6:=add_str (PE++(q4++q5)) q6 (by simp only[List.length_append];omega)
         have kw1:IntKind.u64.wrap n=n:=by rw[IntKind.wrap_u64];omega
         have kw2:IntKind.u64.wrap (n+1)=n+1:=by rw[IntKind.wrap_u64];omega
         clear h6 hq6 htg hsT hn hPl hCz e9 hne
         have y6:=bcl HZ.out.box 6 rfl
         go_wp2_with fail
         refine HPL.out.mono ?_
         rintro e wd ⟨rfl,hdr⟩
         have hb:=hdr.below
         have HZ:=hQ (HZ.out.below hb)
         clear hb hdr y6
         go_wp2_with fail
         refine(HQ6.out wd).mono ?_
         rintro e we ⟨rfl,hb⟩
         have HZ:=hQ (HZ.out.below hb)
         clear hb
         have hmr:(rows.map strOfNums).length≤1000000:=by rw[List.length_map];have:=HRL.out;omega
         go_wp2_with (at_builtin;refine Halt.mk ?_)
         refine Halt.of ?_
         have hb4:Below we.heap.size we (we.alloc (.cells #[.string (strOfNums (PE++(q4++(q5++q6))))] 9)):=(Below.refl _ _).alloc (Nat.le_refl _) _
         have hk4:(we.alloc (.cells #[.string (strOfNums (PE++(q4++(q5++q6))))] 9)).heap[we.heap.size]? =some (.cells #[.string (strOfNums (PE++(q4++(q5++q6))))] 9 (0,0)):=heap_new _ _
         have hZ4:=HZ.out.below hb4
         refine Kd.R_append_rows Kd.string (w0:=Wq) Wq.heap.size rfl (.tmp 164) (.tmp 166) 52 9 (.string ⟨#[]⟩) 16 rfl Tryz.underlying52 info_str9 rfl (by decide) (by omega) _ (rows.map strOfNums) [strOfNums (PE++(q4++(q5++q6)))] _ _ _ (fun _=>True) (fun _=>False) rfl rfl hZ4.rw (row_val _ hk4) ?_ (fun _ h=>h.elim) (fun _ _=>trivial) hZ4.bl hZ4.bl.size (by omega) ?_
         ·rintro _ _ ⟨rfl,rfl⟩;rfl
         intro v6 w6 hR6 hb6 hg6 hat6
         have e6:rows.map strOfNums++[strOfNums (PE++(q4++(q5++q6)))]=((rows++[(PE++(q4++(q5++q6)))]).map strOfNums):=by rw[List.map_append];rfl
         rw[e6]at hR6
         have h6:=hZ4.pushed hR6 hb6 hg6 hat6
         obtain⟨A8,c8,e8,hc8,hC8⟩:=h6.tab
         obtain⟨rfl,_,rfl⟩:A2=A8∧T2.length=T2.length∧c2=c8:=by injection e8 with a1 a2 a3;exact⟨a1,a2,a3⟩
         have HE:=hQ (And.intro h6 (And.intro hc8 hC8))
         obtain⟨Ar,cr,e9⟩:=Kd.R_slice hR6
         rw[List.length_map,List.length_append,List.length_singleton]at e9
         subst e9
         clear hR6 hb6 hg6 hat6 e6 h6 e8 hc8 hC8 hb4 hk4 hZ4
         go_wp2_with fail
         go_ret3
         obtain⟨h6,hc8,hC8⟩:=HE.out
         refine⟨_,A2,c2,rfl, ?_,hc8,hC8,h6.bl,h6.tb.imp (fun h=>by obtain⟨e1,e2⟩:=h;injection e2 with a1 a2 a3;exact⟨a1,a3,e1⟩) (fun hR=>Kd.R_mono hR (fun _ _=>trivial))⟩
         have h9:=h6.rw
         show Kd.R Kd.string 9 _ _ _ _ ((rows++[lastE v T2 k0 x1 x2 l x4 x5 x6]).map strOfNums)
         rw[HLE.out]
         first|exact h9|(rw[moreE_self];exact h9)
    ·have hkd:(k0==1)=false:=by rw[hk];rfl
     have hkd2:decide (k0=1)=false:=decide_eq_false (by omega)
     have y0:=bcl HBX.out 0 rfl
     have HZ:=HX
     have HLE:Hid (lastE v T2 k0 x1 x2 l x4 x5 x6=p0):=hQ (by
      unfold lastE
      rw[if_pos hk,List.append_nil,←HP0.out,←HQE.out.1,←HQE.out.2.1,hk]
      rw[show ints (vb ((2:Int).toNat))=[2] from vb_k 2 (by omega)])
     clear hk
     have hmr:(rows.map strOfNums).length≤1000000:=by rw[List.length_map];have:=HRL.out;omega
     go_wp2_with (at_builtin;refine Halt.mk ?_)
     refine Halt.of ?_
     have hb4:Below W.heap.size W (W.alloc (.cells #[.string (strOfNums p0)] 9)):=(Below.refl _ _).alloc (Nat.le_refl _) _
     have hk4:(W.alloc (.cells #[.string (strOfNums p0)] 9)).heap[W.heap.size]? =some (.cells #[.string (strOfNums p0)] 9 (0,0)):=heap_new _ _
     have hZ4:=HZ.out.below hb4
     refine Kd.R_append_rows Kd.string (w0:=Wq) Wq.heap.size rfl (.tmp 164) (.tmp 166) 52 9 (.string ⟨#[]⟩) 16 rfl Tryz.underlying52 info_str9 rfl (by decide) (by omega) _ (rows.map strOfNums) [strOfNums p0] _ _ _ (fun _=>True) (fun _=>False) rfl rfl hZ4.rw (row_val _ hk4) ?_ (fun _ h=>h.elim) (fun _ _=>trivial) hZ4.bl hZ4.bl.size (by omega) ?_
     ·rintro _ _ ⟨rfl,rfl⟩;rfl
     intro v6 w6 hR6 hb6 hg6 hat6
     have e6:rows.map strOfNums++[strOfNums p0]=((rows++[p0]).map strOfNums):=by rw[List.map_append];rfl
     rw[e6]at hR6
     have h6:=hZ4.pushed hR6 hb6 hg6 hat6
     obtain⟨A8,c8,e8,hc8,hC8⟩:=h6.tab
     obtain⟨rfl,_,rfl⟩:A2=A8∧T2.length=T2.length∧c2=c8:=by injection e8 with a1 a2 a3;exact⟨a1,a2,a3⟩
     have HE:=hQ (And.intro h6 (And.intro hc8 hC8))
     obtain⟨Ar,cr,e9⟩:=Kd.R_slice hR6
     rw[List.length_map,List.length_append,List.length_singleton]at e9
     subst e9
     clear hR6 hb6 hg6 hat6 e6 h6 e8 hc8 hC8 hb4 hk4 hZ4
     go_wp2_with fail
     go_ret3
     obtain⟨h6,hc8,hC8⟩:=HE.out
     refine⟨_,A2,c2,rfl, ?_,hc8,hC8,h6.bl,h6.tb.imp (fun h=>by obtain⟨e1,e2⟩:=h;injection e2 with a1 a2 a3;exact⟨a1,a3,e1⟩) (fun hR=>Kd.R_mono hR (fun _ _=>trivial))⟩
     have h9:=h6.rw
     show Kd.R Kd.string 9 _ _ _ _ ((rows++[lastE v T2 k0 x1 x2 l x4 x5 x6]).map strOfNums)
     rw[HLE.out]
     first|exact h9|(rw[moreE_self];exact h9)
theorem rput9_ver (W:World) (v:Int) (A:Option Addr) (c:Nat) (T:List ByteArray) (hC:Kd.C Kd.string W A T.length T) (hc:T.length≤c) (hT:T.length≤100000) (k0:Int) (x1:ByteArray) (x2:Int) (B:Option Addr) (d:Nat) (l:List S129) (x4 x5:Int) (x6:ByteArray)
  (hrow:Kd.C k129 W B l.length l) (hd:l.length≤d) (hok:RecOk x1 l x6) (hv: ¬(1≤v∧v≤3)):
  Calls Tryz.prog 30 #[.int .i64 v,.slice A T.length c,.agg #[.int .i64 k0,.string x1,.int .u64 x2,.slice B l.length d,.int .u64 x4,.int .u64 x5,.string x6]] W (RPutPost W A c T (putF v T k0 x1 x2 l x4 x5 x6)):=by
 have hpf:putF v T k0 x1 x2 l x4 x5 x6=([],T,11):=by unfold putF;rw[if_neg hv]
 rw[hpf]
 obtain⟨wz,hwz⟩:=eX ((W.alloc (.cells #[.int .i64 k0,.string x1,.int .u64 x2,.slice B l.length d,.int .u64 x4,.int .u64 x5,.string x6] 49)).alloc (.cells #[] 9))
 have hbz:Below W.heap.size W wz:=by rw[←hwz];exact((Below.refl _ _).alloc (Nat.le_refl _) _).alloc (by rw[heap_size_alloc];omega) _
 have hke:wz.heap[W.heap.size+1]? =some (.cells #[] 9 (0,0)):=by rw[←hwz];exact heap_new2 _ _ _
 obtain⟨b5,hb5⟩:=eX (W.heap.size)
 rw[hb5]at hke
 have hre:=R_empty Kd.string wz W.heap.size (b5+1) 9 (fun _=>True) hke (by omega) trivial
 have HC:=hQ hC
 have HBZ:=hQ hbz
 have HWZ:=hQ hwz
 have HREZ:=hQ hre
 have HB5:=hQ hb5
 by_cases h1:v<1
 ·have d1:decide (v<1)=true:=decide_eq_true h1
  clear hpf hC hbz hke hre hwz hb5 hok hrow
  go_enter Tryz.func30,Tryz.ntmps30
  go_wp2_with fail
  (try rw[HWZ.out,HB5.out])
  go_ret3
  exact⟨_,A,c,rfl,HREZ.out,hc,Kd.C_below HC.out HBZ.out,HBZ.out,.inl ⟨rfl,rfl,rfl⟩⟩
 ·have d1:decide (v<1)=false:=decide_eq_false h1
  have d3:decide (3<v)=true:=decide_eq_true (by omega)
  clear hpf hC hbz hke hre hwz hb5 hok hrow
  go_enter Tryz.func30,Tryz.ntmps30
  go_wp2_with fail
  (try rw[HWZ.out,HB5.out])
  go_ret3
  exact⟨_,A,c,rfl,HREZ.out,hc,Kd.C_below HC.out HBZ.out,HBZ.out,.inl ⟨rfl,rfl,rfl⟩⟩
theorem rput9_no (W:World) (v:Int) (A:Option Addr) (c:Nat) (T:List ByteArray) (hC:Kd.C Kd.string W A T.length T) (hc:T.length≤c) (hT:T.length≤100000) (k0:Int) (x1:ByteArray) (x2:Int) (B:Option Addr) (d:Nat) (l:List S129) (x4 x5:Int) (x6:ByteArray)
  (hrow:Kd.C k129 W B l.length l) (hd:l.length≤d) (hok:RecOk x1 l x6) (hv:1≤v∧v≤3) (hm:mayB v k0 x1 x2 l x4 x5 x6=false):
  Calls Tryz.prog 30 #[.int .i64 v,.slice A T.length c,.agg #[.int .i64 k0,.string x1,.int .u64 x2,.slice B l.length d,.int .u64 x4,.int .u64 x5,.string x6]] W (RPutPost W A c T (putF v T k0 x1 x2 l x4 x5 x6)):=by
 have hpf:putF v T k0 x1 x2 l x4 x5 x6=([],T,1):=by unfold putF;rw[if_pos hv,if_neg (by rw[hm];simp)]
 rw[hpf]
 obtain⟨wz,hwz⟩:=eX ((W.alloc (.cells #[.int .i64 k0,.string x1,.int .u64 x2,.slice B l.length d,.int .u64 x4,.int .u64 x5,.string x6] 49)).alloc (.cells #[] 9))
 have hbz:Below W.heap.size W wz:=by rw[←hwz];exact((Below.refl _ _).alloc (Nat.le_refl _) _).alloc (by rw[heap_size_alloc];omega) _
 have hke:wz.heap[W.heap.size+1]? =some (.cells #[] 9 (0,0)):=by rw[←hwz];exact heap_new2 _ _ _
 obtain⟨b5,hb5⟩:=eX (W.heap.size)
 rw[hb5]at hke
 have hre:=R_empty Kd.string wz W.heap.size (b5+1) 9 (fun _=>True) hke (by omega) trivial
 have HC:=hQ hC
 have HBZ:=hQ hbz
 have HWZ:=hQ hwz
 have HREZ:=hQ hre
 have HB5:=hQ hb5
 have HMY:=hQ (rmay_any v k0 x1 x2 l x4 x5 x6 B d wz (Kd.C_below hrow hbz))
 rw[hm]at HMY
 have d1:decide (v<1)=false:=decide_eq_false (by omega)
 have d3:decide (3<v)=false:=decide_eq_false (by omega)
 clear hpf hC hbz hke hre hwz hb5 hok hrow hm
 go_enter Tryz.func30,Tryz.ntmps30
 go_wp2_with fail
 rw[HWZ.out,HB5.out]
 refine HMY.out.mono ?_
 rintro e wa ⟨rfl,hb⟩
 have hbb:=HBZ.out.trans (hb.mono HBZ.out.size)
 go_wp2_with fail
 go_ret3
 exact⟨_,A,c,rfl,Kd.R_below HREZ.out hb,hc,Kd.C_below HC.out hbb,hbb,.inl ⟨rfl,rfl,rfl⟩⟩
theorem rput9_any (W:World) (v:Int) (A:Option Addr) (c:Nat) (T:List ByteArray) (hC:Kd.C Kd.string W A T.length T) (hc:T.length≤c) (hT:T.length≤100000) (k0:Int) (x1:ByteArray) (x2:Int) (B:Option Addr) (d:Nat) (l:List S129) (x4 x5:Int) (x6:ByteArray)
  (hrow:Kd.C k129 W B l.length l) (hd:l.length≤d) (hok:RecOk x1 l x6) (h2:0≤x2∧x2<18446744073709551616) (h4:0≤x4∧x4<18446744073709551616) (h5:0≤x5∧x5<18446744073709551616) (hdr: ∀y∈l,0≤y.f1∧y.f1<18446744073709551616):
  Calls Tryz.prog 30 #[.int .i64 v,.slice A T.length c,.agg #[.int .i64 k0,.string x1,.int .u64 x2,.slice B l.length d,.int .u64 x4,.int .u64 x5,.string x6]] W (RPutPost W A c T (putF v T k0 x1 x2 l x4 x5 x6)):=by
 by_cases hv:1≤v∧v≤3
 ·by_cases hm:mayB v k0 x1 x2 l x4 x5 x6=true
  ·have hv3:v=1∨v=2∨v=3:=by omega
   rcases hv3 with h|h|h
   ·exact rput9_1 W v A c T hC hc hT k0 x1 x2 B d l x4 x5 x6 hrow hd hok h hm h2 h4 h5 hdr
   ·exact rput9_2 W v A c T hC hc hT k0 x1 x2 B d l x4 x5 x6 hrow hd hok h hm h2 h4 h5 hdr
   ·exact rput9_3 W v A c T hC hc hT k0 x1 x2 B d l x4 x5 x6 hrow hd hok h hm h2 h4 h5 hdr
  ·exact rput9_no W v A c T hC hc hT k0 x1 x2 B d l x4 x5 x6 hrow hd hok hv (by rwa [Bool.not_eq_true]at hm)
 ·exact rput9_ver W v A c T hC hc hT k0 x1 x2 B d l x4 x5 x6 hrow hd hok hv
end Go.Proofs.YtfflenbfapgilaaGreat
namespace Go.Proofs.YtfflenbfapgilaaGreat
open Go.RowKit Go.Proofs.YtfflenbfapgilaaGreatW.PrintWords Go.Proofs.YtfflenbfapgilaaGreat.GRR
theorem results_cttt {P:Program} {fn:Func} {p u v x:Tmp} {ty:TypeId} (h:fn.results=#[.cell p ty,.tmp u,.tmp v,.tmp x]) (tmps:Array Value) (w:World) (g:Nat) (t:TypeId) (cs:Array Value) (fr:Nat×Nat) (d:TypeDesc)
  (hp:tmps.getD p undef= .pointer (some ⟨g,0,none⟩)) (hg:w.heap[g]? =some (.cells cs t fr))
  (hu:P.underlying ty=some d) (hd:(match d with| .struct _| .array _ _=>true|_=>false)=true) (hi:(P.info? ty).map (·.size)=some cs.size):
  (results fn tmps).run P w= .ok (.tuple #[.agg cs,tmps.getD u undef,tmps.getD v undef,tmps.getD x undef]) w:=by
 have hp':tmps[p]?.getD undef= .pointer (some ⟨g,0,none⟩):=by simpa using hp
 simp[results,h,hp',asAddr,run_loadVar_row w g t ty cs fr d hg hu hd hi]
theorem fa7 {w:World} {g:Nat} {t:TypeId} {v0 v1 v2 v3 v4 v5 v6:Value} (h:w.heap[g]? =some (.cells #[v0,v1,v2,v3,v4,v5,v6] t (0,0))):w.cell? ⟨g,0,none⟩=some v0∧w.cell? ⟨g,1,none⟩=some v1∧w.cell? ⟨g,2,none⟩=some v2∧w.cell? ⟨g,3,none⟩=some v3∧w.cell? ⟨g,4,none⟩=some v4∧w.cell? ⟨g,5,none⟩=some v5∧w.cell? ⟨g,6,none⟩=some v6:=
 ⟨(blk_cell h 0).trans rfl,(blk_cell h 1).trans rfl,(blk_cell h 2).trans rfl,(blk_cell h 3).trans rfl,(blk_cell h 4).trans rfl,(blk_cell h 5).trans rfl,(blk_cell h 6).trans rfl⟩
theorem fa14 {w:World} {g:Nat} {t:TypeId} {v0 v1 v2 v3 v4 v5 v6:Value} (h:w.heap[g]? =some (.cells #[v0,v1,v2,v3,v4,v5,v6] t (0,0))):w.cell? ⟨g,0,none⟩=some v0∧w.frozen? ⟨g,0,none⟩=false∧w.cell? ⟨g,1,none⟩=some v1∧w.frozen? ⟨g,1,none⟩=false∧w.cell? ⟨g,2,none⟩=some v2∧w.frozen? ⟨g,2,none⟩=false∧w.cell? ⟨g,3,none⟩=some v3∧w.frozen? ⟨g,3,none⟩=false∧w.cell? ⟨g,4,none⟩=some v4∧w.frozen? ⟨g,4,none⟩=false∧w.cell? ⟨g,5,none⟩=some v5∧w.frozen? ⟨g,5,none⟩=false∧w.cell? ⟨g,6,none⟩=some v6∧w.frozen? ⟨g,6,none⟩=false:=
 ⟨(blk_cell h 0).trans rfl,blk_frozen h 0,(blk_cell h 1).trans rfl,blk_frozen h 1,(blk_cell h 2).trans rfl,blk_frozen h 2,(blk_cell h 3).trans rfl,blk_frozen h 3,(blk_cell h 4).trans rfl,blk_frozen h 4,(blk_cell h 5).trans rfl,blk_frozen h 5,(blk_cell h 6).trans rfl,blk_frozen h 6⟩
theorem str_tail (x:Int) (q:List Int):(strOfNums (x::q)).extract 1 (q.length+1)=defS (x::q):=by
 apply ByteArray.ext
 apply Array.ext'
 simp[strOfNums,defS,ByteArray.data_extract,List.extract_eq_take_drop,List.take_of_length_le]
theorem seg_step {F ps:List (List Int)} {a i:Nat} (h1: ∀p∈F,∀x∈p,0≤x∧x<256) (h2: ∀p∈ps,p.length≤3000∧∀x∈p,0≤x∧x<256) (he: ∀j,j<i→F[j]? =ps[a+j]?) (hi:i<F.length) (hj:a+i<ps.length) (hf:strOfNums F[i]=strOfNums ps[a+i]): ∀j,j<i+1→F[j]? =ps[a+j]? :=by
 intro j hj2
 rcases Nat.lt_or_ge j i with h|h
 ·exact he j h
 ·obtain rfl:j=i:=by omega
  have e:=strs_inj (h1 _ (List.getElem_mem hi)) (h2 _ (List.getElem_mem hj)).2
  rw[hf]at e
  simp at e
  rw[List.getElem?_eq_getElem hi,List.getElem?_eq_getElem hj,e]
theorem seg_at {F ps:List (List Int)} {a i n:Nat} (h:F=(ps.take n).drop a) (hi:i<F.length) (hj:a+i<ps.length):F[i]=ps[a+i]:=by
 subst h
 rw[List.getElem_drop,List.getElem_take]
theorem seg_all {F ps:List (List Int)} {a n:Nat} (hn:n<ps.length) (hl:F.length=n+1-a) (he: ∀j,j<F.length→F[j]? =ps[a+j]?):F=(ps.take (n+1)).drop a:=by
 apply List.ext_getElem?
 intro j
 by_cases h:j<F.length
 ·rw[he j h,List.getElem?_drop,List.getElem?_take_of_lt (by omega)]
 ·rw[List.getElem?_eq_none (by omega),List.getElem?_eq_none (by rw[List.length_drop,List.length_take];omega)]
theorem alsz {T al:List ByteArray} {ps:List (List Int)} {a m:Nat} (hs: ∀s∈T,s.size≤maxLen) (hps: ∀p∈ps,p.length≤3000∧∀x∈p,0≤x∧x<256) (h:tnewOn T (((ps.drop a).take m).map defS)=al): ∀s∈al,s.size≤maxLen:=by
 intro s hsm
 rw[←h,mem_tnewOn]at hsm
 rcases hsm with hsm|hsm
 ·exact hs s hsm
 ·obtain⟨q,hq,rfl⟩:=List.mem_map.1 hsm
  have hqm:q∈ps:=List.mem_of_mem_drop (List.mem_of_mem_take hq)
  unfold defS
  rw[strOfNums_size,List.length_tail]
  have:=(hps q hqm).1
  simp only[maxLen]
  omega
theorem lastW_rg {v:Int} {T:List ByteArray} {l:List Int} (hT: ∀s∈T,s.size≤maxLen) (hb: ∀x∈l,0≤x∧x<256) (hl:l.length≤1000000):RecRg (lastW v T l).1 (l.length+2):=by
 have z:(0:Int)≤0∧(0:Int)<18446744073709551616:=⟨by omega,by omega⟩
 unfold lastW
 obtain⟨N1,hN1⟩:=eX (cuNum l 0 0)
 rw[hN1]
 obtain⟨k,a1,e1⟩:=N1
 dsimp only
 by_cases hbad:e1≠0∨(k≠1∧k≠2)
 ·rw[if_pos hbad]
  exact⟨⟨by show(0:Int)≤0;omega,by show(0:Int)<256;omega⟩,Nat.zero_le _,z,Nat.zero_le _,by simp,z,z,Nat.zero_le _⟩
 ·rw[if_neg hbad]
  have h:=lastR_rg (v:=v) hT hb hl
  rw[lastR_K,kind_byte hb hN1 (by omega) (by omega)]at h
  exact h
def RGetPost (W:World) (A:Option Addr) (c:Nat) (T:List ByteArray) (F:Rec9×Int×List ByteArray×Int) (e:Ending) (W':World):Prop:=
 ∃dv A' c',e= .returned (.tuple #[.agg #[.int .i64 F.1.1,.string F.1.2.1,.int .u64 F.1.2.2.1,dv,.int .u64 F.1.2.2.2.2.1,.int .u64 F.1.2.2.2.2.2.1,.string F.1.2.2.2.2.2.2],.int .i64 F.2.1,.slice A' F.2.2.1.length c', .int .i64 F.2.2.2])∧Kd.R k129 129 W' W.heap.size (fun _=>True) dv F.1.2.2.2.1∧F.2.2.1.length≤c'∧Kd.C Kd.string W' A' F.2.2.1.length F.2.2.1∧Below W.heap.size W W'∧((A'=A∧c'=c∧F.2.2.1=T)∨Kd.R Kd.string 9 W' W.heap.size (fun _=>True) (.slice A' F.2.2.1.length c') F.2.2.1)
theorem rget_ok (W:World) (v:Int) (hv:1≤v∧v≤3) (A:Option Addr) (c:Nat) (T:List ByteArray) (hC:Kd.C Kd.string W A T.length T) (hc:T.length≤c) (hT:T.length≤50000) (hTd:T.Nodup) (hTs: ∀s∈T,s.size≤maxLen) (B:Option Addr) (d:Nat) (ps:List (List Int)) (hP:Kd.C Kd.string W B ps.length (ps.map strOfNums)) (hd:ps.length≤d) (hbt: ∀p∈ps,p.length≤3000∧∀x∈p,0≤x∧x<256) (hn:ps.length≤10000) (a:Nat) (ha:a≤ps.length):
  Calls Tryz.prog 14 #[.int .i64 v,.slice A T.length c,.slice B ps.length d,.int .i64 (a:Int)] W (RGetPost W A c T (getF v T ps (a:Int))):=by
 obtain⟨W1,hW1⟩:=eX ((W.alloc (.cells #[.int .i64 0,.string ⟨#[]⟩,.int .u64 0,.slice none 0 0,.int .u64 0,.int .u64 0,.string ⟨#[]⟩] 49)).alloc (.cells #[.int .i64 0,.string ⟨#[]⟩,.int .u64 0,.slice none 0 0,.int .u64 0,.int .u64 0,.string ⟨#[]⟩] 49))
 have hb1:Below W.heap.size W W1:=by rw[←hW1];exact((Below.refl _ _).alloc (Nat.le_refl _) _).alloc (by rw[heap_size_alloc];omega) _
 have hk8:W1.heap[W.heap.size]? =some (.cells #[.int .i64 0,.string ⟨#[]⟩,.int .u64 0,.slice none 0 0,.int .u64 0,.int .u64 0,.string ⟨#[]⟩] 49 (0,0)):=by rw[←hW1];exact blk_alloc (heap_new _ _) _
 have hk12:W1.heap[W.heap.size+1]? =some (.cells #[.int .i64 0,.string ⟨#[]⟩,.int .u64 0,.slice none 0 0,.int .u64 0,.int .u64 0,.string ⟨#[]⟩] 49 (0,0)):=by
  rw[←hW1]
  have:=heap_new (W.alloc (.cells #[.int .i64 0,.string ⟨#[]⟩,.int .u64 0,.slice none 0 0,.int .u64 0,.int .u64 0,.string ⟨#[]⟩] 49)) (.cells #[.int .i64 0,.string ⟨#[]⟩,.int .u64 0,.slice none 0 0,.int .u64 0,.int .u64 0,.string ⟨#[]⟩] 49)
  rwa [heap_size_alloc]at this
 obtain⟨b8,hb8⟩:=eX (W.heap.size)
 rw[hb8]at hk8 hk12
 have HC:=hQ hC
 have HP:=hQ hP
 have HB1:=hQ hb1
 have HK8:=hQ hk8
 have HK12:=hQ hk12
 have HW1:=hQ hW1
 have HB8:=hQ hb8
 have HU:=hQ Tryz.underlying49
 have HBT:=hQ hbt
 have HTS:=hQ (And.intro hTd hTs)
 have d1:decide (v<1)=false:=decide_eq_false (by omega)
 have d2:decide (3<v)=false:=decide_eq_false (by omega)
 have d3:decide ((a:Int)<0)=false:=decide_eq_false (by omega)
 have d4:decide (ps.length<a)=false:=decide_eq_false (by omega)
 have HV:=hQ hv
 clear hC hP hb1 hk8 hk12 hW1 hb8 hbt hTd hTs
 go_enter Tryz.func14,Tryz.ntmps14
 go_wp2_with fail
 rw[HW1.out,HB8.out]
 clear d1 d2 d3 d4
 go_loopw [13,14] (fun u13 u14 wr=>∃(n:Nat) (A':Option Addr) (c':Nat) (al:List ByteArray),a≤n∧n≤ps.length∧u13= .int .i64 (n:Int)∧u14= .slice A' al.length c'∧al.length≤c'∧al.length≤T.length+n∧Hid (Kd.C Kd.string wr A' al.length al)∧Hid (Below W1.heap.size W1 wr)∧Hid (∀j,a≤j→j<n→isDef (ps.getD j [])=true)∧Hid (tnewOn T (((ps.drop a).take (n-a)).map defS)=al)) (fun v _ _=>ps.length-(intOf v).toNat)
 case atStart=>exact⟨a,A,c,T,Nat.le_refl _,ha,rfl,rfl,hc,by omega,hQ (Kd.C_below HC.out HB1.out),hQ (Below.refl _ _),hQ (fun j h1 h2=>by omega),hQ (by rw[Nat.sub_self,List.take_zero];rfl)⟩
 case round=>
  obtain⟨n,A',c',al,hna,hnl,rfl,rfl,hac,haT,HA,HB,HD,HL⟩:=hrel
  have HBW:=hQ (HB1.out.trans (HB.out.mono HB1.out.size))
  have hml:(ps.map strOfNums).length=ps.length:=List.length_map ..
  by_cases hlt:n<ps.length
  ·have hdl:decide ((n:Int)<(ps.length:Int))=true:=decide_eq_true (by omega)
   obtain⟨ad,hA2,hcell⟩:=txt_at (T:=ps.map strOfNums) (by rw[hml];exact HP.out) HBW.out n (by omega)
   subst hA2
   rw[List.getElem_map]at hcell
   have hbp:=HBT.out ps[n] (List.getElem_mem _)
   have hgd:ps.getD n []=ps[n]:=by simp[hlt]
   have hG:isDef ps[n]=false→getF v T ps (a:Int)=getW v T ps a n:=fun hd=>by
    rw[getW_is (by omega) HTS.out.1 HTS.out.2 HBT.out hna hlt,getF_at HV.out hna hnl HD.out (fun _=>by rw[hgd];exact hd),if_neg (by omega)]
   have htk:(ps.drop a).take (n+1-a)=(ps.drop a).take (n-a)++[ps[n]]:=by
    have h1:n-a<(ps.drop a).length:=by rw[List.length_drop];omega
    rw[show n+1-a=n-a+1 by omega,List.take_succ_eq_append_getElem h1,List.getElem_drop]
    congr 3
    omega
   have hdn:isDef ps[n]=true→∀j,a≤j→j<n+1→isDef (ps.getD j [])=true:=fun hd j h1 h2=>by
    rcases Nat.lt_or_ge j n with h3|h3
    ·exact HD.out j h1 h3
    ·obtain rfl:j=n:=by omega
     rw[hgd];exact hd
   have hgw:getW v T ps a n=(let R:=lastW v al ps[n]
     let F:=putF v T R.1.1 R.1.2.1 R.1.2.2.1 R.1.2.2.2.1 R.1.2.2.2.2.1 R.1.2.2.2.2.2.1 R.1.2.2.2.2.2.2
     if R.2=true∧F.2.2=0∧F.1=(ps.take (n+1)).drop a then(R.1,((n+1:Nat):Int),F.2.1,0)else(rec0,0,T,3)):=by unfold getW;rw[HL.out,hgd]
   rw[hgw]at hG
   clear hgw hgd
   generalize ps[n]=p at*
   have hps0:(strOfNums p).size=p.length:=strOfNums_size p
   have hdq:defS p=strOfNums p.tail:=rfl
   by_cases hdef:isDef p=true
   ·obtain ⟨x,q,rfl,rfl⟩: ∃x q,p=x::q∧x=0:=by
     cases p with
     |nil=>simp[isDef]at hdef
     |cons x q=>exact⟨x,q,rfl,by simpa [isDef]using hdef⟩
    have hemp:(strOfNums (0::q)).toList.isEmpty=false:=by rw[tl_empty,hps0];exact decide_eq_false (by simp)
    have hex:(strOfNums (0::q)).extract 1 (q.length+1)=defS (0::q):=str_tail 0 q
    have hsz0:0<(strOfNums (0::q)).size:=by rw[hps0];simp
    have hby:((((strOfNums (0::q))[0]'hsz0).toNat:Int)==0)=true:=rfl
    have htp:=rtput_any A' c' al (defS (0::q)) wr HA.out hac (by omega)
    have hal2:tput al (defS (0::q))=tnewOn T (((ps.drop a).take (n+1-a)).map defS):=by
     rw[htk,List.map_append,List.map_singleton,tnewOn_snoc,HL.out]
    have hln2:(tput al (defS (0::q))).length≤T.length+(n+1):=by
     have h1:=tput_len_le al (defS (0::q));omega
    obtain⟨al2,hal3⟩:=eX (tput al (defS (0::q)))
    rw[hal3]at htp hal2 hln2
    have HTP:=hQ htp
    have HAL:=hQ hal2
    have HDN:=hQ (hdn hdef)
    have hwn:IntKind.i64.wrap ((n:Int)+1)=(n:Int)+1:=by rw[IntKind.wrap_i64];omega
    generalize strOfNums (0::q)=sp at*
    generalize defS (0::q)=sd at*
    clear hG htk hdn hdef htp hal2 hal3 hbp hdq
    go_wp2_with fail
    refine HTP.out.mono ?_
    rintro e w2 ⟨A2,c2,rfl,hc2,hC2,hb2,_⟩
    have HC2:=hQ hC2
    have HB2:=hQ (HB.out.trans (hb2.mono HB.out.size))
    clear hcell hemp hex hsz0 hby hC2 hb2
    go_wp2_with fail
    go_roundw
    case rel=>exact⟨n+1,A2,c2,al2,by omega,by omega,by go_num,rfl,hc2,hln2,HC2,HB2,HDN,hQ HAL.out.symm⟩
    case measure=>simp[intOf];omega
   ·have hdf:=Bool.eq_false_iff.2 hdef
    have hg:=hG hdf
    have hls:=fun(W:World) (h:Kd.C Kd.string W A' al.length al)=>wlast_is v HV.out (l:=p) hbp.2 (by have:=hbp.1;omega) A' c' al (by omega) W h
    have hrg:=lastW_rg (v:=v) (T:=al) (l:=p) (alsz HTS.out.2 HBT.out HL.out) hbp.2 (by have:=hbp.1;omega)
    have hpl:p.length≤3000:=hbp.1
    obtain⟨R,hR⟩:=eX (lastW v al p)
    rw[hR]at hls hg hrg
    obtain⟨⟨k0,x1,x2,ds,x4,x5,x6⟩,ok⟩:=R
    dsimp only at hg hrg
    have HLS:=hQ hls
    have HGF:=hQ hg
    have HROK:Hid (RecOk x1 ds x6∧(0≤x2∧x2<18446744073709551616)∧(0≤x4∧x4<18446744073709551616)∧(0≤x5∧x5<18446744073709551616)∧∀y∈ds,0≤y.f1∧y.f1<18446744073709551616):=
     hQ ⟨⟨by have:=hrg.n;dsimp only at this;omega,hrg.t,hrg.tag,fun d hd=>(hrg.d d hd).1⟩,hrg.r2,hrg.o,hrg.w,fun d hd=>(hrg.d d hd).2⟩
    have HPBY:Hid (∀p∈(putF v T k0 x1 x2 ds x4 x5 x6).1,∀x∈p,0≤x∧x<256):=hQ (putF_bytes v T (by omega) k0 hrg.k x1 hrg.t x2 hrg.r2.2 ds (by have:=hrg.n;dsimp only at this;omega) (fun d hd=>⟨(hrg.d d hd).1,(hrg.d d hd).2.2⟩) x4 x5 hrg.o.2 hrg.w.2 x6)
    have hne:((n:Int)==(ps.length:Int))=false:=by simp;omega
    have hcase:(strOfNums p).toList.isEmpty=true∨∃h:0<(strOfNums p).size,(strOfNums p).toList.isEmpty=false∧((((strOfNums p)[0]'h).toNat:Int)==0)=false:=by
     cases p with
     |nil=>left;rw[tl_empty,hps0];rfl
     | cons x q=>
      right
      have h0:0<(strOfNums (x::q)).size:=by rw[hps0];simp
      have hx:=hbp.2 x List.mem_cons_self
      refine⟨h0,by rw[tl_empty];exact decide_eq_false (by omega), ?_⟩
      have hxn: ¬x=0:=by simpa [isDef]using hdf
      have hby:(((strOfNums (x::q))[0]'h0).toNat:Int)=x:=by
       show((UInt8.ofNat x.toNat).toNat:Int)=x
       simp;omega
      rw[hby];simpa using hxn
    generalize strOfNums p=sp at*
    clear hG htk hdn hdef hdf hg hls hrg hR hbp hdq
    rcases hcase with hemp|⟨hsz0,hemp,hby⟩
    all_goals
     go_wp2_with fail
     clear hcell
     refine(HLS.out wr (Kd.C_below HA.out (Below.refl _ _))).mono ?_
     rintro e w2 ⟨dv,rfl,hR,hb2⟩
     obtain⟨Ad,cd,rfl⟩:=Kd.R_slice hR
     dsimp only
     obtain⟨w3,hw3⟩:=eX (w2.alloc (.cells #[.int .i64 k0,.string x1,.int .u64 x2,.slice Ad ds.length cd,.int .u64 x4,.int .u64 x5,.string x6] 49))
     have hb3:Below w2.heap.size w2 w3:=by rw[←hw3];exact(Below.refl _ _).alloc (Nat.le_refl _) _
     have hk3:w3.heap[w2.heap.size]? =some (.cells #[.int .i64 k0,.string x1,.int .u64 x2,.slice Ad ds.length cd,.int .u64 x4,.int .u64 x5,.string x6] 49 (0,0)):=by rw[←hw3];exact heap_new _ _
     obtain⟨b15,hb15⟩:=eX (w2.heap.size)
     rw[hb15]at hk3
     have hbw3:Below W1.heap.size W1 w3:=HB.out.trans ((hb2.trans (hb3.mono hb2.size)).mono HB.out.size)
     have hR3:=Kd.R_lower (Kd.R_below hR hb3) (show W1.heap.size≤wr.heap.size from HB.out.size)
     have hBW3:=HB1.out.trans (hbw3.mono HB1.out.size)
     have hpt:=rput9_any w3 v A c T (Kd.C_below HC.out hBW3) hc (by omega) k0 x1 x2 Ad cd ds x4 x5 x6 (Kd.R_reads' hR3).2.2 (Kd.R_reads' hR3).2.1 HROK.out.1 HROK.out.2.1 HROK.out.2.2.1 HROK.out.2.2.2.1 HROK.out.2.2.2.2
     have hgf:=HGF.out
     have hpby:=HPBY.out
     generalize putF v T k0 x1 x2 ds x4 x5 x6=F at hpt hgf hpby
     obtain⟨F1,T2,er⟩:=F
     dsimp only at hpt hgf hpby
     have HF:=hQ hpby
     have HPT:=hQ hpt
     have HGF2:=hQ hgf
     have HR3:=hQ hR3
     have HK3:=hQ hk3
     have HBW3:=hQ hbw3
     have HW3:=hQ hw3
     have HB15:=hQ hb15
     clear hR hb2 hb3 hk3 hbw3 hR3 hBW3 hpt hgf hw3 hb15 hpby HLS HROK HPBY
     have hwn:IntKind.i64.wrap ((n:Int)+1)=(n:Int)+1:=by rw[IntKind.wrap_i64];omega
     have hws:IntKind.i64.wrap ((n:Int)+1-(a:Int))=(n:Int)+1-(a:Int):=by rw[IntKind.wrap_i64];omega
     go_wp2_with fail
     rw[HW3.out,HB15.out]
     refine HPT.out.mono ?_
     rintro e w4 ⟨v17,A',c',rfl,hR17,hc4,hC4,hb4,hor⟩
     dsimp only at hR17 hc4 hC4 ⊢
     obtain⟨A17,c17,rfl⟩:=Kd.R_slice hR17
     have hml7:(F1.map strOfNums).length=F1.length:=List.length_map ..
     rw[hml7]
     have HR17:=hQ (Kd.R_reads' hR17)
     have HC4:=hQ (And.intro hc4 hC4)
     have HB4:=hQ (HBW3.out.trans (hb4.mono HBW3.out.size))
     have HR4:=hQ (Kd.R_below HR3.out hb4)
     have HOR:=hQ hor
     have HK4:=hQ (blk_below HK3.out hb4)
     clear hR17 hc4 hC4 hb4 hor HPT
     cases ok with
     |false=>
      have HFIN:=hQ (HGF2.out.trans (if_neg (by rintro⟨h,_⟩;cases h)))
      obtain⟨o0,of0,o1,of1,o2,of2,o3,of3,o4,of4,o5,of5,o6,of6⟩:=fa14 (blk_below HK8.out HB4.out)
      obtain⟨r0,r1,r2,r3,r4,r5,r6⟩:=fa7 (blk_below HK12.out HB4.out)
      have HK8E:=hQ (blk_below HK8.out HB4.out)
      have HBE:=hQ (HB1.out.trans (HB4.out.mono HB1.out.size))
      go_wp2_with fail
      refine bodyPost_ret (results_cttt rfl _ _ b8 49 #[_,_,_,_,_,_,_] (0,0) _ rfl (blk_put7 HK8E.out _ _ _ _ _ _ _) HU.out rfl (by kernel_rfl)) rfl ?_
      rw[HFIN.out]
      have hb8w:=HB8.out
      have hbf:=below_put7 (g:=b8) HBE.out (Nat.le_of_eq hb8w) (.int .i64 0) (.string ⟨#[]⟩) (.int .u64 0) (.slice none 0 0) (.int .u64 0) (.int .u64 0) (.string ⟨#[]⟩)
      exact⟨_,A,c,rfl,Kd.R_nil _ _ _ _ _,hc,Kd.C_below HC.out hbf,hbf,.inl ⟨rfl,rfl,rfl⟩⟩
     | true=>
      by_cases he:er=0
      ·by_cases hln:F1.length=n+1-a
       ·have hle:((F1.length:Int) !=(n:Int)+1-(a:Int))=false:=by
         have:(F1.length:Int)=(n:Int)+1-(a:Int):=by omega
         simp[this]
        subst he
        go_wp2_with fail
        go_loopw [20] (fun u wq=>∃(i:Nat),i≤F1.length∧u= .int .i64 (i:Int)∧Hid (Below w4.heap.size w4 wq)∧Hid (∀j,j<i→F1[j]? =ps[a+j]?)) (fun u _=>F1.length-(intOf u).toNat)
        case atStart=>exact⟨0,by omega,rfl,hQ (Below.refl _ _),hQ (fun j h=>by omega)⟩
        case round=>
         obtain⟨i,hi,rfl,HQ,HE⟩:=hrel
         have HBQ:=hQ (HB4.out.trans (HQ.out.mono HB4.out.size))
         by_cases hil:i<F1.length
         ·have hjl:decide ((i:Int)<(F1.length:Int))=true:=decide_eq_true (by omega)
          obtain⟨ae,hA5,g1⟩:=txt_at (T:=F1.map strOfNums) (by rw[hml7];have:=HR17.out.2.2;rwa [hml7]at this) HQ.out i (by omega)
          have hA6:A17=some ae:=hA5
          subst hA6
          rw[List.getElem_map]at g1
          obtain⟨af,hA7,g2⟩:=txt_at (T:=ps.map strOfNums) (by rw[hml];exact HP.out) (HB1.out.trans (HBQ.out.mono HB1.out.size)) (a+i) (by omega)
          have hA8:=Option.some.inj hA7
          subst hA8
          rw[List.getElem_map]at g2
          have hwa:IntKind.i64.wrap ((a:Int)+(i:Int))=(a:Int)+(i:Int):=by rw[IntKind.wrap_i64];omega
          have hai:((a:Int)+(i:Int)).toNat=a+i:=by omega
          have hain:a+i<ps.length:=by omega
          by_cases hf:strOfNums F1[i]=strOfNums (ps[a+i]'(by omega))
          ·have HEQ:Hid (∀j,j<i+1→F1[j]? =ps[a+j]?):=hQ (seg_step HF.out HBT.out HE.out hil hain hf)
           rw[hf]at g1
           generalize strOfNums (ps[a+i]'(by omega))=sq at g1 g2
           clear hA5 hA7 hf
           go_wp2_with fail
           go_quiet (fail)
           go_wp2_with fail
           go_roundw
           case rel=>exact⟨i+1,by omega,by go_num,hQ (pw_below_drewN HQ.out _),HEQ⟩
           case measure=>simp[intOf];omega
          ·obtain⟨q1,q2,q3⟩:=xeq_no hf
           have HFIN:=hQ (HGF2.out.trans (if_neg (fun h=>hf (by rw[seg_at h.2.2 hil hain]))))
           generalize strOfNums (ps[a+i]'(by omega))=sq at g1 g2 q1 q2 q3
           generalize strOfNums F1[i]=sp at g1 q1 q2 q3
           clear hA5 hA7 hf
           go_wp2_with fail
           go_quiet (fail)
           have HBZ:=hQ (pw_below_drewN HBQ.out nq)
           generalize wr.drewN nq=wz at HBZ ⊢
           obtain⟨o0,of0,o1,of1,o2,of2,o3,of3,o4,of4,o5,of5,o6,of6⟩:=fa14 (blk_below HK8.out HBZ.out)
           obtain⟨r0,r1,r2,r3,r4,r5,r6⟩:=fa7 (blk_below HK12.out HBZ.out)
           have HK8E:=hQ (blk_below HK8.out HBZ.out)
           have HBE:=hQ (HB1.out.trans (HBZ.out.mono HB1.out.size))
           go_wp2_with fail
           refine bodyPost_ret (results_cttt rfl _ _ b8 49 #[_,_,_,_,_,_,_] (0,0) _ rfl (blk_put7 HK8E.out _ _ _ _ _ _ _) HU.out rfl (by kernel_rfl)) rfl ?_
           rw[HFIN.out]
           have hb8w:=HB8.out
           have hbf:=below_put7 (g:=b8) HBE.out (Nat.le_of_eq hb8w) (.int .i64 0) (.string ⟨#[]⟩) (.int .u64 0) (.slice none 0 0) (.int .u64 0) (.int .u64 0) (.string ⟨#[]⟩)
           exact⟨_,A,c,rfl,Kd.R_nil _ _ _ _ _,hc,Kd.C_below HC.out hbf,hbf,.inl ⟨rfl,rfl,rfl⟩⟩
         ·obtain rfl:i=F1.length:=by omega
          have HFIN:=hQ (HGF2.out.trans (if_pos ⟨by trivial,by trivial,seg_all hlt hln HE.out⟩))
          obtain⟨o0,of0,o1,of1,o2,of2,o3,of3,o4,of4,o5,of5,o6,of6⟩:=fa14 (blk_below HK8.out HBQ.out)
          obtain⟨r0,r1,r2,r3,r4,r5,r6⟩:=fa7 (blk_below HK4.out HQ.out)
          have HK8E:=hQ (blk_below HK8.out HBQ.out)
          have HBE:=hQ (HB1.out.trans (HBQ.out.mono HB1.out.size))
          go_wp2_with fail
          refine bodyPost_ret (results_cttt rfl _ _ b8 49 #[_,_,_,_,_,_,_] (0,0) _ rfl (blk_put7 HK8E.out _ _ _ _ _ _ _) HU.out rfl (by kernel_rfl)) rfl ?_
          rw[HFIN.out]
          have hb8w:=HB8.out
          have hb81:=blk_lt HK8.out
          have hkp:=kp_put7 wr b8 (.int .i64 k0) (.string x1) (.int .u64 x2) (.slice Ad ds.length cd) (.int .u64 x4) (.int .u64 x5) (.string x6)
          have hbf:=below_put7 (g:=b8) HBE.out (Nat.le_of_eq hb8w) (.int .i64 k0) (.string x1) (.int .u64 x2) (.slice Ad ds.length cd) (.int .u64 x4) (.int .u64 x5) (.string x6)
          rcases HOR.out with⟨e1,e2,e3⟩|h
          ·subst e1 e2 e3
           refine⟨_,_,_,rfl, ?_,HC4.out.1,Kd.C_below HC.out hbf,hbf,.inl ⟨rfl,rfl,rfl⟩⟩
           exact Kd.R_lower (Kd.R_mono (R_above' (Kd.R_bound (Kd.R_below HR4.out HQ.out)) hkp) (fun _ _=>trivial)) (by omega)
          ·have h2:=Kd.R_lower (Kd.R_below h HQ.out) (show W1.heap.size≤w3.heap.size from HBW3.out.size)
           have h3:=R_above' (Kd.R_bound h2) hkp
           refine⟨_,A',c',rfl, ?_,HC4.out.1,(Kd.R_reads' h3).2.2,hbf,.inr (Kd.R_lower (Kd.R_mono h3 (fun _ _=>trivial)) (by omega))⟩
           exact Kd.R_lower (Kd.R_mono (R_above' (Kd.R_bound (Kd.R_below HR4.out HQ.out)) hkp) (fun _ _=>trivial)) (by omega)
       ·have hle:((F1.length:Int) !=(n:Int)+1-(a:Int))=true:=by
         have: ¬(F1.length:Int)=(n:Int)+1-(a:Int):=by omega
         simpa using this
        have HFIN:=hQ (HGF2.out.trans (if_neg (by
         rintro⟨_,_,h⟩
         have:=congrArg List.length h
         rw[List.length_drop,List.length_take]at this
         omega)))
        subst he
        obtain⟨o0,of0,o1,of1,o2,of2,o3,of3,o4,of4,o5,of5,o6,of6⟩:=fa14 (blk_below HK8.out HB4.out)
        obtain⟨r0,r1,r2,r3,r4,r5,r6⟩:=fa7 (blk_below HK12.out HB4.out)
        have HK8E:=hQ (blk_below HK8.out HB4.out)
        have HBE:=hQ (HB1.out.trans (HB4.out.mono HB1.out.size))
        go_wp2_with fail
        refine bodyPost_ret (results_cttt rfl _ _ b8 49 #[_,_,_,_,_,_,_] (0,0) _ rfl (blk_put7 HK8E.out _ _ _ _ _ _ _) HU.out rfl (by kernel_rfl)) rfl ?_
        rw[HFIN.out]
        have hb8w:=HB8.out
        have hbf:=below_put7 (g:=b8) HBE.out (Nat.le_of_eq hb8w) (.int .i64 0) (.string ⟨#[]⟩) (.int .u64 0) (.slice none 0 0) (.int .u64 0) (.int .u64 0) (.string ⟨#[]⟩)
        exact⟨_,A,c,rfl,Kd.R_nil _ _ _ _ _,hc,Kd.C_below HC.out hbf,hbf,.inl ⟨rfl,rfl,rfl⟩⟩
      ·have hne:(er !=0)=true:=by simpa using he
       have HFIN:=hQ (HGF2.out.trans (if_neg (by rintro⟨_,h,_⟩;exact he h)))
       obtain⟨o0,of0,o1,of1,o2,of2,o3,of3,o4,of4,o5,of5,o6,of6⟩:=fa14 (blk_below HK8.out HB4.out)
       obtain⟨r0,r1,r2,r3,r4,r5,r6⟩:=fa7 (blk_below HK12.out HB4.out)
       have HK8E:=hQ (blk_below HK8.out HB4.out)
       have HBE:=hQ (HB1.out.trans (HB4.out.mono HB1.out.size))
       go_wp2_with fail
       refine bodyPost_ret (results_cttt rfl _ _ b8 49 #[_,_,_,_,_,_,_] (0,0) _ rfl (blk_put7 HK8E.out _ _ _ _ _ _ _) HU.out rfl (by kernel_rfl)) rfl ?_
       rw[HFIN.out]
       have hb8w:=HB8.out
       have hbf:=below_put7 (g:=b8) HBE.out (Nat.le_of_eq hb8w) (.int .i64 0) (.string ⟨#[]⟩) (.int .u64 0) (.slice none 0 0) (.int .u64 0) (.int .u64 0) (.string ⟨#[]⟩)
       exact⟨_,A,c,rfl,Kd.R_nil _ _ _ _ _,hc,Kd.C_below HC.out hbf,hbf,.inl ⟨rfl,rfl,rfl⟩⟩
  ·obtain rfl:n=ps.length:=by omega
   have hf:getF v T ps (a:Int)=(rec0,0,T,6):=by
    rw[getF_at HV.out hna (Nat.le_refl _) HD.out (fun h=>by omega),if_pos rfl]
   have HFIN:=hQ hf
   clear hf
   obtain⟨o0,of0,o1,of1,o2,of2,o3,of3,o4,of4,o5,of5,o6,of6⟩:=fa14 (blk_below HK8.out HB.out)
   obtain⟨r0,r1,r2,r3,r4,r5,r6⟩:=fa7 (blk_below HK12.out HB.out)
   have HK8E:=hQ (blk_below HK8.out HB.out)
   have HBE:=hQ (HB1.out.trans (HB.out.mono HB1.out.size))
   go_wp2_with fail
   refine bodyPost_ret (results_cttt rfl _ _ b8 49 #[_,_,_,_,_,_,_] (0,0) _ rfl (blk_put7 HK8E.out _ _ _ _ _ _ _) HU.out rfl (by kernel_rfl)) rfl ?_
   rw[HFIN.out]
   have hb8w:=HB8.out
   have hbf:=below_put7 (g:=b8) HBE.out (Nat.le_of_eq hb8w) (.int .i64 0) (.string ⟨#[]⟩) (.int .u64 0) (.slice none 0 0) (.int .u64 0) (.int .u64 0) (.string ⟨#[]⟩)
   exact⟨_,A,c,rfl,Kd.R_nil _ _ _ _ _,hc,Kd.C_below HC.out hbf,hbf,.inl ⟨rfl,rfl,rfl⟩⟩
theorem rget_bad (W:World) (v:Int) (A:Option Addr) (c:Nat) (T:List ByteArray) (hC:Kd.C Kd.string W A T.length T) (hc:T.length≤c) (B:Option Addr) (d n:Nat) (at0 r:Int)
  (hr:(¬(1≤v∧v≤3)∧r=11)∨((1≤v∧v≤3)∧(at0<0∨(n:Int)<at0)∧r=1)):
  Calls Tryz.prog 14 #[.int .i64 v,.slice A T.length c,.slice B n d,.int .i64 at0] W (RGetPost W A c T (rec0,0,T,r)):=by
 obtain⟨W1,hW1⟩:=eX ((W.alloc (.cells #[.int .i64 0,.string ⟨#[]⟩,.int .u64 0,.slice none 0 0,.int .u64 0,.int .u64 0,.string ⟨#[]⟩] 49)).alloc (.cells #[.int .i64 0,.string ⟨#[]⟩,.int .u64 0,.slice none 0 0,.int .u64 0,.int .u64 0,.string ⟨#[]⟩] 49))
 have hb1:Below W.heap.size W W1:=by rw[←hW1];exact((Below.refl _ _).alloc (Nat.le_refl _) _).alloc (by rw[heap_size_alloc];omega) _
 have hk8:W1.heap[W.heap.size]? =some (.cells #[.int .i64 0,.string ⟨#[]⟩,.int .u64 0,.slice none 0 0,.int .u64 0,.int .u64 0,.string ⟨#[]⟩] 49 (0,0)):=by rw[←hW1];exact blk_alloc (heap_new _ _) _
 have hk12:W1.heap[W.heap.size+1]? =some (.cells #[.int .i64 0,.string ⟨#[]⟩,.int .u64 0,.slice none 0 0,.int .u64 0,.int .u64 0,.string ⟨#[]⟩] 49 (0,0)):=by
  rw[←hW1]
  have:=heap_new (W.alloc (.cells #[.int .i64 0,.string ⟨#[]⟩,.int .u64 0,.slice none 0 0,.int .u64 0,.int .u64 0,.string ⟨#[]⟩] 49)) (.cells #[.int .i64 0,.string ⟨#[]⟩,.int .u64 0,.slice none 0 0,.int .u64 0,.int .u64 0,.string ⟨#[]⟩] 49)
  rwa [heap_size_alloc]at this
 obtain⟨b8,hb8⟩:=eX (W.heap.size)
 rw[hb8]at hk8 hk12
 have HC:=hQ hC
 have HB1:=hQ hb1
 have HK8:=hQ hk8
 have HK12:=hQ hk12
 have HW1:=hQ hW1
 have HB8:=hQ hb8
 have HU:=hQ Tryz.underlying49
 obtain⟨o0,of0,o1,of1,o2,of2,o3,of3,o4,of4,o5,of5,o6,of6⟩:=fa14 HK8.out
 obtain⟨r0,r1,r2,r3,r4,r5,r6⟩:=fa7 HK12.out
 clear hC hb1 hk8 hk12 hW1 hb8
 have fin: ∀(e:Ending) (w':World),e= .returned (.tuple #[.agg #[.int .i64 0,.string ⟨#[]⟩,.int .u64 0,.slice none 0 0,.int .u64 0,.int .u64 0,.string ⟨#[]⟩],.int .i64 0,.slice A T.length c,.int .i64 r])→Below W.heap.size W w'→RGetPost W A c T (rec0,0,T,r) e w':=fun e w' he hb=>⟨_,A,c,he,Kd.R_nil _ _ _ _ _,hc,Kd.C_below HC.out hb,hb,.inl ⟨rfl,rfl,rfl⟩⟩
 have FIN:=hQ fin
 clear fin
 rcases hr with⟨hv,rfl⟩|⟨hv,h0,rfl⟩
 ·by_cases hv1:v<1
  ·have d1:decide (v<1)=true:=decide_eq_true hv1
   go_enter Tryz.func14,Tryz.ntmps14
   go_wp2_with fail
   rw[HW1.out,HB8.out]
   go_wp2_with fail
   refine bodyPost_ret (results_cttt rfl _ _ b8 49 #[_,_,_,_,_,_,_] (0,0) _ rfl HK8.out HU.out rfl (by kernel_rfl)) rfl ?_
   exact FIN.out _ _ rfl HB1.out
  ·have d1:decide (v<1)=false:=decide_eq_false hv1
   have d2:decide (3<v)=true:=decide_eq_true (by omega)
   go_enter Tryz.func14,Tryz.ntmps14
   go_wp2_with fail
   rw[HW1.out,HB8.out]
   go_wp2_with fail
   refine bodyPost_ret (results_cttt rfl _ _ b8 49 #[_,_,_,_,_,_,_] (0,0) _ rfl HK8.out HU.out rfl (by kernel_rfl)) rfl ?_
   exact FIN.out _ _ rfl HB1.out
 ·have d1:decide (v<1)=false:=decide_eq_false (by omega)
  have d2:decide (3<v)=false:=decide_eq_false (by omega)
  by_cases h1:at0<0
  ·have d3:decide (at0<0)=true:=decide_eq_true h1
   go_enter Tryz.func14,Tryz.ntmps14
   go_wp2_with fail
   rw[HW1.out,HB8.out]
   go_wp2_with fail
   refine bodyPost_ret (results_cttt rfl _ _ b8 49 #[_,_,_,_,_,_,_] (0,0) _ rfl HK8.out HU.out rfl (by kernel_rfl)) rfl ?_
   exact FIN.out _ _ rfl HB1.out
  ·have d3:decide (at0<0)=false:=decide_eq_false h1
   have d4:decide ((n:Int)<at0)=true:=decide_eq_true (by omega)
   go_enter Tryz.func14,Tryz.ntmps14
   go_wp2_with fail
   rw[HW1.out,HB8.out]
   go_wp2_with fail
   refine bodyPost_ret (results_cttt rfl _ _ b8 49 #[_,_,_,_,_,_,_] (0,0) _ rfl HK8.out HU.out rfl (by kernel_rfl)) rfl ?_
   exact FIN.out _ _ rfl HB1.out
theorem rget_any (W:World) (v:Int) (A:Option Addr) (c:Nat) (T:List ByteArray) (hC:Kd.C Kd.string W A T.length T) (hc:T.length≤c) (hT:T.length≤50000) (hTd:T.Nodup) (hTs: ∀s∈T,s.size≤maxLen) (B:Option Addr) (d:Nat) (ps:List (List Int)) (hP:Kd.C Kd.string W B ps.length (ps.map strOfNums)) (hd:ps.length≤d) (hbt: ∀p∈ps,p.length≤3000∧∀x∈p,0≤x∧x<256) (hn:ps.length≤10000) (at0:Int):
  Calls Tryz.prog 14 #[.int .i64 v,.slice A T.length c,.slice B ps.length d,.int .i64 at0] W (RGetPost W A c T (getF v T ps at0)):=by
 by_cases hv:1≤v∧v≤3
 ·by_cases h0:at0<0∨(ps.length:Int)<at0
  ·have e:getF v T ps at0=(rec0,0,T,1):=by unfold getF;rw[if_neg (fun h=>h hv),if_pos h0]
   rw[e]
   exact rget_bad W v A c T hC hc B d ps.length at0 1 (.inr ⟨hv,h0,rfl⟩)
  ·obtain⟨a,rfl⟩: ∃a:Nat,at0=(a:Int):=⟨at0.toNat,by omega⟩
   exact rget_ok W v hv A c T hC hc hT hTd hTs B d ps hP hd hbt hn a (by omega)
 ·have e:getF v T ps at0=(rec0,0,T,11):=by unfold getF;rw[if_pos hv]
  rw[e]
  exact rget_bad W v A c T hC hc B d ps.length at0 11 (.inl ⟨hv,rfl⟩)
end Go.Proofs.YtfflenbfapgilaaGreat
