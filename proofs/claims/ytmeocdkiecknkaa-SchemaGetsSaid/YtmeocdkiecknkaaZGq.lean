/- Texts laid as one by shake.py, cut to what the claim needs: GRRz1. (Names that begin with W and the print's groups (G..x, G..z): laid by the kit's print, cut.) -/
import Derived.Test.YtmeocdkiecknkaaZGe
import Derived.Test.YtmeocdkiecknkaaZGh
set_option linter.unusedVariables false
set_option linter.unusedSimpArgs false
namespace Go.Proofs.Ytmeocdkiecknkaa.GRR
open Go.RowKit Go.Proofs.YtmeocdkiecknkaaW.PrintWords Go.Proofs.YtmeocdkiecknkaaW.PrintLast Go.Proofs.YtmeocdkiecknkaaW.PrintMore
attribute [local go_sem] max2_int min2_int max_two min_two max_three min_three max_four min_four
def tephraref07_Place.l0:Nat→List ByteArray→ByteArray→Int→Option (Int)
 | 0,_,_,_=>none
 |k+1,x0,x1,x5=>if x5<(x0.length:Int)then(if 0≤x5 then(if (rdOf ByteArray.empty x0 x5).toList=x1.toList then(some x5)else(tephraref07_Place.l0 k x0 x1 (wrap64 (x5+1))))else(none))else(some (-1))
def tephraref07_Place.f (k:Nat) (l0:List ByteArray) (a1:ByteArray):Option (Int):=tephraref07_Place.l0 k l0 a1 0
set_option maxHeartbeats 8000000 in
set_option maxRecDepth 100000 in
theorem tephraref07_Place.calls (k:Nat) (A0:Option Addr) (c0:Nat) (l0:List ByteArray) (a1:ByteArray) (r:Int) (w:World) (hr0:Kd.C Kd.string w A0 l0.length l0) (hc0:l0.length≤c0) (h:tephraref07_Place.f k l0 a1=some r):
  Calls Try.prog 65 #[.slice A0 l0.length c0, .string a1] w fun e w'=>e= .returned (.int .i64 r)∧Drawn0 w w':=by
 have HR0:=Aside0.mk hr0
 have HC0:=Aside0.mk hc0
 clear hr0 hc0
 have H:(tephraref07_Place.l0 k l0 a1 0)=some r:=h
 clear h
 have H':=Aside0.mk H
 clear H
 go_enter Try.func65,Try.ntmps65
 go_wp2
 go_loopg [5] k (fun kq v5 w'=>∃(x5_1:Int),v5= .int .i64 x5_1∧Aside0 (tephraref07_Place.l0 kq l0 a1 x5_1=some r)∧Aside0 (kq≤k)∧Drawn0 w w')
 case atStart=>exact⟨(0),(by first|rfl|(simp;done)|(simp[*];done)|(simp;rw[Bool.eq_iff_iff];simp;done)),H',⟨Nat.le_refl _⟩,by repeat (first|exact Drawn0.refl _|apply Drawn0.step)⟩
 case round=>
  clear H'
  try clear p2
  obtain⟨x5_1,rfl,HA,HK1,⟨m1,rfl⟩⟩:=hrel
  cases gk with
  |zero=>exact absurd HA.out (by simp[tephraref07_Place.l0])
  | succ k1=>
   have H:=HA.out
   clear HA
   simp only[tephraref07_Place.l0]at H
   by_cases c3:x5_1<(l0.length:Int)
   ·rw [if_pos c3]at H
    have c3b0:decide (x5_1<(l0.length:Int))=true:=decide_eq_true c3
    clear c3
    by_cases c4:0≤x5_1
    ·rw [if_pos c4]at H
     have c4b0:decide (0≤x5_1)=true:=decide_eq_true c4
     clear c4
     by_cases c5:(rdOf ByteArray.empty l0 x5_1).toList=a1.toList
     ·rw[if_pos c5]at H
      have c5b0:((rdOf ByteArray.empty l0 x5_1).toList==a1.toList)=true:=beq_iff_eq.mpr c5
      have c5b1:((rdOf ByteArray.empty l0 x5_1).toList !=a1.toList)=false:=bne_eq_false_iff_eq.mpr c5
      clear c5
      obtain rfl:=Option.some.inj H
      have p124:0≤(x5_1:Int):=of_decide_eq_true (by first|(with_reducible assumption)|assumption)
      have q124:x5_1<(l0.length:Int):=of_decide_eq_true (by first|(with_reducible assumption)|assumption)
      obtain⟨ad124,e124,hx124_0⟩:=Kd.at_string HR0.out x5_1 p124 q124
      cases e124
      replace p124:=eq_true p124
      replace q124:=eq_true q124
      go_wp2
      go_ret
      exact⟨by first|rfl|(simp;done)|(simp[*];done),by repeat (first|exact Drawn0.refl _|apply Drawn0.step)⟩
     ·rw[if_neg c5]at H
      have c5b0:((rdOf ByteArray.empty l0 x5_1).toList==a1.toList)=false:=beq_eq_false_iff_ne.mpr c5
      have c5b1:((rdOf ByteArray.empty l0 x5_1).toList !=a1.toList)=true:=bne_iff_ne.mpr c5
      have H':=Aside0.mk H
      clear H
      have p124:0≤(x5_1:Int):=of_decide_eq_true (by first|(with_reducible assumption)|assumption)
      have q124:x5_1<(l0.length:Int):=of_decide_eq_true (by first|(with_reducible assumption)|assumption)
      obtain⟨ad124,e124,hx124_0⟩:=Kd.at_string HR0.out x5_1 p124 q124
      cases e124
      replace p124:=eq_true p124
      replace q124:=eq_true q124
      go_wp2
      go_roundg k1
      case measure=>have:=HK1.out;omega
      case rel=>exact⟨(wrap64 (x5_1+1)),(by first|rfl|(simp;done)|(simp[*];done)|(simp;rw[Bool.eq_iff_iff];simp;done)),H',⟨by have:=HK1.out;omega⟩,by repeat (first|exact Drawn0.refl _|apply Drawn0.step)⟩
    ·rw[if_neg c4]at H
     exact absurd H (by simp)
   ·rw[if_neg c3]at H
    have c3b0:decide (x5_1<(l0.length:Int))=false:=decide_eq_false c3
    clear c3
    obtain rfl:=Option.some.inj H
    go_wp2
    go_ret
    exact⟨by first|rfl|(simp;done)|(simp[*];done),by repeat (first|exact Drawn0.refl _|apply Drawn0.step)⟩
def tephraref07_Put.f (k:Nat) (l0:List ByteArray) (a1:ByteArray):Option (List ByteArray):=(tephraref07_Place.f k l0 a1).bind fun t125=>(if t125≥0 then(some l0)else((some (([]:List ByteArray):List ByteArray)).bind fun y126=>(if y126.length+l0.length<8796093022208 then((some (y126++l0:List ByteArray)).bind fun y129=>(if y129.length<8796093022208 then(some (y129++[a1]))else(none)))else(none))))
set_option maxHeartbeats 8000000 in
set_option maxRecDepth 100000 in
theorem tephraref07_Put.calls (k:Nat) (P0_:Nat→Prop) (u9000_:Value) (l0:List ByteArray) (a1:ByteArray) (r:List ByteArray) (w0 w:World) (hB:Below w0.heap.size w0 w) (ho0:Kd.R Kd.string 9 w w0.heap.size P0_ u9000_ l0) (h:tephraref07_Put.f k l0 a1=some r):
  Calls Try.prog 66 #[u9000_, .string a1] w fun e w'=>∃v0_:Value,e= .returned (v0_)∧Kd.R Kd.string 9 w' w0.heap.size (fun k_=>(P0_ k_∨w.heap.size≤k_)) v0_ r∧Below w0.heap.size w0 w'∧Kept w w' (fun k_=>P0_ k_):=by
 have HO0:=Aside0.mk (show Kd.R Kd.string 9 w w0.heap.size (fun k_=>(P0_ k_∨w.heap.size≤k_)) u9000_ l0 from Kd.R_mono ho0 (fun k_ hk=>(.inl hk)))
 have HK:=Aside0.mk (Kept.refl w (fun k_=>P0_ k_))
 have HW0:=Aside0.mk hB.size
 have HB:=Aside0.mk hB
 clear hB
 have H:((tephraref07_Place.f k l0 a1).bind fun t125=>(if t125≥0 then(some l0)else((some (([]:List ByteArray):List ByteArray)).bind fun y126=>(if y126.length+l0.length<8796093022208 then((some (y126++l0:List ByteArray)).bind fun y129=>(if y129.length<8796093022208 then(some (y129++[a1]))else(none)))else(none)))))=some r:=h
 clear h
 replace H:=Option.bind_eq_some_iff.mp H
 obtain⟨t125,A30,H⟩:=H
 replace H:(if t125≥0 then(some l0)else((some (([]:List ByteArray):List ByteArray)).bind fun y126=>(if y126.length+l0.length<8796093022208 then((some (y126++l0:List ByteArray)).bind fun y129=>(if y129.length<8796093022208 then(some (y129++[a1]))else(none)))else(none))))=some r:=H
 have A3:=Aside0.mk A30
 clear A30
 by_cases c4:t125≥0
 ·rw[if_pos c4]at H
  have c4b0:decide (0≤t125)=true:=decide_eq_true c4
  clear c4
  obtain rfl:=Option.some.inj H
  obtain⟨Ao5,co5,eo5⟩:=Kd.R_slice HO0.out
  subst eo5
  go_enter Try.func66,Try.ntmps66
  go_wp2_with (first|((with_reducible refine gate_callee (f:=65) rfl ?_);refine goesL_ (some 7) rfl rfl Try.func65 (by kernel_rfl) rfl #[.slice Ao5 l0.length co5, .string a1] rfl (by(try simp only[List.map_toArray,List.map_cons,List.map_nil]);first|done|rfl|(simp only[List.length_drop,List.length_take];rfl)) ?_;(with_reducible refine(tephraref07_Place.calls k _ _ l0 a1 t125 _ ?side1 ?side2 A3.out).mono ?_);(case side1=>repeat (first|exact(Kd.R_reads' HO0.out).2.2|(with_reducible refine Kd.C_alloc ?_ _)|(with_reducible refine Kd.C_drewN ?_ _)|(with_reducible refine Kd.C_drew ?_)));(case side2=>exact(Kd.R_reads' HO0.out).2.1);rintro e w' ⟨rfl,⟨nd,rfl⟩⟩;refine⟨_,rfl, ?_⟩))
  go_ret
  exact⟨_,by first|rfl|(simp[errW_none,errW_some]<;>rfl)|(simp[*,errW_none,errW_some]<;>rfl),by(with_reducible repeat (first|apply Kd.R_alloc|apply Kd.R_drewN|apply Kd.R_drew));exact HO0.out,by repeat (first|(with_reducible first|exact HB.out|apply below_alloc|apply pw_below_drewN|apply below_drew1)|exact HB.out),by repeat (first|(with_reducible first|exact HK.out|apply Kept.alloc|apply Kept.drewN|apply Kept.drew)|exact HK.out)⟩
 ·rw [if_neg c4]at H
  have c4b0:decide (0≤t125)=false:=decide_eq_false c4
  clear c4
  obtain⟨y126,hy126⟩: ∃y_:List ByteArray,y_=(([]:List ByteArray)):=⟨_,rfl⟩
  replace H:(if y126.length+l0.length<8796093022208 then((some (y126++l0:List ByteArray)).bind fun y129=>(if y129.length<8796093022208 then(some (y129++[a1]))else(none)))else(none))=some r:=by first|(rw[hy126];with_reducible exact H)|(have H2_:=(Option.bind_some _ _).symm.trans H;rw[hy126];with_reducible exact H2_)|(have H2_:=(Option.bind_some _ _).symm.trans H;with_reducible exact H2_)|with_reducible exact H|(rw[hy126];exact H)|exact H
  have Ny126:=Aside0.mk hy126
  clear hy126
  by_cases c6:y126.length+l0.length<8796093022208
  ·rw [if_pos c6]at H
   have LMc6:=Aside0.mk c6
   clear c6
   obtain⟨y129,hy129⟩: ∃y_:List ByteArray,y_=(y126++l0):=⟨_,rfl⟩
   replace H:(if y129.length<8796093022208 then(some (y129++[a1]))else(none))=some r:=by first|(rw[hy129];with_reducible exact H)|(have H2_:=(Option.bind_some _ _).symm.trans H;rw[hy129];with_reducible exact H2_)|(have H2_:=(Option.bind_some _ _).symm.trans H;with_reducible exact H2_)|with_reducible exact H|(rw[hy129];exact H)|exact H
   have Ny129:=Aside0.mk hy129
   clear hy129
   by_cases c7:y129.length<8796093022208
   ·rw[if_pos c7]at H
    have LMc7:=Aside0.mk c7
    clear c7
    obtain⟨y132,hy132⟩: ∃y_:List ByteArray,y_=(y129++[a1]):=⟨_,rfl⟩
    replace H:(some y132)=some r:=by first|(rw[hy132];with_reducible exact H)|(have H2_:=(Option.bind_some _ _).symm.trans H;rw[hy132];with_reducible exact H2_)|(have H2_:=(Option.bind_some _ _).symm.trans H;with_reducible exact H2_)|with_reducible exact H|(rw[hy132];exact H)|exact H
    have Ny132:=Aside0.mk hy132
    clear hy132
    obtain rfl:=Option.some.inj H
    obtain⟨Ao8,co8,eo8⟩:=Kd.R_slice HO0.out
    subst eo8
    go_enter Try.func66,Try.ntmps66
    go_wp2_with (first|((with_reducible refine gate_callee (f:=65) rfl ?_);refine goesL_ (some 7) rfl rfl Try.func65 (by kernel_rfl) rfl #[.slice Ao8 l0.length co8, .string a1] rfl (by(try simp only[List.map_toArray,List.map_cons,List.map_nil]);first|done|rfl|(simp only[List.length_drop,List.length_take];rfl)) ?_;(with_reducible refine(tephraref07_Place.calls k _ _ l0 a1 t125 _ ?side1 ?side2 A3.out).mono ?_);(case side1=>repeat (first|exact(Kd.R_reads' HO0.out).2.2|(with_reducible refine Kd.C_alloc ?_ _)|(with_reducible refine Kd.C_drewN ?_ _)|(with_reducible refine Kd.C_drew ?_)));(case side2=>exact(Kd.R_reads' HO0.out).2.1);rintro e w' ⟨rfl,⟨nd,rfl⟩⟩;refine⟨_,rfl, ?_⟩)|((with_reducible refine gate_dst (N:=10) rfl ?_);refine Kd.R_lit Kd.string _ 9 ?hg (N:=10) ?hd (xs:=([]:List ByteArray)) (inner:=[]) (ok:=fun _=>True) (okp:=fun _=>True) ?hr ?hp (fun _ hk=>hk) trivial (Below.refl _ _) (Nat.le_refl _) (by simp) ?_;(case hd=>rfl);(case hg=>rfl);(case hr=>first|(go_simp;done)|(go_simp;rfl));(case hp=>exact(Reps.none _ _));intro v127 w9 ho10 hb hg_ hnew_;clear hg_ hnew_;(first|rw[←Ny126.out]at ho10|(simp only[Int.reduceToNat]at ho10;rw[←Ny126.out]at ho10));have n0_:=Aside0.mk (Kd.R_elder' (by(with_reducible repeat (first|apply Kd.R_alloc|apply Kd.R_drewN|apply Kd.R_drew));exact HO0.out) (Kd.R_base ho10) hb);have n1_:=Aside0.mk (Kd.R_lower (Kd.R_new' (Kd.R_newM (M:=fun k_=>(P0_ k_∨w.heap.size≤k_)) ho10 (by first|exact HK.out.1|exact(show Kept w _ (fun k_=>P0_ k_) from by repeat (first|(with_reducible first|exact HK.out|apply Kept.alloc|apply Kept.drewN|apply Kept.drew)|exact HK.out)).1) (fun k_ h_=> .inr h_)) (Kd.R_lt (by(with_reducible repeat (first|apply Kd.R_alloc|apply Kd.R_drewN|apply Kd.R_drew));exact HO0.out))) (below_size (by repeat (first|(with_reducible first|exact HB.out|apply below_alloc|apply pw_below_drewN|apply below_drew1)|exact HB.out))));have n2_:=Aside0.mk (Kept.below (S:=(fun k_=>P0_ k_)) (by repeat (first|(with_reducible first|exact HK.out|apply Kept.alloc|apply Kept.drewN|apply Kept.drew)|exact HK.out)) hb);have n3_:=Aside0.mk (below_step (by repeat (first|(with_reducible first|exact HB.out|apply below_alloc|apply pw_below_drewN|apply below_drew1)|exact HB.out)) hb);clear HO0;clear HK;clear HB;have HO0:=n0_;have HO128:=n1_;have HK:=n2_;have HB:=n3_;clear n0_ n1_ n2_ n3_;clear hb ho10)|((with_reducible refine gate_builtin (b:= .append) (xs:=#[.tmp 10, .tmp 11]) rfl ?_);at_builtin;refine Kd.R_append_rows Kd.string (w0:=w0) w0.heap.size rfl (.tmp 10) (.tmp 11) 45 9 (.string ⟨#[]⟩) 16 rfl Try.underlying45 info9 rfl (by decide) (by omega) v127 y126 l0 _ _ _ (fun k_=>(P0_ k_∨w.heap.size≤k_)∧some k_≠(.slice Ao8 l0.length co8:Value).ownBlock) (fun _=>False) rfl rfl ?aO ?aR (fun _ _ h=>h) (fun _ h=>h.elim) ?aF ?aB ?aS ?aL ?_;(case aR=>repeat (first|exact(Kd.R_reads' HO0.out).2.2|(with_reducible refine Kd.C_alloc ?_ _)|(with_reducible refine Kd.C_drewN ?_ _)|(with_reducible refine Kd.C_drew ?_)));(case aB=>exact(by repeat (first|(with_reducible first|exact HB.out|apply below_alloc|apply pw_below_drewN|apply below_drew1)|exact HB.out)));(case aF=>exact(fun k_ hk=>⟨(.inr (Nat.le_trans (by first|exact HK.out.1|exact(show Kept w _ (fun k_=>P0_ k_) from by repeat (first|(with_reducible first|exact HK.out|apply Kept.alloc|apply Kept.drewN|apply Kept.drew)|exact HK.out)).1) hk)),Kd.fresh' (Kd.R_lt (by(with_reducible repeat (first|apply Kd.R_alloc|apply Kd.R_drewN|apply Kd.R_drew));exact HO0.out)) k_ hk⟩));(case aO=>exact(by(with_reducible repeat (first|apply Kd.R_alloc|apply Kd.R_drewN|apply Kd.R_drew));exact Kd.R_mono HO128.out (fun _ hk=>⟨hk.1.1,hk.2⟩)));(case aS=>exact(below_size (by repeat (first|(with_reducible first|exact HB.out|apply below_alloc|apply pw_below_drewN|apply below_drew1)|exact HB.out))));(case aL=>have:=LMc6.out;omega);intro v130 w11 ho hb hg hat;rw[←Ny129.out]at ho;have n0_:=Aside0.mk (Kd.R_after (ok:=(fun k_=>(P0_ k_∨w.heap.size≤k_))) (by(with_reducible repeat (first|apply Kd.R_alloc|apply Kd.R_drewN|apply Kd.R_drew));exact HO0.out) hg hat);have n1_:=Aside0.mk (hb);have n2_:=Aside0.mk (Kept.of_grown (S:=(fun k_=>P0_ k_)) hg (by repeat (first|(with_reducible first|exact HK.out|apply Kept.alloc|apply Kept.drewN|apply Kept.drew)|exact HK.out)) (fun k_ e_=>(HO128.out.1 k_ e_).1.1));have n3_:=Aside0.mk (ho);clear HO0;clear HB;clear HK;clear HO128;have HO0:=n0_;have HB:=n1_;have HK:=n2_;have HO131:=n3_;clear n0_ n1_ n2_ n3_;clear ho hb hg hat)|((with_reducible refine gate_builtin (b:= .append) (xs:=#[.tmp 12, .tmp 14]) rfl ?_);at_builtin;refine Kd.R_append Kd.string (w0:=w0) w0.heap.size rfl (.tmp 12) (.tmp 14) 45 9 (.string ⟨#[]⟩) 16 rfl Try.underlying45 info9 rfl (by decide) (by omega) v130 y129 a1 [.string a1] (fun k_=>(P0_ k_∨w.heap.size≤k_)∧some k_≠(.slice Ao8 l0.length co8:Value).ownBlock) (fun _=>False) rfl rfl ?aP (fun _ hk=>hk.elim) ?aF ?aO ?aB ?aS ?aL ?_;(case aP=>exact rfl);(case aB=>exact(by repeat (first|(with_reducible first|exact HB.out|apply below_alloc|apply pw_below_drewN|apply below_drew1)|exact HB.out)));(case aF=>exact(fun k_ hk=>⟨(.inr (Nat.le_trans (by first|exact HK.out.1|exact(show Kept w _ (fun k_=>P0_ k_) from by repeat (first|(with_reducible first|exact HK.out|apply Kept.alloc|apply Kept.drewN|apply Kept.drew)|exact HK.out)).1) hk)),Kd.fresh' (Kd.R_lt (by(with_reducible repeat (first|apply Kd.R_alloc|apply Kd.R_drewN|apply Kd.R_drew));exact HO0.out)) k_ hk⟩));(case aO=>exact(by(with_reducible repeat (first|apply Kd.R_alloc|apply Kd.R_drewN|apply Kd.R_drew));exact HO131.out));(case aS=>exact(below_size (by repeat (first|(with_reducible first|exact HB.out|apply below_alloc|apply pw_below_drewN|apply below_drew1)|exact HB.out))));(case aL=>have:=LMc7.out;omega);intro v133 w12 ho hb hg hat;rw[←Ny132.out]at ho;have n0_:=Aside0.mk (Kd.R_after (ok:=(fun k_=>(P0_ k_∨w.heap.size≤k_))) (by(with_reducible repeat (first|apply Kd.R_alloc|apply Kd.R_drewN|apply Kd.R_drew));exact HO0.out) hg hat);have n1_:=Aside0.mk (hb);have n2_:=Aside0.mk (Kept.of_grown (S:=(fun k_=>P0_ k_)) hg (by repeat (first|(with_reducible first|exact HK.out|apply Kept.alloc|apply Kept.drewN|apply Kept.drew)|exact HK.out)) (fun k_ e_=>(HO131.out.1 k_ e_).1));have n3_:=Aside0.mk (ho);clear HO0;clear HB;clear HK;clear HO131;have HO0:=n0_;have HB:=n1_;have HK:=n2_;have HO134:=n3_;clear n0_ n1_ n2_ n3_;clear ho hb hg hat))
    go_ret
    exact⟨_,by first|rfl|(simp[errW_none,errW_some]<;>rfl)|(simp[*,errW_none,errW_some]<;>rfl),by(with_reducible repeat (first|apply Kd.R_alloc|apply Kd.R_drewN|apply Kd.R_drew));exact Kd.R_mono HO134.out (fun _ hk=>hk.1),by repeat (first|(with_reducible first|exact HB.out|apply below_alloc|apply pw_below_drewN|apply below_drew1)|exact HB.out),by repeat (first|(with_reducible first|exact HK.out|apply Kept.alloc|apply Kept.drewN|apply Kept.drew)|exact HK.out)⟩
   ·rw[if_neg c7]at H
    exact absurd H (by simp)
  ·rw[if_neg c6]at H
   exact absurd H (by simp)
def tephraref07_New.l0:Nat→List ByteArray→List ByteArray→Int→Option (List ByteArray)
 | 0,_,_,_=>none
 |k+1,x0,x3,x4=>if x4<(x0.length:Int)then(if 0≤x4 then((tephraref07_Put.f k x3 (rdOf ByteArray.empty x0 x4)).bind fun t139=>(tephraref07_New.l0 k x0 t139 (wrap64 (x4+1))))else(none))else(some x3)
def tephraref07_New.f (k:Nat) (l0:List ByteArray):Option (List ByteArray):=tephraref07_New.l0 k l0 (([]:List ByteArray)) 0
set_option maxHeartbeats 8000000 in
set_option maxRecDepth 100000 in
theorem tephraref07_New.calls (k:Nat) (A0:Option Addr) (c0:Nat) (l0:List ByteArray) (r:List ByteArray) (w:World) (hr0:Kd.C Kd.string w A0 l0.length l0) (hc0:l0.length≤c0) (h:tephraref07_New.f k l0=some r):
  Calls Try.prog 33 #[.slice A0 l0.length c0] w fun e w'=>∃v0_:Value,e= .returned (v0_)∧Kd.R Kd.string 9 w' w.heap.size (fun _=>True) v0_ r∧Below w.heap.size w w':=by
 have HR0:=Aside0.mk hr0
 have HC0:=Aside0.mk hc0
 clear hr0 hc0
 have HB:=Aside0.mk (Below.refl w.heap.size w)
 have H:(tephraref07_New.l0 k l0 (([]:List ByteArray)) 0)=some r:=h
 clear h
 obtain⟨y135,hy135⟩: ∃y_:List ByteArray,y_=(([]:List ByteArray)):=⟨_,rfl⟩
 replace H:(tephraref07_New.l0 k l0 y135 0)=some r:=by first|(rw[hy135];with_reducible exact H)|(have H2_:=(Option.bind_some _ _).symm.trans H;rw[hy135];with_reducible exact H2_)|(have H2_:=(Option.bind_some _ _).symm.trans H;with_reducible exact H2_)|with_reducible exact H|(rw[hy135];exact H)|exact H
 have Ny135:=Aside0.mk hy135
 clear hy135
 have H':=Aside0.mk H
 clear H
 go_enter Try.func33,Try.ntmps33
 go_wp2_with (first|((with_reducible refine gate_dst (N:=5) rfl ?_);refine Kd.R_lit Kd.string _ 9 ?hg (N:=5) ?hd (xs:=([]:List ByteArray)) (inner:=[]) (ok:=fun _=>True) (okp:=fun _=>True) ?hr ?hp (fun _ hk=>hk) trivial (Below.refl _ _) (Nat.le_refl _) (by simp) ?_;(case hd=>rfl);(case hg=>rfl);(case hr=>first|(go_simp;done)|(go_simp;rfl));(case hp=>exact(Reps.none _ _));intro v136 w2 ho3 hb hg_ hnew_;clear hg_ hnew_;(first|rw[←Ny135.out]at ho3|(simp only[Int.reduceToNat]at ho3;rw[←Ny135.out]at ho3));have n0_:=Aside0.mk (Kd.R_lower ho3 (below_size (by repeat (first|(with_reducible first|exact HB.out|apply below_alloc|apply pw_below_drewN|apply below_drew1)|exact HB.out))));have n1_:=Aside0.mk (below_step (by repeat (first|(with_reducible first|exact HB.out|apply below_alloc|apply pw_below_drewN|apply below_drew1)|exact HB.out)) hb);clear HB;have HO137:=n0_;have HB:=n1_;clear n0_ n1_;clear hb ho3))
 go_loopg [3,4] k (fun kq v3 v4 w'=>∃(x3_1:List ByteArray) (x4_1:Int),v4= .int .i64 x4_1∧Aside0 (tephraref07_New.l0 kq l0 x3_1 x4_1=some r)∧Aside0 (kq≤k)∧Aside0 (Kd.R Kd.string 9 w' w.heap.size (fun _=>True) v3 x3_1)∧Aside0 (Below w.heap.size w w'))
 case atStart=>exact⟨(y135),(0),(by first|rfl|(simp;done)|(simp[*];done)|(simp;rw[Bool.eq_iff_iff];simp;done)),H',⟨Nat.le_refl _⟩,⟨by(with_reducible repeat (first|apply Kd.R_alloc|apply Kd.R_drewN|apply Kd.R_drew));exact HO137.out⟩,⟨by repeat (first|(with_reducible first|exact HB.out|apply below_alloc|apply pw_below_drewN|apply below_drew1)|exact HB.out)⟩⟩
 case round=>
  clear H'
  try clear p2
  try clear c3
  obtain⟨x3_1,x4_1,rfl,HA,HK1,HO_3,HB⟩:=hrel
  cases gk with
  |zero=>exact absurd HA.out (by simp[tephraref07_New.l0])
  | succ k1=>
   have H:=HA.out
   clear HA
   simp only[tephraref07_New.l0]at H
   by_cases c4:x4_1<(l0.length:Int)
   ·rw [if_pos c4]at H
    have c4b0:decide (x4_1<(l0.length:Int))=true:=decide_eq_true c4
    clear c4
    by_cases c5:0≤x4_1
    ·rw[if_pos c5]at H
     have c5b0:decide (0≤x4_1)=true:=decide_eq_true c5
     clear c5
     replace H:=Option.bind_eq_some_iff.mp H
     obtain⟨t139,A60,H⟩:=H
     replace H:(tephraref07_New.l0 k1 l0 t139 (wrap64 (x4_1+1)))=some r:=H
     have A6:=Aside0.mk A60
     clear A60
     have H':=Aside0.mk H
     clear H
     have p138:0≤(x4_1:Int):=of_decide_eq_true (by first|(with_reducible assumption)|assumption)
     have q138:x4_1<(l0.length:Int):=of_decide_eq_true (by first|(with_reducible assumption)|assumption)
     obtain⟨ad138,e138,hx138_0⟩:=Kd.at_string HR0.out x4_1 p138 q138
     cases e138
     replace hx138_0:=(HB.out.cell (World.block_lt_of_cell? w _ hx138_0)).trans hx138_0
     replace p138:=eq_true p138
     replace q138:=eq_true q138
     obtain⟨Ao7,co7,eo7⟩:=Kd.R_slice HO_3.out
     subst eo7
     go_wp2_with (first|((with_reducible refine gate_callee (f:=66) rfl ?_);refine goesL_ (some 17) rfl rfl Try.func66 (by kernel_rfl) rfl #[.slice Ao7 x3_1.length co7, .string (rdOf ByteArray.empty l0 x4_1)] rfl (by(try simp only[List.map_toArray,List.map_cons,List.map_nil]);first|done|rfl|(simp only[List.length_drop,List.length_take];rfl)) ?_;(with_reducible refine(tephraref07_Put.calls k1 (fun k_=>some k_=(.slice Ao7 x3_1.length co7:Value).ownBlock) (.slice Ao7 x3_1.length co7) x3_1 (rdOf ByteArray.empty l0 x4_1) t139 w _ ?side1 ?side2 A6.out).mono ?_);(case side1=>repeat (first|(with_reducible first|exact HB.out|apply below_alloc|apply pw_below_drewN|apply below_drew1)|exact HB.out));(case side2=>exact Kd.R_tight rfl HO_3.out);rintro e w8 ⟨v140,rfl,ho0,hb,hkp⟩;refine⟨_,rfl, ?_⟩;have n0_:=Aside0.mk (Kd.R_mono (ok':=fun k_=>True) ho0 (fun k_ hk_=>trivial));have n1_:=Aside0.mk (hb);clear HB;clear HO_3;have HO141:=n0_;have HB:=n1_;clear n0_ n1_;(try clear hb);(try clear hkp);(try clear ho0)))
     go_roundg k1
     case measure=>have:=HK1.out;omega
     case rel=>exact⟨(t139),(wrap64 (x4_1+1)),(by first|rfl|(simp;done)|(simp[*];done)|(simp;rw[Bool.eq_iff_iff];simp;done)),H',⟨by have:=HK1.out;omega⟩,⟨by(with_reducible repeat (first|apply Kd.R_alloc|apply Kd.R_drewN|apply Kd.R_drew));exact HO141.out⟩,⟨by repeat (first|(with_reducible first|exact HB.out|apply below_alloc|apply pw_below_drewN|apply below_drew1)|exact HB.out)⟩⟩
    ·rw[if_neg c5]at H
     exact absurd H (by simp)
   ·rw[if_neg c4]at H
    have c4b0:decide (x4_1<(l0.length:Int))=false:=decide_eq_false c4
    clear c4
    obtain rfl:=Option.some.inj H
    go_wp2
    go_ret
    exact⟨_,by first|rfl|(simp[errW_none,errW_some]<;>rfl)|(simp[*,errW_none,errW_some]<;>rfl),by(with_reducible repeat (first|apply Kd.R_alloc|apply Kd.R_drewN|apply Kd.R_drew));exact HO_3.out,by repeat (first|(with_reducible first|exact HB.out|apply below_alloc|apply pw_below_drewN|apply below_drew1)|exact HB.out)⟩
def tephraref08_Names.l0:Nat→List ByteArray→Int→Int→ByteArray→Int→List (S109)→Int→Int→ByteArray→Option (List ByteArray)
 | 0,_,_,_,_,_,_,_,_,_=>none
 |k+1,x3,x4,x143000,x143001,x143002,x143003,x143004,x143005,x143006=>if x4<(x143003.length:Int)then(if 0≤x4 then(if x3.length<8796093022208 then(tephraref08_Names.l0 k (x3++[(rd_T109 x143003 x4).f0]) (wrap64 (x4+1)) x143000 x143001 x143002 x143003 x143004 x143005 x143006)else(none))else(none))else(if x143006.toList=([]:List UInt8)then((tephraref07_New.f k x3).bind fun t150=>(some t150))else(if x3.length<8796093022208 then((tephraref07_New.f k (x3++[x143006])).bind fun t156=>(some t156))else(none)))
def tephraref08_Names.f (k:Nat) (a0_0:Int) (a0_1:ByteArray) (a0_2:Int) (l0_3:List (S109)) (a0_4:Int) (a0_5:Int) (a0_6:ByteArray):Option (List ByteArray):=tephraref08_Names.l0 k (([a0_1]:List ByteArray)) 0 a0_0 a0_1 a0_2 l0_3 a0_4 a0_5 a0_6
set_option maxHeartbeats 8000000 in
set_option maxRecDepth 100000 in
theorem tephraref08_Names.calls (k:Nat) (a0_0:Int) (a0_1:ByteArray) (a0_2:Int) (A0_3:Option Addr) (c0_3:Nat) (l0_3:List (S109)) (a0_4:Int) (a0_5:Int) (a0_6:ByteArray) (r:List ByteArray) (w:World) (hr0_3:Kd.C k109 w A0_3 l0_3.length l0_3) (hc0_3:l0_3.length≤c0_3) (h:tephraref08_Names.f k a0_0 a0_1 a0_2 l0_3 a0_4 a0_5 a0_6=some r):
  Calls Try.prog 64 #[.agg #[.int .i64 a0_0, .string a0_1, .int .u64 a0_2, .slice A0_3 l0_3.length c0_3, .int .u64 a0_4, .int .u64 a0_5, .string a0_6]] w fun e w'=>∃v0_:Value,e= .returned (v0_)∧Kd.R Kd.string 9 w' w.heap.size (fun _=>True) v0_ r∧Below w.heap.size w w':=by
 have hu62:=Try.underlying62
 have HR0_3:=Aside0.mk hr0_3
 have HC0_3:=Aside0.mk hc0_3
 clear hr0_3 hc0_3
 have HB:=Aside0.mk (Below.refl w.heap.size w)
 have H:(tephraref08_Names.l0 k (([a0_1]:List ByteArray)) 0 a0_0 a0_1 a0_2 l0_3 a0_4 a0_5 a0_6)=some r:=h
 clear h
 obtain⟨y143,hy143⟩: ∃y_:List ByteArray,y_=(([a0_1]:List ByteArray)):=⟨_,rfl⟩
 replace H:(tephraref08_Names.l0 k y143 0 a0_0 a0_1 a0_2 l0_3 a0_4 a0_5 a0_6)=some r:=by first|(rw[hy143];with_reducible exact H)|(have H2_:=(Option.bind_some _ _).symm.trans H;rw[hy143];with_reducible exact H2_)|(have H2_:=(Option.bind_some _ _).symm.trans H;with_reducible exact H2_)|with_reducible exact H|(rw[hy143];exact H)|exact H
 have Ny143:=Aside0.mk hy143
 clear hy143
 have H':=Aside0.mk H
 clear H
 go_enter Try.func64,Try.ntmps64
 go_wp2_with (first|((with_reducible refine gate_dst (N:=1) rfl ?_);refine box_event ?hg (N:=1) ?hd (cs:=#[.int .i64 a0_0, .string a0_1, .int .u64 a0_2, .slice A0_3 l0_3.length c0_3, .int .u64 a0_4, .int .u64 a0_5, .string a0_6]) (t:=62) ?hr ?_;(case hd=>rfl);(case hg=>rfl);(case hr=>first|(go_simp;done)|(go_simp;rfl));intro gb142 hg w2 hbox hb;have n0_:=Aside0.mk (below_step (by repeat (first|(with_reducible first|exact HB.out|apply below_alloc|apply pw_below_drewN|apply below_drew1)|exact HB.out)) hb);have n1_:=Aside0.mk (hbox);have n2_:=Aside0.mk ((by rw[hg];exact(below_size (by repeat (first|(with_reducible first|exact HB.out|apply below_alloc|apply pw_below_drewN|apply below_drew1)|exact HB.out))):w.heap.size≤gb142));have n3_:=Aside0.mk ((by rw[hg];exact(below_size (by repeat (first|(with_reducible first|exact HB.out|apply below_alloc|apply pw_below_drewN|apply below_drew1)|exact HB.out))):w.heap.size≤gb142));clear HB;have HB:=n0_;have BK142:=n1_;have GW142:=n2_;have GE142:=n3_;clear n0_ n1_ n2_ n3_;clear hb hbox hg;have hcz3_0:w2.cell? ⟨gb142,0,none⟩=some (.int .i64 a0_0):=(blk_cell BK142.out 0).trans rfl;have hcz3_1:w2.cell? ⟨gb142,1,none⟩=some (.string a0_1):=(blk_cell BK142.out 1).trans rfl;have hcz3_2:w2.cell? ⟨gb142,2,none⟩=some (.int .u64 a0_2):=(blk_cell BK142.out 2).trans rfl;have hcz3_3:w2.cell? ⟨gb142,3,none⟩=some (.slice A0_3 l0_3.length c0_3):=(blk_cell BK142.out 3).trans rfl;have hcz3_4:w2.cell? ⟨gb142,4,none⟩=some (.int .u64 a0_4):=(blk_cell BK142.out 4).trans rfl;have hcz3_5:w2.cell? ⟨gb142,5,none⟩=some (.int .u64 a0_5):=(blk_cell BK142.out 5).trans rfl;have hcz3_6:w2.cell? ⟨gb142,6,none⟩=some (.string a0_6):=(blk_cell BK142.out 6).trans rfl;have hfz3_0:=blk_frozen BK142.out 0;have hfz3_1:=blk_frozen BK142.out 1;have hfz3_2:=blk_frozen BK142.out 2;have hfz3_3:=blk_frozen BK142.out 3;have hfz3_4:=blk_frozen BK142.out 4;have hfz3_5:=blk_frozen BK142.out 5;have hfz3_6:=blk_frozen BK142.out 6)|((with_reducible refine gate_dst (N:=7) rfl ?_);refine Kd.R_lit Kd.string _ 9 ?hg (N:=7) ?hd (xs:=([a0_1]:List ByteArray)) (inner:=[.string a0_1]) (ok:=fun _=>True) (okp:=fun _=>True) ?hr ?hp (fun _ hk=>hk) trivial (Below.refl _ _) (Nat.le_refl _) (by simp) ?_;(case hd=>rfl);(case hg=>rfl);(case hr=>first|(go_simp;done)|(go_simp;rfl));(case hp=>exact(Reps.one (show Kd.M Kd.string _ _ _ a0_1 [.string a0_1] from rfl) (Reps.none _ _)));intro v144 w4 ho5 hb hg_ hnew_;clear hg_ hnew_;(first|rw[←Ny143.out]at ho5|(simp only[Int.reduceToNat]at ho5;rw[←Ny143.out]at ho5));have n0_:=Aside0.mk (Kd.R_lower ho5 (below_size (by repeat (first|(with_reducible first|exact HB.out|apply below_alloc|apply pw_below_drewN|apply below_drew1|refine below_set ?_ GE142.out)|exact HB.out))));have n1_:=Aside0.mk (blk_below (g:=gb142) (o:= .cells #[.int .i64 a0_0, .string a0_1, .int .u64 a0_2, .slice A0_3 l0_3.length c0_3, .int .u64 a0_4, .int .u64 a0_5, .string a0_6] 62 (0,0)) (by(with_reducible repeat (first|refine blk_drewN ?_ _|refine blk_drew ?_|refine blk_alloc ?_ _));exact BK142.out) hb);have n2_:=Aside0.mk (below_step (by repeat (first|(with_reducible first|exact HB.out|apply below_alloc|apply pw_below_drewN|apply below_drew1|refine below_set ?_ GE142.out)|exact HB.out)) hb);clear BK142;clear HB;have HO145:=n0_;have BK142:=n1_;have HB:=n2_;clear n0_ n1_ n2_;clear hb ho5))
 go_loopg [3,4] k (fun kq v3 v4 w'=>∃(x3_1:List ByteArray) (x4_1:Int),v4= .int .i64 x4_1∧Aside0 (tephraref08_Names.l0 kq x3_1 x4_1 a0_0 a0_1 a0_2 l0_3 a0_4 a0_5 a0_6=some r)∧Aside0 (kq≤k)∧Aside0 (Kd.R Kd.string 9 w' w.heap.size (fun _=>True) v3 x3_1)∧Aside0 (w'.heap[gb142]? =some (.cells #[.int .i64 a0_0, .string a0_1, .int .u64 a0_2,(.slice A0_3 l0_3.length c0_3), .int .u64 a0_4, .int .u64 a0_5, .string a0_6] 62 (0,0)))∧Aside0 (Below w.heap.size w w'))
 case atStart=>exact⟨(y143),(0),(by first|rfl|(simp;done)|(simp[*];done)|(simp;rw[Bool.eq_iff_iff];simp;done)),H',⟨Nat.le_refl _⟩,⟨by(with_reducible repeat (first|apply Kd.R_alloc|apply Kd.R_drewN|apply Kd.R_drew));exact HO145.out⟩,⟨by(with_reducible repeat (first|refine blk_drewN ?_ _|refine blk_drew ?_|refine blk_alloc ?_ _));exact BK142.out⟩,⟨by repeat (first|(with_reducible first|exact HB.out|apply below_alloc|apply pw_below_drewN|apply below_drew1|refine below_set ?_ GE142.out)|exact HB.out)⟩⟩
 case round=>
  clear H'
  try clear p2
  try clear hcz3_0
  try clear hcz3_1
  try clear hcz3_2
  try clear hcz3_3
  try clear hcz3_4
  try clear hcz3_5
  try clear hcz3_6
  try clear hfz3_0
  try clear hfz3_1
  try clear hfz3_2
  try clear hfz3_3
  try clear hfz3_4
  try clear hfz3_5
  try clear hfz3_6
  obtain⟨x3_1,x4_1,rfl,HA,HK1,HO_3,BK142,HB⟩:=hrel
  cases gk with
  |zero=>exact absurd HA.out (by simp[tephraref08_Names.l0])
  | succ k1=>
   have H:=HA.out
   clear HA
   simp only[tephraref08_Names.l0]at H
   by_cases c6:x4_1<(l0_3.length:Int)
   ·rw [if_pos c6]at H
    have c6b0:decide (x4_1<(l0_3.length:Int))=true:=decide_eq_true c6
    clear c6
    by_cases c7:0≤x4_1
    ·rw [if_pos c7]at H
     have c7b0:decide (0≤x4_1)=true:=decide_eq_true c7
     clear c7
     by_cases c8:x3_1.length<8796093022208
     ·rw[if_pos c8]at H
      have LMc8:=Aside0.mk c8
      clear c8
      obtain⟨y147,hy147⟩: ∃y_:List ByteArray,y_=(x3_1++[(rd_T109 l0_3 x4_1).f0]):=⟨_,rfl⟩
      replace H:(tephraref08_Names.l0 k1 y147 (wrap64 (x4_1+1)) a0_0 a0_1 a0_2 l0_3 a0_4 a0_5 a0_6)=some r:=by first|(rw[hy147];with_reducible exact H)|(have H2_:=(Option.bind_some _ _).symm.trans H;rw[hy147];with_reducible exact H2_)|(have H2_:=(Option.bind_some _ _).symm.trans H;with_reducible exact H2_)|with_reducible exact H|(rw[hy147];exact H)|exact H
      have Ny147:=Aside0.mk hy147
      clear hy147
      have H':=Aside0.mk H
      clear H
      obtain⟨hcz9_0,hcz9_1,hcz9_2,hcz9_3,hcz9_4,hcz9_5,hcz9_6⟩:=facts7 BK142.out
      have hfz9_0:=blk_frozen BK142.out 0
      have hfz9_1:=blk_frozen BK142.out 1
      have hfz9_2:=blk_frozen BK142.out 2
      have hfz9_3:=blk_frozen BK142.out 3
      have hfz9_4:=blk_frozen BK142.out 4
      have hfz9_5:=blk_frozen BK142.out 5
      have hfz9_6:=blk_frozen BK142.out 6
      have p146:0≤(x4_1:Int):=of_decide_eq_true (by first|(with_reducible assumption)|assumption)
      have q146:x4_1<(l0_3.length:Int):=of_decide_eq_true (by first|(with_reducible assumption)|assumption)
      obtain⟨ad146,e146,hx146_0,hx146_1,hx146_2⟩:=at_T109 HR0_3.out x4_1 p146 q146
      cases e146
      replace hx146_0:=(HB.out.cell (World.block_lt_of_cell? w _ hx146_0)).trans hx146_0
      replace hx146_1:=(HB.out.cell (World.block_lt_of_cell? w _ hx146_1)).trans hx146_1
      replace hx146_2:=(HB.out.cell (World.block_lt_of_cell? w _ hx146_2)).trans hx146_2
      replace p146:=eq_true p146
      replace q146:=eq_true q146
      go_wp2_with (first|((with_reducible refine gate_builtin (b:= .append) (xs:=#[.tmp 15, .tmp 22]) rfl ?_);at_builtin;refine Kd.R_append Kd.string (w0:=w) w.heap.size rfl (.tmp 15) (.tmp 22) 45 9 (.string ⟨#[]⟩) 16 rfl Try.underlying45 info9 rfl (by decide) (by omega) u3 x3_1 ((rd_T109 l0_3 x4_1).f0) [.string ((rd_T109 l0_3 x4_1).f0)] (fun _=>True) (fun _=>False) rfl rfl ?aP (fun _ hk=>hk.elim) ?aF ?aO ?aB ?aS ?aL ?_;(case aP=>exact rfl);(case aB=>exact(by repeat (first|(with_reducible first|exact HB.out|apply below_alloc|apply pw_below_drewN|apply below_drew1|refine below_set ?_ GE142.out)|exact HB.out)));(case aF=>exact(fun _ _=>trivial));(case aO=>exact(by(with_reducible repeat (first|apply Kd.R_alloc|apply Kd.R_drewN|apply Kd.R_drew));exact HO_3.out));(case aS=>exact(below_size (by repeat (first|(with_reducible first|exact HB.out|apply below_alloc|apply pw_below_drewN|apply below_drew1|refine below_set ?_ GE142.out)|exact HB.out))));(case aL=>have:=LMc8.out;omega);intro v148 w10 ho hb hg hat;rw[←Ny147.out]at ho;have n0_:=Aside0.mk (blk_grown (g:=gb142) (o:= .cells #[.int .i64 a0_0, .string a0_1, .int .u64 a0_2, .slice (some ad146) l0_3.length c0_3, .int .u64 a0_4, .int .u64 a0_5, .string a0_6] 62 (0,0)) (by(with_reducible repeat (first|refine blk_drewN ?_ _|refine blk_drew ?_|refine blk_alloc ?_ _));exact BK142.out) hg (Kd.R_ne HO_3.out BK142.out (by decide)));have n1_:=Aside0.mk (hb);have n2_:=Aside0.mk (ho);clear BK142;clear HB;clear HO_3;have BK142:=n0_;have HB:=n1_;have HO149:=n2_;clear n0_ n1_ n2_;clear ho hb hg hat))
      go_roundg k1
      case measure=>have:=HK1.out;omega
      case rel=>exact⟨(y147),(wrap64 (x4_1+1)),(by first|rfl|(simp;done)|(simp[*];done)|(simp;rw[Bool.eq_iff_iff];simp;done)),H',⟨by have:=HK1.out;omega⟩,⟨by(with_reducible repeat (first|apply Kd.R_alloc|apply Kd.R_drewN|apply Kd.R_drew));exact HO149.out⟩,⟨by(with_reducible repeat (first|refine blk_drewN ?_ _|refine blk_drew ?_|refine blk_alloc ?_ _));exact BK142.out⟩,⟨by repeat (first|(with_reducible first|exact HB.out|apply below_alloc|apply pw_below_drewN|apply below_drew1|refine below_set ?_ GE142.out)|exact HB.out)⟩⟩
     ·rw[if_neg c8]at H
      exact absurd H (by simp)
    ·rw[if_neg c7]at H
     exact absurd H (by simp)
   ·rw [if_neg c6]at H
    have c6b0:decide (x4_1<(l0_3.length:Int))=false:=decide_eq_false c6
    clear c6
    by_cases c11:a0_6.toList=([]:List UInt8)
    ·rw[if_pos c11]at H
     have c11b0:(a0_6.toList==([]:List UInt8))=true:=beq_iff_eq.mpr c11
     have c11b1:(a0_6.toList !=([]:List UInt8))=false:=bne_eq_false_iff_eq.mpr c11
     clear c11
     replace H:=Option.bind_eq_some_iff.mp H
     obtain⟨t150,A120,H⟩:=H
     replace H:(some t150)=some r:=H
     have A12:=Aside0.mk A120
     clear A120
     obtain rfl:=Option.some.inj H
     obtain⟨hcz13_0,hcz13_1,hcz13_2,hcz13_3,hcz13_4,hcz13_5,hcz13_6⟩:=facts7 BK142.out
     have hfz13_0:=blk_frozen BK142.out 0
     have hfz13_1:=blk_frozen BK142.out 1
     have hfz13_2:=blk_frozen BK142.out 2
     have hfz13_3:=blk_frozen BK142.out 3
     have hfz13_4:=blk_frozen BK142.out 4
     have hfz13_5:=blk_frozen BK142.out 5
     have hfz13_6:=blk_frozen BK142.out 6
     obtain⟨Ao14,co14,eo14⟩:=Kd.R_slice HO_3.out
     subst eo14
     go_wp2_with (first|((with_reducible refine gate_callee (f:=33) rfl ?_);refine goesL_ (some 33) rfl rfl Try.func33 (by kernel_rfl) rfl #[.slice Ao14 x3_1.length co14] rfl (by(try simp only[List.map_toArray,List.map_cons,List.map_nil]);first|done|rfl|(simp only[List.length_drop,List.length_take];rfl)) ?_;(with_reducible refine(tephraref07_New.calls k1 _ _ x3_1 t150 _ ?side1 ?side2 A12.out).mono ?_);(case side1=>repeat (first|exact(Kd.R_reads' HO_3.out).2.2|(with_reducible refine Kd.C_alloc ?_ _)|(with_reducible refine Kd.C_drewN ?_ _)|(with_reducible refine Kd.C_drew ?_)));(case side2=>exact(Kd.R_reads' HO_3.out).2.1);rintro e w15 ⟨v151,rfl,ho0,hb⟩;refine⟨_,rfl, ?_⟩;have n0_:=Aside0.mk (Kd.R_elder' (by(with_reducible repeat (first|apply Kd.R_alloc|apply Kd.R_drewN|apply Kd.R_drew));exact HO_3.out) (Kd.R_base ho0) hb);have n1_:=Aside0.mk (Kd.R_lower (Kd.R_new' ho0 (Kd.R_lt (by(with_reducible repeat (first|apply Kd.R_alloc|apply Kd.R_drewN|apply Kd.R_drew));exact HO_3.out))) (below_size (by repeat (first|(with_reducible first|exact HB.out|apply below_alloc|apply pw_below_drewN|apply below_drew1|refine below_set ?_ GE142.out)|exact HB.out))));have n2_:=Aside0.mk (blk_below (g:=gb142) (o:= .cells #[.int .i64 a0_0, .string a0_1, .int .u64 a0_2, .slice A0_3 l0_3.length c0_3, .int .u64 a0_4, .int .u64 a0_5, .string a0_6] 62 (0,0)) (by(with_reducible repeat (first|refine blk_drewN ?_ _|refine blk_drew ?_|refine blk_alloc ?_ _));exact BK142.out) hb);have n3_:=Aside0.mk (below_step (by repeat (first|(with_reducible first|exact HB.out|apply below_alloc|apply pw_below_drewN|apply below_drew1|refine below_set ?_ GE142.out)|exact HB.out)) hb);clear HO_3;clear BK142;clear HB;have HO_3:=n0_;have HO152:=n1_;have BK142:=n2_;have HB:=n3_;clear n0_ n1_ n2_ n3_;(try clear hb);(try clear hb2);(try clear hk);(try clear hi);(try clear ho0)))
     go_ret
     exact⟨_,by first|rfl|(simp[errW_none,errW_some]<;>rfl)|(simp[*,errW_none,errW_some]<;>rfl),by(with_reducible repeat (first|apply Kd.R_alloc|apply Kd.R_drewN|apply Kd.R_drew));exact Kd.R_mono HO152.out (fun _ hk=>trivial),by repeat (first|(with_reducible first|exact HB.out|apply below_alloc|apply pw_below_drewN|apply below_drew1|refine below_set ?_ GE142.out)|exact HB.out)⟩
    ·rw [if_neg c11]at H
     have c11b0:(a0_6.toList==([]:List UInt8))=false:=beq_eq_false_iff_ne.mpr c11
     have c11b1:(a0_6.toList !=([]:List UInt8))=true:=bne_iff_ne.mpr c11
     by_cases c16:x3_1.length<8796093022208
     ·rw[if_pos c16]at H
      have LMc16:=Aside0.mk c16
      clear c16
      obtain⟨y153,hy153⟩: ∃y_:List ByteArray,y_=(x3_1++[a0_6]):=⟨_,rfl⟩
      replace H:((tephraref07_New.f k1 y153).bind fun t156=>(some t156))=some r:=by first|(rw[hy153];with_reducible exact H)|(have H2_:=(Option.bind_some _ _).symm.trans H;rw[hy153];with_reducible exact H2_)|(have H2_:=(Option.bind_some _ _).symm.trans H;with_reducible exact H2_)|with_reducible exact H|(rw[hy153];exact H)|exact H
      have Ny153:=Aside0.mk hy153
      clear hy153
      replace H:=Option.bind_eq_some_iff.mp H
      obtain⟨t156,A170,H⟩:=H
      replace H:(some t156)=some r:=H
      have A17:=Aside0.mk A170
      clear A170
      obtain rfl:=Option.some.inj H
      obtain⟨hcz18_0,hcz18_1,hcz18_2,hcz18_3,hcz18_4,hcz18_5,hcz18_6⟩:=facts7 BK142.out
      have hfz18_0:=blk_frozen BK142.out 0
      have hfz18_1:=blk_frozen BK142.out 1
      have hfz18_2:=blk_frozen BK142.out 2
      have hfz18_3:=blk_frozen BK142.out 3
      have hfz18_4:=blk_frozen BK142.out 4
      have hfz18_5:=blk_frozen BK142.out 5
      have hfz18_6:=blk_frozen BK142.out 6
      go_wp2_with (first|((with_reducible refine gate_builtin (b:= .append) (xs:=#[.tmp 27, .tmp 30]) rfl ?_);at_builtin;refine Kd.R_append Kd.string (w0:=w) w.heap.size rfl (.tmp 27) (.tmp 30) 45 9 (.string ⟨#[]⟩) 16 rfl Try.underlying45 info9 rfl (by decide) (by omega) u3 x3_1 a0_6 [.string a0_6] (fun _=>True) (fun _=>False) rfl rfl ?aP (fun _ hk=>hk.elim) ?aF ?aO ?aB ?aS ?aL ?_;(case aP=>exact rfl);(case aB=>exact(by repeat (first|(with_reducible first|exact HB.out|apply below_alloc|apply pw_below_drewN|apply below_drew1|refine below_set ?_ GE142.out)|exact HB.out)));(case aF=>exact(fun _ _=>trivial));(case aO=>exact(by(with_reducible repeat (first|apply Kd.R_alloc|apply Kd.R_drewN|apply Kd.R_drew));exact HO_3.out));(case aS=>exact(below_size (by repeat (first|(with_reducible first|exact HB.out|apply below_alloc|apply pw_below_drewN|apply below_drew1|refine below_set ?_ GE142.out)|exact HB.out))));(case aL=>have:=LMc16.out;omega);intro v154 w19 ho hb hg hat;rw[←Ny153.out]at ho;have n0_:=Aside0.mk (blk_grown (g:=gb142) (o:= .cells #[.int .i64 a0_0, .string a0_1, .int .u64 a0_2, .slice A0_3 l0_3.length c0_3, .int .u64 a0_4, .int .u64 a0_5, .string a0_6] 62 (0,0)) (by(with_reducible repeat (first|refine blk_drewN ?_ _|refine blk_drew ?_|refine blk_alloc ?_ _));exact BK142.out) hg (Kd.R_ne HO_3.out BK142.out (by decide)));have n1_:=Aside0.mk (hb);have n2_:=Aside0.mk (ho);clear BK142;clear HB;clear HO_3;have BK142:=n0_;have HB:=n1_;have HO155:=n2_;clear n0_ n1_ n2_;clear ho hb hg hat;obtain⟨Ao20,co20,eo20⟩:=Kd.R_slice HO155.out;subst eo20)|((with_reducible refine gate_callee (f:=33) rfl ?_);refine goesL_ (some 33) rfl rfl Try.func33 (by kernel_rfl) rfl #[.slice Ao20 y153.length co20] rfl (by(try simp only[List.map_toArray,List.map_cons,List.map_nil]);first|done|rfl|(simp only[List.length_drop,List.length_take];rfl)) ?_;(with_reducible refine(tephraref07_New.calls k1 _ _ y153 t156 _ ?side1 ?side2 A17.out).mono ?_);(case side1=>repeat (first|exact(Kd.R_reads' HO155.out).2.2|(with_reducible refine Kd.C_alloc ?_ _)|(with_reducible refine Kd.C_drewN ?_ _)|(with_reducible refine Kd.C_drew ?_)));(case side2=>exact(Kd.R_reads' HO155.out).2.1);rintro e w21 ⟨v157,rfl,ho0,hb⟩;refine⟨_,rfl, ?_⟩;have n0_:=Aside0.mk (Kd.R_elder' (by(with_reducible repeat (first|apply Kd.R_alloc|apply Kd.R_drewN|apply Kd.R_drew));exact HO155.out) (Kd.R_base ho0) hb);have n1_:=Aside0.mk (Kd.R_lower (Kd.R_new' ho0 (Kd.R_lt (by(with_reducible repeat (first|apply Kd.R_alloc|apply Kd.R_drewN|apply Kd.R_drew));exact HO155.out))) (below_size (by repeat (first|(with_reducible first|exact HB.out|apply below_alloc|apply pw_below_drewN|apply below_drew1|refine below_set ?_ GE142.out)|exact HB.out))));have n2_:=Aside0.mk (blk_below (g:=gb142) (o:= .cells #[.int .i64 a0_0, .string a0_1, .int .u64 a0_2, .slice A0_3 l0_3.length c0_3, .int .u64 a0_4, .int .u64 a0_5, .string a0_6] 62 (0,0)) (by(with_reducible repeat (first|refine blk_drewN ?_ _|refine blk_drew ?_|refine blk_alloc ?_ _));exact BK142.out) hb);have n3_:=Aside0.mk (below_step (by repeat (first|(with_reducible first|exact HB.out|apply below_alloc|apply pw_below_drewN|apply below_drew1|refine below_set ?_ GE142.out)|exact HB.out)) hb);clear HO155;clear BK142;clear HB;have HO155:=n0_;have HO158:=n1_;have BK142:=n2_;have HB:=n3_;clear n0_ n1_ n2_ n3_;(try clear hb);(try clear hb2);(try clear hk);(try clear hi);(try clear ho0)))
      go_ret
      exact⟨_,by first|rfl|(simp[errW_none,errW_some]<;>rfl)|(simp[*,errW_none,errW_some]<;>rfl),by(with_reducible repeat (first|apply Kd.R_alloc|apply Kd.R_drewN|apply Kd.R_drew));exact Kd.R_mono HO158.out (fun _ hk=>trivial),by repeat (first|(with_reducible first|exact HB.out|apply below_alloc|apply pw_below_drewN|apply below_drew1|refine below_set ?_ GE142.out)|exact HB.out)⟩
     ·rw[if_neg c16]at H
      exact absurd H (by simp)
def bytes_Equal.f (l0:List Int) (l1:List Int):Option (Bool):=some ((strOfNums l0).toList==(strOfNums l1).toList)
set_option maxHeartbeats 8000000 in
set_option maxRecDepth 100000 in
theorem bytes_Equal.calls (A0:Option Addr) (c0:Nat) (l0:List Int) (A1:Option Addr) (c1:Nat) (l1:List Int) (r:Bool) (w:World) (hr0:Kd.C (Kd.int .u8) w A0 l0.length l0) (hc0:l0.length≤c0) (hr1:Kd.C (Kd.int .u8) w A1 l1.length l1) (hc1:l1.length≤c1) (h:bytes_Equal.f l0 l1=some r):
  Calls Try.prog 75 #[.slice A0 l0.length c0, .slice A1 l1.length c1] w fun e w'=>e= .returned (.bool r)∧Drawn0 w w':=by
 have HR0:=Aside0.mk hr0
 have HC0:=Aside0.mk hc0
 clear hr0 hc0
 have HR1:=Aside0.mk hr1
 have HC1:=Aside0.mk hc1
 clear hr1 hc1
 have H:(some ((strOfNums l0).toList==(strOfNums l1).toList))=some r:=h
 clear h
 obtain rfl:=Option.some.inj H
 have hcv3:=Kd.C_string (P:=Try.prog) (A:=A0) (c:=c0) Try.underlying22 Try.underlying5 Try.underlying9 HR0.out
 have hcv4:=Kd.C_string (P:=Try.prog) (A:=A1) (c:=c1) Try.underlying22 Try.underlying5 Try.underlying9 HR1.out
 go_enter Try.func75,Try.ntmps75
 go_wp2
 go_ret
 exact⟨by first|rfl|(simp;done)|(simp[*];done),by repeat (first|exact Drawn0.refl _|apply Drawn0.step)⟩
end Go.Proofs.Ytmeocdkiecknkaa.GRR
