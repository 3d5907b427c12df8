/- Texts laid as one by shake.py, cut to what the claim needs: GRRz1. (Names that begin with W and the print's groups (G..x, G..z): laid by the kit's print, cut.) -/
import Derived.Test.YtfflenbfapgilaaGreatZCe
import Derived.Test.YtfflenbfapgilaaGreatZCg
set_option linter.unusedVariables false
set_option linter.unusedSimpArgs false
set_option maxHeartbeats 8000000
set_option maxRecDepth 100000
namespace Go.Proofs.YtfflenbfapgilaaGreat.GRR
open Go.RowKit Go.Proofs.YtfflenbfapgilaaGreatW.PrintWords Go.Proofs.YtfflenbfapgilaaGreatW.PrintLast Go.Proofs.YtfflenbfapgilaaGreatW.PrintMore
attribute [local go_sem] max2_int min2_int max_two min_two max_three min_three max_four min_four
attribute [local go_sem high] eqA129
def tephraref07_Place.l0:Nat→List ByteArray→ByteArray→Int→Option (Int)
 | 0,_,_,_=>none
 |k+1,x0,x1,x5=>if x5<(x0.length:Int)then(if 0≤x5 then(if (rdOf ByteArray.empty x0 x5).toList=x1.toList then(some x5)else(tephraref07_Place.l0 k x0 x1 (wrap64 (x5+1))))else(none))else(some (-1))
def tephraref07_Place.f (k:Nat) (l0:List ByteArray) (a1:ByteArray):Option (Int):=tephraref07_Place.l0 k l0 a1 0
theorem tephraref07_Place.calls (k:Nat) (A0:Option Addr) (c0:Nat) (l0:List ByteArray) (a1:ByteArray) (r:Int) (w:World) (hr0:Kd.C Kd.string w A0 l0.length l0) (hc0:l0.length≤c0) (h:tephraref07_Place.f k l0 a1=some r):
  Calls Tryz.prog 51 #[.slice A0 l0.length c0,.string a1] w fun e w'=>e= .returned (.int .i64 r)∧Drawn0 w w':=by
 have HR0:=Aside0.mk hr0
 have HC0:=Aside0.mk hc0
 clear hr0 hc0
 have H:(tephraref07_Place.l0 k l0 a1 0)=some r:=h
 clear h
 have H':=Aside0.mk H
 clear H
 go_enter Tryz.func51,Tryz.ntmps51
 go_wp2
 go_loopg [5] k (fun kq v5 w'=>∃(x5_1:Int),v5= .int .i64 x5_1∧Aside0 (tephraref07_Place.l0 kq l0 a1 x5_1=some r)∧Aside0 (kq≤k)∧Drawn0 w w')
 case atStart=>exact⟨(0),(by first|rfl|(simp;done)|(simp[*];done)|(simp;rw[Bool.eq_iff_iff];simp;done)),H',⟨Nat.le_refl _⟩,by repeat (first|exact Drawn0.refl _|apply Drawn0.step)⟩
 case round=>
  clear H'
  try clear p2
  obtain⟨x5_1,rfl,HA,HK1,⟨m1,rfl⟩⟩:=hrel
  cases gk with
  |zero=>exact absurd HA.out (by simp[tephraref07_Place.l0])
  | succ k1=>
   have H:=HA.out
   clear HA
   simp only[tephraref07_Place.l0]at H
   by_cases c3:x5_1<(l0.length:Int)
   ·rw [if_pos c3]at H
    have c3b0:decide (x5_1<(l0.length:Int))=true:=decide_eq_true c3
    clear c3
    by_cases c4:0≤x5_1
    ·rw [if_pos c4]at H
     have c4b0:decide (0≤x5_1)=true:=decide_eq_true c4
     clear c4
     by_cases c5:(rdOf ByteArray.empty l0 x5_1).toList=a1.toList
     ·rw[if_pos c5]at H
      have c5b0:((rdOf ByteArray.empty l0 x5_1).toList==a1.toList)=true:=beq_iff_eq.mpr c5
      have c5b1:((rdOf ByteArray.empty l0 x5_1).toList !=a1.toList)=false:=bne_eq_false_iff_eq.mpr c5
      clear c5
      obtain rfl:=Option.some.inj H
      have p101:0≤(x5_1:Int):=of_decide_eq_true (by first|(with_reducible assumption)|assumption)
      have q101:x5_1<(l0.length:Int):=of_decide_eq_true (by first|(with_reducible assumption)|assumption)
      obtain⟨ad101,e101,hx101_0⟩:=Kd.at_string HR0.out x5_1 p101 q101
      cases e101
      replace p101:=eq_true p101
      replace q101:=eq_true q101
      go_wp2
      go_ret
      exact⟨by first|rfl|(simp;done)|(simp[*];done),by repeat (first|exact Drawn0.refl _|apply Drawn0.step)⟩
     ·rw[if_neg c5]at H
      have c5b0:((rdOf ByteArray.empty l0 x5_1).toList==a1.toList)=false:=beq_eq_false_iff_ne.mpr c5
      have c5b1:((rdOf ByteArray.empty l0 x5_1).toList !=a1.toList)=true:=bne_iff_ne.mpr c5
      have H':=Aside0.mk H
      clear H
      have p101:0≤(x5_1:Int):=of_decide_eq_true (by first|(with_reducible assumption)|assumption)
      have q101:x5_1<(l0.length:Int):=of_decide_eq_true (by first|(with_reducible assumption)|assumption)
      obtain⟨ad101,e101,hx101_0⟩:=Kd.at_string HR0.out x5_1 p101 q101
      cases e101
      replace p101:=eq_true p101
      replace q101:=eq_true q101
      go_wp2
      go_roundg k1
      case measure=>have:=HK1.out;omega
      case rel=>exact⟨(wrap64 (x5_1+1)),(by first|rfl|(simp;done)|(simp[*];done)|(simp;rw[Bool.eq_iff_iff];simp;done)),H',⟨by have:=HK1.out;omega⟩,by repeat (first|exact Drawn0.refl _|apply Drawn0.step)⟩
    ·rw[if_neg c4]at H
     exact absurd H (by simp)
   ·rw[if_neg c3]at H
    have c3b0:decide (x5_1<(l0.length:Int))=false:=decide_eq_false c3
    clear c3
    obtain rfl:=Option.some.inj H
    go_wp2
    go_ret
    exact⟨by first|rfl|(simp;done)|(simp[*];done),by repeat (first|exact Drawn0.refl _|apply Drawn0.step)⟩
def tephraref07_Put.f (k:Nat) (l0:List ByteArray) (a1:ByteArray):Option (List ByteArray):=(tephraref07_Place.f k l0 a1).bind fun t102=>(if t102≥0 then(some l0)else((some (([]:List ByteArray):List ByteArray)).bind fun y103=>(if y103.length+l0.length<8796093022208 then((some (y103++l0:List ByteArray)).bind fun y106=>(if y106.length<8796093022208 then(some (y106++[a1]))else(none)))else(none))))
theorem tephraref07_Put.calls (k:Nat) (P0_:Nat→Prop) (u9000_:Value) (l0:List ByteArray) (a1:ByteArray) (r:List ByteArray) (w0 w:World) (hB:Below w0.heap.size w0 w) (ho0:Kd.R Kd.string 9 w w0.heap.size P0_ u9000_ l0) (h:tephraref07_Put.f k l0 a1=some r):
  Calls Tryz.prog 28 #[u9000_,.string a1] w fun e w'=>∃v0_:Value,e= .returned (v0_)∧Kd.R Kd.string 9 w' w0.heap.size (fun k_=>(P0_ k_∨w.heap.size≤k_)) v0_ r∧Below w0.heap.size w0 w'∧Kept w w' (fun k_=>P0_ k_):=by
 have HO0:=Aside0.mk (show Kd.R Kd.string 9 w w0.heap.size (fun k_=>(P0_ k_∨w.heap.size≤k_)) u9000_ l0 from Kd.R_mono ho0 (fun k_ hk=>(.inl hk)))
 have HK:=Aside0.mk (Kept.refl w (fun k_=>P0_ k_))
 have HW0:=Aside0.mk hB.size
 have HB:=Aside0.mk hB
 clear hB
 have H:((tephraref07_Place.f k l0 a1).bind fun t102=>(if t102≥0 then(some l0)else((some (([]:List ByteArray):List ByteArray)).bind fun y103=>(if y103.length+l0.length<8796093022208 then((some (y103++l0:List ByteArray)).bind fun y106=>(if y106.length<8796093022208 then(some (y106++[a1]))else(none)))else(none)))))=some r:=h
 clear h
 replace H:=Option.bind_eq_some_iff.mp H
 obtain⟨t102,A30,H⟩:=H
 replace H:(if t102≥0 then(some l0)else((some (([]:List ByteArray):List ByteArray)).bind fun y103=>(if y103.length+l0.length<8796093022208 then((some (y103++l0:List ByteArray)).bind fun y106=>(if y106.length<8796093022208 then(some (y106++[a1]))else(none)))else(none))))=some r:=H
 have A3:=Aside0.mk A30
 clear A30
 by_cases c4:t102≥0
 ·rw[if_pos c4]at H
  have c4b0:decide (0≤t102)=true:=decide_eq_true c4
  clear c4
  obtain rfl:=Option.some.inj H
  obtain⟨Ao5,co5,eo5⟩:=Kd.R_slice HO0.out
  subst eo5
  go_enter Tryz.func28,Tryz.ntmps28
  go_wp2_with (first|((with_reducible refine gate_callee (f:=51) rfl ?_);refine goesL_ (some 7) rfl rfl Tryz.func51 (by kernel_rfl) rfl #[.slice Ao5 l0.length co5,.string a1] rfl (by(try simp only[List.map_toArray,List.map_cons,List.map_nil]);first|done|rfl|(simp only[List.length_drop,List.length_take];rfl)) ?_;(with_reducible refine(tephraref07_Place.calls k _ _ l0 a1 t102 _ ?side1 ?side2 A3.out).mono ?_);(case side1=>repeat (first|exact(Kd.R_reads' HO0.out).2.2|(with_reducible refine Kd.C_alloc ?_ _)|(with_reducible refine Kd.C_drewN ?_ _)|(with_reducible refine Kd.C_drew ?_)));(case side2=>exact(Kd.R_reads' HO0.out).2.1);rintro e w' ⟨rfl,⟨nd,rfl⟩⟩;refine⟨_,rfl, ?_⟩))
  go_ret
  exact⟨_,by first|rfl|(simp[errW_none,errW_some]<;>rfl)|(simp[*,errW_none,errW_some]<;>rfl),by(with_reducible repeat (first|apply Kd.R_alloc|apply Kd.R_drewN|apply Kd.R_drew));exact HO0.out,by repeat (first|(with_reducible first|exact HB.out|apply below_alloc|apply pw_below_drewN|apply below_drew1)|exact HB.out),by repeat (first|(with_reducible first|exact HK.out|apply Kept.alloc|apply Kept.drewN|apply Kept.drew)|exact HK.out)⟩
 ·rw [if_neg c4]at H
  have c4b0:decide (0≤t102)=false:=decide_eq_false c4
  clear c4
  obtain⟨y103,hy103⟩: ∃y_:List ByteArray,y_=(([]:List ByteArray)):=⟨_,rfl⟩
  replace H:(if y103.length+l0.length<8796093022208 then((some (y103++l0:List ByteArray)).bind fun y106=>(if y106.length<8796093022208 then(some (y106++[a1]))else(none)))else(none))=some r:=by first|(rw[hy103];with_reducible exact H)|(have H2_:=(Option.bind_some _ _).symm.trans H;rw[hy103];with_reducible exact H2_)|(have H2_:=(Option.bind_some _ _).symm.trans H;with_reducible exact H2_)|with_reducible exact H|(rw[hy103];exact H)|exact H
  have Ny103:=Aside0.mk hy103
  clear hy103
  by_cases c6:y103.length+l0.length<8796093022208
  ·rw [if_pos c6]at H
   have LMc6:=Aside0.mk c6
   clear c6
   obtain⟨y106,hy106⟩: ∃y_:List ByteArray,y_=(y103++l0):=⟨_,rfl⟩
   replace H:(if y106.length<8796093022208 then(some (y106++[a1]))else(none))=some r:=by first|(rw[hy106];with_reducible exact H)|(have H2_:=(Option.bind_some _ _).symm.trans H;rw[hy106];with_reducible exact H2_)|(have H2_:=(Option.bind_some _ _).symm.trans H;with_reducible exact H2_)|with_reducible exact H|(rw[hy106];exact H)|exact H
   have Ny106:=Aside0.mk hy106
   clear hy106
   by_cases c7:y106.length<8796093022208
   ·rw[if_pos c7]at H
    have LMc7:=Aside0.mk c7
    clear c7
    obtain⟨y109,hy109⟩: ∃y_:List ByteArray,y_=(y106++[a1]):=⟨_,rfl⟩
    replace H:(some y109)=some r:=by first|(rw[hy109];with_reducible exact H)|(have H2_:=(Option.bind_some _ _).symm.trans H;rw[hy109];with_reducible exact H2_)|(have H2_:=(Option.bind_some _ _).symm.trans H;with_reducible exact H2_)|with_reducible exact H|(rw[hy109];exact H)|exact H
    have Ny109:=Aside0.mk hy109
    clear hy109
    obtain rfl:=Option.some.inj H
    obtain⟨Ao8,co8,eo8⟩:=Kd.R_slice HO0.out
    subst eo8
    go_enter Tryz.func28,Tryz.ntmps28
    go_wp2_with (first|((with_reducible refine gate_callee (f:=51) rfl ?_);refine goesL_ (some 7) rfl rfl Tryz.func51 (by kernel_rfl) rfl #[.slice Ao8 l0.length co8,.string a1] rfl (by(try simp only[List.map_toArray,List.map_cons,List.map_nil]);first|done|rfl|(simp only[List.length_drop,List.length_take];rfl)) ?_;(with_reducible refine(tephraref07_Place.calls k _ _ l0 a1 t102 _ ?side1 ?side2 A3.out).mono ?_);(case side1=>repeat (first|exact(Kd.R_reads' HO0.out).2.2|(with_reducible refine Kd.C_alloc ?_ _)|(with_reducible refine Kd.C_drewN ?_ _)|(with_reducible refine Kd.C_drew ?_)));(case side2=>exact(Kd.R_reads' HO0.out).2.1);rintro e w' ⟨rfl,⟨nd,rfl⟩⟩;refine⟨_,rfl, ?_⟩)|((with_reducible refine gate_dst (N:=10) rfl ?_);refine Kd.R_lit Kd.string _ 9 ?hg (N:=10) ?hd (xs:=([]:List ByteArray)) (inner:=[]) (ok:=fun _=>True) (okp:=fun _=>True) ?hr ?hp (fun _ hk=>hk) trivial (Below.refl _ _) (Nat.le_refl _) (by simp) ?_;(case hd=>rfl);(case hg=>rfl);(case hr=>first|(go_simp;done)|(go_simp;rfl));(case hp=>exact(Reps.none _ _));intro v104 w9 ho10 hb hg_ hnew_;clear hg_ hnew_;(first|rw[←Ny103.out]at ho10|(simp only[Int.reduceToNat]at ho10;rw[←Ny103.out]at ho10));have n0_:=Aside0.mk (Kd.R_elder' (by(with_reducible repeat (first|apply Kd.R_alloc|apply Kd.R_drewN|apply Kd.R_drew));exact HO0.out) (Kd.R_base ho10) hb);have n1_:=Aside0.mk (Kd.R_lower (Kd.R_new' (Kd.R_newM (M:=fun k_=>(P0_ k_∨w.heap.size≤k_)) ho10 (by first|exact HK.out.1|exact(show Kept w _ (fun k_=>P0_ k_) from by repeat (first|(with_reducible first|exact HK.out|apply Kept.alloc|apply Kept.drewN|apply Kept.drew)|exact HK.out)).1) (fun k_ h_=> .inr h_)) (Kd.R_lt (by(with_reducible repeat (first|apply Kd.R_alloc|apply Kd.R_drewN|apply Kd.R_drew));exact HO0.out))) (below_size (by repeat (first|(with_reducible first|exact HB.out|apply below_alloc|apply pw_below_drewN|apply below_drew1)|exact HB.out))));have n2_:=Aside0.mk (Kept.below (S:=(fun k_=>P0_ k_)) (by repeat (first|(with_reducible first|exact HK.out|apply Kept.alloc|apply Kept.drewN|apply Kept.drew)|exact HK.out)) hb);have n3_:=Aside0.mk (below_step (by repeat (first|(with_reducible first|exact HB.out|apply below_alloc|apply pw_below_drewN|apply below_drew1)|exact HB.out)) hb);clear HO0;clear HK;clear HB;have HO0:=n0_;have HO105:=n1_;have HK:=n2_;have HB:=n3_;clear n0_ n1_ n2_ n3_;clear hb ho10)|((with_reducible refine gate_builtin (b:= .append) (xs:=#[.tmp 10,.tmp 11]) rfl ?_);at_builtin;refine Kd.R_append_rows Kd.string (w0:=w0) w0.heap.size rfl (.tmp 10) (.tmp 11) 52 9 (.string ⟨#[]⟩) 16 rfl Tryz.underlying52 info9 rfl (by decide) (by omega) v104 y103 l0 _ _ _ (fun k_=>(P0_ k_∨w.heap.size≤k_)∧some k_≠(.slice Ao8 l0.length co8:Value).ownBlock) (fun _=>False) rfl rfl ?aO ?aR (fun _ _ h=>h) (fun _ h=>h.elim) ?aF ?aB ?aS ?aL ?_;(case aR=>repeat (first|exact(Kd.R_reads' HO0.out).2.2|(with_reducible refine Kd.C_alloc ?_ _)|(with_reducible refine Kd.C_drewN ?_ _)|(with_reducible refine Kd.C_drew ?_)));(case aB=>exact(by repeat (first|(with_reducible first|exact HB.out|apply below_alloc|apply pw_below_drewN|apply below_drew1)|exact HB.out)));(case aF=>exact(fun k_ hk=>⟨(.inr (Nat.le_trans (by first|exact HK.out.1|exact(show Kept w _ (fun k_=>P0_ k_) from by repeat (first|(with_reducible first|exact HK.out|apply Kept.alloc|apply Kept.drewN|apply Kept.drew)|exact HK.out)).1) hk)),Kd.fresh' (Kd.R_lt (by(with_reducible repeat (first|apply Kd.R_alloc|apply Kd.R_drewN|apply Kd.R_drew));exact HO0.out)) k_ hk⟩));(case aO=>exact(by(with_reducible repeat (first|apply Kd.R_alloc|apply Kd.R_drewN|apply Kd.R_drew));exact Kd.R_mono HO105.out (fun _ hk=>⟨hk.1.1,hk.2⟩)));(case aS=>exact(below_size (by repeat (first|(with_reducible first|exact HB.out|apply below_alloc|apply pw_below_drewN|apply below_drew1)|exact HB.out))));(case aL=>have:=LMc6.out;omega);intro v107 w11 ho hb hg hat;rw[←Ny106.out]at ho;have n0_:=Aside0.mk (Kd.R_after (ok:=(fun k_=>(P0_ k_∨w.heap.size≤k_))) (by(with_reducible repeat (first|apply Kd.R_alloc|apply Kd.R_drewN|apply Kd.R_drew));exact HO0.out) hg hat);have n1_:=Aside0.mk (hb);have n2_:=Aside0.mk (Kept.of_grown (S:=(fun k_=>P0_ k_)) hg (by repeat (first|(with_reducible first|exact HK.out|apply Kept.alloc|apply Kept.drewN|apply Kept.drew)|exact HK.out)) (fun k_ e_=>(HO105.out.1 k_ e_).1.1));have n3_:=Aside0.mk (ho);clear HO0;clear HB;clear HK;clear HO105;have HO0:=n0_;have HB:=n1_;have HK:=n2_;have HO108:=n3_;clear n0_ n1_ n2_ n3_;clear ho hb hg hat)|((with_reducible refine gate_builtin (b:= .append) (xs:=#[.tmp 12,.tmp 14]) rfl ?_);at_builtin;refine Kd.R_append Kd.string (w0:=w0) w0.heap.size rfl (.tmp 12) (.tmp 14) 52 9 (.string ⟨#[]⟩) 16 rfl Tryz.underlying52 info9 rfl (by decide) (by omega) v107 y106 a1 [.string a1] (fun k_=>(P0_ k_∨w.heap.size≤k_)∧some k_≠(.slice Ao8 l0.length co8:Value).ownBlock) (fun _=>False) rfl rfl ?aP (fun _ hk=>hk.elim) ?aF ?aO ?aB ?aS ?aL ?_;(case aP=>exact rfl);(case aB=>exact(by repeat (first|(with_reducible first|exact HB.out|apply below_alloc|apply pw_below_drewN|apply below_drew1)|exact HB.out)));(case aF=>exact(fun k_ hk=>⟨(.inr (Nat.le_trans (by first|exact HK.out.1|exact(show Kept w _ (fun k_=>P0_ k_) from by repeat (first|(with_reducible first|exact HK.out|apply Kept.alloc|apply Kept.drewN|apply Kept.drew)|exact HK.out)).1) hk)),Kd.fresh' (Kd.R_lt (by(with_reducible repeat (first|apply Kd.R_alloc|apply Kd.R_drewN|apply Kd.R_drew));exact HO0.out)) k_ hk⟩));(case aO=>exact(by(with_reducible repeat (first|apply Kd.R_alloc|apply Kd.R_drewN|apply Kd.R_drew));exact HO108.out));(case aS=>exact(below_size (by repeat (first|(with_reducible first|exact HB.out|apply below_alloc|apply pw_below_drewN|apply below_drew1)|exact HB.out))));(case aL=>have:=LMc7.out;omega);intro v110 w12 ho hb hg hat;rw[←Ny109.out]at ho;have n0_:=Aside0.mk (Kd.R_after (ok:=(fun k_=>(P0_ k_∨w.heap.size≤k_))) (by(with_reducible repeat (first|apply Kd.R_alloc|apply Kd.R_drewN|apply Kd.R_drew));exact HO0.out) hg hat);have n1_:=Aside0.mk (hb);have n2_:=Aside0.mk (Kept.of_grown (S:=(fun k_=>P0_ k_)) hg (by repeat (first|(with_reducible first|exact HK.out|apply Kept.alloc|apply Kept.drewN|apply Kept.drew)|exact HK.out)) (fun k_ e_=>(HO108.out.1 k_ e_).1));have n3_:=Aside0.mk (ho);clear HO0;clear HB;clear HK;clear HO108;have HO0:=n0_;have HB:=n1_;have HK:=n2_;have HO111:=n3_;clear n0_ n1_ n2_ n3_;clear ho hb hg hat))
    go_ret
    exact⟨_,by first|rfl|(simp[errW_none,errW_some]<;>rfl)|(simp[*,errW_none,errW_some]<;>rfl),by(with_reducible repeat (first|apply Kd.R_alloc|apply Kd.R_drewN|apply Kd.R_drew));exact Kd.R_mono HO111.out (fun _ hk=>hk.1),by repeat (first|(with_reducible first|exact HB.out|apply below_alloc|apply pw_below_drewN|apply below_drew1)|exact HB.out),by repeat (first|(with_reducible first|exact HK.out|apply Kept.alloc|apply Kept.drewN|apply Kept.drew)|exact HK.out)⟩
   ·rw[if_neg c7]at H
    exact absurd H (by simp)
  ·rw[if_neg c6]at H
   exact absurd H (by simp)
def tephraref07_New.l0:Nat→List ByteArray→List ByteArray→Int→Option (List ByteArray)
 | 0,_,_,_=>none
 |k+1,x0,x3,x4=>if x4<(x0.length:Int)then(if 0≤x4 then((tephraref07_Put.f k x3 (rdOf ByteArray.empty x0 x4)).bind fun t116=>(tephraref07_New.l0 k x0 t116 (wrap64 (x4+1))))else(none))else(some x3)
def tephraref07_New.f (k:Nat) (l0:List ByteArray):Option (List ByteArray):=tephraref07_New.l0 k l0 (([]:List ByteArray)) 0
theorem tephraref07_New.calls (k:Nat) (A0:Option Addr) (c0:Nat) (l0:List ByteArray) (r:List ByteArray) (w:World) (hr0:Kd.C Kd.string w A0 l0.length l0) (hc0:l0.length≤c0) (h:tephraref07_New.f k l0=some r):
  Calls Tryz.prog 85 #[.slice A0 l0.length c0] w fun e w'=>∃v0_:Value,e= .returned (v0_)∧Kd.R Kd.string 9 w' w.heap.size (fun _=>True) v0_ r∧Below w.heap.size w w':=by
 have HR0:=Aside0.mk hr0
 have HC0:=Aside0.mk hc0
 clear hr0 hc0
 have HB:=Aside0.mk (Below.refl w.heap.size w)
 have H:(tephraref07_New.l0 k l0 (([]:List ByteArray)) 0)=some r:=h
 clear h
 obtain⟨y112,hy112⟩: ∃y_:List ByteArray,y_=(([]:List ByteArray)):=⟨_,rfl⟩
 replace H:(tephraref07_New.l0 k l0 y112 0)=some r:=by first|(rw[hy112];with_reducible exact H)|(have H2_:=(Option.bind_some _ _).symm.trans H;rw[hy112];with_reducible exact H2_)|(have H2_:=(Option.bind_some _ _).symm.trans H;with_reducible exact H2_)|with_reducible exact H|(rw[hy112];exact H)|exact H
 have Ny112:=Aside0.mk hy112
 clear hy112
 have H':=Aside0.mk H
 clear H
 go_enter Tryz.func85,Tryz.ntmps85
 go_wp2_with (first|((with_reducible refine gate_dst (N:=5) rfl ?_);refine Kd.R_lit Kd.string _ 9 ?hg (N:=5) ?hd (xs:=([]:List ByteArray)) (inner:=[]) (ok:=fun _=>True) (okp:=fun _=>True) ?hr ?hp (fun _ hk=>hk) trivial (Below.refl _ _) (Nat.le_refl _) (by simp) ?_;(case hd=>rfl);(case hg=>rfl);(case hr=>first|(go_simp;done)|(go_simp;rfl));(case hp=>exact(Reps.none _ _));intro v113 w2 ho3 hb hg_ hnew_;clear hg_ hnew_;(first|rw[←Ny112.out]at ho3|(simp only[Int.reduceToNat]at ho3;rw[←Ny112.out]at ho3));have n0_:=Aside0.mk (Kd.R_lower ho3 (below_size (by repeat (first|(with_reducible first|exact HB.out|apply below_alloc|apply pw_below_drewN|apply below_drew1)|exact HB.out))));have n1_:=Aside0.mk (below_step (by repeat (first|(with_reducible first|exact HB.out|apply below_alloc|apply pw_below_drewN|apply below_drew1)|exact HB.out)) hb);clear HB;have HO114:=n0_;have HB:=n1_;clear n0_ n1_;clear hb ho3))
 go_loopg [3,4] k (fun kq v3 v4 w'=>∃(x3_1:List ByteArray) (x4_1:Int),v4= .int .i64 x4_1∧Aside0 (tephraref07_New.l0 kq l0 x3_1 x4_1=some r)∧Aside0 (kq≤k)∧Aside0 (Kd.R Kd.string 9 w' w.heap.size (fun _=>True) v3 x3_1)∧Aside0 (Below w.heap.size w w'))
 case atStart=>exact⟨(y112),(0),(by first|rfl|(simp;done)|(simp[*];done)|(simp;rw[Bool.eq_iff_iff];simp;done)),H',⟨Nat.le_refl _⟩,⟨by(with_reducible repeat (first|apply Kd.R_alloc|apply Kd.R_drewN|apply Kd.R_drew));exact HO114.out⟩,⟨by repeat (first|(with_reducible first|exact HB.out|apply below_alloc|apply pw_below_drewN|apply below_drew1)|exact HB.out)⟩⟩
 case round=>
  clear H'
  try clear p2
  obtain⟨x3_1,x4_1,rfl,HA,HK1,HO_3,HB⟩:=hrel
  cases gk with
  |zero=>exact absurd HA.out (by simp[tephraref07_New.l0])
  | succ k1=>
   have H:=HA.out
   clear HA
   simp only[tephraref07_New.l0]at H
   by_cases c4:x4_1<(l0.length:Int)
   ·rw [if_pos c4]at H
    have c4b0:decide (x4_1<(l0.length:Int))=true:=decide_eq_true c4
    clear c4
    by_cases c5:0≤x4_1
    ·rw[if_pos c5]at H
     have c5b0:decide (0≤x4_1)=true:=decide_eq_true c5
     clear c5
     replace H:=Option.bind_eq_some_iff.mp H
     obtain⟨t116,A60,H⟩:=H
     replace H:(tephraref07_New.l0 k1 l0 t116 (wrap64 (x4_1+1)))=some r:=H
     have A6:=Aside0.mk A60
     clear A60
     have H':=Aside0.mk H
     clear H
     have p115:0≤(x4_1:Int):=of_decide_eq_true (by first|(with_reducible assumption)|assumption)
     have q115:x4_1<(l0.length:Int):=of_decide_eq_true (by first|(with_reducible assumption)|assumption)
     obtain⟨ad115,e115,hx115_0⟩:=Kd.at_string HR0.out x4_1 p115 q115
     cases e115
     replace hx115_0:=(HB.out.cell (World.block_lt_of_cell? w _ hx115_0)).trans hx115_0
     replace p115:=eq_true p115
     replace q115:=eq_true q115
     obtain⟨Ao7,co7,eo7⟩:=Kd.R_slice HO_3.out
     subst eo7
     go_wp2_with (first|((with_reducible refine gate_callee (f:=28) rfl ?_);refine goesL_ (some 17) rfl rfl Tryz.func28 (by kernel_rfl) rfl #[.slice Ao7 x3_1.length co7,.string (rdOf ByteArray.empty l0 x4_1)] rfl (by(try simp only[List.map_toArray,List.map_cons,List.map_nil]);first|done|rfl|(simp only[List.length_drop,List.length_take];rfl)) ?_;(with_reducible refine(tephraref07_Put.calls k1 (fun k_=>some k_=(.slice Ao7 x3_1.length co7:Value).ownBlock) (.slice Ao7 x3_1.length co7) x3_1 (rdOf ByteArray.empty l0 x4_1) t116 w _ ?side1 ?side2 A6.out).mono ?_);(case side1=>repeat (first|(with_reducible first|exact HB.out|apply below_alloc|apply pw_below_drewN|apply below_drew1)|exact HB.out));(case side2=>exact Kd.R_tight rfl HO_3.out);rintro e w8 ⟨v117,rfl,ho0,hb,hkp⟩;refine⟨_,rfl, ?_⟩;have n0_:=Aside0.mk (Kd.R_mono (ok':=fun k_=>True) ho0 (fun k_ hk_=>trivial));have n1_:=Aside0.mk (hb);clear HB;clear HO_3;have HO118:=n0_;have HB:=n1_;clear n0_ n1_;(try clear hb);(try clear hkp);(try clear ho0)))
     go_roundg k1
     case measure=>have:=HK1.out;omega
     case rel=>exact⟨(t116),(wrap64 (x4_1+1)),(by first|rfl|(simp;done)|(simp[*];done)|(simp;rw[Bool.eq_iff_iff];simp;done)),H',⟨by have:=HK1.out;omega⟩,⟨by(with_reducible repeat (first|apply Kd.R_alloc|apply Kd.R_drewN|apply Kd.R_drew));exact HO118.out⟩,⟨by repeat (first|(with_reducible first|exact HB.out|apply below_alloc|apply pw_below_drewN|apply below_drew1)|exact HB.out)⟩⟩
    ·rw[if_neg c5]at H
     exact absurd H (by simp)
   ·rw[if_neg c4]at H
    have c4b0:decide (x4_1<(l0.length:Int))=false:=decide_eq_false c4
    clear c4
    obtain rfl:=Option.some.inj H
    go_wp2
    go_ret
    exact⟨_,by first|rfl|(simp[errW_none,errW_some]<;>rfl)|(simp[*,errW_none,errW_some]<;>rfl),by(with_reducible repeat (first|apply Kd.R_alloc|apply Kd.R_drewN|apply Kd.R_drew));exact HO_3.out,by repeat (first|(with_reducible first|exact HB.out|apply below_alloc|apply pw_below_drewN|apply below_drew1)|exact HB.out)⟩
def tephraref08_Names.l0:Nat→List ByteArray→Int→Int→ByteArray→Int→List (S129)→Int→Int→ByteArray→Option (List ByteArray)
 | 0,_,_,_,_,_,_,_,_,_=>none
 |k+1,x3,x4,x120000,x120001,x120002,x120003,x120004,x120005,x120006=>if x4<(x120003.length:Int)then(if 0≤x4 then(if x3.length<8796093022208 then(tephraref08_Names.l0 k (x3++[(rd_T129 x120003 x4).f0]) (wrap64 (x4+1)) x120000 x120001 x120002 x120003 x120004 x120005 x120006)else(none))else(none))else(if x120006.toList=([]:List UInt8)then((tephraref07_New.f k x3).bind fun t127=>(some t127))else(if x3.length<8796093022208 then((tephraref07_New.f k (x3++[x120006])).bind fun t133=>(some t133))else(none)))
def tephraref08_Names.f (k:Nat) (a0_0:Int) (a0_1:ByteArray) (a0_2:Int) (l0_3:List (S129)) (a0_4:Int) (a0_5:Int) (a0_6:ByteArray):Option (List ByteArray):=tephraref08_Names.l0 k (([a0_1]:List ByteArray)) 0 a0_0 a0_1 a0_2 l0_3 a0_4 a0_5 a0_6
theorem tephraref08_Names.calls (k:Nat) (a0_0:Int) (a0_1:ByteArray) (a0_2:Int) (A0_3:Option Addr) (c0_3:Nat) (l0_3:List (S129)) (a0_4:Int) (a0_5:Int) (a0_6:ByteArray) (r:List ByteArray) (w:World) (hr0_3:Kd.C k129 w A0_3 l0_3.length l0_3) (hc0_3:l0_3.length≤c0_3) (h:tephraref08_Names.f k a0_0 a0_1 a0_2 l0_3 a0_4 a0_5 a0_6=some r):
  Calls Tryz.prog 57 #[.agg #[.int .i64 a0_0,.string a0_1,.int .u64 a0_2,.slice A0_3 l0_3.length c0_3,.int .u64 a0_4,.int .u64 a0_5,.string a0_6]] w fun e w'=>∃v0_:Value,e= .returned (v0_)∧Kd.R Kd.string 9 w' w.heap.size (fun _=>True) v0_ r∧Below w.heap.size w w':=by
 have hu49:=Tryz.underlying49
 have HR0_3:=Aside0.mk hr0_3
 have HC0_3:=Aside0.mk hc0_3
 clear hr0_3 hc0_3
 have HB:=Aside0.mk (Below.refl w.heap.size w)
 have H:(tephraref08_Names.l0 k (([a0_1]:List ByteArray)) 0 a0_0 a0_1 a0_2 l0_3 a0_4 a0_5 a0_6)=some r:=h
 clear h
 obtain⟨y120,hy120⟩: ∃y_:List ByteArray,y_=(([a0_1]:List ByteArray)):=⟨_,rfl⟩
 replace H:(tephraref08_Names.l0 k y120 0 a0_0 a0_1 a0_2 l0_3 a0_4 a0_5 a0_6)=some r:=by first|(rw[hy120];with_reducible exact H)|(have H2_:=(Option.bind_some _ _).symm.trans H;rw[hy120];with_reducible exact H2_)|(have H2_:=(Option.bind_some _ _).symm.trans H;with_reducible exact H2_)|with_reducible exact H|(rw[hy120];exact H)|exact H
 have Ny120:=Aside0.mk hy120
 clear hy120
 have H':=Aside0.mk H
 clear H
 go_enter Tryz.func57,Tryz.ntmps57
 go_wp2_with (first|((with_reducible refine gate_dst (N:=1) rfl ?_);refine box_event ?hg (N:=1) ?hd (cs:=#[.int .i64 a0_0,.string a0_1,.int .u64 a0_2,.slice A0_3 l0_3.length c0_3,.int .u64 a0_4,.int .u64 a0_5,.string a0_6]) (t:=49) ?hr ?_;(case hd=>rfl);(case hg=>rfl);(case hr=>first|(go_simp;done)|(go_simp;rfl));intro gb119 hg w2 hbox hb;have n0_:=Aside0.mk (below_step (by repeat (first|(with_reducible first|exact HB.out|apply below_alloc|apply pw_below_drewN|apply below_drew1)|exact HB.out)) hb);have n1_:=Aside0.mk (hbox);have n2_:=Aside0.mk ((by rw[hg];exact(below_size (by repeat (first|(with_reducible first|exact HB.out|apply below_alloc|apply pw_below_drewN|apply below_drew1)|exact HB.out))):w.heap.size≤gb119));have n3_:=Aside0.mk ((by rw[hg];exact(below_size (by repeat (first|(with_reducible first|exact HB.out|apply below_alloc|apply pw_below_drewN|apply below_drew1)|exact HB.out))):w.heap.size≤gb119));clear HB;have HB:=n0_;have BK119:=n1_;have GW119:=n2_;have GE119:=n3_;clear n0_ n1_ n2_ n3_;clear hb hbox hg;have hcz3_0:w2.cell? ⟨gb119,0,none⟩=some (.int .i64 a0_0):=(blk_cell BK119.out 0).trans rfl;have hcz3_1:w2.cell? ⟨gb119,1,none⟩=some (.string a0_1):=(blk_cell BK119.out 1).trans rfl;have hcz3_2:w2.cell? ⟨gb119,2,none⟩=some (.int .u64 a0_2):=(blk_cell BK119.out 2).trans rfl;have hcz3_3:w2.cell? ⟨gb119,3,none⟩=some (.slice A0_3 l0_3.length c0_3):=(blk_cell BK119.out 3).trans rfl;have hcz3_4:w2.cell? ⟨gb119,4,none⟩=some (.int .u64 a0_4):=(blk_cell BK119.out 4).trans rfl;have hcz3_5:w2.cell? ⟨gb119,5,none⟩=some (.int .u64 a0_5):=(blk_cell BK119.out 5).trans rfl;have hcz3_6:w2.cell? ⟨gb119,6,none⟩=some (.string a0_6):=(blk_cell BK119.out 6).trans rfl;have hfz3_0:=blk_frozen BK119.out 0;have hfz3_1:=blk_frozen BK119.out 1;have hfz3_2:=blk_frozen BK119.out 2;have hfz3_3:=blk_frozen BK119.out 3;have hfz3_4:=blk_frozen BK119.out 4;have hfz3_5:=blk_frozen BK119.out 5;have hfz3_6:=blk_frozen BK119.out 6)|((with_reducible refine gate_dst (N:=7) rfl ?_);refine Kd.R_lit Kd.string _ 9 ?hg (N:=7) ?hd (xs:=([a0_1]:List ByteArray)) (inner:=[.string a0_1]) (ok:=fun _=>True) (okp:=fun _=>True) ?hr ?hp (fun _ hk=>hk) trivial (Below.refl _ _) (Nat.le_refl _) (by simp) ?_;(case hd=>rfl);(case hg=>rfl);(case hr=>first|(go_simp;done)|(go_simp;rfl));(case hp=>exact(Reps.one (show Kd.M Kd.string _ _ _ a0_1 [.string a0_1] from rfl) (Reps.none _ _)));intro v121 w4 ho5 hb hg_ hnew_;clear hg_ hnew_;(first|rw[←Ny120.out]at ho5|(simp only[Int.reduceToNat]at ho5;rw[←Ny120.out]at ho5));have n0_:=Aside0.mk (Kd.R_lower ho5 (below_size (by repeat (first|(with_reducible first|exact HB.out|apply below_alloc|apply pw_below_drewN|apply below_drew1|refine below_set ?_ GE119.out)|exact HB.out))));have n1_:=Aside0.mk (blk_below (g:=gb119) (o:= .cells #[.int .i64 a0_0,.string a0_1,.int .u64 a0_2,.slice A0_3 l0_3.length c0_3,.int .u64 a0_4,.int .u64 a0_5,.string a0_6] 49 (0,0)) (by(with_reducible repeat (first|refine blk_drewN ?_ _|refine blk_drew ?_|refine blk_alloc ?_ _));exact BK119.out) hb);have n2_:=Aside0.mk (below_step (by repeat (first|(with_reducible first|exact HB.out|apply below_alloc|apply pw_below_drewN|apply below_drew1|refine below_set ?_ GE119.out)|exact HB.out)) hb);clear BK119;clear HB;have HO122:=n0_;have BK119:=n1_;have HB:=n2_;clear n0_ n1_ n2_;clear hb ho5))
 go_loopg [3,4] k (fun kq v3 v4 w'=>∃(x3_1:List ByteArray) (x4_1:Int),v4= .int .i64 x4_1∧Aside0 (tephraref08_Names.l0 kq x3_1 x4_1 a0_0 a0_1 a0_2 l0_3 a0_4 a0_5 a0_6=some r)∧Aside0 (kq≤k)∧Aside0 (Kd.R Kd.string 9 w' w.heap.size (fun _=>True) v3 x3_1)∧Aside0 (w'.heap[gb119]? =some (.cells #[.int .i64 a0_0,.string a0_1,.int .u64 a0_2,(.slice A0_3 l0_3.length c0_3),.int .u64 a0_4,.int .u64 a0_5,.string a0_6] 49 (0,0)))∧Aside0 (Below w.heap.size w w'))
 case atStart=>exact⟨(y120),(0),(by first|rfl|(simp;done)|(simp[*];done)|(simp;rw[Bool.eq_iff_iff];simp;done)),H',⟨Nat.le_refl _⟩,⟨by(with_reducible repeat (first|apply Kd.R_alloc|apply Kd.R_drewN|apply Kd.R_drew));exact HO122.out⟩,⟨by(with_reducible repeat (first|refine blk_drewN ?_ _|refine blk_drew ?_|refine blk_alloc ?_ _));exact BK119.out⟩,⟨by repeat (first|(with_reducible first|exact HB.out|apply below_alloc|apply pw_below_drewN|apply below_drew1|refine below_set ?_ GE119.out)|exact HB.out)⟩⟩
 case round=>
  clear H'
  try clear p2
  try clear c5
  try clear hcz3_0
  try clear hcz3_1
  try clear hcz3_2
  try clear hcz3_3
  try clear hcz3_4
  try clear hcz3_5
  try clear hcz3_6
  try clear hfz3_0
  try clear hfz3_1
  try clear hfz3_2
  try clear hfz3_3
  try clear hfz3_4
  try clear hfz3_5
  try clear hfz3_6
  obtain⟨x3_1,x4_1,rfl,HA,HK1,HO_3,BK119,HB⟩:=hrel
  cases gk with
  |zero=>exact absurd HA.out (by simp[tephraref08_Names.l0])
  | succ k1=>
   have H:=HA.out
   clear HA
   simp only[tephraref08_Names.l0]at H
   by_cases c6:x4_1<(l0_3.length:Int)
   ·rw [if_pos c6]at H
    have c6b0:decide (x4_1<(l0_3.length:Int))=true:=decide_eq_true c6
    clear c6
    by_cases c7:0≤x4_1
    ·rw [if_pos c7]at H
     have c7b0:decide (0≤x4_1)=true:=decide_eq_true c7
     clear c7
     by_cases c8:x3_1.length<8796093022208
     ·rw[if_pos c8]at H
      have LMc8:=Aside0.mk c8
      clear c8
      obtain⟨y124,hy124⟩: ∃y_:List ByteArray,y_=(x3_1++[(rd_T129 l0_3 x4_1).f0]):=⟨_,rfl⟩
      replace H:(tephraref08_Names.l0 k1 y124 (wrap64 (x4_1+1)) a0_0 a0_1 a0_2 l0_3 a0_4 a0_5 a0_6)=some r:=by first|(rw[hy124];with_reducible exact H)|(have H2_:=(Option.bind_some _ _).symm.trans H;rw[hy124];with_reducible exact H2_)|(have H2_:=(Option.bind_some _ _).symm.trans H;with_reducible exact H2_)|with_reducible exact H|(rw[hy124];exact H)|exact H
      have Ny124:=Aside0.mk hy124
      clear hy124
      have H':=Aside0.mk H
      clear H
      obtain⟨hcz9_0,hcz9_1,hcz9_2,hcz9_3,hcz9_4,hcz9_5,hcz9_6⟩:=facts7 BK119.out
      have hfz9_0:=blk_frozen BK119.out 0
      have hfz9_1:=blk_frozen BK119.out 1
      have hfz9_2:=blk_frozen BK119.out 2
      have hfz9_3:=blk_frozen BK119.out 3
      have hfz9_4:=blk_frozen BK119.out 4
      have hfz9_5:=blk_frozen BK119.out 5
      have hfz9_6:=blk_frozen BK119.out 6
      have p123:0≤(x4_1:Int):=of_decide_eq_true (by first|(with_reducible assumption)|assumption)
      have q123:x4_1<(l0_3.length:Int):=of_decide_eq_true (by first|(with_reducible assumption)|assumption)
      obtain⟨ad123,e123,hx123_0,hx123_1,hx123_2⟩:=at_T129 HR0_3.out x4_1 p123 q123
      cases e123
      replace hx123_0:=(HB.out.cell (World.block_lt_of_cell? w _ hx123_0)).trans hx123_0
      replace hx123_1:=(HB.out.cell (World.block_lt_of_cell? w _ hx123_1)).trans hx123_1
      replace hx123_2:=(HB.out.cell (World.block_lt_of_cell? w _ hx123_2)).trans hx123_2
      replace p123:=eq_true p123
      replace q123:=eq_true q123
      go_wp2_with (first|((with_reducible refine gate_builtin (b:= .append) (xs:=#[.tmp 15,.tmp 22]) rfl ?_);at_builtin;refine Kd.R_append Kd.string (w0:=w) w.heap.size rfl (.tmp 15) (.tmp 22) 52 9 (.string ⟨#[]⟩) 16 rfl Tryz.underlying52 info9 rfl (by decide) (by omega) u3 x3_1 ((rd_T129 l0_3 x4_1).f0) [.string ((rd_T129 l0_3 x4_1).f0)] (fun _=>True) (fun _=>False) rfl rfl ?aP (fun _ hk=>hk.elim) ?aF ?aO ?aB ?aS ?aL ?_;(case aP=>exact rfl);(case aB=>exact(by repeat (first|(with_reducible first|exact HB.out|apply below_alloc|apply pw_below_drewN|apply below_drew1|refine below_set ?_ GE119.out)|exact HB.out)));(case aF=>exact(fun _ _=>trivial));(case aO=>exact(by(with_reducible repeat (first|apply Kd.R_alloc|apply Kd.R_drewN|apply Kd.R_drew));exact HO_3.out));(case aS=>exact(below_size (by repeat (first|(with_reducible first|exact HB.out|apply below_alloc|apply pw_below_drewN|apply below_drew1|refine below_set ?_ GE119.out)|exact HB.out))));(case aL=>have:=LMc8.out;omega);intro v125 w10 ho hb hg hat;rw[←Ny124.out]at ho;have n0_:=Aside0.mk (blk_grown (g:=gb119) (o:= .cells #[.int .i64 a0_0,.string a0_1,.int .u64 a0_2,.slice (some ad123) l0_3.length c0_3,.int .u64 a0_4,.int .u64 a0_5,.string a0_6] 49 (0,0)) (by(with_reducible repeat (first|refine blk_drewN ?_ _|refine blk_drew ?_|refine blk_alloc ?_ _));exact BK119.out) hg (Kd.R_ne HO_3.out BK119.out (by decide)));have n1_:=Aside0.mk (hb);have n2_:=Aside0.mk (ho);clear BK119;clear HB;clear HO_3;have BK119:=n0_;have HB:=n1_;have HO126:=n2_;clear n0_ n1_ n2_;clear ho hb hg hat))
      go_roundg k1
      case measure=>have:=HK1.out;omega
      case rel=>exact⟨(y124),(wrap64 (x4_1+1)),(by first|rfl|(simp;done)|(simp[*];done)|(simp;rw[Bool.eq_iff_iff];simp;done)),H',⟨by have:=HK1.out;omega⟩,⟨by(with_reducible repeat (first|apply Kd.R_alloc|apply Kd.R_drewN|apply Kd.R_drew));exact HO126.out⟩,⟨by(with_reducible repeat (first|refine blk_drewN ?_ _|refine blk_drew ?_|refine blk_alloc ?_ _));exact BK119.out⟩,⟨by repeat (first|(with_reducible first|exact HB.out|apply below_alloc|apply pw_below_drewN|apply below_drew1|refine below_set ?_ GE119.out)|exact HB.out)⟩⟩
     ·rw[if_neg c8]at H
      exact absurd H (by simp)
    ·rw[if_neg c7]at H
     exact absurd H (by simp)
   ·rw [if_neg c6]at H
    have c6b0:decide (x4_1<(l0_3.length:Int))=false:=decide_eq_false c6
    clear c6
    by_cases c11:a0_6.toList=([]:List UInt8)
    ·rw[if_pos c11]at H
     have c11b0:(a0_6.toList==([]:List UInt8))=true:=beq_iff_eq.mpr c11
     have c11b1:(a0_6.toList !=([]:List UInt8))=false:=bne_eq_false_iff_eq.mpr c11
     clear c11
     replace H:=Option.bind_eq_some_iff.mp H
     obtain⟨t127,A120,H⟩:=H
     replace H:(some t127)=some r:=H
     have A12:=Aside0.mk A120
     clear A120
     obtain rfl:=Option.some.inj H
     obtain⟨hcz13_0,hcz13_1,hcz13_2,hcz13_3,hcz13_4,hcz13_5,hcz13_6⟩:=facts7 BK119.out
     have hfz13_0:=blk_frozen BK119.out 0
     have hfz13_1:=blk_frozen BK119.out 1
     have hfz13_2:=blk_frozen BK119.out 2
     have hfz13_3:=blk_frozen BK119.out 3
     have hfz13_4:=blk_frozen BK119.out 4
     have hfz13_5:=blk_frozen BK119.out 5
     have hfz13_6:=blk_frozen BK119.out 6
     obtain⟨Ao14,co14,eo14⟩:=Kd.R_slice HO_3.out
     subst eo14
     go_wp2_with (first|((with_reducible refine gate_callee (f:=85) rfl ?_);refine goesL_ (some 33) rfl rfl Tryz.func85 (by kernel_rfl) rfl #[.slice Ao14 x3_1.length co14] rfl (by(try simp only[List.map_toArray,List.map_cons,List.map_nil]);first|done|rfl|(simp only[List.length_drop,List.length_take];rfl)) ?_;(with_reducible refine(tephraref07_New.calls k1 _ _ x3_1 t127 _ ?side1 ?side2 A12.out).mono ?_);(case side1=>repeat (first|exact(Kd.R_reads' HO_3.out).2.2|(with_reducible refine Kd.C_alloc ?_ _)|(with_reducible refine Kd.C_drewN ?_ _)|(with_reducible refine Kd.C_drew ?_)));(case side2=>exact(Kd.R_reads' HO_3.out).2.1);rintro e w15 ⟨v128,rfl,ho0,hb⟩;refine⟨_,rfl, ?_⟩;have n0_:=Aside0.mk (Kd.R_elder' (by(with_reducible repeat (first|apply Kd.R_alloc|apply Kd.R_drewN|apply Kd.R_drew));exact HO_3.out) (Kd.R_base ho0) hb);have n1_:=Aside0.mk (Kd.R_lower (Kd.R_new' ho0 (Kd.R_lt (by(with_reducible repeat (first|apply Kd.R_alloc|apply Kd.R_drewN|apply Kd.R_drew));exact HO_3.out))) (below_size (by repeat (first|(with_reducible first|exact HB.out|apply below_alloc|apply pw_below_drewN|apply below_drew1|refine below_set ?_ GE119.out)|exact HB.out))));have n2_:=Aside0.mk (blk_below (g:=gb119) (o:= .cells #[.int .i64 a0_0,.string a0_1,.int .u64 a0_2,.slice A0_3 l0_3.length c0_3,.int .u64 a0_4,.int .u64 a0_5,.string a0_6] 49 (0,0)) (by(with_reducible repeat (first|refine blk_drewN ?_ _|refine blk_drew ?_|refine blk_alloc ?_ _));exact BK119.out) hb);have n3_:=Aside0.mk (below_step (by repeat (first|(with_reducible first|exact HB.out|apply below_alloc|apply pw_below_drewN|apply below_drew1|refine below_set ?_ GE119.out)|exact HB.out)) hb);clear HO_3;clear BK119;clear HB;have HO_3:=n0_;have HO129:=n1_;have BK119:=n2_;have HB:=n3_;clear n0_ n1_ n2_ n3_;(try clear hb);(try clear hb2);(try clear hk);(try clear hi);(try clear ho0)))
     go_ret
     exact⟨_,by first|rfl|(simp[errW_none,errW_some]<;>rfl)|(simp[*,errW_none,errW_some]<;>rfl),by(with_reducible repeat (first|apply Kd.R_alloc|apply Kd.R_drewN|apply Kd.R_drew));exact Kd.R_mono HO129.out (fun _ hk=>trivial),by repeat (first|(with_reducible first|exact HB.out|apply below_alloc|apply pw_below_drewN|apply below_drew1|refine below_set ?_ GE119.out)|exact HB.out)⟩
    ·rw [if_neg c11]at H
     have c11b0:(a0_6.toList==([]:List UInt8))=false:=beq_eq_false_iff_ne.mpr c11
     have c11b1:(a0_6.toList !=([]:List UInt8))=true:=bne_iff_ne.mpr c11
     by_cases c16:x3_1.length<8796093022208
     ·rw[if_pos c16]at H
      have LMc16:=Aside0.mk c16
      clear c16
      obtain⟨y130,hy130⟩: ∃y_:List ByteArray,y_=(x3_1++[a0_6]):=⟨_,rfl⟩
      replace H:((tephraref07_New.f k1 y130).bind fun t133=>(some t133))=some r:=by first|(rw[hy130];with_reducible exact H)|(have H2_:=(Option.bind_some _ _).symm.trans H;rw[hy130];with_reducible exact H2_)|(have H2_:=(Option.bind_some _ _).symm.trans H;with_reducible exact H2_)|with_reducible exact H|(rw[hy130];exact H)|exact H
      have Ny130:=Aside0.mk hy130
      clear hy130
      replace H:=Option.bind_eq_some_iff.mp H
      obtain⟨t133,A170,H⟩:=H
      replace H:(some t133)=some r:=H
      have A17:=Aside0.mk A170
      clear A170
      obtain rfl:=Option.some.inj H
      obtain⟨hcz18_0,hcz18_1,hcz18_2,hcz18_3,hcz18_4,hcz18_5,hcz18_6⟩:=facts7 BK119.out
      have hfz18_0:=blk_frozen BK119.out 0
      have hfz18_1:=blk_frozen BK119.out 1
      have hfz18_2:=blk_frozen BK119.out 2
      have hfz18_3:=blk_frozen BK119.out 3
      have hfz18_4:=blk_frozen BK119.out 4
      have hfz18_5:=blk_frozen BK119.out 5
      have hfz18_6:=blk_frozen BK119.out 6
      go_wp2_with (first|((with_reducible refine gate_builtin (b:= .append) (xs:=#[.tmp 27,.tmp 30]) rfl ?_);at_builtin;refine Kd.R_append Kd.string (w0:=w) w.heap.size rfl (.tmp 27) (.tmp 30) 52 9 (.string ⟨#[]⟩) 16 rfl Tryz.underlying52 info9 rfl (by decide) (by omega) u3 x3_1 a0_6 [.string a0_6] (fun _=>True) (fun _=>False) rfl rfl ?aP (fun _ hk=>hk.elim) ?aF ?aO ?aB ?aS ?aL ?_;(case aP=>exact rfl);(case aB=>exact(by repeat (first|(with_reducible first|exact HB.out|apply below_alloc|apply pw_below_drewN|apply below_drew1|refine below_set ?_ GE119.out)|exact HB.out)));(case aF=>exact(fun _ _=>trivial));(case aO=>exact(by(with_reducible repeat (first|apply Kd.R_alloc|apply Kd.R_drewN|apply Kd.R_drew));exact HO_3.out));(case aS=>exact(below_size (by repeat (first|(with_reducible first|exact HB.out|apply below_alloc|apply pw_below_drewN|apply below_drew1|refine below_set ?_ GE119.out)|exact HB.out))));(case aL=>have:=LMc16.out;omega);intro v131 w19 ho hb hg hat;rw[←Ny130.out]at ho;have n0_:=Aside0.mk (blk_grown (g:=gb119) (o:= .cells #[.int .i64 a0_0,.string a0_1,.int .u64 a0_2,.slice A0_3 l0_3.length c0_3,.int .u64 a0_4,.int .u64 a0_5,.string a0_6] 49 (0,0)) (by(with_reducible repeat (first|refine blk_drewN ?_ _|refine blk_drew ?_|refine blk_alloc ?_ _));exact BK119.out) hg (Kd.R_ne HO_3.out BK119.out (by decide)));have n1_:=Aside0.mk (hb);have n2_:=Aside0.mk (ho);clear BK119;clear HB;clear HO_3;have BK119:=n0_;have HB:=n1_;have HO132:=n2_;clear n0_ n1_ n2_;clear ho hb hg hat;obtain⟨Ao20,co20,eo20⟩:=Kd.R_slice HO132.out;subst eo20)|((with_reducible refine gate_callee (f:=85) rfl ?_);refine goesL_ (some 33) rfl rfl Tryz.func85 (by kernel_rfl) rfl #[.slice Ao20 y130.length co20] rfl (by(try simp only[List.map_toArray,List.map_cons,List.map_nil]);first|done|rfl|(simp only[List.length_drop,List.length_take];rfl)) ?_;(with_reducible refine(tephraref07_New.calls k1 _ _ y130 t133 _ ?side1 ?side2 A17.out).mono ?_);(case side1=>repeat (first|exact(Kd.R_reads' HO132.out).2.2|(with_reducible refine Kd.C_alloc ?_ _)|(with_reducible refine Kd.C_drewN ?_ _)|(with_reducible refine Kd.C_drew ?_)));(case side2=>exact(Kd.R_reads' HO132.out).2.1);rintro e w21 ⟨v134,rfl,ho0,hb⟩;refine⟨_,rfl, ?_⟩;have n0_:=Aside0.mk (Kd.R_elder' (by(with_reducible repeat (first|apply Kd.R_alloc|apply Kd.R_drewN|apply Kd.R_drew));exact HO132.out) (Kd.R_base ho0) hb);have n1_:=Aside0.mk (Kd.R_lower (Kd.R_new' ho0 (Kd.R_lt (by(with_reducible repeat (first|apply Kd.R_alloc|apply Kd.R_drewN|apply Kd.R_drew));exact HO132.out))) (below_size (by repeat (first|(with_reducible first|exact HB.out|apply below_alloc|apply pw_below_drewN|apply below_drew1|refine below_set ?_ GE119.out)|exact HB.out))));have n2_:=Aside0.mk (blk_below (g:=gb119) (o:= .cells #[.int .i64 a0_0,.string a0_1,.int .u64 a0_2,.slice A0_3 l0_3.length c0_3,.int .u64 a0_4,.int .u64 a0_5,.string a0_6] 49 (0,0)) (by(with_reducible repeat (first|refine blk_drewN ?_ _|refine blk_drew ?_|refine blk_alloc ?_ _));exact BK119.out) hb);have n3_:=Aside0.mk (below_step (by repeat (first|(with_reducible first|exact HB.out|apply below_alloc|apply pw_below_drewN|apply below_drew1|refine below_set ?_ GE119.out)|exact HB.out)) hb);clear HO132;clear BK119;clear HB;have HO132:=n0_;have HO135:=n1_;have BK119:=n2_;have HB:=n3_;clear n0_ n1_ n2_ n3_;(try clear hb);(try clear hb2);(try clear hk);(try clear hi);(try clear ho0)))
      go_ret
      exact⟨_,by first|rfl|(simp[errW_none,errW_some]<;>rfl)|(simp[*,errW_none,errW_some]<;>rfl),by(with_reducible repeat (first|apply Kd.R_alloc|apply Kd.R_drewN|apply Kd.R_drew));exact Kd.R_mono HO135.out (fun _ hk=>trivial),by repeat (first|(with_reducible first|exact HB.out|apply below_alloc|apply pw_below_drewN|apply below_drew1|refine below_set ?_ GE119.out)|exact HB.out)⟩
     ·rw[if_neg c16]at H
      exact absurd H (by simp)
def bytes_Equal.f (l0:List Int) (l1:List Int):Option (Bool):=some ((strOfNums l0).toList==(strOfNums l1).toList)
theorem bytes_Equal.calls (A0:Option Addr) (c0:Nat) (l0:List Int) (A1:Option Addr) (c1:Nat) (l1:List Int) (r:Bool) (w:World) (hr0:Kd.C (Kd.int .u8) w A0 l0.length l0) (hc0:l0.length≤c0) (hr1:Kd.C (Kd.int .u8) w A1 l1.length l1) (hc1:l1.length≤c1) (h:bytes_Equal.f l0 l1=some r):
  Calls Tryz.prog 49 #[.slice A0 l0.length c0,.slice A1 l1.length c1] w fun e w'=>e= .returned (.bool r)∧Drawn0 w w':=by
 have HR0:=Aside0.mk hr0
 have HC0:=Aside0.mk hc0
 clear hr0 hc0
 have HR1:=Aside0.mk hr1
 have HC1:=Aside0.mk hc1
 clear hr1 hc1
 have H:(some ((strOfNums l0).toList==(strOfNums l1).toList))=some r:=h
 clear h
 obtain rfl:=Option.some.inj H
 have hcv3:=Kd.C_string (P:=Tryz.prog) (A:=A0) (c:=c0) Tryz.underlying22 Tryz.underlying5 Tryz.underlying9 HR0.out
 have hcv4:=Kd.C_string (P:=Tryz.prog) (A:=A1) (c:=c1) Tryz.underlying22 Tryz.underlying5 Tryz.underlying9 HR1.out
 go_enter Tryz.func49,Tryz.ntmps49
 go_wp2
 go_ret
 exact⟨by first|rfl|(simp;done)|(simp[*];done),by repeat (first|exact Drawn0.refl _|apply Drawn0.step)⟩
def bytes_Equal.Pure:Prop:=∀(l0:List Int) (l1:List Int),l0.length≤maxLen→l0.length*1≤140737488351232→(∀x∈l0,(Lit.int .u8 x).wf=true)→l1.length≤maxLen→l1.length*1≤140737488351232→(∀x∈l1,(Lit.int .u8 x).wf=true)→bytes_Equal.f l0 l1=some true
theorem bytes_Equal.walk (P:bytes_Equal.Pure) (a0:Option Addr) (len0 cap0:Nat) (z0:List Int) (a1:Option Addr) (len1 cap1:Nat) (z1:List Int) (w:World) (w0:(a0=none∧len0=0∧cap0=0∧z0=[])∨∃x,a0=some x∧len0≤cap0∧cap0≤maxLen∧z0.length=cap0∧(∀i,i<z0.length→w.cell? (x.add i)=some (.int .u8 (z0.getD i 0)))∧∀n∈z0,(Lit.int .u8 n).wf=true) (y0:len0*1≤140737488351232) (w1:(a1=none∧len1=0∧cap1=0∧z1=[])∨∃x,a1=some x∧len1≤cap1∧cap1≤maxLen∧z1.length=cap1∧(∀i,i<z1.length→w.cell? (x.add i)=some (.int .u8 (z1.getD i 0)))∧∀n∈z1,(Lit.int .u8 n).wf=true) (y1:len1*1≤140737488351232):
  Calls Tryz.prog 49 #[.slice a0 len0 cap0,.slice a1 len1 cap1] w fun e w'=>e= .returned (.bool true)∧Below w.heap.size w w':=by
 obtain⟨l0,rfl,hr0,hm0,hw0,hc0⟩:=ReadsInt.ofRowC w0
 obtain⟨l1,rfl,hr1,hm1,hw1,hc1⟩:=ReadsInt.ofRowC w1
 have h:=P l0 l1 hm0 y0 hw0 hm1 y1 hw1
 refine(bytes_Equal.calls _ _ l0 _ _ l1 true w (Kd.C_of_reads (d:=(0:Int)) (h1:=fun _=>rfl) hr0) hc0 (Kd.C_of_reads (d:=(0:Int)) (h1:=fun _=>rfl) hr1) hc1 h).mono ?_
 rintro e w' ⟨rfl,hd⟩
 exact⟨rfl,hd.below⟩
end Go.Proofs.YtfflenbfapgilaaGreat.GRR
