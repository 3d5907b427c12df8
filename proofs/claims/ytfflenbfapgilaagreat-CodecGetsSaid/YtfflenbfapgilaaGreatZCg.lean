/- Texts laid as one by shake.py, cut to what the claim needs: GVBx0, GVBx3, GRRx0, GRRx1, GRRx3, GRRx4, GRRx2, GRRz2, GRRx6, GVBx1, GVBx2, GVBx4. (Names that begin with W and the print's groups (G..x, G..z): laid by the kit's print, cut.) -/
import Derived.Test.YtfflenbfapgilaaGreatProg
import Derived.Below
import Derived.Deep.Draws
import Derived.Deep.AppendLies
import Derived.Maps.AppendAt
import Derived.OwnWalk
import Derived.Laws.BytesArg
import Derived.Laws.MakeOwn
import Derived.Laws.OwnMore
import Derived.Deep.OwnRows
import Derived.Tactics
import Derived.Lib.ConvBytes
import Derived.Laws.Slices
import Derived.WalkKit
import Derived.KernelRfl
import Derived.RowKit3
import Derived.Deep.LoopGhost
import Derived.Deep.QuietTactic
import Derived.BigQuiet
import Derived.WideLaws
import Derived.Deep.DeepCutAuto
import Derived.Deep.CutBlock
import Derived.Deep.RegionHeld3
import Derived.Laws.Rows
import Derived.Lib.AppendStr
import Derived.ArgAppend
import Derived.Laws.IdiomCopy
import Derived.OrdersHeld
import Derived.Laws.BitsLemmas
import Derived.RowKit
import Derived.Test.YtfflenbfapgilaaGreatZCa
import Derived.Test.YtfflenbfapgilaaGreatZCb
import Derived.Test.YtfflenbfapgilaaGreatZCc
import Derived.Test.YtfflenbfapgilaaGreatZCf
set_option linter.unusedVariables false
set_option linter.unusedSimpArgs false
set_option maxHeartbeats 8000000
set_option maxRecDepth 100000
open Go.RowKit Go.Proofs.YtfflenbfapgilaaGreatW.PrintWords
namespace Go.Proofs.YtfflenbfapgilaaGreat.GVB
open Go.Proofs.YtfflenbfapgilaaGreatW.PrintLast Go.Proofs.YtfflenbfapgilaaGreatW.PrintMore
attribute [local go_sem] max2_int min2_int max_two min_two max_three min_three max_four min_four
def errW:Option Int→Value
 |none=> .nilIface
 |some c=> .iface 0 (.int .i64 c)
theorem errW_none:errW none= .nilIface:=rfl
theorem errW_some (c:Int):errW (some c)= .iface 0 (.int .i64 c):=rfl
theorem info9:(Tryz.prog.info? 9).map (fun i=>(i.zero,i.size,i.bytes))=some (some (.string ⟨#[]⟩),1,16):=by kernel_rfl
end Go.Proofs.YtfflenbfapgilaaGreat.GVB
namespace Go.Proofs.YtfflenbfapgilaaGreat.GVB
open Go.Proofs.YtfflenbfapgilaaGreatW.PrintLast Go.Proofs.YtfflenbfapgilaaGreatW.PrintMore
attribute [local go_sem] max2_int min2_int max_two min_two max_three min_three max_four min_four
mutual
def varint_Get.j0:Nat→List Int→Int→Int→Bool→Option (Int×Int×Int)
 | 0,_,_,_,_=>none
 |k+1,x0,x1,x4,x16=>if x16=true then(some (0,0,1))else(varint_Get.l0 k x0 x1 x4 0)
def varint_Get.l0:Nat→List Int→Int→Int→Int→Option (Int×Int×Int)
 | 0,_,_,_,_=>none
 |k+1,x0,x1,x4,x17=>if x17<10 then(if (wrap64 (x1+x17))≥(x0.length:Int)then(some (0,0,2))else(if 0≤(wrap64 (x1+x17))then(if (wrap64 (x1+x17))<(x0.length:Int)then(if x17=9 then(if (rd x0 (wrap64 (x1+x17)))>1 then(varint_Get.j2 k x0 x1 x4 x17 (rd x0 (wrap64 (x1+x17))) x17 true)else(if x17>0 then(varint_Get.j2 k x0 x1 x4 x17 (rd x0 (wrap64 (x1+x17))) x17 ((rd x0 (wrap64 (x1+x17)))==0))else(varint_Get.j2 k x0 x1 x4 x17 (rd x0 (wrap64 (x1+x17))) x17 false)))else(if x17>0 then(varint_Get.j2 k x0 x1 x4 x17 (rd x0 (wrap64 (x1+x17))) x17 ((rd x0 (wrap64 (x1+x17)))==0))else(varint_Get.j2 k x0 x1 x4 x17 (rd x0 (wrap64 (x1+x17))) x17 false)))else(none))else(none)))else(some (0,0,3))
def varint_Get.j2:Nat→List Int→Int→Int→Int→Int→Int→Bool→Option (Int×Int×Int)
 | 0,_,_,_,_,_,_,_=>none
 |k+1,x0,x1,x4,x7,x8,x17,x45=>if x45=true then(some (0,0,3))else(if 0≤(wrap64 (7*x7))then(if x8<128 then(some (Go.bits .or .u64 x4 (shl .u64 (IntKind.u64.wrap (Go.bits .andNot .u8 x8 128)) (wrap64 (7*x7))),wrap64 ((wrap64 (x1+x7))+1),0))else(varint_Get.l0 k x0 x1 (Go.bits .or .u64 x4 (shl .u64 (IntKind.u64.wrap (Go.bits .andNot .u8 x8 128)) (wrap64 (7*x7)))) (wrap64 (x17+1))))else(none))
end
def varint_Get.f (k:Nat) (l0:List Int) (a1:Int):Option (Int×Int×Int):=if a1<0 then(varint_Get.j0 k l0 a1 0 true)else(varint_Get.j0 k l0 a1 0 (decide (a1>(l0.length:Int))))
theorem varint_Get.calls (k:Nat) (A0:Option Addr) (c0:Nat) (l0:List Int) (a1:Int) (r1:Int) (r2:Int) (r3:Int) (w:World) (hr0:Kd.C (Kd.int .u8) w A0 l0.length l0) (hc0:l0.length≤c0) (h:varint_Get.f k l0 a1=some (r1,r2,r3)):
  Calls Tryz.prog 92 #[.slice A0 l0.length c0,.int .i64 a1] w fun e w'=>e= .returned (.tuple #[.int .u64 r1,.int .i64 r2,.int .i64 r3])∧Drawn0 w w':=by
 have HR0:=Aside0.mk hr0
 have HC0:=Aside0.mk hc0
 clear hr0 hc0
 have H:(if a1<0 then(varint_Get.j0 k l0 a1 0 true)else(varint_Get.j0 k l0 a1 0 (decide (a1>(l0.length:Int)))))=some (r1,r2,r3):=h
 clear h
 have HC3:=Aside0.mk H
 clear H
 go_enter Tryz.func92,Tryz.ntmps92
 go_upto_region 1 with (fail)
 go_cut [16] (fun v16 wc=>∃(kq:Nat) (x16_2:Bool),v16= .bool x16_2∧Aside0 (varint_Get.j0 kq l0 a1 0 x16_2=some (r1,r2,r3))∧Aside0 (kq≤k)∧Drawn0 w wc)
 case first=>
  have H:=HC3.out
  clear HC3
  by_cases c4:a1<0
  ·rw[if_pos c4]at H
   have c4b0:decide (a1<0)=true:=decide_eq_true c4
   clear c4
   (first|rw[c4b0]|(simp only[i64_w,i32_w];rw[c4b0])|skip)
   have H':=Aside0.mk H
   clear H
   go_wp2
   go_meet
   case rel=>exact⟨_,(true),(by first|rfl|(simp;done)|(simp[*];done)|(simp;rw[Bool.eq_iff_iff];simp;done)),H',⟨by first|omega|exact Nat.le_refl _⟩,by repeat (first|exact Drawn0.refl _|apply Drawn0.step)⟩
  ·rw[if_neg c4]at H
   have c4b0:decide (a1<0)=false:=decide_eq_false c4
   clear c4
   (first|rw[c4b0]|(simp only[i64_w,i32_w];rw[c4b0])|skip)
   have H':=Aside0.mk H
   clear H
   go_wp2
   go_meet
   case rel=>exact⟨_,(decide (a1>(l0.length:Int))),(by first|rfl|(simp;done)|(simp[*];done)|(simp;rw[Bool.eq_iff_iff];simp;done)),H',⟨by first|omega|exact Nat.le_refl _⟩,by repeat (first|exact Drawn0.refl _|apply Drawn0.step)⟩
 case rest =>
  clear HC3
  try clear p2
  try clear c4
  try clear c4b0
  obtain⟨kq,x16_2,rfl,HA,HJ2,⟨mc2,rfl⟩⟩:=hcut
  cases kq with
  |zero=>exact absurd HA.out (by simp[varint_Get.j0])
  | succ kj2 =>
   have H:=HA.out
   clear HA
   simp only[varint_Get.j0]at H
   by_cases c5:x16_2=true
   ·subst c5
    have H1:(some (0,0,1))=some (r1,r2,r3):=by rw[if_pos rfl]at H;exact H
    clear H
    have H:=H1
    clear H1
    simp only[Option.some.injEq,Prod.mk.injEq]at H
    obtain⟨rfl,rfl,rfl⟩:=H
    go_wp2
    go_ret3
    exact⟨by first|rfl|(simp;done)|(simp[*];done),by repeat (first|exact Drawn0.refl _|apply Drawn0.step)⟩
   ·replace c5 :=Bool.eq_false_iff.mpr c5
    subst c5
    have H1:(varint_Get.l0 kj2 l0 a1 0 0)=some (r1,r2,r3):=by rw[if_neg (show ¬(false=true)by decide)]at H;exact H
    clear H
    have H:=H1
    clear H1
    have H':=Aside0.mk H
    clear H
    go_wp2
    go_loopg [4,17] kj2 (fun kq v4 v17 w'=>∃(x4_2:Int) (x17_2:Int),v4= .int .u64 x4_2∧v17= .int .i64 x17_2∧Aside0 (varint_Get.l0 kq l0 a1 x4_2 x17_2=some (r1,r2,r3))∧Aside0 (kq≤kj2)∧Drawn0 w w')
    case atStart=>exact⟨(0),(0),(by first|rfl|(simp;done)|(simp[*];done)|(simp;rw[Bool.eq_iff_iff];simp;done)),(by first|rfl|(simp;done)|(simp[*];done)|(simp;rw[Bool.eq_iff_iff];simp;done)),H',⟨Nat.le_refl _⟩,by repeat (first|exact Drawn0.refl _|apply Drawn0.step)⟩
    case round =>
     clear H'
     try clear c2
     try clear p2
     try clear c4
     try clear c4b0
     try clear c5
     try clear p2
     obtain⟨x4_2,x17_2,rfl,rfl,HA,HK2,⟨m2,rfl⟩⟩:=hrel
     cases gk with
     |zero=>exact absurd HA.out (by simp[varint_Get.l0])
     | succ k2 =>
      have H:=HA.out
      clear HA
      simp only[varint_Get.l0]at H
      by_cases c6:x17_2<10
      ·rw [if_pos c6]at H
       have c6b0:decide (x17_2<10)=true:=decide_eq_true c6
       clear c6
       by_cases c7:(wrap64 (a1+x17_2))≥(l0.length:Int)
       ·rw[if_pos c7]at H
        have c7b0:decide ((l0.length:Int)≤(wrap64 (a1+x17_2)))=true:=decide_eq_true c7
        clear c7
        simp only[Option.some.injEq,Prod.mk.injEq]at H
        obtain⟨rfl,rfl,rfl⟩:=H
        go_wp2
        go_ret3
        exact⟨by first|rfl|(simp;done)|(simp[*];done),by repeat (first|exact Drawn0.refl _|apply Drawn0.step)⟩
       ·rw [if_neg c7]at H
        have c7b0:decide ((l0.length:Int)≤(wrap64 (a1+x17_2)))=false:=decide_eq_false c7
        clear c7
        obtain⟨ji8,hji8⟩: ∃j_:Int,(wrap64 (a1+x17_2))=j_:=⟨_,rfl⟩
        replace H:(if 0≤(ji8)then(if (ji8)<(l0.length:Int)then(if x17_2=9 then(if (rd l0 (ji8))>1 then(varint_Get.j2 k2 l0 a1 x4_2 x17_2 (rd l0 (ji8)) x17_2 true)else(if x17_2>0 then(varint_Get.j2 k2 l0 a1 x4_2 x17_2 (rd l0 (ji8)) x17_2 ((rd l0 (ji8))==0))else(varint_Get.j2 k2 l0 a1 x4_2 x17_2 (rd l0 (ji8)) x17_2 false)))else(if x17_2>0 then(varint_Get.j2 k2 l0 a1 x4_2 x17_2 (rd l0 (ji8)) x17_2 ((rd l0 (ji8))==0))else(varint_Get.j2 k2 l0 a1 x4_2 x17_2 (rd l0 (ji8)) x17_2 false)))else(none))else(none))=some (r1,r2,r3):=by first|(rw[hji8]at H;exact H)|(simp only[hji8]at H ⊢;exact H)
        (try rw[hji8]at c7b0)
        have hji8w:(IntKind.i64.wrap (a1+x17_2))=ji8:=(i64_w _).trans hji8
        by_cases c9:0≤(ji8)
        ·rw [if_pos c9]at H
         have c9b0:decide (0≤(ji8))=true:=decide_eq_true c9
         clear c9
         by_cases c10:(ji8)<(l0.length:Int)
         ·rw [if_pos c10]at H
          have c10b0:decide ((ji8)<(l0.length:Int))=true:=decide_eq_true c10
          clear c10
          have HC11:=Aside0.mk H
          clear H
          have p101:0≤((ji8):Int):=of_decide_eq_true (by first|(with_reducible assumption)|assumption)
          have q101:(ji8)<(l0.length:Int):=of_decide_eq_true (by first|(with_reducible assumption)|assumption)
          obtain⟨ad101,e101,hx101_0⟩:=Kd.at_int HR0.out (ji8) p101 q101
          cases e101
          replace p101:=eq_true p101
          replace q101:=eq_true q101
          go_upto_region 9 with (fail)
          go_cut [45] (fun v45 wc=>∃(kq:Nat) (x45_10:Bool),v45= .bool x45_10∧Aside0 (varint_Get.j2 kq l0 a1 x4_2 x17_2 (rd l0 (ji8)) x17_2 x45_10=some (r1,r2,r3))∧Aside0 (kq≤k2)∧Drawn0 w wc)
          case first=>
           have H:=HC11.out
           clear HC11
           by_cases c12:x17_2=9
           ·rw [if_pos c12]at H
            have c12b0:(x17_2==9)=true:=beq_iff_eq.mpr c12
            have c12b1:(x17_2 !=9)=false:=bne_eq_false_iff_eq.mpr c12
            clear c12
            (first|rw[c12b0]|(simp only[i64_w,i32_w];rw[c12b0])|skip)
            by_cases c13:(rd l0 (ji8))>1
            ·rw[if_pos c13]at H
             have c13b0:decide (1<(rd l0 (ji8)))=true:=decide_eq_true c13
             clear c13
             have H':=Aside0.mk H
             clear H
             go_wp2
             go_meet
             case rel=>exact⟨_,(true),(by first|rfl|(simp;done)|(simp[*];done)|(simp;rw[Bool.eq_iff_iff];simp;done)),H',⟨by have:=HJ2.out;have:=HK2.out;first|omega|exact Nat.le_refl _⟩,by repeat (first|exact Drawn0.refl _|apply Drawn0.step)⟩
            ·rw [if_neg c13]at H
             have c13b0:decide (1<(rd l0 (ji8)))=false:=decide_eq_false c13
             clear c13
             by_cases c14:x17_2>0
             ·rw[if_pos c14]at H
              have c14b0:decide (0<x17_2)=true:=decide_eq_true c14
              clear c14
              have H':=Aside0.mk H
              clear H
              go_wp2
              go_meet
              case rel=>exact⟨_,(((rd l0 (ji8))==0)),(by first|rfl|(simp;done)|(simp only[←hji8]<;>(first|rfl|simp))|(simp[*];done)),H',⟨by have:=HJ2.out;have:=HK2.out;first|omega|exact Nat.le_refl _⟩,by repeat (first|exact Drawn0.refl _|apply Drawn0.step)⟩
             ·rw[if_neg c14]at H
              have c14b0:decide (0<x17_2)=false:=decide_eq_false c14
              clear c14
              have H':=Aside0.mk H
              clear H
              go_wp2
              go_meet
              case rel=>exact⟨_,(false),(by first|rfl|(simp;done)|(simp[*];done)|(simp;rw[Bool.eq_iff_iff];simp;done)),H',⟨by have:=HJ2.out;have:=HK2.out;first|omega|exact Nat.le_refl _⟩,by repeat (first|exact Drawn0.refl _|apply Drawn0.step)⟩
           ·rw [if_neg c12]at H
            have c12b0:(x17_2==9)=false:=beq_eq_false_iff_ne.mpr c12
            have c12b1:(x17_2 !=9)=true:=bne_iff_ne.mpr c12
            (first|rw[c12b0]|(simp only[i64_w,i32_w];rw[c12b0])|skip)
            by_cases c15:x17_2>0
            ·rw[if_pos c15]at H
             have c15b0:decide (0<x17_2)=true:=decide_eq_true c15
             clear c15
             have H':=Aside0.mk H
             clear H
             go_wp2
             go_meet
             case rel=>exact⟨_,(((rd l0 (ji8))==0)),(by first|rfl|(simp;done)|(simp only[←hji8]<;>(first|rfl|simp))|(simp[*];done)),H',⟨by have:=HJ2.out;have:=HK2.out;first|omega|exact Nat.le_refl _⟩,by repeat (first|exact Drawn0.refl _|apply Drawn0.step)⟩
            ·rw[if_neg c15]at H
             have c15b0:decide (0<x17_2)=false:=decide_eq_false c15
             clear c15
             have H':=Aside0.mk H
             clear H
             go_wp2
             go_meet
             case rel=>exact⟨_,(false),(by first|rfl|(simp;done)|(simp[*];done)|(simp;rw[Bool.eq_iff_iff];simp;done)),H',⟨by have:=HJ2.out;have:=HK2.out;first|omega|exact Nat.le_refl _⟩,by repeat (first|exact Drawn0.refl _|apply Drawn0.step)⟩
          case rest=>
           clear HC11
           try clear c1
           try clear p1
           try clear q1
           try clear hx1
           try clear c2
           try clear p2
           try clear c4
           try clear c4b0
           try clear c5
           try clear c6
           try clear c6b0
           try clear p6
           try clear c7
           try clear c7b0
           try clear c9
           try clear c9b0
           try clear c10
           try clear c10b0
           try clear p10
           try clear q10
           try clear hx10
           try clear c12
           try clear c12b0
           try clear c12b1
           try clear c13
           try clear c13b0
           try clear c14
           try clear c14b0
           try clear c15
           try clear c15b0
           try clear hx101_0
           try clear p101
           try clear p2
           try clear q101
           obtain⟨kq,x45_10,rfl,HA,HJ10,⟨mc10,rfl⟩⟩:=hcut
           cases kq with
           |zero=>exact absurd HA.out (by simp[varint_Get.j2])
           | succ kj10=>
            have H:=HA.out
            clear HA
            simp only[varint_Get.j2]at H
            by_cases c16:x45_10=true
            ·subst c16
             have H1:(some (0,0,3))=some (r1,r2,r3):=by rw[if_pos rfl]at H;exact H
             clear H
             have H:=H1
             clear H1
             simp only[Option.some.injEq,Prod.mk.injEq]at H
             obtain⟨rfl,rfl,rfl⟩:=H
             go_wp2
             go_ret3
             exact⟨by first|rfl|(simp;done)|(simp only[←hji8]<;>(first|rfl|simp))|(simp[*];done),by repeat (first|exact Drawn0.refl _|apply Drawn0.step)⟩
            ·replace c16:=Bool.eq_false_iff.mpr c16
             subst c16
             have H1:(if 0≤(wrap64 (7*x17_2))then(if (rd l0 (ji8))<128 then(some (Go.bits .or .u64 x4_2 (shl .u64 (IntKind.u64.wrap (Go.bits .andNot .u8 (rd l0 (ji8)) 128)) (wrap64 (7*x17_2))),wrap64 ((wrap64 (a1+x17_2))+1),0))else(varint_Get.l0 kj10 l0 a1 (Go.bits .or .u64 x4_2 (shl .u64 (IntKind.u64.wrap (Go.bits .andNot .u8 (rd l0 (ji8)) 128)) (wrap64 (7*x17_2)))) (wrap64 (x17_2+1))))else(none))=some (r1,r2,r3):=by rw[if_neg (show ¬(false=true)by decide)]at H;exact H
             clear H
             have H:=H1
             clear H1
             obtain⟨ji17,hji17⟩: ∃j_:Int,(wrap64 (7*x17_2))=j_:=⟨_,rfl⟩
             replace H:(if 0≤(ji17)then(if (rd l0 (ji8))<128 then(some (Go.bits .or .u64 x4_2 (shl .u64 (IntKind.u64.wrap (Go.bits .andNot .u8 (rd l0 (ji8)) 128)) (ji17)),wrap64 ((wrap64 (a1+x17_2))+1),0))else(varint_Get.l0 kj10 l0 a1 (Go.bits .or .u64 x4_2 (shl .u64 (IntKind.u64.wrap (Go.bits .andNot .u8 (rd l0 (ji8)) 128)) (ji17))) (wrap64 (x17_2+1))))else(none))=some (r1,r2,r3):=by first|(rw[hji17]at H;exact H)|(simp only[hji17]at H ⊢;exact H)
             have hji17w:(IntKind.i64.wrap (7*x17_2))=ji17:=(i64_w _).trans hji17
             by_cases c18:0≤(ji17)
             ·rw [if_pos c18]at H
              have c18b0:=eq_true c18
              have c18b1:decide (0≤(ji17))=true:=decide_eq_true c18
              clear c18
              obtain⟨ji19,hji19⟩: ∃j_:Int,(shl .u64 (IntKind.u64.wrap (Go.bits .andNot .u8 (rd l0 (ji8)) 128)) (ji17))=j_:=⟨_,rfl⟩
              replace H:(if (rd l0 (ji8))<128 then(some (Go.bits .or .u64 x4_2 (ji19),wrap64 ((wrap64 (a1+x17_2))+1),0))else(varint_Get.l0 kj10 l0 a1 (Go.bits .or .u64 x4_2 (ji19)) (wrap64 (x17_2+1))))=some (r1,r2,r3):=by first|(rw[hji19]at H;exact H)|(simp only[hji19]at H ⊢;exact H)
              have hji19_:(IntKind.u64.wrap ((IntKind.u64.wrap (Go.bits .andNot .u8 (rd l0 (ji8)) 128))*2^min (ji17).toNat 64))=ji19:=hji19
              have hji19z:(ji17)≤64→(IntKind.u64.wrap ((IntKind.u64.wrap (Go.bits .andNot .u8 (rd l0 (ji8)) 128))*2^(ji17).toNat))=ji19:=shl_small hji19
              by_cases c20:(rd l0 (ji8))<128
              ·rw[if_pos c20]at H
               have c20b0:decide ((rd l0 (ji8))<128)=true:=decide_eq_true c20
               clear c20
               simp only[Option.some.injEq,Prod.mk.injEq]at H
               obtain⟨rfl,rfl,rfl⟩:=H
               go_wp2
               go_ret3
               exact⟨by first|rfl|(simp;done)|(simp only[←hji8,←hji17,←hji19]<;>(first|rfl|simp))|(simp[*];done),by repeat (first|exact Drawn0.refl _|apply Drawn0.step)⟩
              ·rw[if_neg c20]at H
               have c20b0:decide ((rd l0 (ji8))<128)=false:=decide_eq_false c20
               clear c20
               have H':=Aside0.mk H
               clear H
               go_wp2
               go_roundg kj10
               case measure=>have:=HJ2.out;have:=HK2.out;have:=HJ10.out;omega
               case rel=>exact⟨(Go.bits .or .u64 x4_2 (ji19)),(wrap64 (x17_2+1)),(by first|rfl|(simp;done)|(simp only[←hji19]<;>(first|rfl|simp))|(simp[*];done)),(by first|rfl|(simp;done)|(simp[*];done)|(simp;rw[Bool.eq_iff_iff];simp;done)),H',⟨by have:=HJ2.out;have:=HK2.out;have:=HJ10.out;omega⟩,by repeat (first|exact Drawn0.refl _|apply Drawn0.step)⟩
             ·rw[if_neg c18]at H
              exact absurd H (by simp)
         ·rw[if_neg c10]at H
          exact absurd H (by simp)
        ·rw[if_neg c9]at H
         exact absurd H (by simp)
      ·rw[if_neg c6]at H
       have c6b0:decide (x17_2<10)=false:=decide_eq_false c6
       clear c6
       simp only[Option.some.injEq,Prod.mk.injEq]at H
       obtain⟨rfl,rfl,rfl⟩:=H
       go_wp2
       go_ret3
       exact⟨by first|rfl|(simp;done)|(simp[*];done),by repeat (first|exact Drawn0.refl _|apply Drawn0.step)⟩
mutual
def tephraref01_Get.j0:Nat→ByteArray→Int→Bool→Option (Int×Int×Int)
 | 0,_,_,_=>none
 |k+1,x0,x1,x18=>if x18=true then(some (0,0,1))else(tephraref01_Get.l0 k x0 x1 0 1 0)
def tephraref01_Get.l0:Nat→ByteArray→Int→Int→Int→Int→Option (Int×Int×Int)
 | 0,_,_,_,_,_=>none
 |k+1,x0,x1,x7,x8,x9=>if x9<10 then(if (wrap64 (x1+x9))=(x0.size:Int)then(some (0,0,2))else(if 0≤(wrap64 (x1+x9))then(if (wrap64 (x1+x9))<(x0.size:Int)then(if x9=9 then(tephraref01_Get.j2 k x0 x1 x7 x8 x9 (IntKind.u64.wrap (bt x0 (wrap64 (x1+x9)))) (decide ((IntKind.u64.wrap (bt x0 (wrap64 (x1+x9))))>1)))else(tephraref01_Get.j2 k x0 x1 x7 x8 x9 (IntKind.u64.wrap (bt x0 (wrap64 (x1+x9)))) false))else(none))else(none)))else(some (0,0,3))
def tephraref01_Get.j2:Nat→ByteArray→Int→Int→Int→Int→Int→Bool→Option (Int×Int×Int)
 | 0,_,_,_,_,_,_,_=>none
 |k+1,x0,x1,x7,x8,x9,x10,x40=>if x40=true then(some (0,0,3))else(if x10<128 then(if x9>0 then(if x10=0 then(some (0,0,3))else(some (IntKind.u64.wrap (x7+(IntKind.u64.wrap (x8*(Int.tmod x10 128)))),wrap64 ((wrap64 (x1+x9))+1),0)))else(some (IntKind.u64.wrap (x7+(IntKind.u64.wrap (x8*(Int.tmod x10 128)))),wrap64 ((wrap64 (x1+x9))+1),0)))else(tephraref01_Get.l0 k x0 x1 (IntKind.u64.wrap (x7+(IntKind.u64.wrap (x8*(Int.tmod x10 128))))) (IntKind.u64.wrap (x8*128)) (wrap64 (x9+1))))
end
def tephraref01_Get.f (k:Nat) (a0:ByteArray) (a1:Int):Option (Int×Int×Int):=if a1<0 then(tephraref01_Get.j0 k a0 a1 true)else(tephraref01_Get.j0 k a0 a1 (decide (a1>(a0.size:Int))))
theorem tephraref01_Get.calls (k:Nat) (a0:ByteArray) (a1:Int) (r1:Int) (r2:Int) (r3:Int) (w:World) (h:tephraref01_Get.f k a0 a1=some (r1,r2,r3)):
  Calls Tryz.prog 83 #[.string a0,.int .i64 a1] w fun e w'=>e= .returned (.tuple #[.int .u64 r1,.int .i64 r2,.int .i64 r3])∧Drawn0 w w':=by
 have H:(if a1<0 then(tephraref01_Get.j0 k a0 a1 true)else(tephraref01_Get.j0 k a0 a1 (decide (a1>(a0.size:Int)))))=some (r1,r2,r3):=h
 clear h
 have HC3:=Aside0.mk H
 clear H
 go_enter Tryz.func83,Tryz.ntmps83
 go_upto_region 1 with (fail)
 go_cut [18] (fun v18 wc=>∃(kq:Nat) (x18_2:Bool),v18= .bool x18_2∧Aside0 (tephraref01_Get.j0 kq a0 a1 x18_2=some (r1,r2,r3))∧Aside0 (kq≤k)∧Drawn0 w wc)
 case first=>
  have H:=HC3.out
  clear HC3
  by_cases c4:a1<0
  ·rw[if_pos c4]at H
   have c4b0:decide (a1<0)=true:=decide_eq_true c4
   clear c4
   (first|rw[c4b0]|(simp only[i64_w,i32_w];rw[c4b0])|skip)
   have H':=Aside0.mk H
   clear H
   go_wp2
   go_meet
   case rel=>exact⟨_,(true),(by first|rfl|(simp;done)|(simp[*];done)|(simp;rw[Bool.eq_iff_iff];simp;done)),H',⟨by first|omega|exact Nat.le_refl _⟩,by repeat (first|exact Drawn0.refl _|apply Drawn0.step)⟩
  ·rw[if_neg c4]at H
   have c4b0:decide (a1<0)=false:=decide_eq_false c4
   clear c4
   (first|rw[c4b0]|(simp only[i64_w,i32_w];rw[c4b0])|skip)
   have H':=Aside0.mk H
   clear H
   go_wp2
   go_meet
   case rel=>exact⟨_,(decide (a1>(a0.size:Int))),(by first|rfl|(simp;done)|(simp[*];done)|(simp;rw[Bool.eq_iff_iff];simp;done)),H',⟨by first|omega|exact Nat.le_refl _⟩,by repeat (first|exact Drawn0.refl _|apply Drawn0.step)⟩
 case rest =>
  clear HC3
  try clear p2
  try clear c4
  try clear c4b0
  obtain⟨kq,x18_2,rfl,HA,HJ2,⟨mc2,rfl⟩⟩:=hcut
  cases kq with
  |zero=>exact absurd HA.out (by simp[tephraref01_Get.j0])
  | succ kj2 =>
   have H:=HA.out
   clear HA
   simp only[tephraref01_Get.j0]at H
   by_cases c5:x18_2=true
   ·subst c5
    have H1:(some (0,0,1))=some (r1,r2,r3):=by rw[if_pos rfl]at H;exact H
    clear H
    have H:=H1
    clear H1
    simp only[Option.some.injEq,Prod.mk.injEq]at H
    obtain⟨rfl,rfl,rfl⟩:=H
    go_wp2
    go_ret3
    exact⟨by first|rfl|(simp;done)|(simp[*];done),by repeat (first|exact Drawn0.refl _|apply Drawn0.step)⟩
   ·replace c5 :=Bool.eq_false_iff.mpr c5
    subst c5
    have H1:(tephraref01_Get.l0 kj2 a0 a1 0 1 0)=some (r1,r2,r3):=by rw[if_neg (show ¬(false=true)by decide)]at H;exact H
    clear H
    have H:=H1
    clear H1
    have H':=Aside0.mk H
    clear H
    go_wp2
    go_loopg [7,8,9] kj2 (fun kq v7 v8 v9 w'=>∃(x7_2:Int) (x8_2:Int) (x9_2:Int),v7= .int .u64 x7_2∧v8= .int .u64 x8_2∧v9= .int .i64 x9_2∧Aside0 (tephraref01_Get.l0 kq a0 a1 x7_2 x8_2 x9_2=some (r1,r2,r3))∧Aside0 (kq≤kj2)∧Drawn0 w w')
    case atStart=>exact⟨(0),(1),(0),(by first|rfl|(simp;done)|(simp[*];done)|(simp;rw[Bool.eq_iff_iff];simp;done)),(by first|rfl|(simp;done)|(simp[*];done)|(simp;rw[Bool.eq_iff_iff];simp;done)),(by first|rfl|(simp;done)|(simp[*];done)|(simp;rw[Bool.eq_iff_iff];simp;done)),H',⟨Nat.le_refl _⟩,by repeat (first|exact Drawn0.refl _|apply Drawn0.step)⟩
    case round =>
     clear H'
     try clear c2
     try clear p2
     try clear c4
     try clear c4b0
     try clear c5
     try clear p2
     obtain⟨x7_2,x8_2,x9_2,rfl,rfl,rfl,HA,HK2,⟨m2,rfl⟩⟩:=hrel
     cases gk with
     |zero=>exact absurd HA.out (by simp[tephraref01_Get.l0])
     | succ k2 =>
      have H:=HA.out
      clear HA
      simp only[tephraref01_Get.l0]at H
      by_cases c6:x9_2<10
      ·rw [if_pos c6]at H
       have c6b0:decide (x9_2<10)=true:=decide_eq_true c6
       clear c6
       by_cases c7:(wrap64 (a1+x9_2))=(a0.size:Int)
       ·rw[if_pos c7]at H
        have c7b0:((wrap64 (a1+x9_2))==(a0.size:Int))=true:=beq_iff_eq.mpr c7
        have c7b1:((wrap64 (a1+x9_2)) !=(a0.size:Int))=false:=bne_eq_false_iff_eq.mpr c7
        clear c7
        simp only[Option.some.injEq,Prod.mk.injEq]at H
        obtain⟨rfl,rfl,rfl⟩:=H
        go_wp2
        go_ret3
        exact⟨by first|rfl|(simp;done)|(simp[*];done),by repeat (first|exact Drawn0.refl _|apply Drawn0.step)⟩
       ·rw [if_neg c7]at H
        have c7b0:((wrap64 (a1+x9_2))==(a0.size:Int))=false:=beq_eq_false_iff_ne.mpr c7
        have c7b1:((wrap64 (a1+x9_2)) !=(a0.size:Int))=true:=bne_iff_ne.mpr c7
        obtain⟨ji8,hji8⟩: ∃j_:Int,(wrap64 (a1+x9_2))=j_:=⟨_,rfl⟩
        replace H:(if 0≤(ji8)then(if (ji8)<(a0.size:Int)then(if x9_2=9 then(tephraref01_Get.j2 k2 a0 a1 x7_2 x8_2 x9_2 (IntKind.u64.wrap (bt a0 (ji8))) (decide ((IntKind.u64.wrap (bt a0 (ji8)))>1)))else(tephraref01_Get.j2 k2 a0 a1 x7_2 x8_2 x9_2 (IntKind.u64.wrap (bt a0 (ji8))) false))else(none))else(none))=some (r1,r2,r3):=by first|(rw[hji8]at H;exact H)|(simp only[hji8]at H ⊢;exact H)
        (try rw[hji8]at c7b0)
        (try rw[hji8]at c7b1)
        have hji8w:(IntKind.i64.wrap (a1+x9_2))=ji8:=(i64_w _).trans hji8
        by_cases c9:0≤(ji8)
        ·rw [if_pos c9]at H
         have c9b0:decide (0≤(ji8))=true:=decide_eq_true c9
         clear c9
         by_cases c10:(ji8)<(a0.size:Int)
         ·rw [if_pos c10]at H
          have c10b0:decide ((ji8)<(a0.size:Int))=true:=decide_eq_true c10
          clear c10
          have HC12:=Aside0.mk H
          clear H
          have p11:0≤((ji8):Int):=of_decide_eq_true (by first|(with_reducible assumption)|assumption)
          have q11:(ji8)<(a0.size:Int):=of_decide_eq_true (by first|(with_reducible assumption)|assumption)
          have hx11:=bt_at a0 (ji8)
          replace p11:=eq_true p11
          replace q11:=eq_true q11
          go_upto_region 10 with (fail)
          go_cut [40] (fun v40 wc=>∃(kq:Nat) (x40_11:Bool),v40= .bool x40_11∧Aside0 (tephraref01_Get.j2 kq a0 a1 x7_2 x8_2 x9_2 (IntKind.u64.wrap (bt a0 (ji8))) x40_11=some (r1,r2,r3))∧Aside0 (kq≤k2)∧Drawn0 w wc)
          case first=>
           have H:=HC12.out
           clear HC12
           by_cases c13:x9_2=9
           ·rw[if_pos c13]at H
            have c13b0:(x9_2==9)=true:=beq_iff_eq.mpr c13
            have c13b1:(x9_2 !=9)=false:=bne_eq_false_iff_eq.mpr c13
            clear c13
            (first|rw[c13b0]|(simp only[i64_w,i32_w];rw[c13b0])|skip)
            have H':=Aside0.mk H
            clear H
            go_wp2
            go_meet
            case rel=>exact⟨_,(decide ((IntKind.u64.wrap (bt a0 (ji8)))>1)),(by first|rfl|(simp;done)|(simp only[←hji8]<;>(first|rfl|simp))|(simp[*];done)),H',⟨by have:=HJ2.out;have:=HK2.out;first|omega|exact Nat.le_refl _⟩,by repeat (first|exact Drawn0.refl _|apply Drawn0.step)⟩
           ·rw[if_neg c13]at H
            have c13b0:(x9_2==9)=false:=beq_eq_false_iff_ne.mpr c13
            have c13b1:(x9_2 !=9)=true:=bne_iff_ne.mpr c13
            (first|rw[c13b0]|(simp only[i64_w,i32_w];rw[c13b0])|skip)
            have H':=Aside0.mk H
            clear H
            go_wp2
            go_meet
            case rel=>exact⟨_,(false),(by first|rfl|(simp;done)|(simp[*];done)|(simp;rw[Bool.eq_iff_iff];simp;done)),H',⟨by have:=HJ2.out;have:=HK2.out;first|omega|exact Nat.le_refl _⟩,by repeat (first|exact Drawn0.refl _|apply Drawn0.step)⟩
          case rest=>
           clear HC12
           try clear c1
           try clear p1
           try clear q1
           try clear hx1
           try clear c2
           try clear p2
           try clear c4
           try clear c4b0
           try clear c5
           try clear c6
           try clear c6b0
           try clear p6
           try clear c7
           try clear c7b0
           try clear c7b1
           try clear c8
           try clear c9
           try clear c9b0
           try clear c10
           try clear c10b0
           try clear p11
           try clear q11
           try clear hx11
           try clear c13
           try clear c13b0
           try clear c13b1
           try clear p11
           try clear p2
           try clear q11
           obtain⟨kq,x40_11,rfl,HA,HJ11,⟨mc11,rfl⟩⟩:=hcut
           cases kq with
           |zero=>exact absurd HA.out (by simp[tephraref01_Get.j2])
           | succ kj11=>
            have H:=HA.out
            clear HA
            simp only[tephraref01_Get.j2]at H
            by_cases c14:x40_11=true
            ·subst c14
             have H1:(some (0,0,3))=some (r1,r2,r3):=by rw[if_pos rfl]at H;exact H
             clear H
             have H:=H1
             clear H1
             simp only[Option.some.injEq,Prod.mk.injEq]at H
             obtain⟨rfl,rfl,rfl⟩:=H
             go_wp2
             go_ret3
             exact⟨by first|rfl|(simp;done)|(simp only[←hji8]<;>(first|rfl|simp))|(simp[*];done),by repeat (first|exact Drawn0.refl _|apply Drawn0.step)⟩
            ·replace c14:=Bool.eq_false_iff.mpr c14
             subst c14
             have H1:(if (IntKind.u64.wrap (bt a0 (ji8)))<128 then(if x9_2>0 then(if (IntKind.u64.wrap (bt a0 (ji8)))=0 then(some (0,0,3))else(some (IntKind.u64.wrap (x7_2+(IntKind.u64.wrap (x8_2*(Int.tmod (IntKind.u64.wrap (bt a0 (ji8))) 128)))),wrap64 ((wrap64 (a1+x9_2))+1),0)))else(some (IntKind.u64.wrap (x7_2+(IntKind.u64.wrap (x8_2*(Int.tmod (IntKind.u64.wrap (bt a0 (ji8))) 128)))),wrap64 ((wrap64 (a1+x9_2))+1),0)))else(tephraref01_Get.l0 kj11 a0 a1 (IntKind.u64.wrap (x7_2+(IntKind.u64.wrap (x8_2*(Int.tmod (IntKind.u64.wrap (bt a0 (ji8))) 128))))) (IntKind.u64.wrap (x8_2*128)) (wrap64 (x9_2+1))))=some (r1,r2,r3):=by rw[if_neg (show ¬(false=true)by decide)]at H;exact H
             clear H
             have H:=H1
             clear H1
             by_cases c15:(IntKind.u64.wrap (bt a0 (ji8)))<128
             ·rw [if_pos c15]at H
              have c15b0:decide ((IntKind.u64.wrap (bt a0 (ji8)))<128)=true:=decide_eq_true c15
              clear c15
              by_cases c16:x9_2>0
              ·rw [if_pos c16]at H
               have c16b0:decide (0<x9_2)=true:=decide_eq_true c16
               clear c16
               by_cases c17:(IntKind.u64.wrap (bt a0 (ji8)))=0
               ·rw[if_pos c17]at H
                have c17b0:((IntKind.u64.wrap (bt a0 (ji8)))==0)=true:=beq_iff_eq.mpr c17
                have c17b1:((IntKind.u64.wrap (bt a0 (ji8))) !=0)=false:=bne_eq_false_iff_eq.mpr c17
                clear c17
                simp only[Option.some.injEq,Prod.mk.injEq]at H
                obtain⟨rfl,rfl,rfl⟩:=H
                go_wp2
                go_ret3
                exact⟨by first|rfl|(simp;done)|(simp only[←hji8]<;>(first|rfl|simp))|(simp[*];done),by repeat (first|exact Drawn0.refl _|apply Drawn0.step)⟩
               ·rw[if_neg c17]at H
                have c17b0:((IntKind.u64.wrap (bt a0 (ji8)))==0)=false:=beq_eq_false_iff_ne.mpr c17
                have c17b1:((IntKind.u64.wrap (bt a0 (ji8))) !=0)=true:=bne_iff_ne.mpr c17
                simp only[Option.some.injEq,Prod.mk.injEq]at H
                obtain⟨rfl,rfl,rfl⟩:=H
                go_wp2
                go_ret3
                exact⟨by first|rfl|(simp;done)|(simp only[←hji8]<;>(first|rfl|simp))|(simp[*];done),by repeat (first|exact Drawn0.refl _|apply Drawn0.step)⟩
              ·rw[if_neg c16]at H
               have c16b0:decide (0<x9_2)=false:=decide_eq_false c16
               clear c16
               simp only[Option.some.injEq,Prod.mk.injEq]at H
               obtain⟨rfl,rfl,rfl⟩:=H
               go_wp2
               go_ret3
               exact⟨by first|rfl|(simp;done)|(simp only[←hji8]<;>(first|rfl|simp))|(simp[*];done),by repeat (first|exact Drawn0.refl _|apply Drawn0.step)⟩
             ·rw[if_neg c15]at H
              have c15b0:decide ((IntKind.u64.wrap (bt a0 (ji8)))<128)=false:=decide_eq_false c15
              clear c15
              have H':=Aside0.mk H
              clear H
              go_wp2
              go_roundg kj11
              case measure=>have:=HJ2.out;have:=HK2.out;have:=HJ11.out;omega
              case rel=>exact⟨(IntKind.u64.wrap (x7_2+(IntKind.u64.wrap (x8_2*(Int.tmod (IntKind.u64.wrap (bt a0 (ji8))) 128))))),(IntKind.u64.wrap (x8_2*128)),(wrap64 (x9_2+1)),(by first|rfl|(simp;done)|(simp only[←hji8]<;>(first|rfl|simp))|(simp[*];done)),(by first|rfl|(simp;done)|(simp[*];done)|(simp;rw[Bool.eq_iff_iff];simp;done)),(by first|rfl|(simp;done)|(simp[*];done)|(simp;rw[Bool.eq_iff_iff];simp;done)),H',⟨by have:=HJ2.out;have:=HK2.out;have:=HJ11.out;omega⟩,by repeat (first|exact Drawn0.refl _|apply Drawn0.step)⟩
         ·rw[if_neg c10]at H
          exact absurd H (by simp)
        ·rw[if_neg c9]at H
         exact absurd H (by simp)
      ·rw[if_neg c6]at H
       have c6b0:decide (x9_2<10)=false:=decide_eq_false c6
       clear c6
       simp only[Option.some.injEq,Prod.mk.injEq]at H
       obtain⟨rfl,rfl,rfl⟩:=H
       go_wp2
       go_ret3
       exact⟨by first|rfl|(simp;done)|(simp[*];done),by repeat (first|exact Drawn0.refl _|apply Drawn0.step)⟩
end Go.Proofs.YtfflenbfapgilaaGreat.GVB
namespace Go.Proofs.YtfflenbfapgilaaGreat.GRR
open Go.Proofs.YtfflenbfapgilaaGreatW.PrintLast Go.Proofs.YtfflenbfapgilaaGreatW.PrintMore
attribute [local go_sem] max2_int min2_int max_two min_two max_three min_three max_four min_four
def errW:Option Int→Value
 |none=> .nilIface
 |some c=> .iface 0 (.int .i64 c)
theorem errW_none:errW none= .nilIface:=rfl
theorem errW_some (c:Int):errW (some c)= .iface 0 (.int .i64 c):=rfl
theorem info9:(Tryz.prog.info? 9).map (fun i=>(i.zero,i.size,i.bytes))=some (some (.string ⟨#[]⟩),1,16):=by kernel_rfl
structure S129 where
 f0:ByteArray
 f1:Int
 f2:Bool
def z129:S129:=⟨(⟨#[]⟩:ByteArray),(0:Int),false⟩
def k129:Kd S129:=Kd.iso (Kd.pair Kd.string (Kd.pair (Kd.int .u64) Kd.bool)) (fun x:S129=>(x.f0,x.f1,x.f2))
theorem k129_open {w:World} {x:S129} {cs:List Value} (h:k129.K w x cs):cs=[.string x.f0,.int .u64 x.f1,.bool x.f2]:=by
 obtain⟨_,_,rfl,rfl,⟨_,_,rfl,rfl,rfl⟩⟩:=h
 exact rfl
theorem k129_mkM (w:World) (base:Nat) (ok:Nat→Prop) (x:S129):k129.M w base ok x [.string x.f0,.int .u64 x.f1,.bool x.f2]:=⟨[.string x.f0],[.int .u64 x.f1,.bool x.f2],rfl,rfl,⟨[.int .u64 x.f1],[.bool x.f2],rfl,rfl,rfl⟩⟩
def rd_T129 (xs:List S129) (i:Int):S129:=xs.getD i.toNat z129
theorem at_T129 {w:World} {A:Option Addr} {n:Nat} {xs:List S129} (h:Kd.C k129 w A n xs) (i:Int) (h0:0≤i) (h1:i<n): ∃ad,A=some ad∧w.cell? (ad.add (i.toNat*3))=some (.string (rd_T129 xs i).f0)∧w.cell? ⟨(ad.add (i.toNat*3)).block,(ad.add (i.toNat*3)).off+1,none⟩=some (.int .u64 (rd_T129 xs i).f1)∧w.cell? ⟨(ad.add (i.toNat*3)).block,(ad.add (i.toNat*3)).off+2,none⟩=some (.bool (rd_T129 xs i).f2):=by
 obtain⟨ad,c,e,_,hK,hc0⟩:=Kd.C_get h z129 i h0 h1
 have hc: ∀j u,c[j]? =some u→w.cell? (ad.add (i.toNat*3+j))=some u:=hc0
 obtain rfl:=k129_open hK
 exact⟨ad,e,hc 0 _ rfl,by rw[←add_field _ _ 1 (by omega)];exact hc 1 _ rfl,by rw[←add_field _ _ 2 (by omega)];exact hc 2 _ rfl⟩
def rd_L5 (xs:List (List Int)) (i:Int):(List Int):=xs.getD i.toNat ([]:List Int)
theorem at_L5 {w:World} {A:Option Addr} {n:Nat} {xs:List (List Int)} (h:Kd.C (Kd.slice 5 (Kd.int .u8)) w A n xs) (i:Int) (h0:0≤i) (h1:i<n): ∃ad A0 c0,A=some ad∧w.cell? (ad.add i.toNat)=some (.slice A0 (rd_L5 xs i).length c0)∧(rd_L5 xs i).length≤c0∧(Kd.int .u8).C w A0 (rd_L5 xs i).length (rd_L5 xs i):=by
 obtain⟨ad,c,e,_,hK,hc0⟩:=Kd.C_get h ([]:List Int) i h0 h1
 have hc: ∀j u,c[j]? =some u→w.cell? (ad.add (i.toNat*1+j))=some u:=hc0
 obtain⟨A0,c0,rfl,l0,g0⟩:=hK
 exact⟨ad,A0,c0,e,by have hq:=hc 0 _ rfl;rwa [Nat.mul_one,Nat.add_zero]at hq,l0,g0⟩
end Go.Proofs.YtfflenbfapgilaaGreat.GRR
namespace Go.Proofs.YtfflenbfapgilaaGreat.GRR
open Go.Proofs.YtfflenbfapgilaaGreatW.PrintLast Go.Proofs.YtfflenbfapgilaaGreatW.PrintMore
attribute [local go_sem] max2_int min2_int max_two min_two max_three min_three max_four min_four
theorem eqA129 (d:Nat) (w:World) (x0 y0:ByteArray) (x1 y1:Int) (x2 y2:Bool):
  (Op.equalIn (d+2) 129 (.agg #[.string x0,.int .u64 x1,.bool x2]) (.agg #[.string y0,.int .u64 y1,.bool y2])).run Tryz.prog w= .ok (x0.toList==y0.toList&&(x1==y1&&(x2==y2))) w:=by
 refine eqA_of Tryz.underlying129 (by kernel_rfl) ?_
 refine eqf_cons (by rfl) (by go_simp;rfl) (by go_simp;rfl) (by go_simp) ?_
 refine eqf_cons (by rfl) (by go_simp;rfl) (by go_simp;rfl) (by go_simp) ?_
 exact eqf_last (by rfl) (by go_simp;rfl) (by go_simp;rfl) (by go_simp)
end Go.Proofs.YtfflenbfapgilaaGreat.GRR
namespace Go.Proofs.YtfflenbfapgilaaGreat.GRR
open Go.Proofs.YtfflenbfapgilaaGreatW.PrintLast Go.Proofs.YtfflenbfapgilaaGreatW.PrintMore
attribute [local go_sem] max2_int min2_int max_two min_two max_three min_three max_four min_four
attribute [local go_sem high] eqA129
def tephraref08_Name.f (a0:ByteArray):Option (Bool):=if a0.toList=([]:List UInt8)then(some false)else(some (decide ((a0.size:Int)<65)))
theorem tephraref08_Name.calls (a0:ByteArray) (r:Bool) (w:World) (h:tephraref08_Name.f a0=some r):
  Calls Tryz.prog 84 #[.string a0] w fun e w'=>e= .returned (.bool r)∧Drawn0 w w':=by
 have H:(if a0.toList=([]:List UInt8)then(some false)else(some (decide ((a0.size:Int)<65))))=some r:=h
 clear h
 by_cases c2:a0.toList=([]:List UInt8)
 ·rw[if_pos c2]at H
  have c2b0:(a0.toList==([]:List UInt8))=true:=beq_iff_eq.mpr c2
  have c2b1:(a0.toList !=([]:List UInt8))=false:=bne_eq_false_iff_eq.mpr c2
  clear c2
  obtain rfl:=Option.some.inj H
  go_enter Tryz.func84,Tryz.ntmps84
  go_wp2
  go_ret
  exact⟨by first|rfl|(simp;done)|(simp[*];done),by repeat (first|exact Drawn0.refl _|apply Drawn0.step)⟩
 ·rw[if_neg c2]at H
  have c2b0:(a0.toList==([]:List UInt8))=false:=beq_eq_false_iff_ne.mpr c2
  have c2b1:(a0.toList !=([]:List UInt8))=true:=bne_iff_ne.mpr c2
  obtain rfl:=Option.some.inj H
  go_enter Tryz.func84,Tryz.ntmps84
  go_wp2
  go_ret
  exact⟨by first|rfl|(simp;done)|(simp[*];done),by repeat (first|exact Drawn0.refl _|apply Drawn0.step)⟩
def tephraref08_Name.Pure:Prop:=∀(a0:ByteArray),a0.size≤140737488351232→tephraref08_Name.f a0=some true
theorem tephraref08_Name.walk (P:tephraref08_Name.Pure) (a0:ByteArray) (w:World) (w0:a0.size≤140737488351232):
  Calls Tryz.prog 84 #[.string a0] w fun e w'=>e= .returned (.bool true)∧Below w.heap.size w w':=by
 have h:=P a0 w0
 refine(tephraref08_Name.calls a0 true w h).mono ?_
 rintro e w' ⟨rfl,hd⟩
 exact⟨rfl,hd.below⟩
end Go.Proofs.YtfflenbfapgilaaGreat.GRR
namespace Go.Proofs.YtfflenbfapgilaaGreat.GRR
open Go.Proofs.YtfflenbfapgilaaGreatW.PrintLast Go.Proofs.YtfflenbfapgilaaGreatW.PrintMore
attribute [local go_sem] max2_int min2_int max_two min_two max_three min_three max_four min_four
end Go.Proofs.YtfflenbfapgilaaGreat.GRR
namespace Go.Proofs.YtfflenbfapgilaaGreat.GRR
open Go.Proofs.YtfflenbfapgilaaGreatW.PrintLast Go.Proofs.YtfflenbfapgilaaGreatW.PrintMore
attribute [local go_sem] max2_int min2_int max_two min_two max_three min_three max_four min_four
theorem eqA157 (d:Nat) (w:World) (x0 y0:Int) (x1 y1:ByteArray) (x2 y2:ByteArray) (x3 y3:Int) (x4 y4:Int) (x5 y5:Int):
  (Op.equalIn (d+2) 157 (.agg #[.int .i64 x0,.string x1,.string x2,.int .u64 x3,.int .u64 x4,.int .u64 x5]) (.agg #[.int .i64 y0,.string y1,.string y2,.int .u64 y3,.int .u64 y4,.int .u64 y5])).run Tryz.prog w= .ok (x0==y0&&(x1.toList==y1.toList&&(x2.toList==y2.toList&&(x3==y3&&(x4==y4&&(x5==y5)))))) w:=by
 refine eqA_of Tryz.underlying157 (by kernel_rfl) ?_
 refine eqf_cons (by rfl) (by go_simp;rfl) (by go_simp;rfl) (by go_simp) ?_
 refine eqf_cons (by rfl) (by go_simp;rfl) (by go_simp;rfl) (by go_simp) ?_
 refine eqf_cons (by rfl) (by go_simp;rfl) (by go_simp;rfl) (by go_simp) ?_
 refine eqf_cons (by rfl) (by go_simp;rfl) (by go_simp;rfl) (by go_simp) ?_
 refine eqf_cons (by rfl) (by go_simp;rfl) (by go_simp;rfl) (by go_simp) ?_
 exact eqf_last (by rfl) (by go_simp;rfl) (by go_simp;rfl) (by go_simp)
end Go.Proofs.YtfflenbfapgilaaGreat.GRR
namespace Go.Proofs.YtfflenbfapgilaaGreat.GRR
open Go.Proofs.YtfflenbfapgilaaGreatW.PrintLast Go.Proofs.YtfflenbfapgilaaGreatW.PrintMore
attribute [local go_sem] max2_int min2_int max_two min_two max_three min_three max_four min_four
attribute [local go_sem high] eqA157
attribute [local go_sem high] eqA129
def record_of.f (a0_0:Int) (a0_1:ByteArray) (a0_2:Int) (l0_3:List (S129)) (a0_4:Int) (a0_5:Int) (a0_6:ByteArray):Option (Int×ByteArray×ByteArray×Int×Int×Int):=some (a0_0,a0_1,a0_6,a0_2,a0_4,a0_5)
theorem record_of.calls (a0_0:Int) (a0_1:ByteArray) (a0_2:Int) (A0_3:Option Addr) (c0_3:Nat) (l0_3:List (S129)) (a0_4:Int) (a0_5:Int) (a0_6:ByteArray) (r1:Int) (r2:ByteArray) (r3:ByteArray) (r4:Int) (r5:Int) (r6:Int) (w:World) (hr0_3:Kd.C k129 w A0_3 l0_3.length l0_3) (hc0_3:l0_3.length≤c0_3) (h:record_of.f a0_0 a0_1 a0_2 l0_3 a0_4 a0_5 a0_6=some (r1,r2,r3,r4,r5,r6)):
  Calls Tryz.prog 87 #[.agg #[.int .i64 a0_0,.string a0_1,.int .u64 a0_2,.slice A0_3 l0_3.length c0_3,.int .u64 a0_4,.int .u64 a0_5,.string a0_6]] w fun e w'=>e= .returned (.agg #[.int .i64 r1,.string r2,.string r3,.int .u64 r4,.int .u64 r5,.int .u64 r6])∧Below w.heap.size w w':=by
 have hu49:=Tryz.underlying49
 have hu157:=Tryz.underlying157
 have HR0_3:=Aside0.mk hr0_3
 have HC0_3:=Aside0.mk hc0_3
 clear hr0_3 hc0_3
 have HB:=Aside0.mk (Below.refl w.heap.size w)
 have H:(some (a0_0,a0_1,a0_6,a0_2,a0_4,a0_5))=some (r1,r2,r3,r4,r5,r6):=h
 clear h
 simp only[Option.some.injEq,Prod.mk.injEq]at H
 obtain⟨rfl,rfl,rfl,rfl,rfl,rfl⟩:=H
 go_enter Tryz.func87,Tryz.ntmps87
 go_wp2_with (first|((with_reducible refine gate_dst (N:=1) rfl ?_);refine box_event ?hg (N:=1) ?hd (cs:=#[.int .i64 a0_0,.string a0_1,.int .u64 a0_2,.slice A0_3 l0_3.length c0_3,.int .u64 a0_4,.int .u64 a0_5,.string a0_6]) (t:=49) ?hr ?_;(case hd=>rfl);(case hg=>rfl);(case hr=>first|(go_simp;done)|(go_simp;rfl));intro gb136 hg w2 hbox hb;have n0_:=Aside0.mk (below_step (by repeat (first|(with_reducible first|exact HB.out|apply below_alloc|apply pw_below_drewN|apply below_drew1)|exact HB.out)) hb);have n1_:=Aside0.mk (hbox);have n2_:=Aside0.mk ((by rw[hg];exact(below_size (by repeat (first|(with_reducible first|exact HB.out|apply below_alloc|apply pw_below_drewN|apply below_drew1)|exact HB.out))):w.heap.size≤gb136));have n3_:=Aside0.mk ((by rw[hg];exact(below_size (by repeat (first|(with_reducible first|exact HB.out|apply below_alloc|apply pw_below_drewN|apply below_drew1)|exact HB.out))):w.heap.size≤gb136));clear HB;have HB:=n0_;have BK136:=n1_;have GW136:=n2_;have GE136:=n3_;clear n0_ n1_ n2_ n3_;clear hb hbox hg)|((with_reducible refine gate_dst (N:=2) rfl ?_);refine box_event ?hg (N:=2) ?hd (cs:=#[.int .i64 0,.string (⟨#[]⟩:ByteArray),.string (⟨#[]⟩:ByteArray),.int .u64 0,.int .u64 0,.int .u64 0]) (t:=157) ?hr ?_;(case hd=>rfl);(case hg=>rfl);(case hr=>first|(go_simp;done)|(go_simp;rfl));intro gb137 hg w3 hbox hb;have n0_:=Aside0.mk (blk_below (g:=gb136) (o:= .cells #[.int .i64 a0_0,.string a0_1,.int .u64 a0_2,.slice A0_3 l0_3.length c0_3,.int .u64 a0_4,.int .u64 a0_5,.string a0_6] 49 (0,0)) (by(with_reducible repeat (first|refine blk_drewN ?_ _|refine blk_drew ?_|refine blk_alloc ?_ _));exact BK136.out) hb);have n1_:=Aside0.mk (below_step (by repeat (first|(with_reducible first|exact HB.out|apply below_alloc|apply pw_below_drewN|apply below_drew1|refine below_set ?_ GE136.out)|exact HB.out)) hb);have n2_:=Aside0.mk (hbox);have n3_:=Aside0.mk ((by rw[hg];exact(below_size (by repeat (first|(with_reducible first|exact HB.out|apply below_alloc|apply pw_below_drewN|apply below_drew1|refine below_set ?_ GE136.out)|exact HB.out))):w.heap.size≤gb137));have n4_:=Aside0.mk ((by rw[hg];exact(below_size (by repeat (first|(with_reducible first|exact HB.out|apply below_alloc|apply pw_below_drewN|apply below_drew1|refine below_set ?_ GE136.out)|exact HB.out))):w.heap.size≤gb137));have n5_:=Aside0.mk ((by rw[hg];exact Nat.ne_of_lt (blk_lt (g:=gb136) (o:= .cells #[.int .i64 a0_0,.string a0_1,.int .u64 a0_2,.slice A0_3 l0_3.length c0_3,.int .u64 a0_4,.int .u64 a0_5,.string a0_6] 49 (0,0)) (by(with_reducible repeat (first|refine blk_drewN ?_ _|refine blk_drew ?_|refine blk_alloc ?_ _));exact BK136.out)):gb136≠gb137));have n6_:=Aside0.mk ((by rw[hg];exact Nat.ne_of_gt (blk_lt (g:=gb136) (o:= .cells #[.int .i64 a0_0,.string a0_1,.int .u64 a0_2,.slice A0_3 l0_3.length c0_3,.int .u64 a0_4,.int .u64 a0_5,.string a0_6] 49 (0,0)) (by(with_reducible repeat (first|refine blk_drewN ?_ _|refine blk_drew ?_|refine blk_alloc ?_ _));exact BK136.out)):gb137≠gb136));clear BK136;clear HB;have BK136:=n0_;have HB:=n1_;have BK137:=n2_;have GW137:=n3_;have GE137:=n4_;have NB136_137:=n5_;have NB137_136:=n6_;clear n0_ n1_ n2_ n3_ n4_ n5_ n6_;clear hb hbox hg;have hnb4:=NB136_137.out;have hnc4:=NB137_136.out;have hcz5_0:w3.cell? ⟨gb136,0,none⟩=some (.int .i64 a0_0):=(blk_cell BK136.out 0).trans rfl;have hcz5_1:w3.cell? ⟨gb136,1,none⟩=some (.string a0_1):=(blk_cell BK136.out 1).trans rfl;have hcz5_2:w3.cell? ⟨gb136,2,none⟩=some (.int .u64 a0_2):=(blk_cell BK136.out 2).trans rfl;have hcz5_3:w3.cell? ⟨gb136,3,none⟩=some (.slice A0_3 l0_3.length c0_3):=(blk_cell BK136.out 3).trans rfl;have hcz5_4:w3.cell? ⟨gb136,4,none⟩=some (.int .u64 a0_4):=(blk_cell BK136.out 4).trans rfl;have hcz5_5:w3.cell? ⟨gb136,5,none⟩=some (.int .u64 a0_5):=(blk_cell BK136.out 5).trans rfl;have hcz5_6:w3.cell? ⟨gb136,6,none⟩=some (.string a0_6):=(blk_cell BK136.out 6).trans rfl;have hfz5_0:=blk_frozen BK136.out 0;have hfz5_1:=blk_frozen BK136.out 1;have hfz5_2:=blk_frozen BK136.out 2;have hfz5_3:=blk_frozen BK136.out 3;have hfz5_4:=blk_frozen BK136.out 4;have hfz5_5:=blk_frozen BK136.out 5;have hfz5_6:=blk_frozen BK136.out 6;have hcz6_0:w3.cell? ⟨gb137,0,none⟩=some (.int .i64 0):=(blk_cell BK137.out 0).trans rfl;have hcz6_1:w3.cell? ⟨gb137,1,none⟩=some (.string (⟨#[]⟩:ByteArray)):=(blk_cell BK137.out 1).trans rfl;have hcz6_2:w3.cell? ⟨gb137,2,none⟩=some (.string (⟨#[]⟩:ByteArray)):=(blk_cell BK137.out 2).trans rfl;have hcz6_3:w3.cell? ⟨gb137,3,none⟩=some (.int .u64 0):=(blk_cell BK137.out 3).trans rfl;have hcz6_4:w3.cell? ⟨gb137,4,none⟩=some (.int .u64 0):=(blk_cell BK137.out 4).trans rfl;have hcz6_5:w3.cell? ⟨gb137,5,none⟩=some (.int .u64 0):=(blk_cell BK137.out 5).trans rfl;have hfz6_0:=blk_frozen BK137.out 0;have hfz6_1:=blk_frozen BK137.out 1;have hfz6_2:=blk_frozen BK137.out 2;have hfz6_3:=blk_frozen BK137.out 3;have hfz6_4:=blk_frozen BK137.out 4;have hfz6_5:=blk_frozen BK137.out 5))
 refine bodyPost_ret (results_cell_row rfl _ _ gb137 157 #[.int .i64 a0_0,.string a0_1,.string a0_6,.int .u64 a0_2,.int .u64 a0_4,.int .u64 a0_5] (0,0) _ rfl (by(with_reducible repeat (first|refine blk_drewN ?_ _|refine blk_drew ?_|refine blk_alloc ?_ _));refine blk_put (cs:=#[.int .i64 a0_0,.string a0_1,.string a0_6,.int .u64 a0_2,.int .u64 a0_4,.int .u64 0]) ?_ 5 _ rfl;(with_reducible repeat (first|refine blk_drewN ?_ _|refine blk_drew ?_|refine blk_alloc ?_ _));refine blk_put (cs:=#[.int .i64 a0_0,.string a0_1,.string a0_6,.int .u64 a0_2,.int .u64 0,.int .u64 0]) ?_ 4 _ rfl;(with_reducible repeat (first|refine blk_drewN ?_ _|refine blk_drew ?_|refine blk_alloc ?_ _));refine blk_put (cs:=#[.int .i64 a0_0,.string a0_1,.string a0_6,.int .u64 0,.int .u64 0,.int .u64 0]) ?_ 3 _ rfl;(with_reducible repeat (first|refine blk_drewN ?_ _|refine blk_drew ?_|refine blk_alloc ?_ _));refine blk_put (cs:=#[.int .i64 a0_0,.string a0_1,.string (⟨#[]⟩:ByteArray),.int .u64 0,.int .u64 0,.int .u64 0]) ?_ 2 _ rfl;(with_reducible repeat (first|refine blk_drewN ?_ _|refine blk_drew ?_|refine blk_alloc ?_ _));refine blk_put (cs:=#[.int .i64 a0_0,.string (⟨#[]⟩:ByteArray),.string (⟨#[]⟩:ByteArray),.int .u64 0,.int .u64 0,.int .u64 0]) ?_ 1 _ rfl;(with_reducible repeat (first|refine blk_drewN ?_ _|refine blk_drew ?_|refine blk_alloc ?_ _));refine blk_put (cs:=#[.int .i64 0,.string (⟨#[]⟩:ByteArray),.string (⟨#[]⟩:ByteArray),.int .u64 0,.int .u64 0,.int .u64 0]) ?_ 0 _ rfl;(with_reducible repeat (first|refine blk_drewN ?_ _|refine blk_drew ?_|refine blk_alloc ?_ _));exact BK137.out) Tryz.underlying157 rfl (by kernel_rfl)) rfl ?_
 exact⟨by first|rfl|(simp[errW_none,errW_some]<;>rfl)|(simp[*,errW_none,errW_some]<;>rfl),by repeat (first|(with_reducible first|exact HB.out|apply below_alloc|apply pw_below_drewN|apply below_drew1|refine below_set ?_ GE136.out|refine below_set ?_ GE137.out)|exact HB.out)⟩
end Go.Proofs.YtfflenbfapgilaaGreat.GRR
namespace Go.Proofs.YtfflenbfapgilaaGreat.GRR
open Go.Proofs.YtfflenbfapgilaaGreatW.PrintLast Go.Proofs.YtfflenbfapgilaaGreatW.PrintMore
attribute [local go_sem] max2_int min2_int max_two min_two max_three min_three max_four min_four
end Go.Proofs.YtfflenbfapgilaaGreat.GRR
namespace Go.Proofs.YtfflenbfapgilaaGreat.GVB
open Go.Proofs.YtfflenbfapgilaaGreatW.PrintLast Go.Proofs.YtfflenbfapgilaaGreatW.PrintMore
attribute [local go_sem] max2_int min2_int max_two min_two max_three min_three max_four min_four
def crc_Bytes.f (a0:Int):Option (List Int):=some (([(a0)%256,(a0/256)%256,(a0/65536)%256,(a0/16777216)%256]:List Int))
theorem crc_Bytes.calls (a0:Int) (r:List Int) (w:World) (h:crc_Bytes.f a0=some r):
  Calls Tryz.prog 60 #[.int .u32 a0] w fun e w'=>∃v0_:Value,e= .returned (v0_)∧Kd.R (Kd.int .u8) 5 w' w.heap.size (fun _=>True) v0_ r∧Below w.heap.size w w':=by
 have HB:=Aside0.mk (Below.refl w.heap.size w)
 have H:(some (([(a0)%256,(a0/256)%256,(a0/65536)%256,(a0/16777216)%256]:List Int)))=some r:=h
 clear h
 obtain⟨y130,hy130⟩: ∃y_:List Int,y_=(([(a0)%256,(a0/256)%256,(a0/65536)%256,(a0/16777216)%256]:List Int)):=⟨_,rfl⟩
 replace H:(some y130)=some r:=by first|(rw[hy130];with_reducible exact H)|(have H2_:=(Option.bind_some _ _).symm.trans H;rw[hy130];with_reducible exact H2_)|(have H2_:=(Option.bind_some _ _).symm.trans H;with_reducible exact H2_)|with_reducible exact H|(rw[hy130];exact H)|exact H
 have Ny130:=Aside0.mk hy130
 clear hy130
 obtain rfl:=Option.some.inj H
 go_enter Tryz.func60,Tryz.ntmps60
 go_wp2_with (first|((with_reducible refine gate_dst (N:=14) rfl ?_);refine Kd.R_lit (Kd.int .u8) _ 5 ?hg (N:=14) ?hd (xs:=([(a0)%256,(a0/256)%256,(a0/65536)%256,(a0/16777216)%256]:List Int)) (inner:=[.int .u8 ((a0)%256),.int .u8 ((a0/256)%256),.int .u8 ((a0/65536)%256),.int .u8 ((a0/16777216)%256)]) (ok:=fun _=>True) (okp:=fun _=>True) ?hr ?hp (fun _ hk=>hk) trivial (Below.refl _ _) (Nat.le_refl _) (by simp) ?_;(case hd=>rfl);(case hg=>rfl);(case hr=>first|(go_simp;done)|(go_simp;rfl));(case hp=>exact(Reps.one (show Kd.M (Kd.int .u8) _ _ _ ((a0)%256) [.int .u8 ((a0)%256)] from rfl) (Reps.one (show Kd.M (Kd.int .u8) _ _ _ ((a0/256)%256) [.int .u8 ((a0/256)%256)] from rfl) (Reps.one (show Kd.M (Kd.int .u8) _ _ _ ((a0/65536)%256) [.int .u8 ((a0/65536)%256)] from rfl) (Reps.one (show Kd.M (Kd.int .u8) _ _ _ ((a0/16777216)%256) [.int .u8 ((a0/16777216)%256)] from rfl) (Reps.none _ _))))));intro v131 w2 ho3 hb hg_ hnew_;clear hg_ hnew_;(first|rw[←Ny130.out]at ho3|(simp only[Int.reduceToNat]at ho3;rw[←Ny130.out]at ho3));have n0_:=Aside0.mk (Kd.R_lower ho3 (below_size (by repeat (first|(with_reducible first|exact HB.out|apply below_alloc|apply pw_below_drewN|apply below_drew1)|exact HB.out))));have n1_:=Aside0.mk (below_step (by repeat (first|(with_reducible first|exact HB.out|apply below_alloc|apply pw_below_drewN|apply below_drew1)|exact HB.out)) hb);clear HB;have HO132:=n0_;have HB:=n1_;clear n0_ n1_;clear hb ho3))
 go_ret
 exact⟨_,by first|rfl|(simp[errW_none,errW_some]<;>rfl)|(simp[*,errW_none,errW_some]<;>rfl),by(with_reducible repeat (first|apply Kd.R_alloc|apply Kd.R_drewN|apply Kd.R_drew));exact HO132.out,by repeat (first|(with_reducible first|exact HB.out|apply below_alloc|apply pw_below_drewN|apply below_drew1)|exact HB.out)⟩
def tephraref03_Bytes.f (a0:Int):Option (ByteArray):=some (strOfNums (([(Int.tmod a0 256)%256,((Int.tdiv a0 256)%4294967296)%256,((Int.tdiv a0 65536)%4294967296)%256,((Int.tdiv a0 16777216)%4294967296)%256]:List Int)))
theorem tephraref03_Bytes.calls (a0:Int) (r:ByteArray) (w:World) (h:tephraref03_Bytes.f a0=some r):
  Calls Tryz.prog 25 #[.int .u32 a0] w fun e w'=>e= .returned (.string r)∧Below w.heap.size w w':=by
 have HB:=Aside0.mk (Below.refl w.heap.size w)
 have H:(some (strOfNums (([(Int.tmod a0 256)%256,((Int.tdiv a0 256)%4294967296)%256,((Int.tdiv a0 65536)%4294967296)%256,((Int.tdiv a0 16777216)%4294967296)%256]:List Int))))=some r:=h
 clear h
 obtain⟨y102,hy102⟩: ∃y_:List Int,y_=(([(Int.tmod a0 256)%256,((Int.tdiv a0 256)%4294967296)%256,((Int.tdiv a0 65536)%4294967296)%256,((Int.tdiv a0 16777216)%4294967296)%256]:List Int)):=⟨_,rfl⟩
 replace H:(some (strOfNums y102))=some r:=by first|(rw[hy102];with_reducible exact H)|(have H2_:=(Option.bind_some _ _).symm.trans H;rw[hy102];with_reducible exact H2_)|(have H2_:=(Option.bind_some _ _).symm.trans H;with_reducible exact H2_)|with_reducible exact H|(rw[hy102];exact H)|exact H
 have Ny102:=Aside0.mk hy102
 clear hy102
 obtain rfl:=Option.some.inj H
 go_enter Tryz.func25,Tryz.ntmps25
 go_wp2_with (first|((with_reducible refine gate_dst (N:=17) rfl ?_);refine Kd.R_lit (Kd.int .u8) _ 5 ?hg (N:=17) ?hd (xs:=([(Int.tmod a0 256)%256,((Int.tdiv a0 256)%4294967296)%256,((Int.tdiv a0 65536)%4294967296)%256,((Int.tdiv a0 16777216)%4294967296)%256]:List Int)) (inner:=[.int .u8 ((Int.tmod a0 256)%256),.int .u8 (((Int.tdiv a0 256)%4294967296)%256),.int .u8 (((Int.tdiv a0 65536)%4294967296)%256),.int .u8 (((Int.tdiv a0 16777216)%4294967296)%256)]) (ok:=fun _=>True) (okp:=fun _=>True) ?hr ?hp (fun _ hk=>hk) trivial (Below.refl _ _) (Nat.le_refl _) (by simp) ?_;(case hd=>rfl);(case hg=>rfl);(case hr=>first|(go_simp;done)|(go_simp;rfl));(case hp=>exact(Reps.one (show Kd.M (Kd.int .u8) _ _ _ ((Int.tmod a0 256)%256) [.int .u8 ((Int.tmod a0 256)%256)] from rfl) (Reps.one (show Kd.M (Kd.int .u8) _ _ _ (((Int.tdiv a0 256)%4294967296)%256) [.int .u8 (((Int.tdiv a0 256)%4294967296)%256)] from rfl) (Reps.one (show Kd.M (Kd.int .u8) _ _ _ (((Int.tdiv a0 65536)%4294967296)%256) [.int .u8 (((Int.tdiv a0 65536)%4294967296)%256)] from rfl) (Reps.one (show Kd.M (Kd.int .u8) _ _ _ (((Int.tdiv a0 16777216)%4294967296)%256) [.int .u8 (((Int.tdiv a0 16777216)%4294967296)%256)] from rfl) (Reps.none _ _))))));intro v103 w2 ho3 hb hg_ hnew_;clear hg_ hnew_;(first|rw[←Ny102.out]at ho3|(simp only[Int.reduceToNat]at ho3;rw[←Ny102.out]at ho3));have n0_:=Aside0.mk (Kd.R_lower ho3 (below_size (by repeat (first|(with_reducible first|exact HB.out|apply below_alloc|apply pw_below_drewN|apply below_drew1)|exact HB.out))));have n1_:=Aside0.mk (below_step (by repeat (first|(with_reducible first|exact HB.out|apply below_alloc|apply pw_below_drewN|apply below_drew1)|exact HB.out)) hb);clear HB;have HO104:=n0_;have HB:=n1_;clear n0_ n1_;clear hb ho3;have hcv4:=own_string (P:=Tryz.prog) Tryz.underlying22 Tryz.underlying5 Tryz.underlying9 (Kd.own_of_R HO104.out)))
 go_ret
 exact⟨by first|rfl|(simp[errW_none,errW_some]<;>rfl)|(simp[*,errW_none,errW_some]<;>rfl),by repeat (first|(with_reducible first|exact HB.out|apply below_alloc|apply pw_below_drewN|apply below_drew1)|exact HB.out)⟩
mutual
def tephraref03_Sum.l0:Nat→ByteArray→Int→Int→Option (Int)
 | 0,_,_,_=>none
 |k+1,x0,x3,x4=>if x4<(x0.size:Int)then(tephraref03_Sum.l1 k x0 x3 x4 0)else(some ((4294967295-x3)%4294967296))
def tephraref03_Sum.l1:Nat→ByteArray→Int→Int→Int→Option (Int)
 | 0,_,_,_,_=>none
 |k+1,x0,x3,x4,x5=>if x5<8 then(if 0≤x4 then(if x4<(x0.size:Int)then(if 0≤x5 then(if (Int.tmod x3 2)=(((shr .u8 (bt x0 x4) x5)%4294967296)%2)then(tephraref03_Sum.l1 k x0 ((Int.tdiv x3 2)%4294967296) x4 (IntKind.u64.wrap (x5+1)))else(tephraref03_Sum.l1 k x0 (Go.bits .xor .u32 ((Int.tdiv x3 2)%4294967296) 3988292384) x4 (IntKind.u64.wrap (x5+1))))else(none))else(none))else(none))else(tephraref03_Sum.l0 k x0 x3 (wrap64 (x4+1)))
end
def tephraref03_Sum.f (k:Nat) (a0:ByteArray):Option (Int):=tephraref03_Sum.l0 k a0 4294967295 0
theorem tephraref03_Sum.calls (k:Nat) (a0:ByteArray) (r:Int) (w:World) (h:tephraref03_Sum.f k a0=some r):
  Calls Tryz.prog 26 #[.string a0] w fun e w'=>e= .returned (.int .u32 r)∧Drawn0 w w':=by
 have H:(tephraref03_Sum.l0 k a0 4294967295 0)=some r:=h
 clear h
 have H':=Aside0.mk H
 clear H
 go_enter Tryz.func26,Tryz.ntmps26
 go_wp2
 go_loopg [3,4] k (fun kq v3 v4 w'=>∃(x3_1:Int) (x4_1:Int),v3= .int .u32 x3_1∧v4= .int .i64 x4_1∧Aside0 (tephraref03_Sum.l0 kq a0 x3_1 x4_1=some r)∧Aside0 (kq≤k)∧Drawn0 w w')
 case atStart=>exact⟨(4294967295),(0),(by first|rfl|(simp;done)|(simp[*];done)|(simp;rw[Bool.eq_iff_iff];simp;done)),(by first|rfl|(simp;done)|(simp[*];done)|(simp;rw[Bool.eq_iff_iff];simp;done)),H',⟨Nat.le_refl _⟩,by repeat (first|exact Drawn0.refl _|apply Drawn0.step)⟩
 case round=>
  clear H'
  obtain⟨x3_1,x4_1,rfl,rfl,HA,HK1,⟨m1,rfl⟩⟩:=hrel
  cases gk with
  |zero=>exact absurd HA.out (by simp[tephraref03_Sum.l0])
  | succ k1=>
   have H:=HA.out
   clear HA
   simp only[tephraref03_Sum.l0]at H
   by_cases c2:x4_1<(a0.size:Int)
   ·rw [if_pos c2]at H
    have c2b0:decide (x4_1<(a0.size:Int))=true:=decide_eq_true c2
    clear c2
    have H':=Aside0.mk H
    clear H
    go_wp2
    go_loopg [3,5] k1 (fun kq v3 v5 w'=>∃(x3_2:Int) (x5_2:Int),v3= .int .u32 x3_2∧v5= .int .u64 x5_2∧Aside0 (tephraref03_Sum.l1 kq a0 x3_2 x4_1 x5_2=some r)∧Aside0 (kq≤k1)∧Drawn0 w w')
    case atStart=>exact⟨(x3_1),(0),(by first|rfl|(simp;done)|(simp[*];done)|(simp;rw[Bool.eq_iff_iff];simp;done)),(by first|rfl|(simp;done)|(simp[*];done)|(simp;rw[Bool.eq_iff_iff];simp;done)),H',⟨Nat.le_refl _⟩,by repeat (first|exact Drawn0.refl _|apply Drawn0.step)⟩
    case round=>
     clear H'
     try clear c2
     try clear c2b0
     try clear p2
     obtain⟨x3_2,x5_2,rfl,rfl,HA,HK2,⟨m2,rfl⟩⟩:=hrel
     cases gk with
     |zero=>exact absurd HA.out (by simp[tephraref03_Sum.l1])
     | succ k2=>
      have H:=HA.out
      clear HA
      simp only[tephraref03_Sum.l1]at H
      by_cases c3:x5_2<8
      ·rw [if_pos c3]at H
       have c3b0:decide (x5_2<8)=true:=decide_eq_true c3
       clear c3
       by_cases c4:0≤x4_1
       ·rw [if_pos c4]at H
        have c4b0:decide (0≤x4_1)=true:=decide_eq_true c4
        clear c4
        by_cases c5:x4_1<(a0.size:Int)
        ·rw [if_pos c5]at H
         have c5b0:decide (x4_1<(a0.size:Int))=true:=decide_eq_true c5
         clear c5
         by_cases c7:0≤x5_2
         ·rw [if_pos c7]at H
          have c7b0:=eq_true c7
          have c7b1:decide (0≤x5_2)=true:=decide_eq_true c7
          clear c7
          obtain⟨ji8,hji8⟩: ∃j_:Int,(shr .u8 (bt a0 x4_1) x5_2)=j_:=⟨_,rfl⟩
          replace H:(if (Int.tmod x3_2 2)=(((ji8)%4294967296)%2)then(tephraref03_Sum.l1 k2 a0 ((Int.tdiv x3_2 2)%4294967296) x4_1 (IntKind.u64.wrap (x5_2+1)))else(tephraref03_Sum.l1 k2 a0 (Go.bits .xor .u32 ((Int.tdiv x3_2 2)%4294967296) 3988292384) x4_1 (IntKind.u64.wrap (x5_2+1))))=some r:=by first|(rw[hji8]at H;exact H)|(simp only[hji8]at H ⊢;exact H)
          have hji8_:((bt a0 x4_1)/2^min x5_2.toNat 8)=ji8:=hji8
          have hji8z:x5_2≤8→((bt a0 x4_1)/2^x5_2.toNat)=ji8:=shr_small hji8
          by_cases c9:(Int.tmod x3_2 2)=(((ji8)%4294967296)%2)
          ·rw[if_pos c9]at H
           have c9b0:((Int.tmod x3_2 2)==(((ji8)%4294967296)%2))=true:=beq_iff_eq.mpr c9
           have c9b1:((Int.tmod x3_2 2) !=(((ji8)%4294967296)%2))=false:=bne_eq_false_iff_eq.mpr c9
           clear c9
           have H':=Aside0.mk H
           clear H
           have p6:0≤(x4_1:Int):=of_decide_eq_true (by first|(with_reducible assumption)|assumption)
           have q6:x4_1<(a0.size:Int):=of_decide_eq_true (by first|(with_reducible assumption)|assumption)
           have hx6:=bt_at a0 x4_1
           replace p6:=eq_true p6
           replace q6:=eq_true q6
           go_wp2
           go_roundg k2
           case measure=>have:=HK1.out;have:=HK2.out;omega
           case rel=>exact⟨((Int.tdiv x3_2 2)%4294967296),(IntKind.u64.wrap (x5_2+1)),(by first|rfl|(simp;done)|(simp[*];done)|(simp;rw[Bool.eq_iff_iff];simp;done)),(by first|rfl|(simp;done)|(simp[*];done)|(simp;rw[Bool.eq_iff_iff];simp;done)),H',⟨by have:=HK1.out;have:=HK2.out;omega⟩,by repeat (first|exact Drawn0.refl _|apply Drawn0.step)⟩
          ·rw[if_neg c9]at H
           have c9b0:((Int.tmod x3_2 2)==(((ji8)%4294967296)%2))=false:=beq_eq_false_iff_ne.mpr c9
           have c9b1:((Int.tmod x3_2 2) !=(((ji8)%4294967296)%2))=true:=bne_iff_ne.mpr c9
           have H':=Aside0.mk H
           clear H
           have p6:0≤(x4_1:Int):=of_decide_eq_true (by first|(with_reducible assumption)|assumption)
           have q6:x4_1<(a0.size:Int):=of_decide_eq_true (by first|(with_reducible assumption)|assumption)
           have hx6:=bt_at a0 x4_1
           replace p6:=eq_true p6
           replace q6:=eq_true q6
           go_wp2
           go_roundg k2
           case measure=>have:=HK1.out;have:=HK2.out;omega
           case rel=>exact⟨(Go.bits .xor .u32 ((Int.tdiv x3_2 2)%4294967296) 3988292384),(IntKind.u64.wrap (x5_2+1)),(by first|rfl|(simp;done)|(simp[*];done)|(simp;rw[Bool.eq_iff_iff];simp;done)),(by first|rfl|(simp;done)|(simp[*];done)|(simp;rw[Bool.eq_iff_iff];simp;done)),H',⟨by have:=HK1.out;have:=HK2.out;omega⟩,by repeat (first|exact Drawn0.refl _|apply Drawn0.step)⟩
         ·rw[if_neg c7]at H
          exact absurd H (by simp)
        ·rw[if_neg c5]at H
         exact absurd H (by simp)
       ·rw[if_neg c4]at H
        exact absurd H (by simp)
      ·rw[if_neg c3]at H
       have c3b0:decide (x5_2<8)=false:=decide_eq_false c3
       clear c3
       have H':=Aside0.mk H
       clear H
       go_wp2
       go_roundg k2
       case measure=>have:=HK1.out;have:=HK2.out;omega
       case rel=>exact⟨(x3_2),(wrap64 (x4_1+1)),(by first|rfl|(simp;done)|(simp[*];done)|(simp;rw[Bool.eq_iff_iff];simp;done)),(by first|rfl|(simp;done)|(simp[*];done)|(simp;rw[Bool.eq_iff_iff];simp;done)),H',⟨by have:=HK1.out;have:=HK2.out;omega⟩,by repeat (first|exact Drawn0.refl _|apply Drawn0.step)⟩
   ·rw[if_neg c2]at H
    have c2b0:decide (x4_1<(a0.size:Int))=false:=decide_eq_false c2
    clear c2
    obtain rfl:=Option.some.inj H
    go_wp2
    go_ret
    exact⟨by first|rfl|(simp;done)|(simp[*];done),by repeat (first|exact Drawn0.refl _|apply Drawn0.step)⟩
mutual
def crc_Read.j0:Nat→List Int→Int→Bool→Option (Int×Bool)
 | 0,_,_,_=>none
 |k+1,x0,x1,x22=>if x22=true then(some (0,false))else(crc_Read.l0 k x0 x1 0 3)
def crc_Read.l0:Nat→List Int→Int→Int→Int→Option (Int×Bool)
 | 0,_,_,_,_=>none
 |k+1,x0,x1,x6,x7=>if x7≥0 then(if 0≤(wrap64 (x1+x7))then(if (wrap64 (x1+x7))<(x0.length:Int)then(crc_Read.l0 k x0 x1 (Go.bits .or .u32 ((x6*256)%4294967296) ((rd x0 (wrap64 (x1+x7)))%4294967296)) (wrap64 (x7-1)))else(none))else(none))else(some (x6,true))
end
def crc_Read.f (k:Nat) (l0:List Int) (a1:Int):Option (Int×Bool):=if a1<0 then(crc_Read.j0 k l0 a1 true)else(if a1>(l0.length:Int)then(crc_Read.j0 k l0 a1 true)else(crc_Read.j0 k l0 a1 (decide ((wrap64 ((l0.length:Int)-a1))<4))))
theorem crc_Read.calls (k:Nat) (A0:Option Addr) (c0:Nat) (l0:List Int) (a1:Int) (r1:Int) (r2:Bool) (w:World) (hr0:Kd.C (Kd.int .u8) w A0 l0.length l0) (hc0:l0.length≤c0) (h:crc_Read.f k l0 a1=some (r1,r2)):
  Calls Tryz.prog 41 #[.slice A0 l0.length c0,.int .i64 a1] w fun e w'=>e= .returned (.tuple #[.int .u32 r1,.bool r2])∧Drawn0 w w':=by
 have HR0:=Aside0.mk hr0
 have HC0:=Aside0.mk hc0
 clear hr0 hc0
 have H:(if a1<0 then(crc_Read.j0 k l0 a1 true)else(if a1>(l0.length:Int)then(crc_Read.j0 k l0 a1 true)else(crc_Read.j0 k l0 a1 (decide ((wrap64 ((l0.length:Int)-a1))<4)))))=some (r1,r2):=h
 clear h
 have HC3:=Aside0.mk H
 clear H
 go_enter Tryz.func41,Tryz.ntmps41
 go_upto_region 1 with (fail)
 go_cut [22] (fun v22 wc=>∃(kq:Nat) (x22_2:Bool),v22= .bool x22_2∧Aside0 (crc_Read.j0 kq l0 a1 x22_2=some (r1,r2))∧Aside0 (kq≤k)∧Drawn0 w wc)
 case first=>
  have H:=HC3.out
  clear HC3
  by_cases c4:a1<0
  ·rw[if_pos c4]at H
   have c4b0:decide (a1<0)=true:=decide_eq_true c4
   clear c4
   (first|rw[c4b0]|(simp only[i64_w,i32_w];rw[c4b0])|skip)
   have H':=Aside0.mk H
   clear H
   go_wp2
   go_meet
   case rel=>exact⟨_,(true),(by first|rfl|(simp;done)|(simp[*];done)|(simp;rw[Bool.eq_iff_iff];simp;done)),H',⟨by first|omega|exact Nat.le_refl _⟩,by repeat (first|exact Drawn0.refl _|apply Drawn0.step)⟩
  ·rw [if_neg c4]at H
   have c4b0:decide (a1<0)=false:=decide_eq_false c4
   clear c4
   (first|rw[c4b0]|(simp only[i64_w,i32_w];rw[c4b0])|skip)
   by_cases c5:a1>(l0.length:Int)
   ·rw[if_pos c5]at H
    have c5b0:decide ((l0.length:Int)<a1)=true:=decide_eq_true c5
    clear c5
    have H':=Aside0.mk H
    clear H
    go_wp2
    go_meet
    case rel=>exact⟨_,(true),(by first|rfl|(simp;done)|(simp[*];done)|(simp;rw[Bool.eq_iff_iff];simp;done)),H',⟨by first|omega|exact Nat.le_refl _⟩,by repeat (first|exact Drawn0.refl _|apply Drawn0.step)⟩
   ·rw[if_neg c5]at H
    have c5b0:decide ((l0.length:Int)<a1)=false:=decide_eq_false c5
    clear c5
    have H':=Aside0.mk H
    clear H
    go_wp2
    go_meet
    case rel=>exact⟨_,(decide ((wrap64 ((l0.length:Int)-a1))<4)),(by first|rfl|(simp;done)|(simp[*];done)|(simp;rw[Bool.eq_iff_iff];simp;done)),H',⟨by first|omega|exact Nat.le_refl _⟩,by repeat (first|exact Drawn0.refl _|apply Drawn0.step)⟩
 case rest=>
  clear HC3
  try clear p2
  try clear c4
  try clear c4b0
  try clear c5
  try clear c5b0
  obtain⟨kq,x22_2,rfl,HA,HJ2,⟨mc2,rfl⟩⟩:=hcut
  cases kq with
  |zero=>exact absurd HA.out (by simp[crc_Read.j0])
  | succ kj2=>
   have H:=HA.out
   clear HA
   simp only[crc_Read.j0]at H
   by_cases c6:x22_2=true
   ·subst c6
    have H1:(some (0,false))=some (r1,r2):=by rw[if_pos rfl]at H;exact H
    clear H
    have H:=H1
    clear H1
    simp only[Option.some.injEq,Prod.mk.injEq]at H
    obtain⟨rfl,rfl⟩:=H
    go_wp2
    go_ret2
    exact⟨by first|rfl|(simp;done)|(simp[*];done),by repeat (first|exact Drawn0.refl _|apply Drawn0.step)⟩
   ·replace c6:=Bool.eq_false_iff.mpr c6
    subst c6
    have H1:(crc_Read.l0 kj2 l0 a1 0 3)=some (r1,r2):=by rw[if_neg (show ¬(false=true)by decide)]at H;exact H
    clear H
    have H:=H1
    clear H1
    have H':=Aside0.mk H
    clear H
    go_wp2
    go_loopg [6,7] kj2 (fun kq v6 v7 w'=>∃(x6_2:Int) (x7_2:Int),v6= .int .u32 x6_2∧v7= .int .i64 x7_2∧Aside0 (crc_Read.l0 kq l0 a1 x6_2 x7_2=some (r1,r2))∧Aside0 (kq≤kj2)∧Drawn0 w w')
    case atStart=>exact⟨(0),(3),(by first|rfl|(simp;done)|(simp[*];done)|(simp;rw[Bool.eq_iff_iff];simp;done)),(by first|rfl|(simp;done)|(simp[*];done)|(simp;rw[Bool.eq_iff_iff];simp;done)),H',⟨Nat.le_refl _⟩,by repeat (first|exact Drawn0.refl _|apply Drawn0.step)⟩
    case round=>
     clear H'
     try clear c2
     try clear p2
     try clear c4
     try clear c4b0
     try clear c5
     try clear c5b0
     try clear c6
     try clear p6
     try clear p2
     obtain⟨x6_2,x7_2,rfl,rfl,HA,HK2,⟨m2,rfl⟩⟩:=hrel
     cases gk with
     |zero=>exact absurd HA.out (by simp[crc_Read.l0])
     | succ k2=>
      have H:=HA.out
      clear HA
      simp only[crc_Read.l0]at H
      by_cases c7:x7_2≥0
      ·rw [if_pos c7]at H
       have c7b0:decide (0≤x7_2)=true:=decide_eq_true c7
       clear c7
       obtain⟨ji8,hji8⟩: ∃j_:Int,(wrap64 (a1+x7_2))=j_:=⟨_,rfl⟩
       replace H:(if 0≤(ji8)then(if (ji8)<(l0.length:Int)then(crc_Read.l0 k2 l0 a1 (Go.bits .or .u32 ((x6_2*256)%4294967296) ((rd l0 (ji8))%4294967296)) (wrap64 (x7_2-1)))else(none))else(none))=some (r1,r2):=by first|(rw[hji8]at H;exact H)|(simp only[hji8]at H ⊢;exact H)
       have hji8w:(IntKind.i64.wrap (a1+x7_2))=ji8:=(i64_w _).trans hji8
       by_cases c9:0≤(ji8)
       ·rw [if_pos c9]at H
        have c9b0:decide (0≤(ji8))=true:=decide_eq_true c9
        clear c9
        by_cases c10:(ji8)<(l0.length:Int)
        ·rw[if_pos c10]at H
         have c10b0:decide ((ji8)<(l0.length:Int))=true:=decide_eq_true c10
         clear c10
         have H':=Aside0.mk H
         clear H
         have p133:0≤((ji8):Int):=of_decide_eq_true (by first|(with_reducible assumption)|assumption)
         have q133:(ji8)<(l0.length:Int):=of_decide_eq_true (by first|(with_reducible assumption)|assumption)
         obtain⟨ad133,e133,hx133_0⟩:=Kd.at_int HR0.out (ji8) p133 q133
         cases e133
         replace p133:=eq_true p133
         replace q133:=eq_true q133
         go_wp2
         go_roundg k2
         case measure=>have:=HJ2.out;have:=HK2.out;omega
         case rel=>exact⟨(Go.bits .or .u32 ((x6_2*256)%4294967296) ((rd l0 (ji8))%4294967296)),(wrap64 (x7_2-1)),(by first|rfl|(simp;done)|(simp only[←hji8]<;>(first|rfl|simp))|(simp[*];done)),(by first|rfl|(simp;done)|(simp[*];done)|(simp;rw[Bool.eq_iff_iff];simp;done)),H',⟨by have:=HJ2.out;have:=HK2.out;omega⟩,by repeat (first|exact Drawn0.refl _|apply Drawn0.step)⟩
        ·rw[if_neg c10]at H
         exact absurd H (by simp)
       ·rw[if_neg c9]at H
        exact absurd H (by simp)
      ·rw[if_neg c7]at H
       have c7b0:decide (0≤x7_2)=false:=decide_eq_false c7
       clear c7
       simp only[Option.some.injEq,Prod.mk.injEq]at H
       obtain⟨rfl,rfl⟩:=H
       go_wp2
       go_ret2
       exact⟨by first|rfl|(simp;done)|(simp[*];done),by repeat (first|exact Drawn0.refl _|apply Drawn0.step)⟩
end Go.Proofs.YtfflenbfapgilaaGreat.GVB
namespace Go.Proofs.YtfflenbfapgilaaGreat.GVB
open Go.Proofs.YtfflenbfapgilaaGreatW.PrintLast Go.Proofs.YtfflenbfapgilaaGreatW.PrintMore
attribute [local go_sem] max2_int min2_int max_two min_two max_three min_three max_four min_four
end Go.Proofs.YtfflenbfapgilaaGreat.GVB
namespace Go.Proofs.YtfflenbfapgilaaGreat.GVB
open Go.Proofs.YtfflenbfapgilaaGreatW.PrintLast Go.Proofs.YtfflenbfapgilaaGreatW.PrintMore
attribute [local go_sem] max2_int min2_int max_two min_two max_three min_three max_four min_four
end Go.Proofs.YtfflenbfapgilaaGreat.GVB
