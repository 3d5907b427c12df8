/- Texts laid as one by shake.py, cut to what the claim needs: WkC, SchX. (Names that begin with W and the print's groups (G..x, G..z): laid by the kit's print, cut.) -/
import Derived.Test.YtmeocdkiecknkaaZGs
import Derived.Test.YtmeocdkiecknkaaZGl
set_option linter.unusedVariables false
set_option linter.unusedSimpArgs false
namespace Go.Proofs.Ytmeocdkiecknkaa
open Go.RowKit Go.Proofs.YtmeocdkiecknkaaW.PrintWords Go.Proofs.Ytmeocdkiecknkaa.GRR
theorem heap_put3 (w:World) {g k:Nat} (h:k≠g) (v0 v1 v2:Value):(((w.setCell ⟨g,0,none⟩ v0).setCell ⟨g,1,none⟩ v1).setCell ⟨g,2,none⟩ v2).heap[k]? =w.heap[k]? :=by
 rw[Below.heap_setCell _ _ _ _ h,Below.heap_setCell _ _ _ _ h,Below.heap_setCell _ _ _ _ h]
theorem wf6 {w:World} {g:Nat} {t:TypeId} {v0 v1 v2:Value} (h:w.heap[g]? =some (.cells #[v0,v1,v2] t (0,0))):w.cell? ⟨g,0,none⟩=some v0∧w.frozen? ⟨g,0,none⟩=false∧w.cell? ⟨g,1,none⟩=some v1∧w.frozen? ⟨g,1,none⟩=false∧w.cell? ⟨g,2,none⟩=some v2∧w.frozen? ⟨g,2,none⟩=false:=
 ⟨(blk_cell h 0).trans rfl,blk_frozen h 0,(blk_cell h 1).trans rfl,blk_frozen h 1,(blk_cell h 2).trans rfl,blk_frozen h 2⟩
theorem wf3 {w:World} {g:Nat} {t:TypeId} {v0 v1 v2:Value} (h:w.heap[g]? =some (.cells #[v0,v1,v2] t (0,0))):w.cell? ⟨g,0,none⟩=some v0∧w.cell? ⟨g,1,none⟩=some v1∧w.cell? ⟨g,2,none⟩=some v2:=
 ⟨(blk_cell h 0).trans rfl,(blk_cell h 1).trans rfl,(blk_cell h 2).trans rfl⟩
theorem pl_nonneg {a e:Int} (ha:0≤a):decide (0≤pl a e)=decide (e=0):=by
 unfold pl
 by_cases h:e=0
 ·rw[if_pos h,decide_eq_true ha,decide_eq_true h]
 ·rw[if_neg h,decide_eq_false (by omega),decide_eq_false h]
set_option maxRecDepth 100000 in
set_option maxHeartbeats 4000000 in
theorem wdeps_lo (v:Int) (hv:v<3) {l:List Int} (hb: ∀x∈l,0≤x∧x<256) (hl:l.length≤1000000) (a e:Int) (ha:0≤a∧a≤l.length) (A:Option Addr) (c:Nat) (T:List ByteArray) (hT:T.length≤1000000) (N:Int) (hN:0≤N∧N<18446744073709551616) (w:World) (hC:Kd.C Kd.string w A T.length T):
  Calls Try.prog 105 #[.agg #[.string (strOfNums l), .int .i64 (pl a e), .slice A T.length c], .int .i64 v, .int .u64 N] w fun en w'=>∃dv,en= .returned (.tuple #[dv, .agg #[.string (strOfNums l), .int .i64 (pl (depsL v T l (l.length+2) N a e []).2.1 (depsL v T l (l.length+2) N a e []).2.2), .slice A T.length c]])∧Kd.R k109 109 w' w.heap.size (fun _=>True) dv (depsL v T l (l.length+2) N a e []).1∧Below w.heap.size w w':=by
 have HNU:=Lib.hid (fun(a e:Int) (W:World)=>wnum_is hb hl a e A T.length c W)
 have HNM:=Lib.hid (fun(a e:Int) (W:World) (h:Below w.heap.size w W)=>wname_is v hb hl a e A c T hT W (Kd.C_below hC h))
 have HKN:=Lib.hid (fun(a e m:Int) (hm:0≤m∧m<18446744073709551616) (W:World) (h:Below w.heap.size w W)=>wknown_is (strOfNums l) a e A c T hT m hm W (Kd.C_below hC h))
 obtain⟨s,hs⟩: ∃s,strOfNums l=s:=⟨_,rfl⟩
 rw[hs]at HNU HNM HKN ⊢
 obtain⟨F,hF⟩: ∃F,depsL v T l (l.length+2) N a e []=F:=⟨_,rfl⟩
 rw[hF]
 have HF:=Lib.hid hF
 have HBY:=Lib.hid hb
 clear hC hF hs hb
 obtain⟨w1,hw1⟩: ∃w1,((w.alloc (.cells #[.string s, .int .i64 (pl a e), .slice A T.length c] 167)).alloc (.cells #[.string ⟨#[]⟩, .int .i64 0, .slice none 0 0] 167)).alloc (.cells #[] 109)=w1:=⟨_,rfl⟩
 have hb1:Below w.heap.size w w1:=by rw[←hw1];exact(((Below.refl _ _).alloc (Nat.le_refl _) _).alloc (by rw[heap_size_alloc];omega) _).alloc (by rw[heap_size_alloc,heap_size_alloc];omega) _
 have hk3:w1.heap[w.heap.size]? =some (.cells #[.string s, .int .i64 (pl a e), .slice A T.length c] 167 (0,0)):=by rw[←hw1];exact blk_alloc (blk_alloc (heap_new _ _) _) _
 have hk7:w1.heap[w.heap.size+1]? =some (.cells #[.string ⟨#[]⟩, .int .i64 0, .slice none 0 0] 167 (0,0)):=by
  rw[←hw1]
  have:=heap_new (w.alloc (.cells #[.string s, .int .i64 (pl a e), .slice A T.length c] 167)) (.cells #[.string ⟨#[]⟩, .int .i64 0, .slice none 0 0] 167)
  rw[heap_size_alloc]at this
  exact blk_alloc this _
 have hk8:w1.heap[w.heap.size+2]? =some (.cells #[] 109 (0,0)):=by
  rw[←hw1]
  have:=heap_new ((w.alloc (.cells #[.string s, .int .i64 (pl a e), .slice A T.length c] 167)).alloc (.cells #[.string ⟨#[]⟩, .int .i64 0, .slice none 0 0] 167)) (.cells #[] 109)
  rwa [heap_size_alloc,heap_size_alloc]at this
 obtain⟨b3,hbb⟩: ∃b,w.heap.size=b:=⟨_,rfl⟩
 rw[hbb]at hk3 hk7 hk8
 have hz8:Kd.R k109 109 w1 (b3+2) (fun _=>True) (.slice (some ⟨b3+2,0,none⟩) 0 0) []:=R_empty k109 w1 (b3+2) (b3+2) 109 (fun _=>True) hk8 (Nat.le_refl _) trivial
 have HB1:=Lib.hid hb1
 have HW1:=Lib.hid hw1
 have HK3:=Lib.hid hk3
 have HK7:=Lib.hid hk7
 have HZ8:=Lib.hid hz8
 have HBB:=Lib.hid hbb
 have HU:=Lib.hid Try.underlying167
 clear hb1 hk3 hk7 hk8 hz8 hbb hw1
 go_enter Try.func105,Try.ntmps105
 go_wp2_with fail
 rw[HW1.out,HBB.out]
 go_loopw [8,9] (fun u8 u9 wr=>∃(i:Nat) (acc:List S109) (a e:Int),u9= .int .u64 (i:Int)∧0≤a∧a≤(l.length:Int)∧(i:Int)≤N∧(i:Int)≤a+(if e=0 then 0 else 1)∧acc.length=i∧Hid (Kd.R k109 109 wr (b3+2) (fun _=>True) u8 acc)∧Hid (wr.heap[b3]? =some (.cells #[.string s, .int .i64 (pl a e), .slice A T.length c] 167 (0,0)))∧Hid (wr.heap[b3+1]? =some (.cells #[.string ⟨#[]⟩, .int .i64 0, .slice none 0 0] 167 (0,0)))∧Hid (Below w.heap.size w wr)∧Hid (depsL v T l (l.length+2-i) (N-i) a e acc=F)) (fun _ u _=>l.length+2-(intOf u).toNat)
 case atStart=>exact⟨0,[],a,e,rfl,ha.1,ha.2,hN.1,by split<;>omega,rfl,HZ8,HK3,HK7,HB1,Lib.hid (by simpa using HF.out)⟩
 case round=>
  clear HZ8 HK3 HK7
  obtain⟨i,acc,a,e,rfl,ha0,ha1,hiN,hia,hacc,HR,HK,HK7,HB,HD⟩:=hrel
  obtain⟨Ad,cd,rfl⟩:=Kd.R_slice HR.out
  have hk:=HK.out
  have HACC:=Lib.hid hacc
  have hal:acc.length≤1000001:=by rw[hacc];split at hia<;>omega
  clear hacc
  have p0:wr.cell? ⟨b3,0,none⟩=some (.string s):=(blk_cell hk 0).trans rfl
  have p1:wr.cell? ⟨b3,1,none⟩=some (.int .i64 (pl a e)):=(blk_cell hk 1).trans rfl
  have p2:wr.cell? ⟨b3,2,none⟩=some (.slice A T.length c):=(blk_cell hk 2).trans rfl
  have pf1:=blk_frozen hk 1
  have HPN:=Lib.hid (pl_nonneg (e:=e) ha0)
  by_cases hlt:(i:Int)<N
  ·have d1:decide ((i:Int)<N)=true:=decide_eq_true hlt
   by_cases he:e=0
   ·have hpn:=HPN.out
    rw[decide_eq_true he]at hpn
    have hil:i≤l.length:=by rw[if_pos he]at hia;omega
    subst he
    have hdl:=HD.out
    obtain⟨f,hf⟩: ∃f,l.length+2-i=f+1:=⟨l.length+1-i,by omega⟩
    rw[hf,depsL,if_pos ⟨by omega,rfl⟩]at hdl
    have hpd:=depR_place v T l HBY.out a 0 ⟨ha0,ha1⟩
    have hdr:depR v T l a 0=(((textR v T l a 0).1,false),(textR v T l a 0).2):=by unfold depR;rw[if_pos hv]
    have HNMa:=Lib.hid (HNM.out a 0)
    rw[hdr]at hdl hpd
    generalize textR v T l a 0=TX at*
    obtain⟨sd,a7,e7⟩:=TX
    obtain⟨od,hod⟩: ∃b,b=false:=⟨_,rfl⟩
    dsimp only at hdl hpd HNMa
    rw[←hod]at hdl
    have HOD:=Lib.hid hod
    clear hdr hod
    have hps:=cuNum_step l HBY.out a7 e7 ⟨by omega,hpd.2⟩
    have HNH:=Lib.hid (HNU.out a7 e7)
    have hnr:=cuNum_rg (a:=a7) (e:=e7) HBY.out
    generalize cuNum l a7 e7=NH at*
    obtain⟨hh,a8,e8⟩:=NH
    dsimp only at hdl hps HNH hnr
    have HDL:=Lib.hid hdl
    have HPS:=Lib.hid (show a≤a8∧a8≤(l.length:Int)∧(e8=0→a+1≤a8)∧0≤a8 from⟨by omega,hps.1,fun h=>by have:=(hps.2.2.1 h).1;omega,by omega⟩)
    have hwi:IntKind.u64.wrap ((i:Int)+1)=(i:Int)+1:=by rw[IntKind.wrap_u64];omega
    have hpl:decide (pl a 0≥0)=true:=hpn
    obtain⟨wd,hwd⟩: ∃x,wr.alloc (.cells #[.string ⟨#[]⟩, .int .u64 0, .bool false] 109)=x:=⟨_,rfl⟩
    have hbd:Below wr.heap.size wr wd:=by rw[←hwd];exact(Below.refl _ _).alloc (Nat.le_refl _) _
    have hkd:wd.heap[wr.heap.size]? =some (.cells #[.string ⟨#[]⟩, .int .u64 0, .bool false] 109 (0,0)):=by rw[←hwd];exact heap_new _ _
    obtain⟨bd,hbde⟩: ∃b,wr.heap.size=b:=⟨_,rfl⟩
    rw[hbde]at hkd
    have hb3d:b3+1<bd:=by have:=blk_lt HK7.out;omega
    have HWD:=Lib.hid hwd
    have HBDE:=Lib.hid hbde
    have HBD:=Lib.hid (HB.out.trans (hbd.mono HB.out.size))
    have HKD:=Lib.hid hkd
    have HK3:=Lib.hid (blk_below hk hbd)
    have HK7d:=Lib.hid (blk_below HK7.out hbd)
    have HRd:=Lib.hid (Kd.R_mono (Kd.R_bound (Kd.R_below HR.out hbd)) (fun k hk=>hk.2.1))
    have HRD:=Lib.hid (Kd.R_mono (ok':=fun k=>k<bd) (Kd.R_below (Kd.R_bound HR.out) hbd) (fun k hk=>by have:=hk.2.2.1;omega))
    have z0:(wr.alloc (.cells #[.string ⟨#[]⟩, .int .u64 0, .bool false] 109)).cell? ⟨b3,0,none⟩=some (.string s):=by rw[hwd];exact(blk_cell HK3.out 0).trans rfl
    have z1:(wr.alloc (.cells #[.string ⟨#[]⟩, .int .u64 0, .bool false] 109)).cell? ⟨b3,1,none⟩=some (.int .i64 (pl a 0)):=by rw[hwd];exact(blk_cell HK3.out 1).trans rfl
    have z2:(wr.alloc (.cells #[.string ⟨#[]⟩, .int .u64 0, .bool false] 109)).cell? ⟨b3,2,none⟩=some (.slice A T.length c):=by rw[hwd];exact(blk_cell HK3.out 2).trans rfl
    clear hk hbd hkd hwd hbde hdl hps hpd hnr HD HRd
    have dv3:decide (v<3)=true:=decide_eq_true hv
    have hod:=HOD.out
    subst hod
    go_wp2_with fail
    clear z0 z1 z2 p0 p1 p2 pf1
    rw[HWD.out,HBDE.out]
    refine(HNMa.out wd HBD.out).mono ?_
    rintro en w5 ⟨rfl,hb5⟩
    have hk35:=blk_below HK3.out hb5
    have hkd5:=blk_below HKD.out hb5
    have hk75:=blk_below HK7d.out hb5
    have hR5:=Kd.R_below HRD.out hb5
    have hB5:=HBD.out.trans (hb5.mono HBD.out.size)
    have hk36:(w5.setCell ⟨bd,0,none⟩ (.string sd)).heap[b3]? =some (.cells #[.string s, .int .i64 (pl a 0), .slice A T.length c] 167 (0,0)):=(Below.heap_setCell _ _ _ _ (by show b3≠bd;omega)).trans hk35
    have g0:w5.cell? ⟨bd,0,none⟩=some (.string ⟨#[]⟩):=(blk_cell hkd5 0).trans rfl
    have gf0:=blk_frozen hkd5 0
    obtain⟨x0,xf0,x1,xf1,x2,xf2⟩:=wf6 hk36
    obtain⟨w6,hw6⟩: ∃x,((((w5.setCell ⟨bd,0,none⟩ (.string sd)).setCell ⟨b3,0,none⟩ (.string s)).setCell ⟨b3,1,none⟩ (.int .i64 (pl a7 e7))).setCell ⟨b3,2,none⟩ (.slice A T.length c))=x:=⟨_,rfl⟩
    have hk37:w6.heap[b3]? =some (.cells #[.string s, .int .i64 (pl a7 e7), .slice A T.length c] 167 (0,0)):=by rw[←hw6];exact blk_put3 hk36 _ _ _
    have hkd6:w6.heap[bd]? =some (.cells #[.string sd, .int .u64 0, .bool false] 109 (0,0)):=by
     rw[←hw6,heap_put3 _ (by omega)];exact blk_put (cs':=#[.string sd, .int .u64 0, .bool false]) hkd5 0 (.string sd) rfl
    have hk76:w6.heap[b3+1]? =some (.cells #[.string ⟨#[]⟩, .int .i64 0, .slice none 0 0] 167 (0,0)):=by
     rw[←hw6,heap_put3 _ (by omega)];exact(Below.heap_setCell _ _ _ _ (by show b3+1≠bd;omega)).trans hk75
    have hR6:Kd.R k109 109 w6 (b3+2) (fun k=>k<bd) (.slice Ad acc.length cd) acc:=by
     refine Kd.R_mono (Kd.R_step (Kd.R_bound hR5) (fun k hk hlt=> ?_)) (fun k hk=>hk.1)
     have h1:=hk.1
     have h2:=hk.2.1
     rw[←hw6,heap_put3 _ (by omega)]
     exact Below.heap_setCell _ _ _ _ (by show k≠bd;omega)
    have hB6:Below w.heap.size w w6:=by
     rw[←hw6]
     have:=HBB.out
     exact below_put3 (hB5.setCell (p:=⟨bd,0,none⟩) (by show w.heap.size≤bd;omega) _) (by omega) _ _ _
    have HW6:=Lib.hid hw6
    have HK36:=Lib.hid hk37
    have HKD6:=Lib.hid hkd6
    have HK76:=Lib.hid hk76
    have HR6:=Lib.hid hR6
    have HB6:=Lib.hid hB6
    clear hb5 hk35 hkd5 hk75 hR5 hB5 hk36 hw6 hk37 hkd6 hk76 hR6 hB6
    go_wp2_with fail
    clear g0 gf0 x0 xf0 x1 xf1 x2 xf2
    rw[HW6.out]
    refine(HNH.out w6).mono ?_
    rintro en w7 ⟨rfl,hb7⟩
    have hk37:=blk_below HK36.out hb7
    have hkd7:=blk_below HKD6.out hb7
    have hk77:=blk_below HK76.out hb7
    have HR7:=Lib.hid (Kd.R_below HR6.out hb7)
    have HB7:=Lib.hid (HB6.out.trans (hb7.mono HB6.out.size))
    have hk38':(w7.setCell ⟨bd,1,none⟩ (.int .u64 hh)).heap[b3]? =some (.cells #[.string s, .int .i64 (pl a7 e7), .slice A T.length c] 167 (0,0)):=(Below.heap_setCell _ _ _ _ (by show b3≠bd;omega)).trans hk37
    obtain⟨x0,xf0,x1,xf1,x2,xf2⟩:=wf6 hk38'
    clear hk38'
    have hkx:(w7.setCell ⟨bd,1,none⟩ (.int .u64 hh)).heap[bd]? =some (.cells #[.string sd, .int .u64 hh, .bool false] 109 (0,0)):=blk_put (cs':=#[.string sd, .int .u64 hh, .bool false]) hkd7 1 (.int .u64 hh) rfl
    obtain⟨w8,hw8⟩: ∃x,((((w7.setCell ⟨bd,1,none⟩ (.int .u64 hh)).setCell ⟨b3,0,none⟩ (.string s)).setCell ⟨b3,1,none⟩ (.int .i64 (pl a8 e8))).setCell ⟨b3,2,none⟩ (.slice A T.length c))=x:=⟨_,rfl⟩
    have hk8:w8.heap[bd]? =some (.cells #[.string sd, .int .u64 hh, .bool false] 109 (0,0)):=by rw[←hw8,heap_put3 _ (by omega)];exact hkx
    have hk38:w8.heap[b3]? =some (.cells #[.string s, .int .i64 (pl a8 e8), .slice A T.length c] 167 (0,0)):=by
     rw[←hw8];exact blk_put3 ((Below.heap_setCell _ _ _ _ (by show b3≠bd;omega)).trans hk37) _ _ _
    have hk78:w8.heap[b3+1]? =some (.cells #[.string ⟨#[]⟩, .int .i64 0, .slice none 0 0] 167 (0,0)):=by
     rw[←hw8,heap_put3 _ (by omega)];exact(Below.heap_setCell _ _ _ _ (by show b3+1≠bd;omega)).trans hk77
    have hR8:Kd.R k109 109 w8 (b3+2) (fun _=>True) (.slice Ad acc.length cd) acc:=by
     refine Kd.R_mono (Kd.R_step (Kd.R_bound HR7.out) (fun k hk hlt=> ?_)) (fun _ _=>trivial)
     have h1:=hk.1
     have h2:=hk.2.1
     rw[←hw8,heap_put3 _ (by omega)]
     exact Below.heap_setCell _ _ _ _ (by show k≠bd;omega)
    have hB8:Below w.heap.size w w8:=by
     rw[←hw8]
     have:=HBB.out
     exact below_put3 (HB7.out.setCell (p:=⟨bd,1,none⟩) (by show w.heap.size≤bd;omega) _) (by omega) _ _ _
    have y0:((((w7.setCell ⟨bd,1,none⟩ (.int .u64 hh)).setCell ⟨b3,0,none⟩ (.string s)).setCell ⟨b3,1,none⟩ (.int .i64 (pl a8 e8))).setCell ⟨b3,2,none⟩ (.slice A T.length c)).cell? ⟨bd,0,none⟩=some (.string sd):=by rw[hw8];exact(blk_cell hk8 0).trans rfl
    have y1:((((w7.setCell ⟨bd,1,none⟩ (.int .u64 hh)).setCell ⟨b3,0,none⟩ (.string s)).setCell ⟨b3,1,none⟩ (.int .i64 (pl a8 e8))).setCell ⟨b3,2,none⟩ (.slice A T.length c)).cell? ⟨bd,1,none⟩=some (.int .u64 hh):=by rw[hw8];exact(blk_cell hk8 1).trans rfl
    have y2:((((w7.setCell ⟨bd,1,none⟩ (.int .u64 hh)).setCell ⟨b3,0,none⟩ (.string s)).setCell ⟨b3,1,none⟩ (.int .i64 (pl a8 e8))).setCell ⟨b3,2,none⟩ (.slice A T.length c)).cell? ⟨bd,2,none⟩=some (.bool false):=by rw[hw8];exact(blk_cell hk8 2).trans rfl
    have q1:w7.cell? ⟨bd,1,none⟩=some (.int .u64 0):=(blk_cell hkd7 1).trans rfl
    have qf1:=blk_frozen hkd7 1
    obtain⟨w9,hw9⟩: ∃x,w8.alloc (.cells #[.string sd, .int .u64 hh, .bool false] 109)=x:=⟨_,rfl⟩
    have hb9:Below w8.heap.size w8 w9:=by rw[←hw9];exact(Below.refl _ _).alloc (Nat.le_refl _) _
    have hk9:w9.heap[w8.heap.size]? =some (.cells #[.string sd, .int .u64 hh, .bool false] 109 (0,0)):=by rw[←hw9];exact heap_new _ _
    have hw89:((((w7.setCell ⟨bd,1,none⟩ (.int .u64 hh)).setCell ⟨b3,0,none⟩ (.string s)).setCell ⟨b3,1,none⟩ (.int .i64 (pl a8 e8))).setCell ⟨b3,2,none⟩ (.slice A T.length c)).heap.size=w8.heap.size:=by rw[hw8]
    have HW8:=Lib.hid hw8
    have HW9:=Lib.hid hw9
    have HK9:=Lib.hid hk9
    have HK39:=Lib.hid (blk_below hk38 hb9)
    have HK79:=Lib.hid (blk_below hk78 hb9)
    have HR9:=Lib.hid (Kd.R_below hR8 hb9)
    have HB9:=Lib.hid (hB8.trans (hb9.mono hB8.size))
    have h89:w7.heap.size=w8.heap.size:=by rw[←hw8];simp
    clear hb7 hk37 hkd7 hk77 hkx hk8 hk38 hk78 hR8 hB8 hb9 hk9 hw8 hw9 hw89
    go_wp2_with (at_builtin;refine Halt.mk ?_)
    refine Halt.of ?_
    clear y0 y1 y2 q1 qf1 x0 xf0 x1 xf1 x2 xf2
    rw[HW8.out,HW9.out]
    have hb3w:=HBB.out
    refine Kd.R_append_rows k109 (w0:=w9) (b3+2) rfl (.tmp 56) (.tmp 58) 60 109 (.agg #[.string ⟨#[]⟩, .int .u64 0, .bool false]) 32 rfl Try.underlying60 info_dep rfl (by decide) (by omega) _ acc [⟨sd,hh,false⟩] _ _ _ (fun _=>True) (fun _=>False) rfl rfl HR9.out (row_dep HK9.out) ?_ (fun _ h=>h.elim) (fun _ _=>trivial) (Below.refl _ _) (by have:=blk_lt HK9.out;have:=HB9.out.size;have:=blk_lt HK79.out;omega) (by omega) ?_
    ·rintro _ _ ⟨rfl,rfl⟩
     exact k109_mkM _ _ _ (⟨sd,hh,false⟩:S109)
    intro v12 w12 hR12 hb12 hg12 _
    have hdl2:=HDL.out
    obtain⟨ac2,hac2⟩: ∃x,acc++[(⟨sd,hh,false⟩:S109)]=x:=⟨_,rfl⟩
    rw[hac2]at hR12 hdl2
    have HAC2:=Lib.hid (show ac2.length=i+1 by rw[←hac2,List.length_append,HACC.out];rfl)
    have HDL2:=Lib.hid hdl2
    clear hac2 hdl2
    obtain⟨A12,c12,rfl⟩:=Kd.R_slice hR12
    have hown: ∀k,(Value.slice Ad acc.length cd).ownBlock=some k→b3+2≤k:=fun k hk=>Kd.R_base HR9.out k hk
    have hkp:Kp w9 w12 (fun k=>b3+2≤k):=(Kp.refl w9 _).grown hg12 (fun k hk=> .inl (hown k hk))
    have HK12:=Lib.hid (hkp.heap HK39.out (by omega))
    have HK712:=Lib.hid (hkp.heap HK79.out (by omega))
    have HB12:=Lib.hid (HB9.out.grown hg12 HB9.out.size (fun k hk=>by have:=hown k hk;omega))
    have HR12:=Lib.hid hR12
    have hps:=HPS.out
    have hac:=HACC.out
    have hfe:l.length+2-(i+1)=f:=by omega
    have hNe:N-((i+1:Nat):Int)=N-(i:Int)-1:=by omega
    have HFE:=Lib.hid hfe
    have HNE:=Lib.hid hNe
    have HI2:=Lib.hid (show((i+1:Nat):Int)≤N∧((i+1:Nat):Int)≤a8+(if e8=0 then 0 else 1) from⟨by omega,by
     have h1:(i:Int)≤a:=by simpa using hia
     split
     ·rename_i h8;have:=hps.2.2.1 h8;omega
     ·omega⟩)
    clear hR12 hb12 hg12 hown hkp hfe hNe hac hps
    go_wp2_with fail
    go_roundw
    case rel=>exact⟨i+1,_,a8,e8,by go_num,HPS.out.2.2.2,HPS.out.2.1,HI2.out.1,HI2.out.2,HAC2.out,HR12,HK12,HK712,HB12,Lib.hid (by rw[HFE.out,HNE.out];exact HDL2.out)⟩
    case measure=>simp[intOf];omega
   ·have hpn:=HPN.out
    rw[decide_eq_false he]at hpn
    have hpl:decide (pl a e≥0)=false:=hpn
    have hdl:=HD.out
    rw[depsL_end _ (by intro h;exact he h.2)]at hdl
    have HDL:=Lib.hid hdl
    clear hk hdl
    go_wp2_with fail
    have hR9:Kd.R k109 109 wr (b3+2) (fun k=>k≠b3+1) (.slice Ad acc.length cd) acc:=Kd.R_mono (Kd.R_bound HR.out) (fun k hk=>by have:=hk.2.1;omega)
    obtain⟨pp,hpp⟩: ∃x,pl a e=x:=⟨_,rfl⟩
    have hk3:=HK.out
    rw[hpp]at hk3
    have HPP:=Lib.hid hpp
    have kT1:=And.intro hk3 hR9
    have kT3:=HK7.out
    have hsz:=HB.out.size
    have hb3w:=HBB.out
    clear p0 p1 p2 pf1 hR9 hk3 hpp
    refine region_one (n:=4) (base:=w.heap.size) (w0:=w) (b:=(b3+1)) (jw:=3) (byList [isV (.slice Ad acc.length cd),isV (.agg #[.string s, .int .i64 pp, .slice A T.length c]),isV (.slice Ad acc.length cd),(fun _ _=>True)]) (fun W=>W.heap[b3]? =some (.cells #[.string s, .int .i64 pp, .slice A T.length c] 167 (0,0))∧Kd.R k109 109 W (b3+2) (fun k=>k≠b3+1) (.slice Ad acc.length cd) acc) (fun W=>W.heap[(b3+1)]? =some (.cells #[.string ⟨#[]⟩, .int .i64 0, .slice none 0 0] 167 (0,0))) (fun W=>W.heap[(b3+1)]? =some (.cells #[.string s, .int .i64 pp, .slice A T.length c] 167 (0,0))) (by kernel_rfl) rfl (by omega) (byList_any ?_) (by kernel_rfl) (by kernel_rfl) (by omega) (fun W W' row hrow h hg=>⟨blk_grown' h.1 hg (by rcases hrow with rfl|rfl<;>simp),Kd.R_grown h.2 hg (fun k hk=>by rcases hrow with rfl|rfl<;>simp;omega)⟩) (fun W W' h hg=>blk_below h (below_none hg)) (fun W W' h hg=>blk_below h (below_none hg)) HB.out (Nat.le_refl _) kT1 kT3 (show AllLt 4 _ from ?_) ?_
    ·intro p hp
     simp only[List.mem_cons,List.not_mem_nil,or_false]at hp
     rcases hp with rfl|rfl|rfl|rfl<;>exact fun _ _ _ h=>h
    ·refine allLt_succ (allLt_succ (allLt_succ (allLt_succ (allLt_zero _) ?_) ?_) ?_) ?_
     ·refine StepOkO.run (get_lit rfl) rfl (by omega) fun a W hS hB hd hR=> ?_
      have e8:=hS.get (t:=8) rfl rfl
      refine wp_value (c:= .slice Ad acc.length cd) ?_ rfl
      go_simp
     ·refine StepOkO.run (get_lit rfl) rfl (by omega) fun a W hS hB hd hR=> ?_
      have e3:=hS.get (t:=3) rfl rfl
      refine wp_value (c:= .agg #[.string s, .int .i64 pp, .slice A T.length c]) ?_ rfl
      have c0:W.cell? ⟨b3,0,none⟩=some (.string s):=(blk_cell hR.1 0).trans rfl
      have c1:W.cell? ⟨b3,1,none⟩=some (.int .i64 pp):=(blk_cell hR.1 1).trans rfl
      have c2:W.cell? ⟨b3,2,none⟩=some (.slice A T.length c):=(blk_cell hR.1 2).trans rfl
      go_simp
     ·refine StepOkO.run (get_lit rfl) rfl (by omega) fun a W hS hB hd hR=> ?_
      have e60:=(hd 0 rfl).bool rfl rfl rfl
      refine wp_value (c:= .slice Ad acc.length cd) ?_ rfl
      go_simp
     ·refine StepOkO.write (get_lit rfl) rfl rfl rfl fun a W hS hB hd hR hP=> ?_
      have e7:=hS.get (t:=7) rfl rfl
      have e61:=(hd 1 rfl).bool rfl rfl rfl
      have z0:W.cell? ⟨(b3+1),0,none⟩=some (.string ⟨#[]⟩):=(blk_cell hP 0).trans rfl
      have zf0:=blk_frozen hP 0
      have z1:W.cell? ⟨(b3+1),1,none⟩=some (.int .i64 0):=(blk_cell hP 1).trans rfl
      have zf1:=blk_frozen hP 1
      have z2:W.cell? ⟨(b3+1),2,none⟩=some (.slice none 0 0):=(blk_cell hP 2).trans rfl
      have zf2:=blk_frozen hP 2
      refine⟨_, ?_,grown_put (grown_put (grown_put (World.grownBy.refl _ _) (.string s)) (.int .i64 pp)) (.slice A T.length c),blk_put3 hP _ _ _⟩
      go_simp
    ·intro a W hS hB hh hRD hFD
     have e6:a.tmps[6]? =some (.slice Ad acc.length cd):=(hh 2 (by omega)).bool rfl rfl rfl
     have HBR:=Lib.hid hB
     obtain⟨zz,hlit,hzz⟩:=same_litz hS
     clear hh hS hB
     simp only[List.filterMap_cons,List.filterMap_nil,List.foldl_cons,List.foldl_nil,List.setIfInBounds_toArray,List.set_cons_zero,List.set_cons_succ]at hlit
     rw[hzz 6 _ e6]at hlit
     clear e6
     clear hzz;subst hlit
     go_wp2_with fail
     refine bodyPost_ret (results_tc rfl _ _ (b3+1) 167 #[_,_,_] (0,0) _ rfl hFD HU.out rfl (by kernel_rfl)) rfl ?_
     rw[←HDL.out,←HPP.out]
     exact⟨_,rfl,Kd.R_mono (Kd.R_lower hRD.2 (by omega)) (fun _ _=>trivial),HBR.out⟩
  ·have d1:decide ((i:Int)<N)=false:=decide_eq_false hlt
   have hdl:=HD.out
   rw[depsL_end _ (by intro h;omega)]at hdl
   have HDL:=Lib.hid hdl
   clear hk hdl
   go_wp2_with fail
   have hR9:Kd.R k109 109 wr (b3+2) (fun k=>k≠b3+1) (.slice Ad acc.length cd) acc:=Kd.R_mono (Kd.R_bound HR.out) (fun k hk=>by have:=hk.2.1;omega)
   obtain⟨pp,hpp⟩: ∃x,pl a e=x:=⟨_,rfl⟩
   have hk3:=HK.out
   rw[hpp]at hk3
   have HPP:=Lib.hid hpp
   have kT1:=And.intro hk3 hR9
   have kT3:=HK7.out
   have hsz:=HB.out.size
   have hb3w:=HBB.out
   clear p0 p1 p2 pf1 hR9 hk3 hpp
   refine region_one (n:=4) (base:=w.heap.size) (w0:=w) (b:=(b3+1)) (jw:=3) (byList [isV (.slice Ad acc.length cd),isV (.agg #[.string s, .int .i64 pp, .slice A T.length c]),isV (.slice Ad acc.length cd),(fun _ _=>True)]) (fun W=>W.heap[b3]? =some (.cells #[.string s, .int .i64 pp, .slice A T.length c] 167 (0,0))∧Kd.R k109 109 W (b3+2) (fun k=>k≠b3+1) (.slice Ad acc.length cd) acc) (fun W=>W.heap[(b3+1)]? =some (.cells #[.string ⟨#[]⟩, .int .i64 0, .slice none 0 0] 167 (0,0))) (fun W=>W.heap[(b3+1)]? =some (.cells #[.string s, .int .i64 pp, .slice A T.length c] 167 (0,0))) (by kernel_rfl) rfl (by omega) (byList_any ?_) (by kernel_rfl) (by kernel_rfl) (by omega) (fun W W' row hrow h hg=>⟨blk_grown' h.1 hg (by rcases hrow with rfl|rfl<;>simp),Kd.R_grown h.2 hg (fun k hk=>by rcases hrow with rfl|rfl<;>simp;omega)⟩) (fun W W' h hg=>blk_below h (below_none hg)) (fun W W' h hg=>blk_below h (below_none hg)) HB.out (Nat.le_refl _) kT1 kT3 (show AllLt 4 _ from ?_) ?_
   ·intro p hp
    simp only[List.mem_cons,List.not_mem_nil,or_false]at hp
    rcases hp with rfl|rfl|rfl|rfl<;>exact fun _ _ _ h=>h
   ·refine allLt_succ (allLt_succ (allLt_succ (allLt_succ (allLt_zero _) ?_) ?_) ?_) ?_
    ·refine StepOkO.run (get_lit rfl) rfl (by omega) fun a W hS hB hd hR=> ?_
     have e8:=hS.get (t:=8) rfl rfl
     refine wp_value (c:= .slice Ad acc.length cd) ?_ rfl
     go_simp
    ·refine StepOkO.run (get_lit rfl) rfl (by omega) fun a W hS hB hd hR=> ?_
     have e3:=hS.get (t:=3) rfl rfl
     refine wp_value (c:= .agg #[.string s, .int .i64 pp, .slice A T.length c]) ?_ rfl
     have c0:W.cell? ⟨b3,0,none⟩=some (.string s):=(blk_cell hR.1 0).trans rfl
     have c1:W.cell? ⟨b3,1,none⟩=some (.int .i64 pp):=(blk_cell hR.1 1).trans rfl
     have c2:W.cell? ⟨b3,2,none⟩=some (.slice A T.length c):=(blk_cell hR.1 2).trans rfl
     go_simp
    ·refine StepOkO.run (get_lit rfl) rfl (by omega) fun a W hS hB hd hR=> ?_
     have e60:=(hd 0 rfl).bool rfl rfl rfl
     refine wp_value (c:= .slice Ad acc.length cd) ?_ rfl
     go_simp
    ·refine StepOkO.write (get_lit rfl) rfl rfl rfl fun a W hS hB hd hR hP=> ?_
     have e7:=hS.get (t:=7) rfl rfl
     have e61:=(hd 1 rfl).bool rfl rfl rfl
     have z0:W.cell? ⟨(b3+1),0,none⟩=some (.string ⟨#[]⟩):=(blk_cell hP 0).trans rfl
     have zf0:=blk_frozen hP 0
     have z1:W.cell? ⟨(b3+1),1,none⟩=some (.int .i64 0):=(blk_cell hP 1).trans rfl
     have zf1:=blk_frozen hP 1
     have z2:W.cell? ⟨(b3+1),2,none⟩=some (.slice none 0 0):=(blk_cell hP 2).trans rfl
     have zf2:=blk_frozen hP 2
     refine⟨_, ?_,grown_put (grown_put (grown_put (World.grownBy.refl _ _) (.string s)) (.int .i64 pp)) (.slice A T.length c),blk_put3 hP _ _ _⟩
     go_simp
   ·intro a W hS hB hh hRD hFD
    have e6:a.tmps[6]? =some (.slice Ad acc.length cd):=(hh 2 (by omega)).bool rfl rfl rfl
    have HBR:=Lib.hid hB
    obtain⟨zz,hlit,hzz⟩:=same_litz hS
    clear hh hS hB
    simp only[List.filterMap_cons,List.filterMap_nil,List.foldl_cons,List.foldl_nil,List.setIfInBounds_toArray,List.set_cons_zero,List.set_cons_succ]at hlit
    rw[hzz 6 _ e6]at hlit
    clear e6
    clear hzz;subst hlit
    go_wp2_with fail
    refine bodyPost_ret (results_tc rfl _ _ (b3+1) 167 #[_,_,_] (0,0) _ rfl hFD HU.out rfl (by kernel_rfl)) rfl ?_
    rw[←HDL.out,←HPP.out]
    exact⟨_,rfl,Kd.R_mono (Kd.R_lower hRD.2 (by omega)) (fun _ _=>trivial),HBR.out⟩
set_option maxRecDepth 100000 in
set_option maxHeartbeats 4000000 in
theorem wdeps_hi (v:Int) (hv:3≤v) {l:List Int} (hb: ∀x∈l,0≤x∧x<256) (hl:l.length≤1000000) (a e:Int) (ha:0≤a∧a≤l.length) (A:Option Addr) (c:Nat) (T:List ByteArray) (hT:T.length≤1000000) (N:Int) (hN:0≤N∧N<18446744073709551616) (w:World) (hC:Kd.C Kd.string w A T.length T):
  Calls Try.prog 105 #[.agg #[.string (strOfNums l), .int .i64 (pl a e), .slice A T.length c], .int .i64 v, .int .u64 N] w fun en w'=>∃dv,en= .returned (.tuple #[dv, .agg #[.string (strOfNums l), .int .i64 (pl (depsL v T l (l.length+2) N a e []).2.1 (depsL v T l (l.length+2) N a e []).2.2), .slice A T.length c]])∧Kd.R k109 109 w' w.heap.size (fun _=>True) dv (depsL v T l (l.length+2) N a e []).1∧Below w.heap.size w w':=by
 have HNU:=Lib.hid (fun(a e:Int) (W:World)=>wnum_is hb hl a e A T.length c W)
 have HNM:=Lib.hid (fun(a e:Int) (W:World) (h:Below w.heap.size w W)=>wname_is v hb hl a e A c T hT W (Kd.C_below hC h))
 have HKN:=Lib.hid (fun(a e m:Int) (hm:0≤m∧m<18446744073709551616) (W:World) (h:Below w.heap.size w W)=>wknown_is (strOfNums l) a e A c T hT m hm W (Kd.C_below hC h))
 obtain⟨s,hs⟩: ∃s,strOfNums l=s:=⟨_,rfl⟩
 rw[hs]at HNU HNM HKN ⊢
 obtain⟨F,hF⟩: ∃F,depsL v T l (l.length+2) N a e []=F:=⟨_,rfl⟩
 rw[hF]
 have HF:=Lib.hid hF
 have HBY:=Lib.hid hb
 clear hC hF hs hb
 obtain⟨w1,hw1⟩: ∃w1,((w.alloc (.cells #[.string s, .int .i64 (pl a e), .slice A T.length c] 167)).alloc (.cells #[.string ⟨#[]⟩, .int .i64 0, .slice none 0 0] 167)).alloc (.cells #[] 109)=w1:=⟨_,rfl⟩
 have hb1:Below w.heap.size w w1:=by rw[←hw1];exact(((Below.refl _ _).alloc (Nat.le_refl _) _).alloc (by rw[heap_size_alloc];omega) _).alloc (by rw[heap_size_alloc,heap_size_alloc];omega) _
 have hk3:w1.heap[w.heap.size]? =some (.cells #[.string s, .int .i64 (pl a e), .slice A T.length c] 167 (0,0)):=by rw[←hw1];exact blk_alloc (blk_alloc (heap_new _ _) _) _
 have hk7:w1.heap[w.heap.size+1]? =some (.cells #[.string ⟨#[]⟩, .int .i64 0, .slice none 0 0] 167 (0,0)):=by
  rw[←hw1]
  have:=heap_new (w.alloc (.cells #[.string s, .int .i64 (pl a e), .slice A T.length c] 167)) (.cells #[.string ⟨#[]⟩, .int .i64 0, .slice none 0 0] 167)
  rw[heap_size_alloc]at this
  exact blk_alloc this _
 have hk8:w1.heap[w.heap.size+2]? =some (.cells #[] 109 (0,0)):=by
  rw[←hw1]
  have:=heap_new ((w.alloc (.cells #[.string s, .int .i64 (pl a e), .slice A T.length c] 167)).alloc (.cells #[.string ⟨#[]⟩, .int .i64 0, .slice none 0 0] 167)) (.cells #[] 109)
  rwa [heap_size_alloc,heap_size_alloc]at this
 obtain⟨b3,hbb⟩: ∃b,w.heap.size=b:=⟨_,rfl⟩
 rw[hbb]at hk3 hk7 hk8
 have hz8:Kd.R k109 109 w1 (b3+2) (fun _=>True) (.slice (some ⟨b3+2,0,none⟩) 0 0) []:=R_empty k109 w1 (b3+2) (b3+2) 109 (fun _=>True) hk8 (Nat.le_refl _) trivial
 have HB1:=Lib.hid hb1
 have HW1:=Lib.hid hw1
 have HK3:=Lib.hid hk3
 have HK7:=Lib.hid hk7
 have HZ8:=Lib.hid hz8
 have HBB:=Lib.hid hbb
 have HU:=Lib.hid Try.underlying167
 clear hb1 hk3 hk7 hk8 hz8 hbb hw1
 go_enter Try.func105,Try.ntmps105
 go_wp2_with fail
 rw[HW1.out,HBB.out]
 go_loopw [8,9] (fun u8 u9 wr=>∃(i:Nat) (acc:List S109) (a e:Int),u9= .int .u64 (i:Int)∧0≤a∧a≤(l.length:Int)∧(i:Int)≤N∧(i:Int)≤a+(if e=0 then 0 else 1)∧acc.length=i∧Hid (Kd.R k109 109 wr (b3+2) (fun _=>True) u8 acc)∧Hid (wr.heap[b3]? =some (.cells #[.string s, .int .i64 (pl a e), .slice A T.length c] 167 (0,0)))∧Hid (wr.heap[b3+1]? =some (.cells #[.string ⟨#[]⟩, .int .i64 0, .slice none 0 0] 167 (0,0)))∧Hid (Below w.heap.size w wr)∧Hid (depsL v T l (l.length+2-i) (N-i) a e acc=F)) (fun _ u _=>l.length+2-(intOf u).toNat)
 case atStart=>exact⟨0,[],a,e,rfl,ha.1,ha.2,hN.1,by split<;>omega,rfl,HZ8,HK3,HK7,HB1,Lib.hid (by simpa using HF.out)⟩
 case round=>
  clear HZ8 HK3 HK7
  obtain⟨i,acc,a,e,rfl,ha0,ha1,hiN,hia,hacc,HR,HK,HK7,HB,HD⟩:=hrel
  obtain⟨Ad,cd,rfl⟩:=Kd.R_slice HR.out
  have hk:=HK.out
  have HACC:=Lib.hid hacc
  have hal:acc.length≤1000001:=by rw[hacc];split at hia<;>omega
  clear hacc
  have p0:wr.cell? ⟨b3,0,none⟩=some (.string s):=(blk_cell hk 0).trans rfl
  have p1:wr.cell? ⟨b3,1,none⟩=some (.int .i64 (pl a e)):=(blk_cell hk 1).trans rfl
  have p2:wr.cell? ⟨b3,2,none⟩=some (.slice A T.length c):=(blk_cell hk 2).trans rfl
  have pf1:=blk_frozen hk 1
  have HPN:=Lib.hid (pl_nonneg (e:=e) ha0)
  by_cases hlt:(i:Int)<N
  ·have d1:decide ((i:Int)<N)=true:=decide_eq_true hlt
   by_cases he:e=0
   ·have hpn:=HPN.out
    rw[decide_eq_true he]at hpn
    have hil:i≤l.length:=by rw[if_pos he]at hia;omega
    subst he
    have hdl:=HD.out
    obtain⟨f,hf⟩: ∃f,l.length+2-i=f+1:=⟨l.length+1-i,by omega⟩
    rw[hf,depsL,if_pos ⟨by omega,rfl⟩]at hdl
    have hpd:=depR_place v T l HBY.out a 0 ⟨ha0,ha1⟩
    have hdr:depR v T l a 0=((txF T ((cuNum l a 0).1/2),decide ((cuNum l a 0).1%2=1)),(cuNum l a 0).2.1,txE T ((cuNum l a 0).1/2) (cuNum l a 0).2.2):=by unfold depR;rw[if_neg (by omega)]
    have HN1:=Lib.hid (HNU.out a 0)
    have hmr:=cuNum_rg (a:=a) (e:=0) HBY.out
    rw[hdr]at hdl hpd
    generalize cuNum l a 0=N1 at*
    obtain⟨m,a7,e4⟩:=N1
    dsimp only at hdl hpd HN1 hmr
    have hKN:=fun(W:World) (h:Below w.heap.size w W)=>HKN.out a7 e4 (m/2) (by omega) W h
    obtain⟨m,rfl⟩: ∃k:Nat,m=(k:Int):=⟨m.toNat,by omega⟩
    have hq1:Int.tdiv (m:Int) 2=(m:Int)/2:=rfl
    have hq2:Int.tmod (m:Int) 2=(m:Int)%2:=rfl
    have hq3:IntKind.u64.wrap ((m:Int)/2)=(m:Int)/2:=by rw[IntKind.wrap_u64];omega
    have hq4:IntKind.u64.wrap ((m:Int)%2)=(m:Int)%2:=by rw[IntKind.wrap_u64];omega
    have hq5:((m:Int)%2==1)=decide ((m:Int)%2=1):=by rw[Bool.eq_iff_iff];simp
    generalize txF T ((m:Int)/2)=sd at*
    generalize txE T ((m:Int)/2) e4=e7 at*
    have HKNm:=Lib.hid hKN
    clear hdr hmr hKN
    have hps:=cuNum_step l HBY.out a7 e7 ⟨by omega,hpd.2⟩
    have HNH:=Lib.hid (HNU.out a7 e7)
    have hnr:=cuNum_rg (a:=a7) (e:=e7) HBY.out
    generalize cuNum l a7 e7=NH at*
    obtain⟨hh,a8,e8⟩:=NH
    dsimp only at hdl hps HNH hnr
    have HDL:=Lib.hid hdl
    have HPS:=Lib.hid (show a≤a8∧a8≤(l.length:Int)∧(e8=0→a+1≤a8)∧0≤a8 from⟨by omega,hps.1,fun h=>by have:=(hps.2.2.1 h).1;omega,by omega⟩)
    have hwi:IntKind.u64.wrap ((i:Int)+1)=(i:Int)+1:=by rw[IntKind.wrap_u64];omega
    have hpl:decide (pl a 0≥0)=true:=hpn
    obtain⟨wd,hwd⟩: ∃x,wr.alloc (.cells #[.string ⟨#[]⟩, .int .u64 0, .bool false] 109)=x:=⟨_,rfl⟩
    have hbd:Below wr.heap.size wr wd:=by rw[←hwd];exact(Below.refl _ _).alloc (Nat.le_refl _) _
    have hkd:wd.heap[wr.heap.size]? =some (.cells #[.string ⟨#[]⟩, .int .u64 0, .bool false] 109 (0,0)):=by rw[←hwd];exact heap_new _ _
    obtain⟨bd,hbde⟩: ∃b,wr.heap.size=b:=⟨_,rfl⟩
    rw[hbde]at hkd
    have hb3d:b3+1<bd:=by have:=blk_lt HK7.out;omega
    have HWD:=Lib.hid hwd
    have HBDE:=Lib.hid hbde
    have HBD:=Lib.hid (HB.out.trans (hbd.mono HB.out.size))
    have HKD:=Lib.hid hkd
    have HK3:=Lib.hid (blk_below hk hbd)
    have HK7d:=Lib.hid (blk_below HK7.out hbd)
    have HRd:=Lib.hid (Kd.R_mono (Kd.R_bound (Kd.R_below HR.out hbd)) (fun k hk=>hk.2.1))
    have HRD:=Lib.hid (Kd.R_mono (ok':=fun k=>k<bd) (Kd.R_below (Kd.R_bound HR.out) hbd) (fun k hk=>by have:=hk.2.2.1;omega))
    have z0:(wr.alloc (.cells #[.string ⟨#[]⟩, .int .u64 0, .bool false] 109)).cell? ⟨b3,0,none⟩=some (.string s):=by rw[hwd];exact(blk_cell HK3.out 0).trans rfl
    have z1:(wr.alloc (.cells #[.string ⟨#[]⟩, .int .u64 0, .bool false] 109)).cell? ⟨b3,1,none⟩=some (.int .i64 (pl a 0)):=by rw[hwd];exact(blk_cell HK3.out 1).trans rfl
    have z2:(wr.alloc (.cells #[.string ⟨#[]⟩, .int .u64 0, .bool false] 109)).cell? ⟨b3,2,none⟩=some (.slice A T.length c):=by rw[hwd];exact(blk_cell HK3.out 2).trans rfl
    clear hk hbd hkd hwd hbde hdl hps hpd hnr HD HRd
    have dv3:decide (v<3)=false:=decide_eq_false (by omega)
    go_wp2_with fail
    clear z0 z1 z2 p0 p1 p2 pf1
    rw[HWD.out,HBDE.out]
    refine(HN1.out wd).mono ?_
    rintro en w4 ⟨rfl,hb4⟩
    have hk34:=blk_below HK3.out hb4
    have hkd4:=blk_below HKD.out hb4
    have hk74:=blk_below HK7d.out hb4
    have hR4:=Kd.R_below HRD.out hb4
    have hB4:=HBD.out.trans (hb4.mono HBD.out.size)
    obtain⟨x0,xf0,x1,xf1,x2,xf2⟩:=wf6 hk34
    have hkd5:(((w4.setCell ⟨b3,0,none⟩ (.string s)).setCell ⟨b3,1,none⟩ (.int .i64 (pl a7 e4))).setCell ⟨b3,2,none⟩ (.slice A T.length c)).heap[bd]? =some (.cells #[.string ⟨#[]⟩, .int .u64 0, .bool false] 109 (0,0)):=(heap_put3 _ (by omega) _ _ _).trans hkd4
    have hk35:(((w4.setCell ⟨b3,0,none⟩ (.string s)).setCell ⟨b3,1,none⟩ (.int .i64 (pl a7 e4))).setCell ⟨b3,2,none⟩ (.slice A T.length c)).heap[b3]? =some (.cells #[.string s, .int .i64 (pl a7 e4), .slice A T.length c] 167 (0,0)):=blk_put3 hk34 _ _ _
    have u2:(((w4.setCell ⟨b3,0,none⟩ (.string s)).setCell ⟨b3,1,none⟩ (.int .i64 (pl a7 e4))).setCell ⟨b3,2,none⟩ (.slice A T.length c)).cell? ⟨bd,2,none⟩=some (.bool false):=(blk_cell hkd5 2).trans rfl
    have uf2:=blk_frozen hkd5 2
    have hk36:((((w4.setCell ⟨b3,0,none⟩ (.string s)).setCell ⟨b3,1,none⟩ (.int .i64 (pl a7 e4))).setCell ⟨b3,2,none⟩ (.slice A T.length c)).setCell ⟨bd,2,none⟩ (.bool (decide ((m:Int)%2=1)))).heap[b3]? =some (.cells #[.string s, .int .i64 (pl a7 e4), .slice A T.length c] 167 (0,0)):=(Below.heap_setCell _ _ _ _ (by show b3≠bd;omega)).trans hk35
    obtain⟨v0,v1,v2⟩:=wf3 hk36
    obtain⟨wk,hwk⟩: ∃x,((((w4.setCell ⟨b3,0,none⟩ (.string s)).setCell ⟨b3,1,none⟩ (.int .i64 (pl a7 e4))).setCell ⟨b3,2,none⟩ (.slice A T.length c)).setCell ⟨bd,2,none⟩ (.bool (decide ((m:Int)%2=1))))=x:=⟨_,rfl⟩
    have hkd6:wk.heap[bd]? =some (.cells #[.string ⟨#[]⟩, .int .u64 0, .bool (decide ((m:Int)%2=1))] 109 (0,0)):=by
     rw[←hwk];exact blk_put (cs':=#[.string ⟨#[]⟩, .int .u64 0, .bool (decide ((m:Int)%2=1))]) hkd5 2 _ rfl
    have hk37:wk.heap[b3]? =some (.cells #[.string s, .int .i64 (pl a7 e4), .slice A T.length c] 167 (0,0)):=by rw[←hwk];exact hk36
    have hk76:wk.heap[b3+1]? =some (.cells #[.string ⟨#[]⟩, .int .i64 0, .slice none 0 0] 167 (0,0)):=by
     rw[←hwk];exact(Below.heap_setCell _ _ _ _ (by show b3+1≠bd;omega)).trans ((heap_put3 _ (by omega) _ _ _).trans hk74)
    have hRk:Kd.R k109 109 wk (b3+2) (fun k=>k<bd) (.slice Ad acc.length cd) acc:=by
     refine Kd.R_mono (Kd.R_step (Kd.R_bound hR4) (fun k hk hlt=> ?_)) (fun k hk=>hk.1)
     have h1:=hk.1
     have h2:=hk.2.1
     rw[←hwk]
     exact(Below.heap_setCell _ _ _ _ (by show k≠bd;omega)).trans (heap_put3 _ (by omega) _ _ _)
    have hBk:Below w.heap.size w wk:=by
     rw[←hwk]
     have:=HBB.out
     exact(below_put3 hB4 (by omega) _ _ _).setCell (p:=⟨bd,2,none⟩) (by show w.heap.size≤bd;omega) _
    have HWK:=Lib.hid hwk
    have HKDk:=Lib.hid hkd6
    have HK3k:=Lib.hid hk37
    have HK7k:=Lib.hid hk76
    have HRk:=Lib.hid hRk
    have HBk:=Lib.hid hBk
    clear hb4 hk34 hkd4 hk74 hR4 hB4 hkd5 hk35 hk36 hwk hkd6 hk37 hk76 hRk hBk
    go_wp2_with fail
    clear x0 xf0 x1 xf1 x2 xf2 u2 uf2 v0 v1 v2
    try rw[hq5]
    rw[HWK.out]
    refine(HKNm.out wk HBk.out).mono ?_
    rintro en w5 ⟨rfl,hb5⟩
    obtain⟨od,hod⟩: ∃x,decide ((m:Int)%2=1)=x:=⟨_,rfl⟩
    have hk35:=blk_below HK3k.out hb5
    have hkd5:=blk_below HKDk.out hb5
    rw[hod]at hkd5
    have hdl2:=HDL.out
    rw[hod]at hdl2
    have HDLo:=Lib.hid hdl2
    have hk75:=blk_below HK7k.out hb5
    have hR5:=Kd.R_below HRk.out hb5
    have hB5:=HBk.out.trans (hb5.mono HBk.out.size)
    have hk36:(w5.setCell ⟨bd,0,none⟩ (.string sd)).heap[b3]? =some (.cells #[.string s, .int .i64 (pl a7 e4), .slice A T.length c] 167 (0,0)):=(Below.heap_setCell _ _ _ _ (by show b3≠bd;omega)).trans hk35
    have g0:w5.cell? ⟨bd,0,none⟩=some (.string ⟨#[]⟩):=(blk_cell hkd5 0).trans rfl
    have gf0:=blk_frozen hkd5 0
    obtain⟨x0,xf0,x1,xf1,x2,xf2⟩:=wf6 hk36
    obtain⟨w6,hw6⟩: ∃x,((((w5.setCell ⟨bd,0,none⟩ (.string sd)).setCell ⟨b3,0,none⟩ (.string s)).setCell ⟨b3,1,none⟩ (.int .i64 (pl a7 e7))).setCell ⟨b3,2,none⟩ (.slice A T.length c))=x:=⟨_,rfl⟩
    have hk37:w6.heap[b3]? =some (.cells #[.string s, .int .i64 (pl a7 e7), .slice A T.length c] 167 (0,0)):=by rw[←hw6];exact blk_put3 hk36 _ _ _
    have hkd6:w6.heap[bd]? =some (.cells #[.string sd, .int .u64 0, .bool od] 109 (0,0)):=by
     rw[←hw6,heap_put3 _ (by omega)];exact blk_put (cs':=#[.string sd, .int .u64 0, .bool od]) hkd5 0 (.string sd) rfl
    have hk76:w6.heap[b3+1]? =some (.cells #[.string ⟨#[]⟩, .int .i64 0, .slice none 0 0] 167 (0,0)):=by
     rw[←hw6,heap_put3 _ (by omega)];exact(Below.heap_setCell _ _ _ _ (by show b3+1≠bd;omega)).trans hk75
    have hR6:Kd.R k109 109 w6 (b3+2) (fun k=>k<bd) (.slice Ad acc.length cd) acc:=by
     refine Kd.R_mono (Kd.R_step (Kd.R_bound hR5) (fun k hk hlt=> ?_)) (fun k hk=>hk.1)
     have h1:=hk.1
     have h2:=hk.2.1
     rw[←hw6,heap_put3 _ (by omega)]
     exact Below.heap_setCell _ _ _ _ (by show k≠bd;omega)
    have hB6:Below w.heap.size w w6:=by
     rw[←hw6]
     have:=HBB.out
     exact below_put3 (hB5.setCell (p:=⟨bd,0,none⟩) (by show w.heap.size≤bd;omega) _) (by omega) _ _ _
    have HW6:=Lib.hid hw6
    have HK36:=Lib.hid hk37
    have HKD6:=Lib.hid hkd6
    have HK76:=Lib.hid hk76
    have HR6:=Lib.hid hR6
    have HB6:=Lib.hid hB6
    clear hb5 hk35 hkd5 hk75 hR5 hB5 hk36 hw6 hk37 hkd6 hk76 hR6 hB6
    go_wp2_with fail
    clear g0 gf0 x0 xf0 x1 xf1 x2 xf2
    rw[HW6.out]
    refine(HNH.out w6).mono ?_
    rintro en w7 ⟨rfl,hb7⟩
    have hk37:=blk_below HK36.out hb7
    have hkd7:=blk_below HKD6.out hb7
    have hk77:=blk_below HK76.out hb7
    have HR7:=Lib.hid (Kd.R_below HR6.out hb7)
    have HB7:=Lib.hid (HB6.out.trans (hb7.mono HB6.out.size))
    have hk38':(w7.setCell ⟨bd,1,none⟩ (.int .u64 hh)).heap[b3]? =some (.cells #[.string s, .int .i64 (pl a7 e7), .slice A T.length c] 167 (0,0)):=(Below.heap_setCell _ _ _ _ (by show b3≠bd;omega)).trans hk37
    obtain⟨x0,xf0,x1,xf1,x2,xf2⟩:=wf6 hk38'
    clear hk38'
    have hkx:(w7.setCell ⟨bd,1,none⟩ (.int .u64 hh)).heap[bd]? =some (.cells #[.string sd, .int .u64 hh, .bool od] 109 (0,0)):=blk_put (cs':=#[.string sd, .int .u64 hh, .bool od]) hkd7 1 (.int .u64 hh) rfl
    obtain⟨w8,hw8⟩: ∃x,((((w7.setCell ⟨bd,1,none⟩ (.int .u64 hh)).setCell ⟨b3,0,none⟩ (.string s)).setCell ⟨b3,1,none⟩ (.int .i64 (pl a8 e8))).setCell ⟨b3,2,none⟩ (.slice A T.length c))=x:=⟨_,rfl⟩
    have hk8:w8.heap[bd]? =some (.cells #[.string sd, .int .u64 hh, .bool od] 109 (0,0)):=by rw[←hw8,heap_put3 _ (by omega)];exact hkx
    have hk38:w8.heap[b3]? =some (.cells #[.string s, .int .i64 (pl a8 e8), .slice A T.length c] 167 (0,0)):=by
     rw[←hw8];exact blk_put3 ((Below.heap_setCell _ _ _ _ (by show b3≠bd;omega)).trans hk37) _ _ _
    have hk78:w8.heap[b3+1]? =some (.cells #[.string ⟨#[]⟩, .int .i64 0, .slice none 0 0] 167 (0,0)):=by
     rw[←hw8,heap_put3 _ (by omega)];exact(Below.heap_setCell _ _ _ _ (by show b3+1≠bd;omega)).trans hk77
    have hR8:Kd.R k109 109 w8 (b3+2) (fun _=>True) (.slice Ad acc.length cd) acc:=by
     refine Kd.R_mono (Kd.R_step (Kd.R_bound HR7.out) (fun k hk hlt=> ?_)) (fun _ _=>trivial)
     have h1:=hk.1
     have h2:=hk.2.1
     rw[←hw8,heap_put3 _ (by omega)]
     exact Below.heap_setCell _ _ _ _ (by show k≠bd;omega)
    have hB8:Below w.heap.size w w8:=by
     rw[←hw8]
     have:=HBB.out
     exact below_put3 (HB7.out.setCell (p:=⟨bd,1,none⟩) (by show w.heap.size≤bd;omega) _) (by omega) _ _ _
    have y0:((((w7.setCell ⟨bd,1,none⟩ (.int .u64 hh)).setCell ⟨b3,0,none⟩ (.string s)).setCell ⟨b3,1,none⟩ (.int .i64 (pl a8 e8))).setCell ⟨b3,2,none⟩ (.slice A T.length c)).cell? ⟨bd,0,none⟩=some (.string sd):=by rw[hw8];exact(blk_cell hk8 0).trans rfl
    have y1:((((w7.setCell ⟨bd,1,none⟩ (.int .u64 hh)).setCell ⟨b3,0,none⟩ (.string s)).setCell ⟨b3,1,none⟩ (.int .i64 (pl a8 e8))).setCell ⟨b3,2,none⟩ (.slice A T.length c)).cell? ⟨bd,1,none⟩=some (.int .u64 hh):=by rw[hw8];exact(blk_cell hk8 1).trans rfl
    have y2:((((w7.setCell ⟨bd,1,none⟩ (.int .u64 hh)).setCell ⟨b3,0,none⟩ (.string s)).setCell ⟨b3,1,none⟩ (.int .i64 (pl a8 e8))).setCell ⟨b3,2,none⟩ (.slice A T.length c)).cell? ⟨bd,2,none⟩=some (.bool od):=by rw[hw8];exact(blk_cell hk8 2).trans rfl
    have q1:w7.cell? ⟨bd,1,none⟩=some (.int .u64 0):=(blk_cell hkd7 1).trans rfl
    have qf1:=blk_frozen hkd7 1
    obtain⟨w9,hw9⟩: ∃x,w8.alloc (.cells #[.string sd, .int .u64 hh, .bool od] 109)=x:=⟨_,rfl⟩
    have hb9:Below w8.heap.size w8 w9:=by rw[←hw9];exact(Below.refl _ _).alloc (Nat.le_refl _) _
    have hk9:w9.heap[w8.heap.size]? =some (.cells #[.string sd, .int .u64 hh, .bool od] 109 (0,0)):=by rw[←hw9];exact heap_new _ _
    have hw89:((((w7.setCell ⟨bd,1,none⟩ (.int .u64 hh)).setCell ⟨b3,0,none⟩ (.string s)).setCell ⟨b3,1,none⟩ (.int .i64 (pl a8 e8))).setCell ⟨b3,2,none⟩ (.slice A T.length c)).heap.size=w8.heap.size:=by rw[hw8]
    have HW8:=Lib.hid hw8
    have HW9:=Lib.hid hw9
    have HK9:=Lib.hid hk9
    have HK39:=Lib.hid (blk_below hk38 hb9)
    have HK79:=Lib.hid (blk_below hk78 hb9)
    have HR9:=Lib.hid (Kd.R_below hR8 hb9)
    have HB9:=Lib.hid (hB8.trans (hb9.mono hB8.size))
    have h89:w7.heap.size=w8.heap.size:=by rw[←hw8];simp
    clear hb7 hk37 hkd7 hk77 hkx hk8 hk38 hk78 hR8 hB8 hb9 hk9 hw8 hw9 hw89
    go_wp2_with (at_builtin;refine Halt.mk ?_)
    refine Halt.of ?_
    clear y0 y1 y2 q1 qf1 x0 xf0 x1 xf1 x2 xf2
    rw[HW8.out,HW9.out]
    have hb3w:=HBB.out
    refine Kd.R_append_rows k109 (w0:=w9) (b3+2) rfl (.tmp 56) (.tmp 58) 60 109 (.agg #[.string ⟨#[]⟩, .int .u64 0, .bool false]) 32 rfl Try.underlying60 info_dep rfl (by decide) (by omega) _ acc [⟨sd,hh,od⟩] _ _ _ (fun _=>True) (fun _=>False) rfl rfl HR9.out (row_dep HK9.out) ?_ (fun _ h=>h.elim) (fun _ _=>trivial) (Below.refl _ _) (by have:=blk_lt HK9.out;have:=HB9.out.size;have:=blk_lt HK79.out;omega) (by omega) ?_
    ·rintro _ _ ⟨rfl,rfl⟩
     exact k109_mkM _ _ _ (⟨sd,hh,od⟩:S109)
    intro v12 w12 hR12 hb12 hg12 _
    have hdl2:=HDLo.out
    obtain⟨ac2,hac2⟩: ∃x,acc++[(⟨sd,hh,od⟩:S109)]=x:=⟨_,rfl⟩
    rw[hac2]at hR12 hdl2
    have HAC2:=Lib.hid (show ac2.length=i+1 by rw[←hac2,List.length_append,HACC.out];rfl)
    have HDL2:=Lib.hid hdl2
    clear hac2 hdl2
    obtain⟨A12,c12,rfl⟩:=Kd.R_slice hR12
    have hown: ∀k,(Value.slice Ad acc.length cd).ownBlock=some k→b3+2≤k:=fun k hk=>Kd.R_base HR9.out k hk
    have hkp:Kp w9 w12 (fun k=>b3+2≤k):=(Kp.refl w9 _).grown hg12 (fun k hk=> .inl (hown k hk))
    have HK12:=Lib.hid (hkp.heap HK39.out (by omega))
    have HK712:=Lib.hid (hkp.heap HK79.out (by omega))
    have HB12:=Lib.hid (HB9.out.grown hg12 HB9.out.size (fun k hk=>by have:=hown k hk;omega))
    have HR12:=Lib.hid hR12
    have hps:=HPS.out
    have hac:=HACC.out
    have hfe:l.length+2-(i+1)=f:=by omega
    have hNe:N-((i+1:Nat):Int)=N-(i:Int)-1:=by omega
    have HFE:=Lib.hid hfe
    have HNE:=Lib.hid hNe
    have HI2:=Lib.hid (show((i+1:Nat):Int)≤N∧((i+1:Nat):Int)≤a8+(if e8=0 then 0 else 1) from⟨by omega,by
     have h1:(i:Int)≤a:=by simpa using hia
     split
     ·rename_i h8;have:=hps.2.2.1 h8;omega
     ·omega⟩)
    clear hR12 hb12 hg12 hown hkp hfe hNe hac hps
    go_wp2_with fail
    go_roundw
    case rel=>exact⟨i+1,_,a8,e8,by go_num,HPS.out.2.2.2,HPS.out.2.1,HI2.out.1,HI2.out.2,HAC2.out,HR12,HK12,HK712,HB12,Lib.hid (by rw[HFE.out,HNE.out];exact HDL2.out)⟩
    case measure=>simp[intOf];omega
   ·have hpn:=HPN.out
    rw[decide_eq_false he]at hpn
    have hpl:decide (pl a e≥0)=false:=hpn
    have hdl:=HD.out
    rw[depsL_end _ (by intro h;exact he h.2)]at hdl
    have HDL:=Lib.hid hdl
    clear hk hdl
    go_wp2_with fail
    have hR9:Kd.R k109 109 wr (b3+2) (fun k=>k≠b3+1) (.slice Ad acc.length cd) acc:=Kd.R_mono (Kd.R_bound HR.out) (fun k hk=>by have:=hk.2.1;omega)
    obtain⟨pp,hpp⟩: ∃x,pl a e=x:=⟨_,rfl⟩
    have hk3:=HK.out
    rw[hpp]at hk3
    have HPP:=Lib.hid hpp
    have kT1:=And.intro hk3 hR9
    have kT3:=HK7.out
    have hsz:=HB.out.size
    have hb3w:=HBB.out
    clear p0 p1 p2 pf1 hR9 hk3 hpp
    refine region_one (n:=4) (base:=w.heap.size) (w0:=w) (b:=(b3+1)) (jw:=3) (byList [isV (.slice Ad acc.length cd),isV (.agg #[.string s, .int .i64 pp, .slice A T.length c]),isV (.slice Ad acc.length cd),(fun _ _=>True)]) (fun W=>W.heap[b3]? =some (.cells #[.string s, .int .i64 pp, .slice A T.length c] 167 (0,0))∧Kd.R k109 109 W (b3+2) (fun k=>k≠b3+1) (.slice Ad acc.length cd) acc) (fun W=>W.heap[(b3+1)]? =some (.cells #[.string ⟨#[]⟩, .int .i64 0, .slice none 0 0] 167 (0,0))) (fun W=>W.heap[(b3+1)]? =some (.cells #[.string s, .int .i64 pp, .slice A T.length c] 167 (0,0))) (by kernel_rfl) rfl (by omega) (byList_any ?_) (by kernel_rfl) (by kernel_rfl) (by omega) (fun W W' row hrow h hg=>⟨blk_grown' h.1 hg (by rcases hrow with rfl|rfl<;>simp),Kd.R_grown h.2 hg (fun k hk=>by rcases hrow with rfl|rfl<;>simp;omega)⟩) (fun W W' h hg=>blk_below h (below_none hg)) (fun W W' h hg=>blk_below h (below_none hg)) HB.out (Nat.le_refl _) kT1 kT3 (show AllLt 4 _ from ?_) ?_
    ·intro p hp
     simp only[List.mem_cons,List.not_mem_nil,or_false]at hp
     rcases hp with rfl|rfl|rfl|rfl<;>exact fun _ _ _ h=>h
    ·refine allLt_succ (allLt_succ (allLt_succ (allLt_succ (allLt_zero _) ?_) ?_) ?_) ?_
     ·refine StepOkO.run (get_lit rfl) rfl (by omega) fun a W hS hB hd hR=> ?_
      have e8:=hS.get (t:=8) rfl rfl
      refine wp_value (c:= .slice Ad acc.length cd) ?_ rfl
      go_simp
     ·refine StepOkO.run (get_lit rfl) rfl (by omega) fun a W hS hB hd hR=> ?_
      have e3:=hS.get (t:=3) rfl rfl
      refine wp_value (c:= .agg #[.string s, .int .i64 pp, .slice A T.length c]) ?_ rfl
      have c0:W.cell? ⟨b3,0,none⟩=some (.string s):=(blk_cell hR.1 0).trans rfl
      have c1:W.cell? ⟨b3,1,none⟩=some (.int .i64 pp):=(blk_cell hR.1 1).trans rfl
      have c2:W.cell? ⟨b3,2,none⟩=some (.slice A T.length c):=(blk_cell hR.1 2).trans rfl
      go_simp
     ·refine StepOkO.run (get_lit rfl) rfl (by omega) fun a W hS hB hd hR=> ?_
      have e60:=(hd 0 rfl).bool rfl rfl rfl
      refine wp_value (c:= .slice Ad acc.length cd) ?_ rfl
      go_simp
     ·refine StepOkO.write (get_lit rfl) rfl rfl rfl fun a W hS hB hd hR hP=> ?_
      have e7:=hS.get (t:=7) rfl rfl
      have e61:=(hd 1 rfl).bool rfl rfl rfl
      have z0:W.cell? ⟨(b3+1),0,none⟩=some (.string ⟨#[]⟩):=(blk_cell hP 0).trans rfl
      have zf0:=blk_frozen hP 0
      have z1:W.cell? ⟨(b3+1),1,none⟩=some (.int .i64 0):=(blk_cell hP 1).trans rfl
      have zf1:=blk_frozen hP 1
      have z2:W.cell? ⟨(b3+1),2,none⟩=some (.slice none 0 0):=(blk_cell hP 2).trans rfl
      have zf2:=blk_frozen hP 2
      refine⟨_, ?_,grown_put (grown_put (grown_put (World.grownBy.refl _ _) (.string s)) (.int .i64 pp)) (.slice A T.length c),blk_put3 hP _ _ _⟩
      go_simp
    ·intro a W hS hB hh hRD hFD
     have e6:a.tmps[6]? =some (.slice Ad acc.length cd):=(hh 2 (by omega)).bool rfl rfl rfl
     have HBR:=Lib.hid hB
     obtain⟨zz,hlit,hzz⟩:=same_litz hS
     clear hh hS hB
     simp only[List.filterMap_cons,List.filterMap_nil,List.foldl_cons,List.foldl_nil,List.setIfInBounds_toArray,List.set_cons_zero,List.set_cons_succ]at hlit
     rw[hzz 6 _ e6]at hlit
     clear e6
     clear hzz;subst hlit
     go_wp2_with fail
     refine bodyPost_ret (results_tc rfl _ _ (b3+1) 167 #[_,_,_] (0,0) _ rfl hFD HU.out rfl (by kernel_rfl)) rfl ?_
     rw[←HDL.out,←HPP.out]
     exact⟨_,rfl,Kd.R_mono (Kd.R_lower hRD.2 (by omega)) (fun _ _=>trivial),HBR.out⟩
  ·have d1:decide ((i:Int)<N)=false:=decide_eq_false hlt
   have hdl:=HD.out
   rw[depsL_end _ (by intro h;omega)]at hdl
   have HDL:=Lib.hid hdl
   clear hk hdl
   go_wp2_with fail
   have hR9:Kd.R k109 109 wr (b3+2) (fun k=>k≠b3+1) (.slice Ad acc.length cd) acc:=Kd.R_mono (Kd.R_bound HR.out) (fun k hk=>by have:=hk.2.1;omega)
   obtain⟨pp,hpp⟩: ∃x,pl a e=x:=⟨_,rfl⟩
   have hk3:=HK.out
   rw[hpp]at hk3
   have HPP:=Lib.hid hpp
   have kT1:=And.intro hk3 hR9
   have kT3:=HK7.out
   have hsz:=HB.out.size
   have hb3w:=HBB.out
   clear p0 p1 p2 pf1 hR9 hk3 hpp
   refine region_one (n:=4) (base:=w.heap.size) (w0:=w) (b:=(b3+1)) (jw:=3) (byList [isV (.slice Ad acc.length cd),isV (.agg #[.string s, .int .i64 pp, .slice A T.length c]),isV (.slice Ad acc.length cd),(fun _ _=>True)]) (fun W=>W.heap[b3]? =some (.cells #[.string s, .int .i64 pp, .slice A T.length c] 167 (0,0))∧Kd.R k109 109 W (b3+2) (fun k=>k≠b3+1) (.slice Ad acc.length cd) acc) (fun W=>W.heap[(b3+1)]? =some (.cells #[.string ⟨#[]⟩, .int .i64 0, .slice none 0 0] 167 (0,0))) (fun W=>W.heap[(b3+1)]? =some (.cells #[.string s, .int .i64 pp, .slice A T.length c] 167 (0,0))) (by kernel_rfl) rfl (by omega) (byList_any ?_) (by kernel_rfl) (by kernel_rfl) (by omega) (fun W W' row hrow h hg=>⟨blk_grown' h.1 hg (by rcases hrow with rfl|rfl<;>simp),Kd.R_grown h.2 hg (fun k hk=>by rcases hrow with rfl|rfl<;>simp;omega)⟩) (fun W W' h hg=>blk_below h (below_none hg)) (fun W W' h hg=>blk_below h (below_none hg)) HB.out (Nat.le_refl _) kT1 kT3 (show AllLt 4 _ from ?_) ?_
   ·intro p hp
    simp only[List.mem_cons,List.not_mem_nil,or_false]at hp
    rcases hp with rfl|rfl|rfl|rfl<;>exact fun _ _ _ h=>h
   ·refine allLt_succ (allLt_succ (allLt_succ (allLt_succ (allLt_zero _) ?_) ?_) ?_) ?_
    ·refine StepOkO.run (get_lit rfl) rfl (by omega) fun a W hS hB hd hR=> ?_
     have e8:=hS.get (t:=8) rfl rfl
     refine wp_value (c:= .slice Ad acc.length cd) ?_ rfl
     go_simp
    ·refine StepOkO.run (get_lit rfl) rfl (by omega) fun a W hS hB hd hR=> ?_
     have e3:=hS.get (t:=3) rfl rfl
     refine wp_value (c:= .agg #[.string s, .int .i64 pp, .slice A T.length c]) ?_ rfl
     have c0:W.cell? ⟨b3,0,none⟩=some (.string s):=(blk_cell hR.1 0).trans rfl
     have c1:W.cell? ⟨b3,1,none⟩=some (.int .i64 pp):=(blk_cell hR.1 1).trans rfl
     have c2:W.cell? ⟨b3,2,none⟩=some (.slice A T.length c):=(blk_cell hR.1 2).trans rfl
     go_simp
    ·refine StepOkO.run (get_lit rfl) rfl (by omega) fun a W hS hB hd hR=> ?_
     have e60:=(hd 0 rfl).bool rfl rfl rfl
     refine wp_value (c:= .slice Ad acc.length cd) ?_ rfl
     go_simp
    ·refine StepOkO.write (get_lit rfl) rfl rfl rfl fun a W hS hB hd hR hP=> ?_
     have e7:=hS.get (t:=7) rfl rfl
     have e61:=(hd 1 rfl).bool rfl rfl rfl
     have z0:W.cell? ⟨(b3+1),0,none⟩=some (.string ⟨#[]⟩):=(blk_cell hP 0).trans rfl
     have zf0:=blk_frozen hP 0
     have z1:W.cell? ⟨(b3+1),1,none⟩=some (.int .i64 0):=(blk_cell hP 1).trans rfl
     have zf1:=blk_frozen hP 1
     have z2:W.cell? ⟨(b3+1),2,none⟩=some (.slice none 0 0):=(blk_cell hP 2).trans rfl
     have zf2:=blk_frozen hP 2
     refine⟨_, ?_,grown_put (grown_put (grown_put (World.grownBy.refl _ _) (.string s)) (.int .i64 pp)) (.slice A T.length c),blk_put3 hP _ _ _⟩
     go_simp
   ·intro a W hS hB hh hRD hFD
    have e6:a.tmps[6]? =some (.slice Ad acc.length cd):=(hh 2 (by omega)).bool rfl rfl rfl
    have HBR:=Lib.hid hB
    obtain⟨zz,hlit,hzz⟩:=same_litz hS
    clear hh hS hB
    simp only[List.filterMap_cons,List.filterMap_nil,List.foldl_cons,List.foldl_nil,List.setIfInBounds_toArray,List.set_cons_zero,List.set_cons_succ]at hlit
    rw[hzz 6 _ e6]at hlit
    clear e6
    clear hzz;subst hlit
    go_wp2_with fail
    refine bodyPost_ret (results_tc rfl _ _ (b3+1) 167 #[_,_,_] (0,0) _ rfl hFD HU.out rfl (by kernel_rfl)) rfl ?_
    rw[←HDL.out,←HPP.out]
    exact⟨_,rfl,Kd.R_mono (Kd.R_lower hRD.2 (by omega)) (fun _ _=>trivial),HBR.out⟩
theorem atI_in {T:List ByteArray} {s:ByteArray} (h:s∈T):atI T s=(posOf T s:Int):=by unfold atI;rw[isIn_iff.2 h];rfl
theorem txF_pos {T:List ByteArray} {s:ByteArray} (h:s∈T):txF T (posOf T s:Int)=s:=by
 have h1:=posOf_lt h
 have h2:=posOf_get h
 unfold txF
 rw[if_pos (by omega),Int.toNat_natCast]
 rw[List.getElem?_eq_getElem h1]at h2
 simpa [h1]using Option.some.inj h2
theorem txE_pos {T:List ByteArray} {s:ByteArray} (h:s∈T) (e:Int):txE T (posOf T s:Int) e=e:=by
 have h1:=posOf_lt h
 unfold txE
 rw[if_pos (by omega)]
theorem textR_rt (v:Int) (T:List ByteArray) (hT:T.length≤1000000) (p u:List Int) (s:ByteArray) (hs:s.size≤64) (hin:v≠1→s∈T):
  textR v T (p++(textE v T s++u)) (p.length:Int) 0=(s,(((p++textE v T s).length:Nat):Int),0):=by
 unfold textR textE
 by_cases hv:v=1
 ·rw[if_pos hv,if_pos hv]
  exact cuText_blob p s u 64 (by omega) (by omega)
 ·rw[if_neg hv,if_neg hv]
  have hi:=hin hv
  have hp:=posOf_lt hi
  have h:=cuNum_vb p (posOf T s:Int) u (by omega)
  unfold txR numE
  rw[atI_in hi,h]
  dsimp only
  rw[txF_pos hi,txE_pos hi]
theorem depR_rt (v:Int) (T:List ByteArray) (hT:T.length≤1000000) (p u:List Int) (d:S109) (hs:d.f0.size≤64) (hin:v≠1→d.f0∈T) (ho:d.f2=true→3≤v):
  depR v T (p++(depE v T d++u)) (p.length:Int) 0=((d.f0,d.f2),(((p++depE v T d).length:Nat):Int),0):=by
 unfold depR depE
 by_cases hv:v<3
 ·rw [if_pos hv,if_pos hv,textR_rt v T hT p u d.f0 hs hin]
  have:d.f2=false:=by
   cases h:d.f2 with
   |false=>rfl
   |true=>have:=ho h;omega
  rw[this]
 ·rw [if_neg hv,if_neg hv]
  have hi:=hin (by omega)
  have hp:=posOf_lt hi
  have h:=cuNum_vb p (2*atI T d.f0+(if d.f2=true then 1 else 0)) u (by rw[atI_in hi];split<;>omega)
  rw[h]
  dsimp only
  rw[atI_in hi]
  have e1:(2*(posOf T d.f0:Int)+(if d.f2=true then 1 else 0))/2=(posOf T d.f0:Int):=by split<;>omega
  have e2:decide ((2*(posOf T d.f0:Int)+(if d.f2=true then 1 else 0))%2=1)=d.f2:=by
   cases hf:d.f2 with
   |true=>exact decide_eq_true (by first|(simp;done)|(simp;omega))
   |false=>exact decide_eq_false (by simp)
  rw[e1,e2,txF_pos hi,txE_pos hi]
theorem depsL_rt (v:Int) (T:List ByteArray) (hT:T.length≤1000000) (u:List Int): ∀(ds:List S109) (p:List Int) (acc:List S109) (f:Nat),ds.length≤f→
  (∀d∈ds,d.f0.size≤64∧(v≠1→d.f0∈T)∧(d.f2=true→3≤v)∧0≤d.f1∧d.f1<18446744073709551616)→
  depsL v T (p++(depsE v T ds++u)) f (ds.length:Int) (p.length:Int) 0 acc=(acc++ds,(((p++depsE v T ds).length:Nat):Int),0):=by
 intro ds
 induction ds with
 |nil=>
  intro p acc f _ _
  rw[depsL_end f (by simp)]
  simp[depsE]
 |cons d r ih=>
  intro p acc f hf hd
  obtain⟨f,rfl⟩: ∃m,f=m+1:=⟨f-1,by simp only[List.length_cons]at hf;omega⟩
  obtain⟨h1,h2,h3,h4,h5⟩:=hd d List.mem_cons_self
  have e:depsE v T (d::r)=depE v T d++(ints (vb d.f1.toNat)++depsE v T r):=by simp[depsE]
  rw[e]
  have hR:=depR_rt v T hT p ((ints (vb d.f1.toNat)++depsE v T r)++u) d h1 h2 h3
  have hN:=cuNum_vb (p++depE v T d) d.f1 (depsE v T r++u) ⟨h4,h5⟩
  have e1:p++((depE v T d++(ints (vb d.f1.toNat)++depsE v T r))++u)=p++(depE v T d++((ints (vb d.f1.toNat)++depsE v T r)++u)):=by simp only[List.append_assoc]
  have e2:p++(depE v T d++((ints (vb d.f1.toNat)++depsE v T r)++u))=(p++depE v T d)++(ints (vb d.f1.toNat)++(depsE v T r++u)):=by simp only[List.append_assoc]
  rw[depsL,if_pos ⟨by simp only[List.length_cons];omega,rfl⟩,e1,hR]
  dsimp only
  rw[e2,hN]
  dsimp only
  have e3:(p++depE v T d)++(ints (vb d.f1.toNat)++(depsE v T r++u))=((p++depE v T d)++ints (vb d.f1.toNat))++(depsE v T r++u):=by simp only[List.append_assoc]
  have e4:((d::r).length:Int)-1=(r.length:Int):=by simp only[List.length_cons];omega
  rw[e3,e4,ih _ _ f (by simp only[List.length_cons]at hf;omega) (fun x hx=>hd x (List.mem_cons_of_mem _ hx))]
  simp only[List.append_assoc,List.singleton_append]
theorem depsE_ge (v:Int) (T:List ByteArray) (ds:List S109):ds.length≤(depsE v T ds).length:=by
 induction ds with
 |nil=>simp
 | cons d r ih=>
  have e:depsE v T (d::r)=depE v T d++(ints (vb d.f1.toNat)++depsE v T r):=by simp[depsE]
  have h:0<(ints (vb d.f1.toNat)).length:=by
   rw[show(ints (vb d.f1.toNat)).length=(vb d.f1.toNat).length by simp[ints]]
   exact List.length_pos_iff.2 (vb_ne _)
  rw[e,List.length_append,List.length_append,List.length_cons]
  omega
theorem cuNum_at {L p u:List Int} {n:Int} (hL:L=p++(ints (vb n.toNat)++u)) (hn:0≤n∧n<18446744073709551616):cuNum L (p.length:Int) 0=(n,(((p++ints (vb n.toNat)).length:Nat):Int),0):=by
 subst hL;exact cuNum_vb p n u hn
def endE (v:Int) (T:List ByteArray) (x5:Int) (x6:ByteArray):List Int:=(if 2≤v then ints (vb x5.toNat)else [])++(if 3≤v then tagE T x6 else [])
theorem tailR_rt (v:Int) (T:List ByteArray) (hT:T.length≤1000000) (k:Int) (s:ByteArray) (x2:Int) (ds:List S109) (x4 x5:Int) (x6:ByteArray) (L p:List Int) (hL:L=p++endE v T x5 x6) (hv:1≤v∧v≤3)
  (h5:0≤x5∧x5<18446744073709551616) (hw:v<2→x5=0) (ht:v<3→x6.size=0) (hin:3≤v→x6.size≠0→x6∈T):
  tailR v T L k s x2 ds x4 (p.length:Int) 0=((k,s,x2,ds,x4,x5,x6),(L.length:Int),0):=by
 have he: ∀y:ByteArray,y.size=0→y=⟨#[]⟩:=fun y hy=>ByteArray.ext (Array.eq_empty_of_size_eq_zero hy)
 unfold endE at hL
 unfold tailR
 have hv3:v=1∨v=2∨v=3:=by omega
 rcases hv3 with rfl|rfl|rfl
 ·rw[if_pos (by omega),hw (by omega),he x6 (ht (by omega)),hL]
  simp
 ·rw[if_neg (by omega),if_pos (by omega),he x6 (ht (by omega))]
  rw[if_pos (by omega),if_neg (by omega)]at hL
  rw[cuNum_at hL h5,hL]
  simp
 ·rw [if_neg (by omega),if_neg (by omega)]
  rw[if_pos (by omega),if_pos (by omega)]at hL
  rw[cuNum_at hL h5]
  dsimp only
  unfold tagE at hL
  by_cases h0:x6.size=0
  ·rw[if_pos h0]at hL
   have hL2:L=(p++ints (vb x5.toNat))++(ints (vb (0:Int).toNat)++[]):=by rw[hL];simp
   rw[cuNum_at hL2 (by omega)]
   dsimp only
   rw[if_neg (by omega),he x6 h0,hL2]
   simp
  ·rw[if_neg h0]at hL
   have hi:=hin (by omega) h0
   have hp:=posOf_lt hi
   rw[atI_in hi]at hL
   have hL2:L=(p++ints (vb x5.toNat))++(ints (vb ((posOf T x6:Int)+1).toNat)++[]):=by rw[hL];simp
   rw[cuNum_at hL2 (by omega)]
   dsimp only
   rw[if_pos (by omega),show(posOf T x6:Int)+1-1=(posOf T x6:Int)by omega,txF_pos hi,txE_pos hi,hL2]
   simp
theorem depsL_at {v:Int} {T:List ByteArray} (hT:T.length≤1000000) {L p u:List Int} {ds:List S109} (hL:L=p++(depsE v T ds++u)) (hd: ∀d∈ds,d.f0.size≤64∧(v≠1→d.f0∈T)∧(d.f2=true→3≤v)∧0≤d.f1∧d.f1<18446744073709551616):
  depsL v T L (L.length+2) (ds.length:Int) (p.length:Int) 0 []=(ds,(((p++depsE v T ds).length:Nat):Int),0):=by
 have hf:ds.length≤L.length+2:=by
  have:=depsE_ge v T ds
  rw[hL,List.length_append,List.length_append];omega
 generalize L.length+2=f at hf ⊢
 subst hL
 rw[depsL_rt v T hT u ds p [] f hf hd,List.nil_append]
theorem traceR_rt (v:Int) (T:List ByteArray) (hT:T.length≤1000000) (k:Int) (s:ByteArray) (x2:Int) (ds:List S109) (x4 x5:Int) (x6:ByteArray) (L p:List Int) (hL:L=p++bodyE v T x2 ds x4 x5 x6) (hv:1≤v∧v≤3)
  (h2:0≤x2∧x2<18446744073709551616) (h4:0≤x4∧x4<18446744073709551616) (h5:0≤x5∧x5<18446744073709551616) (hn:ds.length≤1000)
  (hd: ∀d∈ds,d.f0.size≤64∧(v≠1→d.f0∈T)∧(d.f2=true→3≤v)∧0≤d.f1∧d.f1<18446744073709551616)
  (hw:v<2→x5=0) (ht:v<3→x6.size=0) (hin:3≤v→x6.size≠0→x6∈T):
  traceR v T L k s (p.length:Int) 0=((k,s,x2,ds,x4,x5,x6),(L.length:Int),0):=by
 have hb:bodyE v T x2 ds x4 x5 x6=ints (vb x2.toNat)++(ints (vb ((ds.length:Int)).toNat)++(depsE v T ds++(ints (vb x4.toNat)++endE v T x5 x6))):=by
  unfold bodyE endE
  rw[Int.toNat_natCast]
  simp only[List.append_assoc]
 rw[hb]at hL
 have a1:=cuNum_at hL h2
 have hL2:L=(p++ints (vb x2.toNat))++(ints (vb ((ds.length:Int)).toNat)++(depsE v T ds++(ints (vb x4.toNat)++endE v T x5 x6))):=by rw[hL];simp only[List.append_assoc]
 have a2:=cuNum_at hL2 (by omega)
 have hL3:L=((p++ints (vb x2.toNat))++ints (vb ((ds.length:Int)).toNat))++(depsE v T ds++(ints (vb x4.toNat)++endE v T x5 x6)):=by rw[hL];simp only[List.append_assoc]
 have a3:=depsL_at hT hL3 hd
 have hL4:L=(((p++ints (vb x2.toNat))++ints (vb ((ds.length:Int)).toNat))++depsE v T ds)++(ints (vb x4.toNat)++endE v T x5 x6):=by rw[hL];simp only[List.append_assoc]
 have a4:=cuNum_at hL4 h4
 have hL5:L=((((p++ints (vb x2.toNat))++ints (vb ((ds.length:Int)).toNat))++depsE v T ds)++ints (vb x4.toNat))++endE v T x5 x6:=by rw[hL];simp only[List.append_assoc]
 have a5:=tailR_rt v T hT k s x2 ds x4 x5 x6 L _ hL5 hv h5 hw ht hin
 unfold traceR
 rw[a1]
 dsimp only
 rw[a2]
 dsimp only
 rw[a3]
 dsimp only
 rw[a4]
 dsimp only
 exact a5
theorem lastR_rt (v:Int) (T:List ByteArray) (hT:T.length≤1000000) (k0:Int) (x1:ByteArray) (x2:Int) (l:List S109) (x4 x5:Int) (x6:ByteArray) (hm:mayB v k0 x1 x2 l x4 x5 x6=true)
  (h2:0≤x2∧x2<18446744073709551616) (h4:0≤x4∧x4<18446744073709551616) (h5:0≤x5∧x5<18446744073709551616) (hdr: ∀d∈l,0≤d.f1∧d.f1<18446744073709551616)
  (hin:v≠1→∀s∈namesL x1 l x6,s∈T):
  lastR v T (lastE v T k0 x1 x2 l x4 x5 x6)=((k0,x1,x2,l,x4,x5,x6),((lastE v T k0 x1 x2 l x4 x5 x6).length:Int),0):=by
 have M:=may_facts hm
 have hn1:v≠1→x1∈T:=fun hv=>hin hv x1 (by unfold namesL;simp)
 have hnd: ∀d∈l,v≠1→d.f0∈T:=fun d hd hv=>hin hv d.f0 (by unfold namesL;rw[List.mem_append];exact .inl (List.mem_cons_of_mem _ (List.mem_map.2 ⟨d,hd,rfl⟩)))
 have hn6:3≤v→x6.size≠0→x6∈T:=fun hv h0=>hin (by omega) x6 (by unfold namesL;rw[if_neg (by rw[tl_nil];exact h0)];simp)
 have hB:cuByte (lastE v T k0 x1 x2 l x4 x5 x6) 0 0=(k0,1,0):=by
  unfold cuByte lastE
  rw[if_neg (by simp),if_neg (by simp only[List.length_append,List.length_cons];omega)]
  simp[rd]
 obtain⟨U,hU⟩: ∃U,(if k0=2 then []else bodyE v T x2 l x4 x5 x6)=U:=⟨_,rfl⟩
 have hE:lastE v T k0 x1 x2 l x4 x5 x6=[k0]++(textE v T x1++U):=by unfold lastE;rw[hU];simp only[List.append_assoc]
 have hX:=textR_rt v T hT [k0] U x1 M.t.2 hn1
 rw[←hE]at hX
 unfold lastR
 rw[hB]
 dsimp only
 rw[show(([k0]:List Int).length:Int)=1 from rfl]at hX
 rw[hX]
 dsimp only
 rcases M.k with hk|hk
 ·rw [if_pos hk]
  have hL:lastE v T k0 x1 x2 l x4 x5 x6=([k0]++textE v T x1)++bodyE v T x2 l x4 x5 x6:=by
   unfold lastE;rw[if_neg (by omega)]
  exact traceR_rt v T hT k0 x1 x2 l x4 x5 x6 _ _ hL M.ver h2 h4 h5 (by have:=M.n;omega) (fun d hd=>⟨(M.d d hd).2.1,hnd d hd,(M.d d hd).2.2,hdr d hd⟩) M.w M.tag.2 hn6
 ·obtain⟨g1,g2,g3,g4,g5⟩:=M.gone hk
  rw[if_neg (by omega)]
  have e6:x6=⟨#[]⟩:=ByteArray.ext (Array.eq_empty_of_size_eq_zero g5)
  have hL:lastE v T k0 x1 x2 l x4 x5 x6=[k0]++textE v T x1:=by unfold lastE;rw[if_pos hk];simp
  rw[hL,g1,g2,g3,g4,e6]
end Go.Proofs.Ytmeocdkiecknkaa
