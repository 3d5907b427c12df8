/- Texts laid as one by shake.py, cut to what the claim needs: WSchemaGets. (Names that begin with W and the print's groups (G..x, G..z): laid by the kit's print, cut.) -/
import Derived.Test.YtmeocdkiecknkaaZGy
set_option linter.unusedVariables false
set_option linter.unusedSimpArgs false
namespace Go.Proofs.Ytmeocdkiecknkaa.WSchemaGets
open Go.RowKit Go.Proofs.YtmeocdkiecknkaaW.PrintWords Go.Proofs.Ytmeocdkiecknkaa.GRR
structure IsAt2 (W:World) (v:Value) (x:Int×Int):Prop where
 val:v= .agg #[.int .i64 x.1, .int .i64 x.2]
theorem str_bytes (pl:List ByteArray):(pl.map bytesOf).map strOfNums=pl:=by
 rw[List.map_map]
 conv=>rhs;rw[←List.map_id pl]
 exact List.map_congr_left (fun s _=>bytes_str s)
theorem Kp.to_below' {w wj wl:World} {S:Nat→Prop} (h:Kp wj wl S) (hb:Below w.heap.size w wj) (hs: ∀k,S k→w.heap.size≤k):Below w.heap.size w wl:=
 ⟨h.os.trans hb.os,h.tape.trans hb.tape,h.output.trans hb.output,Nat.le_trans hb.size h.size,fun k hk=>(h.block k (Nat.lt_of_lt_of_le hk hb.size) (fun hs'=>by have:=hs k hs';omega)).trans (hb.block k hk)⟩
set_option maxHeartbeats 8000000 in
set_option maxRecDepth 100000 in
theorem walk (v0:Value) (p0:Option Addr×Nat×List ByteArray) (v1:Value) (p1:Option Addr×Nat×List ByteArray) (v2:Value) (p2:Int×Int) (w:World) (w0:IsRows Kd.string (fun s=>s.size≤maxLen) w v0 p0) (w1:IsRows Kd.string (fun s=>s.size≤maxLen) w v1 p1) (w2:IsAt2 w v2 p2):
  Calls Try.prog 9 #[v0,v1,v2] w fun e w'=>e= .returned (.bool true)∧Below w.heap.size w w':=by
 obtain⟨A,c,names⟩:=p0
 obtain⟨Bp,d,pl⟩:=p1
 obtain⟨v,at0⟩:=p2
 obtain⟨rfl,hcA,hCA,hmA,hzA⟩:=w0
 obtain⟨rfl,hcP,hCP,hmP,hzP⟩:=w1
 obtain⟨rfl⟩:=w2
 dsimp only at hcA hCA hmA hzA hcP hCP hmP hzP ⊢
 obtain⟨wa,hwa⟩: ∃wa,w.alloc (.cells #[.int .i64 v, .int .i64 at0] 79)=wa:=⟨_,rfl⟩
 have hba:Below w.heap.size w wa:=by rw[←hwa];exact(Below.refl _ _).alloc (Nat.le_refl _) _
 have hka:wa.heap[w.heap.size]? =some (.cells #[.int .i64 v, .int .i64 at0] 79 (0,0)):=by rw[←hwa];exact heap_new _ _
 have hsa:wa.heap.size=w.heap.size+1:=by rw[←hwa,heap_size_alloc]
 obtain⟨b5,hbb⟩: ∃b,w.heap.size=b:=⟨_,rfl⟩
 rw[hbb]at hka hsa
 have HFW:=Lib.hid (tephralaw09_few.calls (names.length+1) A c names (fewB names) wa (Kd.C_below hCA hba) hcA (few_is names hCA.2.1))
 have HFP:=Lib.hid (fun(W:World) (hb:Below w.heap.size w W)=>tephralaw09_few.calls (pl.length+1) Bp d pl (fewB pl) W (Kd.C_below hCP hb) hcP (few_is pl hCP.2.1))
 have hfl: ∀l,fewB l=true→(∀s∈l,s.size≤3000)∧l.length≤40:=fun l h=>by
  unfold fewB at h
  rw[Bool.and_eq_true,decide_eq_true_eq,List.all_eq_true]at h
  exact⟨fun s hs=>by simpa using h.1 s hs,h.2⟩
 have HFL:=Lib.hid (And.intro (hfl names) (hfl pl))
 have HCA:=Lib.hid hCA
 have HCP:=Lib.hid hCP
 have HBA:=Lib.hid hba
 have HKA:=Lib.hid hka
 have HWA:=Lib.hid hwa
 have HBB:=Lib.hid hbb
 have HZA:=Lib.hid hzA
 have HSA:=Lib.hid hsa
 clear hCA hCP hba hka hwa hbb hfl hzA hzP hsa
 generalize fewB names=f at*
 generalize fewB pl=fp at*
 go_enter Try.func9,Try.ntmps9
 go_wp2_with fail
 rw[HWA.out,HBB.out]
 refine HFW.out.mono ?_
 rintro e wb ⟨rfl,hdr⟩
 have hb:=hdr.below
 have HB1:=Lib.hid (HBA.out.trans (hb.mono HBA.out.size))
 have HK1:=Lib.hid (blk_below HKA.out hb)
 have HS1:=Lib.hid (show b5+1≤wb.heap.size by have:=HSA.out;have:=hb.size;omega)
 clear hdr hb HFW HKA HBA HWA HSA
 cases f with
 |false=>
  go_wp2_with fail
  refine(fixed9_any _).mono ?_
  rintro en wq ⟨rfl,hbq⟩
  go_wp2_with fail
  go_ret
  exact⟨rfl,HB1.out.trans (hbq.mono HB1.out.size)⟩
 | true =>
  go_wp2_with fail
  refine(HFP.out wb HB1.out).mono ?_
  rintro e wc ⟨rfl,hdr⟩
  have hb:=hdr.below
  have HB2:=Lib.hid (HB1.out.trans (hb.mono HB1.out.size))
  have HK2:=Lib.hid (blk_below HK1.out hb)
  have HS2:=Lib.hid (show b5+1≤wc.heap.size by have:=HS1.out;have:=hb.size;omega)
  clear hdr hb HFP HK1 HB1 HS1
  cases fp with
  |false=>
   go_wp2_with fail
   refine(fixed9_any _).mono ?_
   rintro en wq ⟨rfl,hbq⟩
   go_wp2_with fail
   go_ret
   exact⟨rfl,HB2.out.trans (hbq.mono HB2.out.size)⟩
  | true=>
   obtain⟨hnz,hnl⟩:=HFL.out.1 (by trivial)
   obtain⟨hpz,hpl⟩:=HFL.out.2 (by trivial)
   have HZL:Hid (∀s∈pl,s.size≤1000000):=Lib.hid (fun s hs=>by have:=hpz s hs;omega)
   have HPN:Hid (pl.length≤1000000):=Lib.hid (by omega)
   have hps: ∀p∈pl.map bytesOf,p.length≤3000∧∀x∈p,0≤x∧x<256:=by
    intro p hp
    obtain⟨s,hs,rfl⟩:=List.mem_map.1 hp
    exact⟨by rw[bytesOf_length];exact hpz s hs,byt_rng s⟩
   have hml:(pl.map bytesOf).length=pl.length:=List.length_map ..
   have HN:=Lib.hid (fun(W:World) (hb:Below w.heap.size w W)=>new_any A c names W (Kd.C_below HCA.out hb) hcA HZA.out (by omega))
   have hT0:=tnew_len names
   have hND:=tnew_nodup names
   have hTS: ∀s∈tnew names,s.size≤maxLen:=fun s hs=>by rw[mem_tnew]at hs;exact HZA.out s hs
   have HNW:=Lib.hid (fun(W:World) (hb:Below w.heap.size w W)=>tephraref07_New.calls 2041 A c names _ W (Kd.C_below HCA.out hb) hcA (by
    have:=rnew_is8 names (by omega) names.length 0 2041 (by omega) (by omega)
    rw[List.take_zero]at this
    exact this))
   obtain⟨T0,hTe⟩: ∃x,tnew names=x:=⟨_,rfl⟩
   rw[hTe]at HN hT0 hND HNW hTS
   have hT1:T0.length≤40:=by omega
   clear hTe HFL hnz hnl hpz hT0
   have hGT:=fun(W:World) (A9:Option Addr) (c9:Nat) (S:Nat→Prop) (g:Nat) (hT:Tab W S g T0) (hC: ∀W',Kp W W' S→Kd.C kRows W' A9 (pl.map bytesOf).length (pl.map bytesOf)) (hc:(pl.map bytesOf).length≤c9)=>sget_any hT v A9 c9 (pl.map bytesOf) at0 hC hc hps (by omega) (by omega)
   have hRG:=fun(W:World) (A9:Option Addr) (c9:Nat) (hb:Below w.heap.size w W) (hC:Kd.C Kd.string W A9 T0.length T0) (hc:T0.length≤c9)=>rget_any W v A9 c9 T0 hC hc (by omega) hND hTS Bp d (pl.map bytesOf) (by rw[hml,str_bytes];exact Kd.C_below HCP.out hb) (by omega) hps (by omega) at0
   simp only[hml]at hRG
   have hfacts:=getF_facts (v:=v) (T:=T0) (ps:=pl.map bytesOf) (at0:=at0) (by omega) hND hTS hps
   generalize getF v T0 (pl.map bytesOf) at0=F at hGT hRG hfacts
   obtain⟨⟨k0,x1,x2,ds,x4,x5,x6⟩,nx,T2,er⟩:=F
   dsimp only at hfacts
   have HGTA:=Lib.hid hGT
   have HRGA:=Lib.hid hRG
   have HFACT:=Lib.hid hfacts
   have HND:=Lib.hid hND
   clear hGT hRG hfacts hps hTS hND
   go_wp2_with fail
   refine(HN.out wc HB2.out).mono ?_
   rintro e wd ⟨rfl,S1,hT1,hS1,hB1⟩
   have HBd:=Lib.hid (HB2.out.trans (hB1.mono HB2.out.size))
   go_wp2_with fail
   refine(HN.out wd HBd.out).mono ?_
   rintro e we ⟨rfl,S2,hT2,hS2,hB2⟩
   obtain⟨g1,hg1⟩: ∃g,wc.heap.size=g:=⟨_,rfl⟩
   obtain⟨g2,hg2⟩: ∃g,wd.heap.size=g:=⟨_,rfl⟩
   have hst:RwA w we S1 S2 g1 g2 T0 T0 (.slice none 0 0) (.slice none 0 0) [] []:=
    ⟨hg1 ▸ hT1.keep (Kp.of_below hB2 (fun _=>False)) (fun _ _ h=>h),hg2 ▸ hT2,fun k h1 h2=>by have:=hT1.lt k h1;have:=hS2 k h2;omega,fun k h1=>Nat.le_trans HB2.out.size (hS1 k h1),fun k h2=>Nat.le_trans HBd.out.size (hS2 k h2),HBd.out.trans (hB2.mono HBd.out.size),Kd.R_nil _ _ _ _ _,Kd.R_nil _ _ _ _ _⟩
   have hke:=blk_below (blk_below HK2.out hB1) hB2
   have hb1n: ∀k,S1 k→b5<k:=fun k hk=>by have:=hS1 k hk;have:=HS2.out;omega
   have hb2n: ∀k,S2 k→b5<k:=fun k hk=>by have:=hS2 k hk;have:=HS2.out;have:=hB1.size;omega
   rw[hg1,hg2]
   obtain⟨B6,hB6⟩: ∃B,we.heap.size=B:=⟨_,rfl⟩
   have HB6:=Lib.hid hB6
   have HST:=Lib.hid hst
   have hb5B:b5<B6:=by rw[←hB6];exact blk_lt hke
   have HSB:Hid (∀k,S1 k→w.heap.size≤k∧k<B6):=Lib.hid (fun k hk=>⟨hst.s1 k hk,hB6 ▸ hst.t1.lt k hk⟩)
   have HSB2:Hid (∀k,S2 k→w.heap.size≤k∧k<B6):=Lib.hid (fun k hk=>⟨hst.s2 k hk,hB6 ▸ hst.t2.lt k hk⟩)
   have HBW0:Hid (w.heap.size≤we.heap.size):=Lib.hid hst.bl.size
   have HBB0:Hid (w.heap.size≤B6):=Lib.hid (by rw[←hB6];exact hst.bl.size)
   have HBW1:Hid (B6≤we.heap.size):=Lib.hid (Nat.le_of_eq hB6.symm)
   have HI:Hid (∀W W',Kp W W' (fun k=>S1 k∨B6≤k)→I6 b5 v at0 S2 g2 T0 W→I6 b5 v at0 S2 g2 T0 W'):=Lib.hid (fun W W' hk h=>⟨hk.heap h.1 (fun hs=>by rcases hs with hs|hs;exact absurd (hb1n b5 hs) (by omega);omega),h.2.keep hk (fun k h2 hs=>by rcases hs with hs|hs;exact hst.dj k hs h2;have:=(HSB2.out k h2).2;omega)⟩)
   have HI0:Hid (I6 b5 v at0 S2 g2 T0 we):=Lib.hid ⟨hke,hst.t2⟩
   have HT0:Hid (Tab we S1 g1 T0):=Lib.hid hst.t1
   have HBY:=Lib.hid (fun(W:World) (hb:Below w.heap.size we W)=>bytes9_any Bp d pl W (Kd.C_below HCP.out (hst.bl.trans hb)) hcP (by omega))
   have HGT:=Lib.hid (fun(W:World) (A9:Option Addr) (c9:Nat) (hT:Tab W S1 g1 T0)=>HGTA.out W A9 c9 S1 g1 hT)
   have HDJ:=Lib.hid hst.dj
   have HBL:=Lib.hid hst.bl
   have HN1:=Lib.hid (And.intro hb1n hb2n)
   clear hT1 hS1 hB1 hT2 hS2 hB2 hg1 hg2 hst hke HB2 HBd HK2 hb1n hb2n HN HST hB6 HGTA
   go_wp2_with fail
   refine box_any (n:=16) (base:=w.heap.size) 7 12 9 B6 S1 (I6 b5 v at0 S2 g2 T0) (fun W=>Tab W S1 g1 T0) (P6 g1 B6 S1 T2) (FR6 B6 k0 x1 x2 ds x4 x5 x6) [isV (.pointer (some ⟨b5,0,none⟩)),isV (.int .i64 v),isV (.pointer (some ⟨g1,0,none⟩)),isV (.slice Bp pl.length d),(isPay B6 pl),isV (.pointer (some ⟨b5,1,none⟩)),isV (.int .i64 at0),(isGotA B6 k0 x1 x2 ds x4 x5 x6 nx er),(isGotA B6 k0 x1 x2 ds x4 x5 x6 nx er),(isRc B6 k0 x1 x2 ds x4 x5 x6),isV (.int .i64 nx),isV (.int .i64 er),(fun _ _=>True),(fun _ _=>True),isV (.int .i64 nx),isV (.int .i64 er)] (by kernel_rfl) rfl (by decide) (by decide) (by decide) (by kernel_rfl) (by kernel_rfl) ?hsl rfl rfl HSB.out HBB0.out ?h00a HI.out (fun W W' hk h=>h.keep hk (fun k h1 h2=>by have:=(HSB.out k h1).2;omega)) (fun _ _ _ _ hk hn h=>h.kp hk hn) (fun _ _ k h hk=>h.1.lt k hk) (fun _ _ _ hb h=>h.below hb) ?hl HBW1.out HI0.out HT0.out (show AllLt 16 _ from ?hs) ?he
   case hsl=>
    intro i oi hi hd
    exact dst_inj (m:=109) (by kernel_rfl) hi (j:=12) rfl hd rfl
   case h00a=>exact fun b h=>by simp[undef]at h
   case hl=>
    intro q hq
    simp only[List.mem_cons,List.not_mem_nil,or_false]at hq
    rcases hq with rfl|rfl|rfl|rfl|rfl|rfl|rfl|rfl|rfl|rfl|rfl|rfl|rfl|rfl|rfl|rfl
    all_goals intro v W W' hk h
    all_goals first|exact h|trivial|exact h.kpR HSB.out hk
   case hs=>
    refine allLt_succ (allLt_succ (allLt_succ (allLt_succ (allLt_succ (allLt_succ (allLt_succ (allLt_succ (allLt_succ (allLt_succ (allLt_succ (allLt_succ (allLt_succ (allLt_succ (allLt_succ (allLt_succ (allLt_zero _) ?_) ?_) ?_) ?_) ?_) ?_) ?_) ?_) ?_) ?_) ?_) ?_) ?_) ?_) ?_) ?_
    ·refine StepB.run (get_lit rfl) rfl ⟨by decide,by decide,by decide⟩ HI.out HBW0.out fun a W hS hB hd hR=> ?_
     have e5:=hS.get (t:=5) rfl rfl
     refine wp_value (c:= .pointer (some ⟨b5,0,none⟩)) ?_ rfl
     go_simp
    ·refine StepB.run (get_lit rfl) rfl ⟨by decide,by decide,by decide⟩ HI.out HBW0.out fun a W hS hB hd hR=> ?_
     have e38:=(hd 0 rfl).bool rfl rfl rfl
     refine wp_value (c:= .int .i64 v) ?_ rfl
     have hc0:W.cell? ⟨b5,0,none⟩=some (.int .i64 v):=(blk_cell (hR.1) 0).trans rfl
     have hc1:W.cell? ⟨b5,1,none⟩=some (.int .i64 at0):=(blk_cell (hR.1) 1).trans rfl
     go_simp
    ·refine StepB.run (get_lit rfl) rfl ⟨by decide,by decide,by decide⟩ HI.out HBW0.out fun a W hS hB hd hR=> ?_
     have e7:=hS.get (t:=7) rfl rfl
     refine wp_value (c:= .pointer (some ⟨g1,0,none⟩)) ?_ rfl
     go_simp
    ·refine StepB.run (get_lit rfl) rfl ⟨by decide,by decide,by decide⟩ HI.out HBW0.out fun a W hS hB hd hR=> ?_
     have e1:=hS.get (t:=1) rfl rfl
     refine wp_value (c:= .slice Bp pl.length d) ?_ rfl
     go_simp
    ·refine StepB.run (get_lit rfl) rfl ⟨by decide,by decide,by decide⟩ HI.out HBW0.out fun a W hS hB hd hR=> ?_
     have e41:=(hd 3 rfl).bool rfl rfl rfl
     refine wp_called Try.func39 (by kernel_rfl) rfl #[.slice Bp pl.length d] rfl (by simp[Act.eval, *]) ?_
     refine(HBY.out W hB).mono ?_
     rintro e w9 ⟨v9,vs,rfl,hR9,hl9,hE9,hb9⟩
     exact⟨_,rfl,⟨vs,Kd.R_lower hR9 (Nat.le_trans (Nat.le_of_eq HB6.out.symm) hB.size),hl9,fun k x s hx hs=>(hE9 k x s hx hs).lower (Nat.le_trans (Nat.le_of_eq HB6.out.symm) hB.size)⟩,hb9⟩
    ·refine StepB.run (get_lit rfl) rfl ⟨by decide,by decide,by decide⟩ HI.out HBW0.out fun a W hS hB hd hR=> ?_
     have e5:=hS.get (t:=5) rfl rfl
     refine wp_value (c:= .pointer (some ⟨b5,1,none⟩)) ?_ rfl
     go_simp
    ·refine StepB.run (get_lit rfl) rfl ⟨by decide,by decide,by decide⟩ HI.out HBW0.out fun a W hS hB hd hR=> ?_
     have e43:=(hd 5 rfl).bool rfl rfl rfl
     refine wp_value (c:= .int .i64 at0) ?_ rfl
     have hc0:W.cell? ⟨b5,0,none⟩=some (.int .i64 v):=(blk_cell (hR.1) 0).trans rfl
     have hc1:W.cell? ⟨b5,1,none⟩=some (.int .i64 at0):=(blk_cell (hR.1) 1).trans rfl
     go_simp
    ·refine StepB.call (o:= ?o7a) ?ho7a ?hg7a rfl (by decide) ?hdn7a HI.out HBW0.out HSB.out ?h7a
     case ho7a=>simp only[List.getElem?_toArray,List.getElem?_cons_succ,List.getElem?_cons_zero];rfl
     case hg7a=>rfl
     case hdn7a=>decide
     case h7a=>
     intro a W hS hB hd hR hT
     have e39:=(hd 1 rfl).bool rfl rfl rfl
     have e40:=(hd 2 rfl).bool rfl rfl rfl
     obtain⟨u42,e42,p42⟩:=(hd 4 rfl).get rfl rfl
     replace p42:(isPay B6 pl) u42 W:=p42
     have e44:=(hd 6 rfl).bool rfl rfl rfl
     obtain⟨A42,c42,rfl,hl42,hC42⟩:=p42.read HZL.out HPN.out
     refine wp_calledK Try.func37 (by kernel_rfl) rfl #[.int .i64 v, .pointer (some ⟨g1,0,none⟩), .slice A42 (pl.map bytesOf).length c42, .int .i64 at0] rfl (by simp[Act.eval, *]) ?_
     refine(HGT.out W A42 c42 hT (fun W' hk=>(p42.kpR HSB.out (hk.mono (fun _ h=> .inl h))).read' HZL.out HPN.out) hl42).mono ?_
     rintro e w9 ⟨dv,S9,rfl,hT9,hs9,hk9,hR9⟩
     exact⟨_,rfl,⟨dv,rfl,Kd.R_mono (Kd.R_lower hR9 (Nat.le_trans (Nat.le_of_eq HB6.out.symm) hB.size)) (fun _ _=>trivial)⟩,hk9,S9,⟨hT9,fun k hk=>(hs9 k hk).imp (fun h=>h) (fun h=>Nat.le_trans (Nat.le_trans (Nat.le_of_eq HB6.out.symm) hB.size) h)⟩,fun k hk=>(hs9 k hk).imp (fun h=>(HSB.out k h).2) (fun h=>h)⟩
    ·refine StepB.run (get_lit rfl) rfl ⟨by decide,by decide,by decide⟩ HI.out HBW0.out fun a W hS hB hd hR=> ?_
     obtain⟨u45,e45,p45⟩:=(hd 7 rfl).get rfl rfl
     replace p45:(isGotA B6 k0 x1 x2 ds x4 x5 x6 nx er) u45 W:=p45
     refine wp_pred (c:=u45) ?_ p45
     go_simp
    ·refine StepB.run (get_lit rfl) rfl ⟨by decide,by decide,by decide⟩ HI.out HBW0.out fun a W hS hB hd hR=> ?_
     obtain⟨u37,e37,p37⟩:=(hd 8 rfl).get rfl rfl
     replace p37:(isGotA B6 k0 x1 x2 ds x4 x5 x6 nx er) u37 W:=p37
     obtain⟨dv,rfl,hKD⟩:=p37
     refine wp_pred (c:= .agg #[.int .i64 k0, .string x1, .int .u64 x2,dv, .int .u64 x4, .int .u64 x5, .string x6]) ?_ ⟨dv,rfl,hKD⟩
     go_simp
    ·refine StepB.run (get_lit rfl) rfl ⟨by decide,by decide,by decide⟩ HI.out HBW0.out fun a W hS hB hd hR=> ?_
     obtain⟨u37,e37,p37⟩:=(hd 8 rfl).get rfl rfl
     replace p37:(isGotA B6 k0 x1 x2 ds x4 x5 x6 nx er) u37 W:=p37
     refine wp_value (c:= .int .i64 nx) ?_ rfl
     obtain⟨dv,rfl,hKD⟩:=p37
     go_simp
    ·refine StepB.run (get_lit rfl) rfl ⟨by decide,by decide,by decide⟩ HI.out HBW0.out fun a W hS hB hd hR=> ?_
     obtain⟨u37,e37,p37⟩:=(hd 8 rfl).get rfl rfl
     replace p37:(isGotA B6 k0 x1 x2 ds x4 x5 x6 nx er) u37 W:=p37
     refine wp_value (c:= .int .i64 er) ?_ rfl
     obtain⟨dv,rfl,hKD⟩:=p37
     go_simp
    ·refine StepB.alloc (o:= ?o12a) (z:=#[.int .i64 0, .string ⟨#[]⟩, .int .u64 0, .slice none 0 0, .int .u64 0, .int .u64 0, .string ⟨#[]⟩]) ?ho12a ?hg12a rfl (by decide) HI.out HBW0.out HBW1.out ⟨_,_,_,_,_,_,_,rfl⟩ ?h12a
     case ho12a=>simp only[List.getElem?_toArray,List.getElem?_cons_succ,List.getElem?_cons_zero];rfl
     case hg12a=>rfl
     case h12a=>
     intro a W
     go_simp
    ·refine StepB.store (o:= ?o13a) (om:= ?om13a) ?ho13a ?hg13a rfl (by decide) ?hdn13a ?hwm13a ?hom13a ?hds13a HI.out HBW0.out HBB0.out ?h13a
     case ho13a=>simp only[List.getElem?_toArray,List.getElem?_cons_succ,List.getElem?_cons_zero];rfl
     case hg13a=>rfl
     case hom13a=>simp only[List.getElem?_toArray,List.getElem?_cons_succ,List.getElem?_cons_zero];rfl
     case hdn13a=>rfl
     case hwm13a=>rfl
     case hds13a=>rfl
     case h13a=>
     intro a W hS hB hd b u0 u1 u2 u3 u4 u5 u6 eb hbB' hkb
     obtain⟨u46,e46,p46⟩:=(hd 9 rfl).get rfl rfl
     replace p46:(isRc B6 k0 x1 x2 ds x4 x5 x6) u46 W:=p46
     obtain⟨dv,rfl,hKD⟩:=p46
     obtain⟨Ad,cd,rfl⟩:=Kd.R_slice hKD
     have o0:W.cell? ⟨b,0,none⟩=some u0:=(blk_cell hkb 0).trans rfl
     have of0:=blk_frozen hkb 0
     have o1:W.cell? ⟨b,1,none⟩=some u1:=(blk_cell hkb 1).trans rfl
     have of1:=blk_frozen hkb 1
     have o2:W.cell? ⟨b,2,none⟩=some u2:=(blk_cell hkb 2).trans rfl
     have of2:=blk_frozen hkb 2
     have o3:W.cell? ⟨b,3,none⟩=some u3:=(blk_cell hkb 3).trans rfl
     have of3:=blk_frozen hkb 3
     have o4:W.cell? ⟨b,4,none⟩=some u4:=(blk_cell hkb 4).trans rfl
     have of4:=blk_frozen hkb 4
     have o5:W.cell? ⟨b,5,none⟩=some u5:=(blk_cell hkb 5).trans rfl
     have of5:=blk_frozen hkb 5
     have o6:W.cell? ⟨b,6,none⟩=some u6:=(blk_cell hkb 6).trans rfl
     have of6:=blk_frozen hkb 6
     refine⟨_,_,_,_,_,_,_, ?_,fun W' hk' hkp'=>⟨hbB',_,hk',R_noBox hKD hkb hkp' noRecDep⟩⟩
     go_simp
    ·refine StepB.run (get_lit rfl) rfl ⟨by decide,by decide,by decide⟩ HI.out HBW0.out fun a W hS hB hd hR=> ?_
     have e47:=(hd 10 rfl).bool rfl rfl rfl
     refine wp_value (c:= .int .i64 nx) ?_ rfl
     go_simp
    ·refine StepB.run (get_lit rfl) rfl ⟨by decide,by decide,by decide⟩ HI.out HBW0.out fun a W hS hB hd hR=> ?_
     have e48:=(hd 11 rfl).bool rfl rfl rfl
     refine wp_value (c:= .int .i64 er) ?_ rfl
     go_simp
   case he=>
    intro a W hS hB hh hIW hP7 hFR
    have HBR:=Lib.hid hB
    have HIW:=Lib.hid hIW
    have HP7:=Lib.hid hP7
    obtain⟨b9,hbs,hFR⟩:=hFR
    have HFR:=Lib.hid hFR
    have e10:a.tmps[10]? =some (.int .i64 nx):=(hh 14 (by omega)).bool rfl rfl rfl
    have e11:a.tmps[11]? =some (.int .i64 er):=(hh 15 (by omega)).bool rfl rfl rfl
    obtain⟨zz,hlit,hzz⟩:=same_litz hS
    clear hh hS hB hIW hP7 hFR
    simp only[List.filterMap_cons,List.filterMap_nil,List.foldl_cons,List.foldl_nil,List.setIfInBounds_toArray,List.set_cons_zero,List.set_cons_succ]at hlit
    rw[hzz 9 _ hbs]at hlit
    rw[hzz 10 _ e10]at hlit
    rw[hzz 11 _ e11]at hlit
    clear hbs e10 e11
    clear hzz;subst hlit
    obtain⟨S3,hT3,hS3⟩:=HP7.out
    obtain⟨hbx,hT2⟩:=HIW.out
    obtain⟨hbb,dv9,hk9,hR9⟩:=HFR.out
    obtain⟨A9,c9,rfl⟩:=Kd.R_slice hR9
    obtain⟨B7,hB7⟩: ∃B,W.heap.size=B:=⟨_,rfl⟩
    have hblW:=HBL.out.trans HBR.out
    have hi0:I7 b5 b9 v at0 S3 S2 g1 g2 T2 T0 B6 B7 (.slice A9 ds.length c9) k0 x1 x2 ds x4 x5 x6 W:=⟨hbx,hT3,hT2,hk9,Kd.R_mono (Kd.R_bound hR9) (fun k hk=>hB7 ▸ hk.2.2.1)⟩
    have hb67:B6≤B7:=by rw[←hB7,←HB6.out];exact HBR.out.size
    have hb97:b9<B7:=by rw[←hB7];exact blk_lt hk9
    have hS37: ∀k,S3 k→k<B7:=fun k hk=>by rw[←hB7];exact hT3.lt k hk
    have HB7:=Lib.hid hB7
    have HSB:Hid (∀k,(fun _:Nat=>False) k→w.heap.size≤k∧k<B7):=Lib.hid (fun k hk=>hk.elim)
    have HBW0:Hid (w.heap.size≤W.heap.size):=Lib.hid hblW.size
    have HBB0:Hid (w.heap.size≤B7):=Lib.hid (by rw[←hB7];exact hblW.size)
    have HBW1:Hid (B7≤W.heap.size):=Lib.hid (Nat.le_of_eq hB7.symm)
    have HI:Hid (∀W W',Kp W W' (fun k=>(fun _:Nat=>False) k∨B7≤k)→I7 b5 b9 v at0 S3 S2 g1 g2 T2 T0 B6 B7 (.slice A9 ds.length c9) k0 x1 x2 ds x4 x5 x6 W→I7 b5 b9 v at0 S3 S2 g1 g2 T2 T0 B6 B7 (.slice A9 ds.length c9) k0 x1 x2 ds x4 x5 x6 W'):=Lib.hid (fun W W' hk h=>h.kp hk (fun hs=>hs.elim (fun h=>h) (fun h=>by omega)) (fun hs=>hs.elim (fun h=>h) (fun h=>by omega)) (fun k h3 hs=>hs.elim (fun h=>h) (fun h=>by have:=hS37 k h3;omega)) (fun k h3 hs=>hs.elim (fun h=>h) (fun h=>by have:=(HSB2.out k h3).2;omega)) (fun k h3 _ hs=>hs.elim (fun h=>h) (fun h=>by omega)))
    have HI0:=Lib.hid hi0
    have HNW:=Lib.hid (fun(W':World) (hb:Below w.heap.size W W')=>HNW.out W' (hblW.trans hb))
    have HRG:=Lib.hid (fun(W':World) (A9:Option Addr) (c9:Nat) (hb:Below w.heap.size W W')=>HRGA.out W' A9 c9 (hblW.trans hb))
    have HBL:=Lib.hid hblW
    have HS37:=Lib.hid hS37
    clear hT3 hS3 hbx hT2 hbb hk9 hR9 hB7 hblW hi0 hS37 HP7 HIW HFR HBR HRGA HBY HGT HT0
    go_wp2_with fail
    refine box_any (n:=18) (base:=w.heap.size) 7 13 12 B7 (fun _=>False) (I7 b5 b9 v at0 S3 S2 g1 g2 T2 T0 B6 B7 (.slice A9 ds.length c9) k0 x1 x2 ds x4 x5 x6) (fun _=>True) (fun S _=>∀k,¬S k) (FR6 B7 k0 x1 x2 ds x4 x5 x6) [isV (.pointer (some ⟨b5,0,none⟩)),isV (.int .i64 v),isV (.slice A names.length c),(isRS B7 T0),isV (.slice Bp pl.length d),isV (.pointer (some ⟨b5,1,none⟩)),isV (.int .i64 at0),(isGotB B7 k0 x1 x2 ds x4 x5 x6 nx T2 er),(isGotB B7 k0 x1 x2 ds x4 x5 x6 nx T2 er),(isRc B7 k0 x1 x2 ds x4 x5 x6),isV (.int .i64 nx),(isRS B7 T2),isV (.int .i64 er),(fun _ _=>True),(fun _ _=>True),isV (.int .i64 nx),(isRS B7 T2),isV (.int .i64 er)] (by kernel_rfl) rfl (by decide) (by decide) (by decide) (by kernel_rfl) (by kernel_rfl) ?hsl rfl rfl HSB.out HBB0.out ?h00b HI.out (fun _ _ _ _=>trivial) (fun _ _ _ _ _ _ h=>h) (fun S _ k h hk=>absurd hk (h k)) (fun _ _ _ hb h=>h.below hb) ?hl HBW1.out HI0.out trivial (show AllLt 18 _ from ?hs) ?he
    case hsl=>
     intro i oi hi hd
     exact dst_inj (m:=109) (by kernel_rfl) hi (j:=13) rfl hd rfl
    case h00b=>exact fun b h=>by simp[undef]at h
    case hl=>
     intro q hq
     simp only[List.mem_cons,List.not_mem_nil,or_false]at hq
     rcases hq with rfl|rfl|rfl|rfl|rfl|rfl|rfl|rfl|rfl|rfl|rfl|rfl|rfl|rfl|rfl|rfl|rfl|rfl
     all_goals intro v W W' hk h
     all_goals first|exact h|trivial|exact h.kpR HSB.out hk
    case hs=>
     refine allLt_succ (allLt_succ (allLt_succ (allLt_succ (allLt_succ (allLt_succ (allLt_succ (allLt_succ (allLt_succ (allLt_succ (allLt_succ (allLt_succ (allLt_succ (allLt_succ (allLt_succ (allLt_succ (allLt_succ (allLt_succ (allLt_zero _) ?_) ?_) ?_) ?_) ?_) ?_) ?_) ?_) ?_) ?_) ?_) ?_) ?_) ?_) ?_) ?_) ?_) ?_
     ·refine StepB.run (get_lit rfl) rfl ⟨by decide,by decide,by decide⟩ HI.out HBW0.out fun a W hS hB hd hR=> ?_
      have e5:=hS.get (t:=5) rfl rfl
      refine wp_value (c:= .pointer (some ⟨b5,0,none⟩)) ?_ rfl
      go_simp
     ·refine StepB.run (get_lit rfl) rfl ⟨by decide,by decide,by decide⟩ HI.out HBW0.out fun a W hS hB hd hR=> ?_
      have e50:=(hd 0 rfl).bool rfl rfl rfl
      refine wp_value (c:= .int .i64 v) ?_ rfl
      have hc0:W.cell? ⟨b5,0,none⟩=some (.int .i64 v):=(blk_cell (hR.1) 0).trans rfl
      have hc1:W.cell? ⟨b5,1,none⟩=some (.int .i64 at0):=(blk_cell (hR.1) 1).trans rfl
      go_simp
     ·refine StepB.run (get_lit rfl) rfl ⟨by decide,by decide,by decide⟩ HI.out HBW0.out fun a W hS hB hd hR=> ?_
      have e0:=hS.get (t:=0) rfl rfl
      refine wp_value (c:= .slice A names.length c) ?_ rfl
      go_simp
     ·refine StepB.run (get_lit rfl) rfl ⟨by decide,by decide,by decide⟩ HI.out HBW0.out fun a W hS hB hd hR=> ?_
      have e52:=(hd 2 rfl).bool rfl rfl rfl
      refine wp_called Try.func33 (by kernel_rfl) rfl #[.slice A names.length c] rfl (by simp[Act.eval, *]) ?_
      refine(HNW.out W hB).mono ?_
      rintro e w9 ⟨v9,rfl,hR9,hb9⟩
      exact⟨_,rfl,Kd.R_lower hR9 (Nat.le_trans (Nat.le_of_eq HB7.out.symm) hB.size),hb9⟩
     ·refine StepB.run (get_lit rfl) rfl ⟨by decide,by decide,by decide⟩ HI.out HBW0.out fun a W hS hB hd hR=> ?_
      have e1:=hS.get (t:=1) rfl rfl
      refine wp_value (c:= .slice Bp pl.length d) ?_ rfl
      go_simp
     ·refine StepB.run (get_lit rfl) rfl ⟨by decide,by decide,by decide⟩ HI.out HBW0.out fun a W hS hB hd hR=> ?_
      have e5:=hS.get (t:=5) rfl rfl
      refine wp_value (c:= .pointer (some ⟨b5,1,none⟩)) ?_ rfl
      go_simp
     ·refine StepB.run (get_lit rfl) rfl ⟨by decide,by decide,by decide⟩ HI.out HBW0.out fun a W hS hB hd hR=> ?_
      have e55:=(hd 5 rfl).bool rfl rfl rfl
      refine wp_value (c:= .int .i64 at0) ?_ rfl
      have hc0:W.cell? ⟨b5,0,none⟩=some (.int .i64 v):=(blk_cell (hR.1) 0).trans rfl
      have hc1:W.cell? ⟨b5,1,none⟩=some (.int .i64 at0):=(blk_cell (hR.1) 1).trans rfl
      go_simp
     ·refine StepB.call (o:= ?o7b) ?ho7b ?hg7b rfl (by decide) ?hdn7b HI.out HBW0.out HSB.out ?h7b
      case ho7b=>simp only[List.getElem?_toArray,List.getElem?_cons_succ,List.getElem?_cons_zero];rfl
      case hg7b=>rfl
      case hdn7b=>decide
      case h7b=>
      intro a W hS hB hd hR hT
      have e51:=(hd 1 rfl).bool rfl rfl rfl
      obtain⟨u53,e53,p53⟩:=(hd 3 rfl).get rfl rfl
      replace p53:(isRS B7 T0) u53 W:=p53
      have e54:=(hd 4 rfl).bool rfl rfl rfl
      have e56:=(hd 6 rfl).bool rfl rfl rfl
      obtain⟨A53,c53,he53,hl53,hC53⟩:=Kd.R_reads p53
      subst he53
      refine wp_calledK Try.func40 (by kernel_rfl) rfl #[.int .i64 v, .slice A53 T0.length c53, .slice Bp pl.length d, .int .i64 at0] rfl (by simp[Act.eval, *]) ?_
      refine(HRG.out W A53 c53 hB hC53 hl53).mono ?_
      rintro e w9 ⟨dv,A9,c9,rfl,hR9,hl9,hC9,hb9,hor⟩
      refine⟨_,rfl,⟨dv,_,rfl,Kd.R_lower hR9 (Nat.le_trans (Nat.le_of_eq HB7.out.symm) hB.size), ?_⟩,Kp.of_below hb9 _,fun _=>False,fun _ h=>h,fun _ h=>h.elim⟩
      rcases hor with⟨rfl,rfl,he⟩|hR
      ·have h9:=Kd.R_below p53 hb9
       (try dsimp only at he)
       subst he
       exact h9
      ·exact Kd.R_lower hR (Nat.le_trans (Nat.le_of_eq HB7.out.symm) hB.size)
     ·refine StepB.run (get_lit rfl) rfl ⟨by decide,by decide,by decide⟩ HI.out HBW0.out fun a W hS hB hd hR=> ?_
      obtain⟨u57,e57,p57⟩:=(hd 7 rfl).get rfl rfl
      replace p57:(isGotB B7 k0 x1 x2 ds x4 x5 x6 nx T2 er) u57 W:=p57
      refine wp_pred (c:=u57) ?_ p57
      go_simp
     ·refine StepB.run (get_lit rfl) rfl ⟨by decide,by decide,by decide⟩ HI.out HBW0.out fun a W hS hB hd hR=> ?_
      obtain⟨u49,e49,p49⟩:=(hd 8 rfl).get rfl rfl
      replace p49:(isGotB B7 k0 x1 x2 ds x4 x5 x6 nx T2 er) u49 W:=p49
      obtain⟨dv,tv,rfl,hKD,hRS⟩:=p49
      refine wp_pred (c:= .agg #[.int .i64 k0, .string x1, .int .u64 x2,dv, .int .u64 x4, .int .u64 x5, .string x6]) ?_ ⟨dv,rfl,hKD⟩
      go_simp
     ·refine StepB.run (get_lit rfl) rfl ⟨by decide,by decide,by decide⟩ HI.out HBW0.out fun a W hS hB hd hR=> ?_
      obtain⟨u49,e49,p49⟩:=(hd 8 rfl).get rfl rfl
      replace p49:(isGotB B7 k0 x1 x2 ds x4 x5 x6 nx T2 er) u49 W:=p49
      refine wp_value (c:= .int .i64 nx) ?_ rfl
      obtain⟨dv,tv,rfl,hKD,hRS⟩:=p49
      go_simp
     ·refine StepB.run (get_lit rfl) rfl ⟨by decide,by decide,by decide⟩ HI.out HBW0.out fun a W hS hB hd hR=> ?_
      obtain⟨u49,e49,p49⟩:=(hd 8 rfl).get rfl rfl
      replace p49:(isGotB B7 k0 x1 x2 ds x4 x5 x6 nx T2 er) u49 W:=p49
      obtain⟨dv,tv,rfl,hKD,hRS⟩:=p49
      refine wp_pred (c:=tv) ?_ hRS
      go_simp
     ·refine StepB.run (get_lit rfl) rfl ⟨by decide,by decide,by decide⟩ HI.out HBW0.out fun a W hS hB hd hR=> ?_
      obtain⟨u49,e49,p49⟩:=(hd 8 rfl).get rfl rfl
      replace p49:(isGotB B7 k0 x1 x2 ds x4 x5 x6 nx T2 er) u49 W:=p49
      refine wp_value (c:= .int .i64 er) ?_ rfl
      obtain⟨dv,tv,rfl,hKD,hRS⟩:=p49
      go_simp
     ·refine StepB.alloc (o:= ?o13b) (z:=#[.int .i64 0, .string ⟨#[]⟩, .int .u64 0, .slice none 0 0, .int .u64 0, .int .u64 0, .string ⟨#[]⟩]) ?ho13b ?hg13b rfl (by decide) HI.out HBW0.out HBW1.out ⟨_,_,_,_,_,_,_,rfl⟩ ?h13b
      case ho13b=>simp only[List.getElem?_toArray,List.getElem?_cons_succ,List.getElem?_cons_zero];rfl
      case hg13b=>rfl
      case h13b=>
      intro a W
      go_simp
     ·refine StepB.store (o:= ?o14b) (om:= ?om14b) ?ho14b ?hg14b rfl (by decide) ?hdn14b ?hwm14b ?hom14b ?hds14b HI.out HBW0.out HBB0.out ?h14b
      case ho14b=>simp only[List.getElem?_toArray,List.getElem?_cons_succ,List.getElem?_cons_zero];rfl
      case hg14b=>rfl
      case hom14b=>simp only[List.getElem?_toArray,List.getElem?_cons_succ,List.getElem?_cons_zero];rfl
      case hdn14b=>rfl
      case hwm14b=>rfl
      case hds14b=>rfl
      case h14b=>
      intro a W hS hB hd b u0 u1 u2 u3 u4 u5 u6 eb hbB' hkb
      obtain⟨u58,e58,p58⟩:=(hd 9 rfl).get rfl rfl
      replace p58:(isRc B7 k0 x1 x2 ds x4 x5 x6) u58 W:=p58
      obtain⟨dv,rfl,hKD⟩:=p58
      obtain⟨Ad,cd,rfl⟩:=Kd.R_slice hKD
      have o0:W.cell? ⟨b,0,none⟩=some u0:=(blk_cell hkb 0).trans rfl
      have of0:=blk_frozen hkb 0
      have o1:W.cell? ⟨b,1,none⟩=some u1:=(blk_cell hkb 1).trans rfl
      have of1:=blk_frozen hkb 1
      have o2:W.cell? ⟨b,2,none⟩=some u2:=(blk_cell hkb 2).trans rfl
      have of2:=blk_frozen hkb 2
      have o3:W.cell? ⟨b,3,none⟩=some u3:=(blk_cell hkb 3).trans rfl
      have of3:=blk_frozen hkb 3
      have o4:W.cell? ⟨b,4,none⟩=some u4:=(blk_cell hkb 4).trans rfl
      have of4:=blk_frozen hkb 4
      have o5:W.cell? ⟨b,5,none⟩=some u5:=(blk_cell hkb 5).trans rfl
      have of5:=blk_frozen hkb 5
      have o6:W.cell? ⟨b,6,none⟩=some u6:=(blk_cell hkb 6).trans rfl
      have of6:=blk_frozen hkb 6
      refine⟨_,_,_,_,_,_,_, ?_,fun W' hk' hkp'=>⟨hbB',_,hk',R_noBox hKD hkb hkp' noRecDep⟩⟩
      go_simp
     ·refine StepB.run (get_lit rfl) rfl ⟨by decide,by decide,by decide⟩ HI.out HBW0.out fun a W hS hB hd hR=> ?_
      have e59:=(hd 10 rfl).bool rfl rfl rfl
      refine wp_value (c:= .int .i64 nx) ?_ rfl
      go_simp
     ·refine StepB.run (get_lit rfl) rfl ⟨by decide,by decide,by decide⟩ HI.out HBW0.out fun a W hS hB hd hR=> ?_
      obtain⟨u60,e60,p60⟩:=(hd 11 rfl).get rfl rfl
      replace p60:(isRS B7 T2) u60 W:=p60
      refine wp_pred (c:=u60) ?_ p60
      go_simp
     ·refine StepB.run (get_lit rfl) rfl ⟨by decide,by decide,by decide⟩ HI.out HBW0.out fun a W hS hB hd hR=> ?_
      have e61:=(hd 12 rfl).bool rfl rfl rfl
      refine wp_value (c:= .int .i64 er) ?_ rfl
      go_simp
    case he=>
     intro a W hS hB hh hIW hP7 hFR
     have HBR:=Lib.hid hB
     have HIW:=Lib.hid hIW
     have HP7:=Lib.hid hP7
     obtain⟨b12,hbs,hFR⟩:=hFR
     have HFR:=Lib.hid hFR
     have e13:a.tmps[13]? =some (.int .i64 nx):=(hh 15 (by omega)).bool rfl rfl rfl
     have e15:a.tmps[15]? =some (.int .i64 er):=(hh 17 (by omega)).bool rfl rfl rfl
     obtain⟨u14,e14,p14⟩:=(hh 16 (by omega)).get rfl rfl
     replace p14:isRS B7 T2 u14 W:=p14
     have p14':=p14
     obtain⟨A14,c14,rfl,hl14,hC14⟩:=Kd.R_reads p14
     have HC14:=Lib.hid p14'
     clear hC14 p14 p14'
     obtain⟨zz,hlit,hzz⟩:=same_litz hS
     clear hh hS hB hIW hP7 hFR
     simp only[List.filterMap_cons,List.filterMap_nil,List.foldl_cons,List.foldl_nil,List.setIfInBounds_toArray,List.set_cons_zero,List.set_cons_succ]at hlit
     rw[hzz 12 _ hbs]at hlit
     rw[hzz 13 _ e13]at hlit
     rw[hzz 14 _ e14]at hlit
     rw[hzz 15 _ e15]at hlit
     clear hbs e13 e14 e15
     clear hzz;subst hlit
     have hi:=HIW.out
     obtain⟨_,dv12,hk12,hR12⟩:=HFR.out
     obtain⟨A12,c12,rfl⟩:=Kd.R_slice hR12
     have hblW:=HBL.out.trans HBR.out
     have HSM:=Lib.hid (rsame_any k0 x1 x2 ds x4 x5 x6 A9 A12 c9 c12 W (Kd.R_reads' hi.deps).2.2 (Kd.R_reads' hR12).2.2)
     have HK12:=Lib.hid hk12
     have HBL:=Lib.hid hblW
     have htl:=hi.t1.len
     clear hi hk12 hR12 hblW HFR HP7 HBR
     have hnee:(er !=er)=false:=by simp
     have hnex:(nx !=nx)=false:=by simp
     have HK9:=Lib.hid HIW.out.box9
     obtain⟨y0,y1,y2,y3,y4,y5,y6⟩:=facts7 HK9.out
     obtain⟨z0,z1,z2,z3,z4,z5,z6⟩:=facts7 HK12.out
     go_wp2_with fail
     clear y0 y1 y2 y3 y4 y5 y6
     clear z0 z1 z2 z3 z4 z5 z6
     refine HSM.out.mono ?_
     rintro e wr ⟨rfl,hb⟩
     have HJ:=Lib.hid (HIW.out.below hb)
     have HBL:=Lib.hid (HBL.out.trans (hb.mono HBL.out.size))
     have HC14:=Lib.hid (Kd.R_below HC14.out hb)
     have HTX:=Lib.hid (texts9_any HJ.out.t1)
     clear hb HSM HIW HK9 HK12 hnee hnex
     go_wp2_with fail
     refine HTX.out.mono ?_
     rintro e wi ⟨vt,rfl,hRt,hb⟩
     obtain⟨At,ct,rfl⟩:=Kd.R_slice hRt
     have ht9:=Kd.R_reads' hRt
     have h14:=Kd.R_below HC14.out hb
     have hSM:=tephraref04_Same.calls (T2.length+1) At ct T2 A14 c14 T2 true wi ht9.2.2 ht9.2.1 (Kd.R_reads' h14).2.2 hl14 (same4_is T2 htl)
     have HSM:=Lib.hid hSM
     have HJ2:=Lib.hid (HJ.out.below hb)
     have HBL2:=Lib.hid (HBL.out.trans (hb.mono HBL.out.size))
     clear hRt hb ht9 hSM h14 HJ HBL HTX HC14
     go_wp2_with fail
     refine HSM.out.mono ?_
     rintro e wj ⟨rfl,hdr⟩
     have hb:=hdr.below
     have HJ:=Lib.hid (HJ2.out.below hb)
     have HBL:=Lib.hid (HBL2.out.trans (hb.mono HBL2.out.size))
     clear hdr hb HSM HJ2 HBL2
     by_cases he:er=0
     ·subst he
      obtain⟨pa,n,rfl,rfl,han,hnp,hput,hgd⟩:=HFACT.out.2 (by trivial)
      have M:=may_facts hgd.may
      have hfit:=put_fit (v:=v) (T:=T0) (by omega) HND.out hgd
      rw[hput]at hfit
      unfold putR at hput
      dsimp only at hput hfit
      have hn0:=hfit.n0
      dsimp only at hn0
      rw[List.length_drop,List.length_take]at hn0
      obtain⟨rows,hrows⟩: ∃x,((pl.map bytesOf).take n).drop pa=x:=⟨_,rfl⟩
      have hseg:rows.map strOfNums=(pl.take n).drop pa:=by
       rw[←hrows,List.map_drop,List.map_take,str_bytes]
      obtain⟨seg,hsg⟩: ∃x,(pl.take n).drop pa=x:=⟨_,rfl⟩
      have hsl:seg.length=n-pa:=by rw[←hsg,List.length_drop,List.length_take];omega
      have hrl:rows.length=n-pa:=by rw[←hrows,List.length_drop,List.length_take];omega
      rw[hsg]at hseg
      rw[hrows]at hput
      obtain⟨ad,rfl,_⟩:=HCP.out.2.2 (by omega)
      have hPT:=sput_any v HJ.out.t2 k0 x1 x2 A9 c9 ds x4 x5 x6 (fun W' hk=>(Kd.R_reads' (Kd.R_step (Kd.R_bound HJ.out.deps) (fun k hk' hlt=>hk.block k hlt (fun hs=>by have:=(HSB2.out k hs).2;have:=hk'.2.1;omega)))).2.2) (Kd.R_reads' HJ.out.deps).2.1 ⟨by have:=M.n;dsimp only at this;omega,by have:=M.t.2;dsimp only at this;simp only[maxLen];omega,by have:=M.tag.1;dsimp only at this;simp only[maxLen];omega,fun d hd=>by have:=(M.d d hd).2.1;simp only[maxLen];omega⟩ hgd.num.r2 hgd.num.o hgd.num.w hgd.num.d (by omega)
      rw[hput]at hPT
      have hCS: ∀W,Below w.heap.size w W→Kd.C Kd.string W (some (ad.add pa)) seg.length seg:=fun W hb=>by
       have h1:=Kd.C_drop (c:=d) (m:=pa) (Kd.C_take (m:=n) (Kd.C_below HCP.out hb) (by omega)) (by rw[List.length_take];omega) (by rw[List.length_take];omega)
       rw[if_neg (by omega),hsg,show(Kd.string).sz=1 from rfl,Nat.mul_one]at h1
       exact h1
      have HPT:=Lib.hid hPT
      have HCS:=Lib.hid hCS
      have HSEG:=Lib.hid hseg
      have HSL:=Lib.hid hsl
      have HRL:=Lib.hid hrl
      have HAN:Hid (pa<n∧n≤d):=Lib.hid ⟨by omega,by omega⟩
      clear hPT hCS hseg hsl hrl hsg hrows hput hgd M hfit hn0 HFACT
      have HK9:=Lib.hid HJ.out.box9
      have hx0:wj.cell? ⟨b5,0,none⟩=some (.int .i64 v):=(blk_cell HJ.out.box 0).trans rfl
      obtain⟨y0,y1,y2,y3,y4,y5,y6⟩:=facts7 HK9.out
      go_wp2_with fail
      clear y0 y1 y2 y3 y4 y5 y6
      clear hx0 HK9
      refine HPT.out.mono ?_
      rintro e wl ⟨vp,S2',rfl,hT',hs',hk',hRp⟩
      dsimp only at hT' hRp ⊢
      obtain⟨Ap,cp,rfl⟩:=Kd.R_slice hRp
      have hbl:=Kp.to_below' hk' HBL.out (fun k hk=>(HSB2.out k hk).1)
      have hbx:=hk'.heap HJ.out.box (fun hs=>by have:=HN1.out.2 b5 hs;omega)
      have HRp:=Lib.hid (Kd.R_reads' hRp)
      have HBL2:=Lib.hid hbl
      have HBX:=Lib.hid hbx
      have HSTR:=Lib.hid (fun(W:World) (hb:Below wl.heap.size wl W)=>HSEG.out ▸ tephralaw09_strings.calls (rows.length+1) Ap cp rows (rows.map strOfNums) W (Kd.C_below HRp.out.2.2 hb) HRp.out.2.1 (strs_is rows (by have:=HRL.out;omega)))
      have HSM:=Lib.hid (fun(W:World) (A1:Option Addr) (c1:Nat) (hb:Below wl.heap.size wl W) (hC:Kd.C Kd.string W A1 seg.length seg) (hl:seg.length≤c1)=>tephraref04_Same.calls (seg.length+1) A1 c1 seg (some (ad.add pa)) (d-pa) seg true W hC hl (HCS.out W (HBL2.out.trans (hb.mono HBL2.out.size))) (by have:=HSL.out;have:=HAN.out;omega) (same4_is seg (by have:=HSL.out;omega)))
      clear hT' hs' hk' hRp hbl hbx HPT HJ HBL
      go_wp2_with fail
      refine region_calmA (n:=16) (byList [isV (.bool true),isV (.bool true),isV (.int .i64 0),isV (.bool true),isV (.bool true),isV (.bool true),isV (.slice Ap rows.length cp),(isC Kd.string seg),isV (.slice (some ad) pl.length d),isV (.pointer (some ⟨b5,1,none⟩)),isV (.int .i64 (pa:Int)),isV (.int .i64 (n:Int)),isV (.slice (some (ad.add pa)) (n-pa) (d-pa)),isV (.bool true),isV (.bool true),isV (.bool true)]) (by kernel_rfl) rfl (byList_lasts ?_) (by kernel_rfl) (by kernel_rfl) (show AllLt 16 _ from ?_) ?_
      ·intro p hp
       simp only[List.mem_cons,List.not_mem_nil,or_false]at hp
       rcases hp with rfl|rfl|rfl|rfl|rfl|rfl|rfl|rfl|rfl|rfl|rfl|rfl|rfl|rfl|rfl|rfl<;>first|exact isV_lasts|exact isC_lasts
      ·refine allLt_succ (allLt_succ (allLt_succ (allLt_succ (allLt_succ (allLt_succ (allLt_succ (allLt_succ (allLt_succ (allLt_succ (allLt_succ (allLt_succ (allLt_succ (allLt_succ (allLt_succ (allLt_succ (allLt_zero _) ?_) ?_) ?_) ?_) ?_) ?_) ?_) ?_) ?_) ?_) ?_) ?_) ?_) ?_) ?_) ?_
       ·refine StepOkA.run (get_lit rfl) rfl fun a W hS hB hd=> ?_
        refine wp_called Try.func29 (by kernel_rfl) rfl #[] rfl (by simp) ?_
        refine(fixed9_any W).mono ?_
        rintro e w9 ⟨rfl,hb9⟩
        exact⟨_,rfl,rfl,hb9⟩
       ·refine StepOkA.run (get_lit rfl) rfl fun a W hS hB hd=> ?_
        have e94:=(hd 0 rfl).bool rfl rfl rfl
        refine wp_value (c:= .bool true) ?_ rfl
        go_simp
       ·refine StepOkA.on (g:=1) (u:=true) (get_lit rfl) rfl rfl rfl rfl rfl fun a W hS hB hd=> ?_
        have e17:=hS.get (t:=17) rfl rfl
        refine wp_value (c:= .int .i64 0) ?_ rfl
        go_simp
       ·refine StepOkA.on (g:=1) (u:=true) (get_lit rfl) rfl rfl rfl rfl rfl fun a W hS hB hd=> ?_
        have e96:=(hd 2 rfl).bool rfl rfl rfl
        refine wp_value (c:= .bool true) ?_ rfl
        go_simp
       ·refine StepOkA.run (get_lit rfl) rfl fun a W hS hB hd=> ?_
        have e95:=(hd 1 rfl).bool rfl rfl rfl
        have e97:=(hd 3 rfl).bool rfl rfl rfl
        refine wp_value (c:= .bool true) ?_ rfl
        go_simp
       ·refine StepOkA.run (get_lit rfl) rfl fun a W hS hB hd=> ?_
        have e98:=(hd 4 rfl).bool rfl rfl rfl
        refine wp_value (c:= .bool true) ?_ rfl
        go_simp
       ·refine StepOkA.on (g:=5) (u:=true) (get_lit rfl) rfl rfl rfl rfl rfl fun a W hS hB hd=> ?_
        have e16:=hS.get (t:=16) rfl rfl
        refine wp_value (c:= .slice Ap rows.length cp) ?_ rfl
        go_simp
       ·refine StepOkA.on (g:=5) (u:=true) (get_lit rfl) rfl rfl rfl rfl rfl fun a W hS hB hd=> ?_
        have e100:=(hd 6 rfl).bool rfl rfl rfl
        refine wp_called Try.func35 (by kernel_rfl) rfl #[.slice Ap rows.length cp] rfl (by simp[Act.eval, *]) ?_
        refine(HSTR.out W hB).mono ?_
        rintro e w9 ⟨v9,rfl,hR9,hb9⟩
        obtain⟨A9,c9,rfl⟩:=Kd.R_slice hR9
        exact⟨_,rfl,⟨A9,c9,rfl,(Kd.R_reads' hR9).2.1,(Kd.R_reads' hR9).2.2⟩,hb9⟩
       ·refine StepOkA.on (g:=5) (u:=true) (get_lit rfl) rfl rfl rfl rfl rfl fun a W hS hB hd=> ?_
        have e1:=hS.get (t:=1) rfl rfl
        refine wp_value (c:= .slice (some ad) pl.length d) ?_ rfl
        go_simp
       ·refine StepOkA.on (g:=5) (u:=true) (get_lit rfl) rfl rfl rfl rfl rfl fun a W hS hB hd=> ?_
        have e5:=hS.get (t:=5) rfl rfl
        refine wp_value (c:= .pointer (some ⟨b5,1,none⟩)) ?_ rfl
        go_simp
       ·refine StepOkA.on (g:=5) (u:=true) (get_lit rfl) rfl rfl rfl rfl rfl fun a W hS hB hd=> ?_
        have e103:=(hd 9 rfl).bool rfl rfl rfl
        refine wp_value (c:= .int .i64 (pa:Int)) ?_ rfl
        have hcx:W.cell? ⟨b5,1,none⟩=some (.int .i64 (pa:Int)):=(blk_cell (blk_below HBX.out hB) 1).trans rfl
        go_simp
       ·refine StepOkA.on (g:=5) (u:=true) (get_lit rfl) rfl rfl rfl rfl rfl fun a W hS hB hd=> ?_
        have e10:=hS.get (t:=10) rfl rfl
        refine wp_value (c:= .int .i64 (n:Int)) ?_ rfl
        go_simp
       ·refine StepOkA.on (g:=5) (u:=true) (get_lit rfl) rfl rfl rfl rfl rfl fun a W hS hB hd=> ?_
        have e102:=(hd 8 rfl).bool rfl rfl rfl
        have e104:=(hd 10 rfl).bool rfl rfl rfl
        have e105:=(hd 11 rfl).bool rfl rfl rfl
        refine wp_value (c:= .slice (some (ad.add pa)) (n-pa) (d-pa)) ?_ rfl
        have hsg:=run_slice_seg W 45 9 Try.underlying45 (fun w=>by kernel_rfl) ad pl.length d pa n HAN.out.1 HAN.out.2
        go_simp
       ·refine StepOkA.on (g:=5) (u:=true) (get_lit rfl) rfl rfl rfl rfl rfl fun a W hS hB hd=> ?_
        obtain⟨u101,e101,p101⟩:=(hd 7 rfl).get rfl rfl
        replace p101:(isC Kd.string seg) u101 W:=p101
        obtain⟨A101,c101,rfl,hl101,hC101⟩:=p101
        have e106:=(hd 12 rfl).bool rfl rfl rfl
        refine wp_called Try.func34 (by kernel_rfl) rfl #[.slice A101 seg.length c101, .slice (some (ad.add pa)) seg.length (d-pa)] rfl (by simp[Act.eval,HSL.out, *]) ?_
        refine(HSM.out W A101 c101 hB hC101 hl101).mono ?_
        rintro e w9 ⟨rfl,hdr⟩
        exact⟨_,rfl,rfl,hdr.below⟩
       ·refine StepOkA.run (get_lit rfl) rfl fun a W hS hB hd=> ?_
        have e99:=(hd 5 rfl).bool rfl rfl rfl
        have e107:=(hd 13 rfl).bool rfl rfl rfl
        refine wp_value (c:= .bool true) ?_ rfl
        go_simp
       ·refine StepOkA.run (get_lit rfl) rfl fun a W hS hB hd=> ?_
        have e108:=(hd 14 rfl).bool rfl rfl rfl
        refine wp_value (c:= .bool true) ?_ rfl
        go_simp
      ·intro a W hS hB hh
       have e6:a.tmps[6]? =some (.bool true):=(hh 15 (by omega)).bool rfl rfl rfl
       have HBR:=Lib.hid hB
       obtain⟨zz,hlit,hzz⟩:=same_litz hS
       clear hh hS hB
       simp only[List.filterMap_cons,List.filterMap_nil,List.foldl_cons,List.foldl_nil,List.setIfInBounds_toArray,List.set_cons_zero,List.set_cons_succ]at hlit
       rw[hzz 6 _ e6]at hlit
       clear e6
       clear hzz;subst hlit
       go_wp2_with fail
       go_ret
       exact⟨rfl,HBL2.out.trans (HBR.out.mono HBL2.out.size)⟩
     ·have hne:(er !=0)=true:=by simp[he]
      have hed:decide (er=0)=false:=decide_eq_false he
      go_wp2_with fail
      refine(fixed9_any _).mono ?_
      rintro en wq ⟨rfl,hbq⟩
      go_wp2_with fail
      go_ret
      exact⟨rfl,HBL.out.trans (hbq.mono HBL.out.size)⟩
end Go.Proofs.Ytmeocdkiecknkaa.WSchemaGets
namespace Go.Proofs.Ytmeocdkiecknkaa
open Go.RowKit Go.Proofs.YtmeocdkiecknkaaW.PrintWords Go.ChangeShapes Go.WideShapes
theorem cellsOf_i64a:Try.prog.cellsOf 3=1:=by kernel_rfl
theorem cellsOf_at2:Try.prog.cellsOf 79=2:=by kernel_rfl
theorem okWide_arr {P:Program} {W:World} {r:Reach} {b0:Nat} {t e:TypeId} {n:Nat} {v:Value} (ht:P.underlying t=some (.array n e)) (h:Value.okWide P W r b0 t v): ∃cs,v= .agg cs∧cs.size=P.cellsOf t:=by
 simp only[Value.okWide,ht]at h
 obtain⟨cs,h1,h2,_⟩:=h
 exact⟨cs,h1,h2⟩
theorem trod_two {H:Type} {enc:TypeId×Value→H} {P:Program} {W:World} {base:Nat} {held:Bool} {t e:TypeId} {fuel:Nat} {c0 c1:Value} {x:DataW H×List MemPlace} (ht:P.underlying t=some (.array 2 e)) (hce:P.cellsOf e=1)
  (h:DataW.trod enc P W base (fun _=>true) held fuel t [c0,c1]=some x): ∃y0 y1 n,DataW.trod enc P W base (fun _=>true) held n e [c0]=some y0∧DataW.trod enc P W base (fun _=>true) held n e [c1]=some y1:=by
 match fuel,h with
 | 0,h=>simp[DataW.trod]at h
 | n+1,h=>
  simp only[DataW.trod,ht,show List.range 2=[0,1] from rfl]at h
  have h0: ∃y0,DataW.trod enc P W base (fun _=>true) held n e [c0]=some y0:=by
   cases hh:DataW.trod enc P W base (fun _=>true) held n e [c0]with
   |none=>simp[hce,hh]at h
   |some y=>exact⟨y,rfl⟩
  have h1: ∃y1,DataW.trod enc P W base (fun _=>true) held n e [c1]=some y1:=by
   obtain⟨y0,h0⟩:=h0
   cases hh:DataW.trod enc P W base (fun _=>true) held n e [c1]with
   |none=>simp[hce,h0,hh]at h
   |some y=>exact⟨y,rfl⟩
  obtain⟨y0,h0⟩:=h0
  obtain⟨y1,h1⟩:=h1
  exact⟨y0,y1,n,h0,h1⟩
set_option maxRecDepth 100000 in
theorem open_t79 {H:Type} {enc:TypeId×Value→H} {W:World} {base:Nat} {held:Bool} {v:Value} {d:DataW H} {ps:List MemPlace} {r:Reach} {b0:Nat} (hval:Value.okWide Try.prog W r b0 79 v) (h:DataW.Trod enc Try.prog W base (fun _=>true) held 79 v d ps):
  ∃x,WSchemaGets.IsAt2 W v x:=by
 obtain⟨cs,rfl,hs⟩:=okWide_arr Try.underlying79 hval
 rw[cellsOf_at2]at hs
 obtain ⟨c0,c1,rfl⟩: ∃c0 c1,cs=#[c0,c1]:=by
  obtain⟨l⟩:=cs
  match l,hs with
  | [a,b],_=>exact⟨a,b,rfl⟩
 obtain⟨fuel,hf⟩:=h
 have hf':DataW.trod enc Try.prog W base (fun _=>true) held fuel 79 [c0,c1]=some (d,ps):=hf
 obtain⟨y0,y1,n,h0,h1⟩:=trod_two Try.underlying79 cellsOf_i64a hf'
 obtain⟨m0,e0,_,g0⟩:=DataW.trod_int Try.underlying3 h0
 obtain⟨m1,e1,_,g1⟩:=DataW.trod_int Try.underlying3 h1
 simp only[List.cons.injEq,and_true]at e0 e1
 subst e0 e1
 exact⟨(m0,m1),⟨rfl⟩⟩
end Go.Proofs.Ytmeocdkiecknkaa
