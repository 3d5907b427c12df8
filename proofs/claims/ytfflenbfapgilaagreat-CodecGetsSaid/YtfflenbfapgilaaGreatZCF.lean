/- Texts laid as one by shake.py, cut to what the claim needs: WkB, WkC. (Names that begin with W and the print's groups (G..x, G..z): laid by the kit's print, cut.) -/
import Derived.Test.YtfflenbfapgilaaGreatZCu
set_option linter.unusedVariables false
set_option linter.unusedSimpArgs false
set_option maxHeartbeats 8000000
set_option maxRecDepth 100000
namespace Go.Proofs.YtfflenbfapgilaaGreat
open Go.RowKit Go.Proofs.YtfflenbfapgilaaGreatW.PrintWords Go.Proofs.YtfflenbfapgilaaGreat.GVB
theorem getS_neg (l:List Int):getS l (-1)=(0,0,1):=by unfold getS;rw[if_pos (.inl (by omega))]
theorem pl_num {l:List Int} (hb: ∀x∈l,0≤x∧x<256) (a e:Int):(getS l (pl a e)).1=(cuNum l a e).1∧pl (cuNum l a e).2.1 (cuNum l a e).2.2=if (getS l (pl a e)).2.2=0 then(getS l (pl a e)).2.1 else -1:=by
 unfold cuNum pl
 by_cases he:e=0
 ·rw [if_pos he,if_neg (by omega)]
  rcases getS_cases l hb a with⟨ec,h1,h2⟩|⟨lo,n,p,ha,h1,h2,h3,h4,h5⟩
  ·rw[h1]
   have hec:ec≠0:=by omega
   rw[if_pos (by show ec≠0;exact hec)]
   exact⟨rfl,by dsimp only;rw[if_neg hec,if_neg hec]⟩
  ·rw[h1,if_neg (by simp)]
   exact⟨rfl,rfl⟩
 ·rw[if_neg he,if_pos he,getS_neg]
  exact⟨rfl,by dsimp only;rw[if_neg he,if_neg (by decide)]⟩
theorem wnum_is {l:List Int} (hb: ∀x∈l,0≤x∧x<256) (hl:l.length≤1000000) (a e:Int) (A:Option Addr) (n c:Nat) (w:World):
  Calls Tryz.prog 52 #[.agg #[.string (strOfNums l),.int .i64 (pl a e),.slice A n c]] w fun en w'=>en= .returned (.tuple #[.int .u64 (cuNum l a e).1,.agg #[.string (strOfNums l),.int .i64 (pl (cuNum l a e).2.1 (cuNum l a e).2.2),.slice A n c]])∧Below w.heap.size w w':=by
 have h:=pl_num hb a e
 rw[←h.1]
 exact wnum_walk (strOfNums l) (pl a e) A n c _ _ _ _ h.2 (ref_is l hb (by omega) (pl a e) 30 (by decide)) w
theorem wknown_is (s:ByteArray) (a e:Int) (A:Option Addr) (c:Nat) (T:List ByteArray) (hT:T.length≤1000000) (m:Int) (hm:0≤m∧m<18446744073709551616) (w:World) (hC:Kd.C Kd.string w A T.length T):
  Calls Tryz.prog 55 #[.agg #[.string s,.int .i64 (pl a e),.slice A T.length c],.int .u64 m] w fun en w'=>en= .returned (.tuple #[.string (txF T m),.agg #[.string s,.int .i64 (pl a (txE T m e)),.slice A T.length c]])∧Below w.heap.size w w':=by
 refine wknown_walk s (pl a e) A c T hT m hm _ ?_ w hC
 unfold txE pl
 by_cases h1:m<(T.length:Int)
 ·rw[if_pos h1,if_pos h1]
 ·rw[if_neg h1,if_neg h1]
  by_cases he:e=0
  ·rw[if_pos he,if_neg (by decide)]
  ·rw[if_neg he,if_neg he]
theorem pl_text {l:List Int} (hb: ∀x∈l,0≤x∧x<256) (lim a e:Int):(bgetS l (pl a e) lim).1=(cuText l lim a e).1∧pl (cuText l lim a e).2.1 (cuText l lim a e).2.2=if (bgetS l (pl a e) lim).2.2=0 then(bgetS l (pl a e) lim).2.1 else -1:=by
 unfold cuText pl
 by_cases he:e=0
 ·rw [if_pos he,if_neg (by omega)]
  rcases bgetS_cases l hb a lim with⟨ec,h1,h2⟩|⟨lo,p,q,ha,h1,h2,h3,h4,h5⟩
  ·rw[h1]
   have hec:ec≠0:=by omega
   rw[if_pos (by show ec≠0;exact hec)]
   exact⟨rfl,by dsimp only;rw[if_neg hec,if_neg hec]⟩
  ·rw[h1,if_neg (by simp)]
   exact⟨rfl,rfl⟩
 ·have e1:bgetS l (-1) lim=(⟨#[]⟩,0,1):=by unfold bgetS;rw[getS_neg,if_pos (by decide)]
  rw[if_neg he,if_pos he,e1]
  exact⟨rfl,by dsimp only;rw[if_neg he,if_neg (by decide)]⟩
theorem wname1_walk (s:ByteArray) (p:Int) (A:Option Addr) (n c:Nat) (gn:ByteArray) (gp ge q:Int) (hq:q=if ge=0 then gp else -1) (w:World) (hG: ∀W,Calls Tryz.prog 50 #[.string s,.int .i64 p,.int .i64 64] W fun e w'=>e= .returned (.tuple #[.string gn,.int .i64 gp,.int .i64 ge])∧Below W.heap.size W w'):
  Calls Tryz.prog 53 #[.agg #[.string s,.int .i64 p,.slice A n c],.int .i64 1] w fun en w'=>en= .returned (.tuple #[.string gn,.agg #[.string s,.int .i64 q,.slice A n c]])∧Below w.heap.size w w':=by
 obtain⟨w1,hw1⟩:=eX ((w.alloc (.cells #[.string s,.int .i64 p,.slice A n c] 118)).alloc (.cells #[.string ⟨#[]⟩,.int .i64 0,.slice none 0 0] 118))
 have hb1:Below w.heap.size w w1:=by rw[←hw1];exact((Below.refl _ _).alloc (Nat.le_refl _) _).alloc (by rw[heap_size_alloc];omega) _
 have hk1:w1.heap[w.heap.size]? =some (.cells #[.string s,.int .i64 p,.slice A n c] 118 (0,0)):=by rw[←hw1];exact blk_alloc (heap_new _ _) _
 have hk3:w1.heap[w.heap.size+1]? =some (.cells #[.string ⟨#[]⟩,.int .i64 0,.slice none 0 0] 118 (0,0)):=by
  rw[←hw1]
  have:=heap_new (w.alloc (.cells #[.string s,.int .i64 p,.slice A n c] 118)) (.cells #[.string ⟨#[]⟩,.int .i64 0,.slice none 0 0] 118)
  rwa [heap_size_alloc]at this
 obtain⟨b1,hbb⟩:=eX (w.heap.size)
 rw[hbb]at hk1 hk3
 obtain⟨b3,hb3⟩:=eX (b1+1)
 rw[hb3]at hk3
 have c0:=(blk_cell hk1 0).trans rfl
 have c1:=(blk_cell hk1 1).trans rfl
 have HG:=hQ (hG w1)
 have HB1:=hQ hb1
 have HW1:=hQ hw1
 have HK1:=hQ hk1
 have HK3:=hQ hk3
 have HBB:=hQ hbb
 have HB3:=hQ hb3
 have HU:=hQ Tryz.underlying118
 clear hb1 hk1 hk3 hbb hw1 hG hb3
 go_enter Tryz.func53,Tryz.ntmps53
 go_wp2_with fail
 rw[HW1.out]
 refine HG.out.mono ?_
 rintro e w2 ⟨rfl,hb2⟩
 have hk1:=blk_below HK1.out hb2
 have hk3:=blk_below HK3.out hb2
 have HB2:=hQ (HB1.out.trans (hb2.mono HB1.out.size))
 have c1:=(blk_cell hk1 1).trans rfl
 have f1:=blk_frozen hk1 1
 clear hb2 HK1 HK3
 rw[←HB3.out]at hk3
 have HQ:=hQ hq
 clear hq
 by_cases he:ge=0
 ·subst he
  have hq:=HQ.out
  rw[if_pos rfl]at hq
  subst hq
  obtain⟨wT,hwT⟩:=eX (w2.setCell ⟨b1,1,none⟩ (.int .i64 q))
  have kT1:wT.heap[b1]? =some (.cells #[.string s,.int .i64 q,.slice A n c] 118 (0,0)):=by
   rw[←hwT];exact blk_put hk1 1 (.int .i64 q) rfl
  have kT3:wT.heap[b1+1]? =some (.cells #[.string ⟨#[]⟩,.int .i64 0,.slice none 0 0] 118 (0,0)):=by
   rw[←hwT];exact(Below.heap_setCell _ _ _ _ (by show b1+1≠b1;omega)).trans hk3
  have hBT:Below w.heap.size w wT:=by rw[←hwT];exact HB2.out.setCell (p:=⟨b1,1,none⟩) (by have:=HBB.out;show w.heap.size≤b1;omega) _
  have hsz:=hBT.size
  have HT:=hQ hBT
  have HWT:=hQ hwT
  have hbb:=HBB.out
  clear hBT hwT hk1 hk3 HQ
  go_wp2_with fail
  rw[HWT.out]
  clear c1 f1
  refine region_one (n:=4) (base:=w.heap.size) (w0:=w) (b:=(b1+1)) (jw:=3) (byList [isV (.string gn),isV (.agg #[.string s,.int .i64 q,.slice A n c]),isV (.string gn),(fun _ _=>True)]) (fun W=>W.heap[b1]? =some (.cells #[.string s,.int .i64 q,.slice A n c] 118 (0,0))) (fun W=>W.heap[(b1+1)]? =some (.cells #[.string ⟨#[]⟩,.int .i64 0,.slice none 0 0] 118 (0,0))) (fun W=>W.heap[(b1+1)]? =some (.cells #[.string s,.int .i64 q,.slice A n c] 118 (0,0))) (by kernel_rfl) rfl (by omega) (byList_any ?_) (by kernel_rfl) (by kernel_rfl) (by omega) (fun W W' row hrow h hg=>blk_grown' h hg (by rcases hrow with rfl|rfl<;>simp)) (fun W W' h hg=>blk_below h (below_none hg)) (fun W W' h hg=>blk_below h (below_none hg)) HT.out (Nat.le_refl _) kT1 kT3 (show AllLt 4 _ from ?_) ?_
  ·intro p hp
   simp only[List.mem_cons,List.not_mem_nil,or_false]at hp
   rcases hp with rfl|rfl|rfl|rfl<;>exact fun _ _ _ h=>h
  ·refine allLt_succ (allLt_succ (allLt_succ (allLt_succ (allLt_zero _) ?_) ?_) ?_) ?_
   ·refine StepOkO.run (get_lit rfl) rfl (by omega) fun a W hS hB hd hR=> ?_
    have e6:=hS.get (t:=6) rfl rfl
    refine wp_value (c:= .string gn) ?_ rfl
    go_simp
   ·refine StepOkO.run (get_lit rfl) rfl (by omega) fun a W hS hB hd hR=> ?_
    have e2:=hS.get (t:=2) rfl rfl
    refine wp_value (c:= .agg #[.string s,.int .i64 q,.slice A n c]) ?_ rfl
    have c0:=bcl hR 0 rfl
    have c1:=bcl hR 1 rfl
    have c2:=bcl hR 2 rfl
    go_simp
   ·refine StepOkO.run (get_lit rfl) rfl (by omega) fun a W hS hB hd hR=> ?_
    have e25:=(hd 0 rfl).bool rfl rfl rfl
    refine wp_value (c:= .string gn) ?_ rfl
    go_simp
   ·refine StepOkO.write (get_lit rfl) rfl rfl rfl fun a W hS hB hd hR hP=> ?_
    have e5:=hS.get (t:=5) rfl rfl
    have e26:=(hd 1 rfl).bool rfl rfl rfl
    have z0:W.cell? ⟨(b1+1),0,none⟩=some (.string ⟨#[]⟩):=(blk_cell hP 0).trans rfl
    have zf0:=blk_frozen hP 0
    have z1:W.cell? ⟨(b1+1),1,none⟩=some (.int .i64 0):=(blk_cell hP 1).trans rfl
    have zf1:=blk_frozen hP 1
    have z2:W.cell? ⟨(b1+1),2,none⟩=some (.slice none 0 0):=(blk_cell hP 2).trans rfl
    have zf2:=blk_frozen hP 2
    refine⟨_, ?_,grown_put (grown_put (grown_put (World.grownBy.refl _ _) (.string s)) (.int .i64 q)) (.slice A n c),blk_put3 hP _ _ _⟩
    go_simp
  ·intro a W hS hB hh hRD hFD
   have e4:a.tmps[4]? =some (.string gn):=(hh 2 (by omega)).bool rfl rfl rfl
   have HBR:=hQ hB
   obtain⟨zz,hlit,hzz⟩:=same_litz hS
   clear hh hS hB
   simp only[List.filterMap_cons,List.filterMap_nil,List.foldl_cons,List.foldl_nil,List.setIfInBounds_toArray,List.set_cons_zero,List.set_cons_succ]at hlit
   rw[hzz 4 _ e4]at hlit
   clear e4
   clear hzz;subst hlit
   go_wp2_with fail
   refine bodyPost_ret (results_tc rfl _ _ (b1+1) 118 #[_,_,_] (0,0) _ rfl hFD HU.out rfl (by kernel_rfl)) rfl ?_
   exact⟨rfl,HBR.out⟩
 ·have hq:=HQ.out
  rw[if_neg he]at hq
  subst hq
  have hne:(ge !=0)=true:=by simpa using he
  obtain⟨wT,hwT⟩:=eX (w2.setCell ⟨b1,1,none⟩ (.int .i64 (-1)))
  have kT1:wT.heap[b1]? =some (.cells #[.string s,.int .i64 (-1),.slice A n c] 118 (0,0)):=by
   rw[←hwT];exact blk_put hk1 1 (.int .i64 (-1)) rfl
  have kT3:wT.heap[b1+1]? =some (.cells #[.string ⟨#[]⟩,.int .i64 0,.slice none 0 0] 118 (0,0)):=by
   rw[←hwT];exact(Below.heap_setCell _ _ _ _ (by show b1+1≠b1;omega)).trans hk3
  have hBT:Below w.heap.size w wT:=by rw[←hwT];exact HB2.out.setCell (p:=⟨b1,1,none⟩) (by have:=HBB.out;show w.heap.size≤b1;omega) _
  have hsz:=hBT.size
  have HT:=hQ hBT
  have HWT:=hQ hwT
  have hbb:=HBB.out
  clear hBT hwT hk1 hk3 HQ
  go_wp2_with fail
  rw[HWT.out]
  clear c1 f1
  refine region_one (n:=4) (base:=w.heap.size) (w0:=w) (b:=(b1+1)) (jw:=3) (byList [isV (.string gn),isV (.agg #[.string s,.int .i64 (-1),.slice A n c]),isV (.string gn),(fun _ _=>True)]) (fun W=>W.heap[b1]? =some (.cells #[.string s,.int .i64 (-1),.slice A n c] 118 (0,0))) (fun W=>W.heap[(b1+1)]? =some (.cells #[.string ⟨#[]⟩,.int .i64 0,.slice none 0 0] 118 (0,0))) (fun W=>W.heap[(b1+1)]? =some (.cells #[.string s,.int .i64 (-1),.slice A n c] 118 (0,0))) (by kernel_rfl) rfl (by omega) (byList_any ?_) (by kernel_rfl) (by kernel_rfl) (by omega) (fun W W' row hrow h hg=>blk_grown' h hg (by rcases hrow with rfl|rfl<;>simp)) (fun W W' h hg=>blk_below h (below_none hg)) (fun W W' h hg=>blk_below h (below_none hg)) HT.out (Nat.le_refl _) kT1 kT3 (show AllLt 4 _ from ?_) ?_
  ·intro p hp
   simp only[List.mem_cons,List.not_mem_nil,or_false]at hp
   rcases hp with rfl|rfl|rfl|rfl<;>exact fun _ _ _ h=>h
  ·refine allLt_succ (allLt_succ (allLt_succ (allLt_succ (allLt_zero _) ?_) ?_) ?_) ?_
   ·refine StepOkO.run (get_lit rfl) rfl (by omega) fun a W hS hB hd hR=> ?_
    have e6:=hS.get (t:=6) rfl rfl
    refine wp_value (c:= .string gn) ?_ rfl
    go_simp
   ·refine StepOkO.run (get_lit rfl) rfl (by omega) fun a W hS hB hd hR=> ?_
    have e2:=hS.get (t:=2) rfl rfl
    refine wp_value (c:= .agg #[.string s,.int .i64 (-1),.slice A n c]) ?_ rfl
    have c0:=bcl hR 0 rfl
    have c1:=bcl hR 1 rfl
    have c2:=bcl hR 2 rfl
    go_simp
   ·refine StepOkO.run (get_lit rfl) rfl (by omega) fun a W hS hB hd hR=> ?_
    have e25:=(hd 0 rfl).bool rfl rfl rfl
    refine wp_value (c:= .string gn) ?_ rfl
    go_simp
   ·refine StepOkO.write (get_lit rfl) rfl rfl rfl fun a W hS hB hd hR hP=> ?_
    have e5:=hS.get (t:=5) rfl rfl
    have e26:=(hd 1 rfl).bool rfl rfl rfl
    have z0:W.cell? ⟨(b1+1),0,none⟩=some (.string ⟨#[]⟩):=(blk_cell hP 0).trans rfl
    have zf0:=blk_frozen hP 0
    have z1:W.cell? ⟨(b1+1),1,none⟩=some (.int .i64 0):=(blk_cell hP 1).trans rfl
    have zf1:=blk_frozen hP 1
    have z2:W.cell? ⟨(b1+1),2,none⟩=some (.slice none 0 0):=(blk_cell hP 2).trans rfl
    have zf2:=blk_frozen hP 2
    refine⟨_, ?_,grown_put (grown_put (grown_put (World.grownBy.refl _ _) (.string s)) (.int .i64 (-1))) (.slice A n c),blk_put3 hP _ _ _⟩
    go_simp
  ·intro a W hS hB hh hRD hFD
   have e4:a.tmps[4]? =some (.string gn):=(hh 2 (by omega)).bool rfl rfl rfl
   have HBR:=hQ hB
   obtain⟨zz,hlit,hzz⟩:=same_litz hS
   clear hh hS hB
   simp only[List.filterMap_cons,List.filterMap_nil,List.foldl_cons,List.foldl_nil,List.setIfInBounds_toArray,List.set_cons_zero,List.set_cons_succ]at hlit
   rw[hzz 4 _ e4]at hlit
   clear e4
   clear hzz;subst hlit
   go_wp2_with fail
   refine bodyPost_ret (results_tc rfl _ _ (b1+1) 118 #[_,_,_] (0,0) _ rfl hFD HU.out rfl (by kernel_rfl)) rfl ?_
   exact⟨rfl,HBR.out⟩
theorem wname2_walk (v:Int) (hv:v≠1) (s:ByteArray) (p:Int) (A:Option Addr) (n c:Nat) (m q1 q2:Int) (tx:ByteArray) (w:World)
  (hN: ∀W,Calls Tryz.prog 52 #[.agg #[.string s,.int .i64 p,.slice A n c]] W fun en w'=>en= .returned (.tuple #[.int .u64 m,.agg #[.string s,.int .i64 q1,.slice A n c]])∧Below W.heap.size W w')
  (hK: ∀W,Below w.heap.size w W→Calls Tryz.prog 55 #[.agg #[.string s,.int .i64 q1,.slice A n c],.int .u64 m] W fun en w'=>en= .returned (.tuple #[.string tx,.agg #[.string s,.int .i64 q2,.slice A n c]])∧Below W.heap.size W w'):
  Calls Tryz.prog 53 #[.agg #[.string s,.int .i64 p,.slice A n c],.int .i64 v] w fun en w'=>en= .returned (.tuple #[.string tx,.agg #[.string s,.int .i64 q2,.slice A n c]])∧Below w.heap.size w w':=by
 have hve:(v==1)=false:=by simpa using hv
 obtain⟨w1,hw1⟩:=eX ((w.alloc (.cells #[.string s,.int .i64 p,.slice A n c] 118)).alloc (.cells #[.string ⟨#[]⟩,.int .i64 0,.slice none 0 0] 118))
 have hb1:Below w.heap.size w w1:=by rw[←hw1];exact((Below.refl _ _).alloc (Nat.le_refl _) _).alloc (by rw[heap_size_alloc];omega) _
 have hk1:w1.heap[w.heap.size]? =some (.cells #[.string s,.int .i64 p,.slice A n c] 118 (0,0)):=by rw[←hw1];exact blk_alloc (heap_new _ _) _
 have hk3:w1.heap[w.heap.size+1]? =some (.cells #[.string ⟨#[]⟩,.int .i64 0,.slice none 0 0] 118 (0,0)):=by
  rw[←hw1]
  have:=heap_new (w.alloc (.cells #[.string s,.int .i64 p,.slice A n c] 118)) (.cells #[.string ⟨#[]⟩,.int .i64 0,.slice none 0 0] 118)
  rwa [heap_size_alloc]at this
 obtain⟨b1,hbb⟩:=eX (w.heap.size)
 rw[hbb]at hk1 hk3
 have c0:=(blk_cell hk1 0).trans rfl
 have c1:=(blk_cell hk1 1).trans rfl
 have c2:=(blk_cell hk1 2).trans rfl
 have HG:=hQ (hN w1)
 have HKN:=hQ hK
 have HB1:=hQ hb1
 have HW1:=hQ hw1
 have HK1:=hQ hk1
 have HK3:=hQ hk3
 have HBB:=hQ hbb
 have HU:=hQ Tryz.underlying118
 clear hb1 hk1 hk3 hbb hw1 hN hK
 go_enter Tryz.func53,Tryz.ntmps53
 go_wp2_with fail
 rw[HW1.out,HBB.out]
 refine HG.out.mono ?_
 rintro e w2 ⟨rfl,hb2⟩
 have hk1:=blk_below HK1.out hb2
 have hk3:=blk_below HK3.out hb2
 have HB2:=hQ (HB1.out.trans (hb2.mono HB1.out.size))
 have c0:=(blk_cell hk1 0).trans rfl
 have c1:=(blk_cell hk1 1).trans rfl
 have c2:=(blk_cell hk1 2).trans rfl
 have f0:=blk_frozen hk1 0
 have f1:=blk_frozen hk1 1
 have f2:=blk_frozen hk1 2
 obtain⟨wT,hwT⟩:=eX (((w2.setCell ⟨b1,0,none⟩ (.string s)).setCell ⟨b1,1,none⟩ (.int .i64 q1)).setCell ⟨b1,2,none⟩ (.slice A n c))
 have kT1:wT.heap[b1]? =some (.cells #[.string s,.int .i64 q1,.slice A n c] 118 (0,0)):=by
  rw[←hwT];exact blk_put3 hk1 _ _ _
 have kT3:wT.heap[b1+1]? =some (.cells #[.string ⟨#[]⟩,.int .i64 0,.slice none 0 0] 118 (0,0)):=by
  rw[←hwT];exact(Below.heap_setCell _ _ _ _ (by show b1+1≠b1;omega)).trans ((Below.heap_setCell _ _ _ _ (by show b1+1≠b1;omega)).trans ((Below.heap_setCell _ _ _ _ (by show b1+1≠b1;omega)).trans hk3))
 have hBT:Below w.heap.size w wT:=by rw[←hwT];exact below_put3 HB2.out (by have:=HBB.out;omega) _ _ _
 have HT:=hQ hBT
 have HWT:=hQ hwT
 have KT1:=hQ kT1
 have KT3:=hQ kT3
 have d0:=(blk_cell kT1 0).trans rfl
 have d1:=(blk_cell kT1 1).trans rfl
 have d2:=(blk_cell kT1 2).trans rfl
 clear hb2 HK1 HK3 hk1 hk3 hBT hwT kT1 kT3
 go_wp2_with fail
 clear c0 c1 c2 f0 f1 f2
 rw[HWT.out]
 refine(HKN.out wT HT.out).mono ?_
 rintro e w3 ⟨rfl,hb3⟩
 have hk3:=blk_below KT3.out hb3
 have HB3:=hQ (HT.out.trans (hb3.mono HT.out.size))
 have c0:=(blk_cell hk3 0).trans rfl
 have c1:=(blk_cell hk3 1).trans rfl
 have c2:=(blk_cell hk3 2).trans rfl
 have f0:=blk_frozen hk3 0
 have f1:=blk_frozen hk3 1
 have f2:=blk_frozen hk3 2
 have HK3:=hQ hk3
 clear hb3 hk3 d0 d1 d2
 go_wp2_with fail
 refine bodyPost_ret (results_tc rfl _ _ (b1+1) 118 #[_,_,_] (0,0) _ rfl (blk_put3 HK3.out _ _ _) HU.out rfl (by kernel_rfl)) rfl ?_
 exact⟨rfl,below_put3 HB3.out (by have:=HBB.out;omega) _ _ _⟩
theorem wname_is (v:Int) {l:List Int} (hb: ∀x∈l,0≤x∧x<256) (hl:l.length≤1000000) (a e:Int) (A:Option Addr) (c:Nat) (T:List ByteArray) (hT:T.length≤1000000) (w:World) (hC:Kd.C Kd.string w A T.length T):
  Calls Tryz.prog 53 #[.agg #[.string (strOfNums l),.int .i64 (pl a e),.slice A T.length c],.int .i64 v] w fun en w'=>en= .returned (.tuple #[.string (textR v T l a e).1,.agg #[.string (strOfNums l),.int .i64 (pl (textR v T l a e).2.1 (textR v T l a e).2.2),.slice A T.length c]])∧Below w.heap.size w w':=by
 unfold textR
 by_cases hv:v=1
 ·subst hv
  rw[if_pos rfl]
  have h:=pl_text hb 64 a e
  rw[←h.1]
  exact wname1_walk (strOfNums l) (pl a e) A T.length c _ _ _ _ h.2 w (fun W=>bref_any l 64 W (pl a e) hb (by omega) (by omega))
 ·rw[if_neg hv]
  exact wname2_walk v hv (strOfNums l) (pl a e) A T.length c _ _ _ _ w (fun W=>wnum_is hb hl a e A T.length c W) (fun W hB=>wknown_is (strOfNums l) _ _ A c T hT _ (cuNum_rg hb) W (Kd.C_below hC hB))
end Go.Proofs.YtfflenbfapgilaaGreat
namespace Go.Proofs.YtfflenbfapgilaaGreat
open Go.RowKit Go.Proofs.YtfflenbfapgilaaGreatW.PrintWords Go.Proofs.YtfflenbfapgilaaGreat.GRR
theorem heap_put3 (w:World) {g k:Nat} (h:k≠g) (v0 v1 v2:Value):(((w.setCell ⟨g,0,none⟩ v0).setCell ⟨g,1,none⟩ v1).setCell ⟨g,2,none⟩ v2).heap[k]? =w.heap[k]? :=by
 rw[Below.heap_setCell _ _ _ _ h,Below.heap_setCell _ _ _ _ h,Below.heap_setCell _ _ _ _ h]
theorem wf6 {w:World} {g:Nat} {t:TypeId} {v0 v1 v2:Value} (h:w.heap[g]? =some (.cells #[v0,v1,v2] t (0,0))):w.cell? ⟨g,0,none⟩=some v0∧w.frozen? ⟨g,0,none⟩=false∧w.cell? ⟨g,1,none⟩=some v1∧w.frozen? ⟨g,1,none⟩=false∧w.cell? ⟨g,2,none⟩=some v2∧w.frozen? ⟨g,2,none⟩=false:=
 ⟨(blk_cell h 0).trans rfl,blk_frozen h 0,(blk_cell h 1).trans rfl,blk_frozen h 1,(blk_cell h 2).trans rfl,blk_frozen h 2⟩
theorem wf3 {w:World} {g:Nat} {t:TypeId} {v0 v1 v2:Value} (h:w.heap[g]? =some (.cells #[v0,v1,v2] t (0,0))):w.cell? ⟨g,0,none⟩=some v0∧w.cell? ⟨g,1,none⟩=some v1∧w.cell? ⟨g,2,none⟩=some v2:=
 ⟨(blk_cell h 0).trans rfl,(blk_cell h 1).trans rfl,(blk_cell h 2).trans rfl⟩
theorem pl_nonneg {a e:Int} (ha:0≤a):decide (0≤pl a e)=decide (e=0):=by
 unfold pl
 by_cases h:e=0
 ·rw[if_pos h,decide_eq_true ha,decide_eq_true h]
 ·rw[if_neg h,decide_eq_false (by omega),decide_eq_false h]
theorem wdeps_lo (v:Int) (hv:v<3) {l:List Int} (hb: ∀x∈l,0≤x∧x<256) (hl:l.length≤1000000) (a e:Int) (ha:0≤a∧a≤l.length) (A:Option Addr) (c:Nat) (T:List ByteArray) (hT:T.length≤1000000) (N:Int) (hN:0≤N∧N<18446744073709551616) (w:World) (hC:Kd.C Kd.string w A T.length T):
  Calls Tryz.prog 54 #[.agg #[.string (strOfNums l),.int .i64 (pl a e),.slice A T.length c],.int .i64 v,.int .u64 N] w fun en w'=>∃dv,en= .returned (.tuple #[dv,.agg #[.string (strOfNums l),.int .i64 (pl (depsL v T l (l.length+2) N a e []).2.1 (depsL v T l (l.length+2) N a e []).2.2),.slice A T.length c]])∧Kd.R k129 129 w' w.heap.size (fun _=>True) dv (depsL v T l (l.length+2) N a e []).1∧Below w.heap.size w w':=by
 have HNU:=hQ (fun(a e:Int) (W:World)=>wnum_is hb hl a e A T.length c W)
 have HNM:=hQ (fun(a e:Int) (W:World) (h:Below w.heap.size w W)=>wname_is v hb hl a e A c T hT W (Kd.C_below hC h))
 have HKN:=hQ (fun(a e m:Int) (hm:0≤m∧m<18446744073709551616) (W:World) (h:Below w.heap.size w W)=>wknown_is (strOfNums l) a e A c T hT m hm W (Kd.C_below hC h))
 obtain⟨s,hs⟩:=eX (strOfNums l)
 rw[hs]at HNU HNM HKN ⊢
 obtain⟨F,hF⟩:=eX (depsL v T l (l.length+2) N a e [])
 rw[hF]
 have HF:=hQ hF
 have HBY:=hQ hb
 clear hC hF hs hb
 obtain⟨w1,hw1⟩:=eX (((w.alloc (.cells #[.string s,.int .i64 (pl a e),.slice A T.length c] 118)).alloc (.cells #[.string ⟨#[]⟩,.int .i64 0,.slice none 0 0] 118)).alloc (.cells #[] 129))
 have hb1:Below w.heap.size w w1:=by rw[←hw1];exact(((Below.refl _ _).alloc (Nat.le_refl _) _).alloc (by rw[heap_size_alloc];omega) _).alloc (by rw[heap_size_alloc,heap_size_alloc];omega) _
 have hk3:w1.heap[w.heap.size]? =some (.cells #[.string s,.int .i64 (pl a e),.slice A T.length c] 118 (0,0)):=by rw[←hw1];exact blk_alloc (blk_alloc (heap_new _ _) _) _
 have hk7:w1.heap[w.heap.size+1]? =some (.cells #[.string ⟨#[]⟩,.int .i64 0,.slice none 0 0] 118 (0,0)):=by
  rw[←hw1]
  have:=heap_new (w.alloc (.cells #[.string s,.int .i64 (pl a e),.slice A T.length c] 118)) (.cells #[.string ⟨#[]⟩,.int .i64 0,.slice none 0 0] 118)
  rw[heap_size_alloc]at this
  exact blk_alloc this _
 have hk8:w1.heap[w.heap.size+2]? =some (.cells #[] 129 (0,0)):=by
  rw[←hw1]
  have:=heap_new ((w.alloc (.cells #[.string s,.int .i64 (pl a e),.slice A T.length c] 118)).alloc (.cells #[.string ⟨#[]⟩,.int .i64 0,.slice none 0 0] 118)) (.cells #[] 129)
  rwa [heap_size_alloc,heap_size_alloc]at this
 obtain⟨b3,hbb⟩:=eX (w.heap.size)
 rw[hbb]at hk3 hk7 hk8
 have hz8:Kd.R k129 129 w1 (b3+2) (fun _=>True) (.slice (some ⟨b3+2,0,none⟩) 0 0) []:=R_empty k129 w1 (b3+2) (b3+2) 129 (fun _=>True) hk8 (Nat.le_refl _) trivial
 have HB1:=hQ hb1
 have HW1:=hQ hw1
 have HK3:=hQ hk3
 have HK7:=hQ hk7
 have HZ8:=hQ hz8
 have HBB:=hQ hbb
 have HU:=hQ Tryz.underlying118
 clear hb1 hk3 hk7 hk8 hz8 hbb hw1
 go_enter Tryz.func54,Tryz.ntmps54
 go_wp2_with fail
 rw[HW1.out,HBB.out]
 go_loopw [8,9] (fun u8 u9 wr=>∃(i:Nat) (acc:List S129) (a e:Int),u9= .int .u64 (i:Int)∧0≤a∧a≤(l.length:Int)∧(i:Int)≤N∧(i:Int)≤a+(if e=0 then 0 else 1)∧acc.length=i∧Hid (Kd.R k129 129 wr (b3+2) (fun _=>True) u8 acc)∧Hid (wr.heap[b3]? =some (.cells #[.string s,.int .i64 (pl a e),.slice A T.length c] 118 (0,0)))∧Hid (wr.heap[b3+1]? =some (.cells #[.string ⟨#[]⟩,.int .i64 0,.slice none 0 0] 118 (0,0)))∧Hid (Below w.heap.size w wr)∧Hid (depsL v T l (l.length+2-i) (N-i) a e acc=F)) (fun _ u _=>l.length+2-(intOf u).toNat)
 case atStart=>exact⟨0,[],a,e,rfl,ha.1,ha.2,hN.1,by split<;>omega,rfl,HZ8,HK3,HK7,HB1,hQ (by simpa using HF.out)⟩
 case round=>
  clear HZ8 HK3 HK7
  obtain⟨i,acc,a,e,rfl,ha0,ha1,hiN,hia,hacc,HR,HK,HK7,HB,HD⟩:=hrel
  obtain⟨Ad,cd,rfl⟩:=Kd.R_slice HR.out
  have hk:=HK.out
  have HACC:=hQ hacc
  have hal:acc.length≤1000001:=by rw[hacc];split at hia<;>omega
  clear hacc
  have p0:=bcl hk 0 rfl
  have p1:=bcl hk 1 rfl
  have p2:=bcl hk 2 rfl
  have pf1:=blk_frozen hk 1
  have HPN:=hQ (pl_nonneg (e:=e) ha0)
  by_cases hlt:(i:Int)<N
  ·have d1:decide ((i:Int)<N)=true:=decide_eq_true hlt
   by_cases he:e=0
   ·have hpn:=HPN.out
    rw[decide_eq_true he]at hpn
    have hil:i≤l.length:=by rw[if_pos he]at hia;omega
    subst he
    have hdl:=HD.out
    obtain⟨f,hf⟩: ∃f,l.length+2-i=f+1:=⟨l.length+1-i,by omega⟩
    rw[hf,depsL,if_pos ⟨by omega,rfl⟩]at hdl
    have hpd:=depR_place v T l HBY.out a 0 ⟨ha0,ha1⟩
    have hdr:depR v T l a 0=(((textR v T l a 0).1,false),(textR v T l a 0).2):=by unfold depR;rw[if_pos hv]
    have HNMa:=hQ (HNM.out a 0)
    rw[hdr]at hdl hpd
    generalize textR v T l a 0=TX at*
    obtain⟨sd,a7,e7⟩:=TX
    obtain⟨od,hod⟩: ∃b,b=false:=⟨_,rfl⟩
    dsimp only at hdl hpd HNMa
    rw[←hod]at hdl
    have HOD:=hQ hod
    clear hdr hod
    have hps:=cuNum_step l HBY.out a7 e7 ⟨by omega,hpd.2⟩
    have HNH:=hQ (HNU.out a7 e7)
    have hnr:=cuNum_rg (a:=a7) (e:=e7) HBY.out
    generalize cuNum l a7 e7=NH at*
    obtain⟨hh,a8,e8⟩:=NH
    dsimp only at hdl hps HNH hnr
    have HDL:=hQ hdl
    have HPS:=hQ (show a≤a8∧a8≤(l.length:Int)∧(e8=0→a+1≤a8)∧0≤a8 from⟨by omega,hps.1,fun h=>by have:=(hps.2.2.1 h).1;omega,by omega⟩)
    have hwi:IntKind.u64.wrap ((i:Int)+1)=(i:Int)+1:=by rw[IntKind.wrap_u64];omega
    have hpl:decide (pl a 0≥0)=true:=hpn
    obtain⟨wd,hwd⟩:=eX (wr.alloc (.cells #[.string ⟨#[]⟩,.int .u64 0,.bool false] 129))
    have hbd:Below wr.heap.size wr wd:=by rw[←hwd];exact(Below.refl _ _).alloc (Nat.le_refl _) _
    have hkd:wd.heap[wr.heap.size]? =some (.cells #[.string ⟨#[]⟩,.int .u64 0,.bool false] 129 (0,0)):=by rw[←hwd];exact heap_new _ _
    obtain⟨bd,hbde⟩:=eX (wr.heap.size)
    rw[hbde]at hkd
    have hb3d:b3+1<bd:=by have:=blk_lt HK7.out;omega
    have HWD:=hQ hwd
    have HBDE:=hQ hbde
    have HBD:=hQ (HB.out.trans (hbd.mono HB.out.size))
    have HKD:=hQ hkd
    have HK3:=hQ (blk_below hk hbd)
    have HK7d:=hQ (blk_below HK7.out hbd)
    have HRd:=hQ (Kd.R_mono (Kd.R_bound (Kd.R_below HR.out hbd)) (fun k hk=>hk.2.1))
    have HRD:=hQ (Kd.R_mono (ok':=fun k=>k<bd) (Kd.R_below (Kd.R_bound HR.out) hbd) (fun k hk=>by have:=hk.2.2.1;omega))
    have z0:(wr.alloc (.cells #[.string ⟨#[]⟩,.int .u64 0,.bool false] 129)).cell? ⟨b3,0,none⟩=some (.string s):=by rw[hwd];exact(blk_cell HK3.out 0).trans rfl
    have z1:(wr.alloc (.cells #[.string ⟨#[]⟩,.int .u64 0,.bool false] 129)).cell? ⟨b3,1,none⟩=some (.int .i64 (pl a 0)):=by rw[hwd];exact(blk_cell HK3.out 1).trans rfl
    have z2:(wr.alloc (.cells #[.string ⟨#[]⟩,.int .u64 0,.bool false] 129)).cell? ⟨b3,2,none⟩=some (.slice A T.length c):=by rw[hwd];exact(blk_cell HK3.out 2).trans rfl
    clear hk hbd hkd hwd hbde hdl hps hpd hnr HD HRd
    have dv3:decide (v<3)=true:=decide_eq_true hv
    have hod:=HOD.out
    subst hod
    go_wp2_with fail
    clear z0 z1 z2 p0 p1 p2 pf1
    rw[HWD.out,HBDE.out]
    refine(HNMa.out wd HBD.out).mono ?_
    rintro en w5 ⟨rfl,hb5⟩
    have hk35:=blk_below HK3.out hb5
    have hkd5:=blk_below HKD.out hb5
    have hk75:=blk_below HK7d.out hb5
    have hR5:=Kd.R_below HRD.out hb5
    have hB5:=HBD.out.trans (hb5.mono HBD.out.size)
    have hk36:(w5.setCell ⟨bd,0,none⟩ (.string sd)).heap[b3]? =some (.cells #[.string s,.int .i64 (pl a 0),.slice A T.length c] 118 (0,0)):=(Below.heap_setCell _ _ _ _ (by show b3≠bd;omega)).trans hk35
    have g0:=bcl hkd5 0 rfl
    have gf0:=blk_frozen hkd5 0
    obtain⟨x0,xf0,x1,xf1,x2,xf2⟩:=wf6 hk36
    obtain⟨w6,hw6⟩:=eX (((((w5.setCell ⟨bd,0,none⟩ (.string sd)).setCell ⟨b3,0,none⟩ (.string s)).setCell ⟨b3,1,none⟩ (.int .i64 (pl a7 e7))).setCell ⟨b3,2,none⟩ (.slice A T.length c)))
    have hk37:w6.heap[b3]? =some (.cells #[.string s,.int .i64 (pl a7 e7),.slice A T.length c] 118 (0,0)):=by rw[←hw6];exact blk_put3 hk36 _ _ _
    have hkd6:w6.heap[bd]? =some (.cells #[.string sd,.int .u64 0,.bool false] 129 (0,0)):=by
     rw[←hw6,heap_put3 _ (by omega)];exact blk_put (cs':=#[.string sd,.int .u64 0,.bool false]) hkd5 0 (.string sd) rfl
    have hk76:w6.heap[b3+1]? =some (.cells #[.string ⟨#[]⟩,.int .i64 0,.slice none 0 0] 118 (0,0)):=by
     rw[←hw6,heap_put3 _ (by omega)];exact(Below.heap_setCell _ _ _ _ (by show b3+1≠bd;omega)).trans hk75
    have hR6:Kd.R k129 129 w6 (b3+2) (fun k=>k<bd) (.slice Ad acc.length cd) acc:=by
     refine Kd.R_mono (Kd.R_step (Kd.R_bound hR5) (fun k hk hlt=> ?_)) (fun k hk=>hk.1)
     have h1:=hk.1
     have h2:=hk.2.1
     rw[←hw6,heap_put3 _ (by omega)]
     exact Below.heap_setCell _ _ _ _ (by show k≠bd;omega)
    have hB6:Below w.heap.size w w6:=by
     rw[←hw6]
     have:=HBB.out
     exact below_put3 (hB5.setCell (p:=⟨bd,0,none⟩) (by show w.heap.size≤bd;omega) _) (by omega) _ _ _
    have HW6:=hQ hw6
    have HK36:=hQ hk37
    have HKD6:=hQ hkd6
    have HK76:=hQ hk76
    have HR6:=hQ hR6
    have HB6:=hQ hB6
    clear hb5 hk35 hkd5 hk75 hR5 hB5 hk36 hw6 hk37 hkd6 hk76 hR6 hB6
    go_wp2_with fail
    clear g0 gf0 x0 xf0 x1 xf1 x2 xf2
    rw[HW6.out]
    refine(HNH.out w6).mono ?_
    rintro en w7 ⟨rfl,hb7⟩
    have hk37:=blk_below HK36.out hb7
    have hkd7:=blk_below HKD6.out hb7
    have hk77:=blk_below HK76.out hb7
    have HR7:=hQ (Kd.R_below HR6.out hb7)
    have HB7:=hQ (HB6.out.trans (hb7.mono HB6.out.size))
    have hk38':(w7.setCell ⟨bd,1,none⟩ (.int .u64 hh)).heap[b3]? =some (.cells #[.string s,.int .i64 (pl a7 e7),.slice A T.length c] 118 (0,0)):=(Below.heap_setCell _ _ _ _ (by show b3≠bd;omega)).trans hk37
    obtain⟨x0,xf0,x1,xf1,x2,xf2⟩:=wf6 hk38'
    clear hk38'
    have hkx:(w7.setCell ⟨bd,1,none⟩ (.int .u64 hh)).heap[bd]? =some (.cells #[.string sd,.int .u64 hh,.bool false] 129 (0,0)):=blk_put (cs':=#[.string sd,.int .u64 hh,.bool false]) hkd7 1 (.int .u64 hh) rfl
    obtain⟨w8,hw8⟩:=eX (((((w7.setCell ⟨bd,1,none⟩ (.int .u64 hh)).setCell ⟨b3,0,none⟩ (.string s)).setCell ⟨b3,1,none⟩ (.int .i64 (pl a8 e8))).setCell ⟨b3,2,none⟩ (.slice A T.length c)))
    have hk8:w8.heap[bd]? =some (.cells #[.string sd,.int .u64 hh,.bool false] 129 (0,0)):=by rw[←hw8,heap_put3 _ (by omega)];exact hkx
    have hk38:w8.heap[b3]? =some (.cells #[.string s,.int .i64 (pl a8 e8),.slice A T.length c] 118 (0,0)):=by
     rw[←hw8];exact blk_put3 ((Below.heap_setCell _ _ _ _ (by show b3≠bd;omega)).trans hk37) _ _ _
    have hk78:w8.heap[b3+1]? =some (.cells #[.string ⟨#[]⟩,.int .i64 0,.slice none 0 0] 118 (0,0)):=by
     rw[←hw8,heap_put3 _ (by omega)];exact(Below.heap_setCell _ _ _ _ (by show b3+1≠bd;omega)).trans hk77
    have hR8:Kd.R k129 129 w8 (b3+2) (fun _=>True) (.slice Ad acc.length cd) acc:=by
     refine Kd.R_mono (Kd.R_step (Kd.R_bound HR7.out) (fun k hk hlt=> ?_)) (fun _ _=>trivial)
     have h1:=hk.1
     have h2:=hk.2.1
     rw[←hw8,heap_put3 _ (by omega)]
     exact Below.heap_setCell _ _ _ _ (by show k≠bd;omega)
    have hB8:Below w.heap.size w w8:=by
     rw[←hw8]
     have:=HBB.out
     exact below_put3 (HB7.out.setCell (p:=⟨bd,1,none⟩) (by show w.heap.size≤bd;omega) _) (by omega) _ _ _
    have y0:((((w7.setCell ⟨bd,1,none⟩ (.int .u64 hh)).setCell ⟨b3,0,none⟩ (.string s)).setCell ⟨b3,1,none⟩ (.int .i64 (pl a8 e8))).setCell ⟨b3,2,none⟩ (.slice A T.length c)).cell? ⟨bd,0,none⟩=some (.string sd):=by rw[hw8];exact(blk_cell hk8 0).trans rfl
    have y1:((((w7.setCell ⟨bd,1,none⟩ (.int .u64 hh)).setCell ⟨b3,0,none⟩ (.string s)).setCell ⟨b3,1,none⟩ (.int .i64 (pl a8 e8))).setCell ⟨b3,2,none⟩ (.slice A T.length c)).cell? ⟨bd,1,none⟩=some (.int .u64 hh):=by rw[hw8];exact(blk_cell hk8 1).trans rfl
    have y2:((((w7.setCell ⟨bd,1,none⟩ (.int .u64 hh)).setCell ⟨b3,0,none⟩ (.string s)).setCell ⟨b3,1,none⟩ (.int .i64 (pl a8 e8))).setCell ⟨b3,2,none⟩ (.slice A T.length c)).cell? ⟨bd,2,none⟩=some (.bool false):=by rw[hw8];exact(blk_cell hk8 2).trans rfl
    have q1:=bcl hkd7 1 rfl
    have qf1:=blk_frozen hkd7 1
    obtain⟨w9,hw9⟩:=eX (w8.alloc (.cells #[.string sd,.int .u64 hh,.bool false] 129))
    have hb9:Below w8.heap.size w8 w9:=by rw[←hw9];exact(Below.refl _ _).alloc (Nat.le_refl _) _
    have hk9:w9.heap[w8.heap.size]? =some (.cells #[.string sd,.int .u64 hh,.bool false] 129 (0,0)):=by rw[←hw9];exact heap_new _ _
    have hw89:((((w7.setCell ⟨bd,1,none⟩ (.int .u64 hh)).setCell ⟨b3,0,none⟩ (.string s)).setCell ⟨b3,1,none⟩ (.int .i64 (pl a8 e8))).setCell ⟨b3,2,none⟩ (.slice A T.length c)).heap.size=w8.heap.size:=by rw[hw8]
    have HW8:=hQ hw8
    have HW9:=hQ hw9
    have HK9:=hQ hk9
    have HK39:=hQ (blk_below hk38 hb9)
    have HK79:=hQ (blk_below hk78 hb9)
    have HR9:=hQ (Kd.R_below hR8 hb9)
    have HB9:=hQ (hB8.trans (hb9.mono hB8.size))
    have h89:w7.heap.size=w8.heap.size:=by rw[←hw8];simp
    clear hb7 hk37 hkd7 hk77 hkx hk8 hk38 hk78 hR8 hB8 hb9 hk9 hw8 hw9 hw89
    go_wp2_with (at_builtin;refine Halt.mk ?_)
    refine Halt.of ?_
    clear y0 y1 y2 q1 qf1 x0 xf0 x1 xf1 x2 xf2
    rw[HW8.out,HW9.out]
    have hb3w:=HBB.out
    refine Kd.R_append_rows k129 (w0:=w9) (b3+2) rfl (.tmp 56) (.tmp 58) 47 129 (.agg #[.string ⟨#[]⟩,.int .u64 0,.bool false]) 32 rfl Tryz.underlying47 info_dep rfl (by decide) (by omega) _ acc [⟨sd,hh,false⟩] _ _ _ (fun _=>True) (fun _=>False) rfl rfl HR9.out (row_dep HK9.out) ?_ (fun _ h=>h.elim) (fun _ _=>trivial) (Below.refl _ _) (by have:=blk_lt HK9.out;have:=HB9.out.size;have:=blk_lt HK79.out;omega) (by omega) ?_
    ·rintro _ _ ⟨rfl,rfl⟩
     exact k129_mkM _ _ _ (⟨sd,hh,false⟩:S129)
    intro v12 w12 hR12 hb12 hg12 _
    have hdl2:=HDL.out
    obtain⟨ac2,hac2⟩:=eX (acc++[(⟨sd,hh,false⟩:S129)])
    rw[hac2]at hR12 hdl2
    have HAC2:=hQ (show ac2.length=i+1 by rw[←hac2,List.length_append,HACC.out];rfl)
    have HDL2:=hQ hdl2
    clear hac2 hdl2
    obtain⟨A12,c12,rfl⟩:=Kd.R_slice hR12
    have hown: ∀k,(Value.slice Ad acc.length cd).ownBlock=some k→b3+2≤k:=fun k hk=>Kd.R_base HR9.out k hk
    have hkp:Kp w9 w12 (fun k=>b3+2≤k):=(Kp.refl w9 _).grown hg12 (fun k hk=> .inl (hown k hk))
    have HK12:=hQ (hkp.heap HK39.out (by omega))
    have HK712:=hQ (hkp.heap HK79.out (by omega))
    have HB12:=hQ (HB9.out.grown hg12 HB9.out.size (fun k hk=>by have:=hown k hk;omega))
    have HR12:=hQ hR12
    have hps:=HPS.out
    have hac:=HACC.out
    have hfe:l.length+2-(i+1)=f:=by omega
    have hNe:N-((i+1:Nat):Int)=N-(i:Int)-1:=by omega
    have HFE:=hQ hfe
    have HNE:=hQ hNe
    have HI2:=hQ (show((i+1:Nat):Int)≤N∧((i+1:Nat):Int)≤a8+(if e8=0 then 0 else 1) from⟨by omega,by
     have h1:(i:Int)≤a:=by simpa using hia
     split
     ·rename_i h8;have:=hps.2.2.1 h8;omega
     ·omega⟩)
    clear hR12 hb12 hg12 hown hkp hfe hNe hac hps
    go_wp2_with fail
    go_roundw
    case rel=>exact⟨i+1,_,a8,e8,by go_num,HPS.out.2.2.2,HPS.out.2.1,HI2.out.1,HI2.out.2,HAC2.out,HR12,HK12,HK712,HB12,hQ (by rw[HFE.out,HNE.out];exact HDL2.out)⟩
    case measure=>simp[intOf];omega
   ·have hpn:=HPN.out
    rw[decide_eq_false he]at hpn
    have hpl:decide (pl a e≥0)=false:=hpn
    have hdl:=HD.out
    rw[depsL_end _ (by intro h;exact he h.2)]at hdl
    have HDL:=hQ hdl
    clear hk hdl
    go_wp2_with fail
    have hR9:Kd.R k129 129 wr (b3+2) (fun k=>k≠b3+1) (.slice Ad acc.length cd) acc:=Kd.R_mono (Kd.R_bound HR.out) (fun k hk=>by have:=hk.2.1;omega)
    obtain⟨pp,hpp⟩:=eX (pl a e)
    have hk3:=HK.out
    rw[hpp]at hk3
    have HPP:=hQ hpp
    have kT1:=And.intro hk3 hR9
    have kT3:=HK7.out
    have hsz:=HB.out.size
    have hb3w:=HBB.out
    clear p0 p1 p2 pf1 hR9 hk3 hpp
    refine region_one (n:=4) (base:=w.heap.size) (w0:=w) (b:=(b3+1)) (jw:=3) (byList [isV (.slice Ad acc.length cd),isV (.agg #[.string s,.int .i64 pp,.slice A T.length c]),isV (.slice Ad acc.length cd),(fun _ _=>True)]) (fun W=>W.heap[b3]? =some (.cells #[.string s,.int .i64 pp,.slice A T.length c] 118 (0,0))∧Kd.R k129 129 W (b3+2) (fun k=>k≠b3+1) (.slice Ad acc.length cd) acc) (fun W=>W.heap[(b3+1)]? =some (.cells #[.string ⟨#[]⟩,.int .i64 0,.slice none 0 0] 118 (0,0))) (fun W=>W.heap[(b3+1)]? =some (.cells #[.string s,.int .i64 pp,.slice A T.length c] 118 (0,0))) (by kernel_rfl) rfl (by omega) (byList_any ?_) (by kernel_rfl) (by kernel_rfl) (by omega) (fun W W' row hrow h hg=>⟨blk_grown' h.1 hg (by rcases hrow with rfl|rfl<;>simp),Kd.R_grown h.2 hg (fun k hk=>by rcases hrow with rfl|rfl<;>simp;omega)⟩) (fun W W' h hg=>blk_below h (below_none hg)) (fun W W' h hg=>blk_below h (below_none hg)) HB.out (Nat.le_refl _) kT1 kT3 (show AllLt 4 _ from ?_) ?_
    ·intro p hp
     simp only[List.mem_cons,List.not_mem_nil,or_false]at hp
     rcases hp with rfl|rfl|rfl|rfl<;>exact fun _ _ _ h=>h
    ·refine allLt_succ (allLt_succ (allLt_succ (allLt_succ (allLt_zero _) ?_) ?_) ?_) ?_
     ·refine StepOkO.run (get_lit rfl) rfl (by omega) fun a W hS hB hd hR=> ?_
      have e8:=hS.get (t:=8) rfl rfl
      refine wp_value (c:= .slice Ad acc.length cd) ?_ rfl
      go_simp
     ·refine StepOkO.run (get_lit rfl) rfl (by omega) fun a W hS hB hd hR=> ?_
      have e3:=hS.get (t:=3) rfl rfl
      refine wp_value (c:= .agg #[.string s,.int .i64 pp,.slice A T.length c]) ?_ rfl
      have c0:=bcl hR.1 0 rfl
      have c1:=bcl hR.1 1 rfl
      have c2:=bcl hR.1 2 rfl
      go_simp
     ·refine StepOkO.run (get_lit rfl) rfl (by omega) fun a W hS hB hd hR=> ?_
      have e60:=(hd 0 rfl).bool rfl rfl rfl
      refine wp_value (c:= .slice Ad acc.length cd) ?_ rfl
      go_simp
     ·refine StepOkO.write (get_lit rfl) rfl rfl rfl fun a W hS hB hd hR hP=> ?_
      have e7:=hS.get (t:=7) rfl rfl
      have e61:=(hd 1 rfl).bool rfl rfl rfl
      have z0:W.cell? ⟨(b3+1),0,none⟩=some (.string ⟨#[]⟩):=(blk_cell hP 0).trans rfl
      have zf0:=blk_frozen hP 0
      have z1:W.cell? ⟨(b3+1),1,none⟩=some (.int .i64 0):=(blk_cell hP 1).trans rfl
      have zf1:=blk_frozen hP 1
      have z2:W.cell? ⟨(b3+1),2,none⟩=some (.slice none 0 0):=(blk_cell hP 2).trans rfl
      have zf2:=blk_frozen hP 2
      refine⟨_, ?_,grown_put (grown_put (grown_put (World.grownBy.refl _ _) (.string s)) (.int .i64 pp)) (.slice A T.length c),blk_put3 hP _ _ _⟩
      go_simp
    ·intro a W hS hB hh hRD hFD
     have e6:a.tmps[6]? =some (.slice Ad acc.length cd):=(hh 2 (by omega)).bool rfl rfl rfl
     have HBR:=hQ hB
     obtain⟨zz,hlit,hzz⟩:=same_litz hS
     clear hh hS hB
     simp only[List.filterMap_cons,List.filterMap_nil,List.foldl_cons,List.foldl_nil,List.setIfInBounds_toArray,List.set_cons_zero,List.set_cons_succ]at hlit
     rw[hzz 6 _ e6]at hlit
     clear e6
     clear hzz;subst hlit
     go_wp2_with fail
     refine bodyPost_ret (results_tc rfl _ _ (b3+1) 118 #[_,_,_] (0,0) _ rfl hFD HU.out rfl (by kernel_rfl)) rfl ?_
     rw[←HDL.out,←HPP.out]
     exact⟨_,rfl,Kd.R_mono (Kd.R_lower hRD.2 (by omega)) (fun _ _=>trivial),HBR.out⟩
  ·have d1:decide ((i:Int)<N)=false:=decide_eq_false hlt
   have hdl:=HD.out
   rw[depsL_end _ (by intro h;omega)]at hdl
   have HDL:=hQ hdl
   clear hk hdl
   go_wp2_with fail
   have hR9:Kd.R k129 129 wr (b3+2) (fun k=>k≠b3+1) (.slice Ad acc.length cd) acc:=Kd.R_mono (Kd.R_bound HR.out) (fun k hk=>by have:=hk.2.1;omega)
   obtain⟨pp,hpp⟩:=eX (pl a e)
   have hk3:=HK.out
   rw[hpp]at hk3
   have HPP:=hQ hpp
   have kT1:=And.intro hk3 hR9
   have kT3:=HK7.out
   have hsz:=HB.out.size
   have hb3w:=HBB.out
   clear p0 p1 p2 pf1 hR9 hk3 hpp
   refine region_one (n:=4) (base:=w.heap.size) (w0:=w) (b:=(b3+1)) (jw:=3) (byList [isV (.slice Ad acc.length cd),isV (.agg #[.string s,.int .i64 pp,.slice A T.length c]),isV (.slice Ad acc.length cd),(fun _ _=>True)]) (fun W=>W.heap[b3]? =some (.cells #[.string s,.int .i64 pp,.slice A T.length c] 118 (0,0))∧Kd.R k129 129 W (b3+2) (fun k=>k≠b3+1) (.slice Ad acc.length cd) acc) (fun W=>W.heap[(b3+1)]? =some (.cells #[.string ⟨#[]⟩,.int .i64 0,.slice none 0 0] 118 (0,0))) (fun W=>W.heap[(b3+1)]? =some (.cells #[.string s,.int .i64 pp,.slice A T.length c] 118 (0,0))) (by kernel_rfl) rfl (by omega) (byList_any ?_) (by kernel_rfl) (by kernel_rfl) (by omega) (fun W W' row hrow h hg=>⟨blk_grown' h.1 hg (by rcases hrow with rfl|rfl<;>simp),Kd.R_grown h.2 hg (fun k hk=>by rcases hrow with rfl|rfl<;>simp;omega)⟩) (fun W W' h hg=>blk_below h (below_none hg)) (fun W W' h hg=>blk_below h (below_none hg)) HB.out (Nat.le_refl _) kT1 kT3 (show AllLt 4 _ from ?_) ?_
   ·intro p hp
    simp only[List.mem_cons,List.not_mem_nil,or_false]at hp
    rcases hp with rfl|rfl|rfl|rfl<;>exact fun _ _ _ h=>h
   ·refine allLt_succ (allLt_succ (allLt_succ (allLt_succ (allLt_zero _) ?_) ?_) ?_) ?_
    ·refine StepOkO.run (get_lit rfl) rfl (by omega) fun a W hS hB hd hR=> ?_
     have e8:=hS.get (t:=8) rfl rfl
     refine wp_value (c:= .slice Ad acc.length cd) ?_ rfl
     go_simp
    ·refine StepOkO.run (get_lit rfl) rfl (by omega) fun a W hS hB hd hR=> ?_
     have e3:=hS.get (t:=3) rfl rfl
     refine wp_value (c:= .agg #[.string s,.int .i64 pp,.slice A T.length c]) ?_ rfl
     have c0:=bcl hR.1 0 rfl
     have c1:=bcl hR.1 1 rfl
     have c2:=bcl hR.1 2 rfl
     go_simp
    ·refine StepOkO.run (get_lit rfl) rfl (by omega) fun a W hS hB hd hR=> ?_
     have e60:=(hd 0 rfl).bool rfl rfl rfl
     refine wp_value (c:= .slice Ad acc.length cd) ?_ rfl
     go_simp
    ·refine StepOkO.write (get_lit rfl) rfl rfl rfl fun a W hS hB hd hR hP=> ?_
     have e7:=hS.get (t:=7) rfl rfl
     have e61:=(hd 1 rfl).bool rfl rfl rfl
     have z0:W.cell? ⟨(b3+1),0,none⟩=some (.string ⟨#[]⟩):=(blk_cell hP 0).trans rfl
     have zf0:=blk_frozen hP 0
     have z1:W.cell? ⟨(b3+1),1,none⟩=some (.int .i64 0):=(blk_cell hP 1).trans rfl
     have zf1:=blk_frozen hP 1
     have z2:W.cell? ⟨(b3+1),2,none⟩=some (.slice none 0 0):=(blk_cell hP 2).trans rfl
     have zf2:=blk_frozen hP 2
     refine⟨_, ?_,grown_put (grown_put (grown_put (World.grownBy.refl _ _) (.string s)) (.int .i64 pp)) (.slice A T.length c),blk_put3 hP _ _ _⟩
     go_simp
   ·intro a W hS hB hh hRD hFD
    have e6:a.tmps[6]? =some (.slice Ad acc.length cd):=(hh 2 (by omega)).bool rfl rfl rfl
    have HBR:=hQ hB
    obtain⟨zz,hlit,hzz⟩:=same_litz hS
    clear hh hS hB
    simp only[List.filterMap_cons,List.filterMap_nil,List.foldl_cons,List.foldl_nil,List.setIfInBounds_toArray,List.set_cons_zero,List.set_cons_succ]at hlit
    rw[hzz 6 _ e6]at hlit
    clear e6
    clear hzz;subst hlit
    go_wp2_with fail
    refine bodyPost_ret (results_tc rfl _ _ (b3+1) 118 #[_,_,_] (0,0) _ rfl hFD HU.out rfl (by kernel_rfl)) rfl ?_
    rw[←HDL.out,←HPP.out]
    exact⟨_,rfl,Kd.R_mono (Kd.R_lower hRD.2 (by omega)) (fun _ _=>trivial),HBR.out⟩
theorem wdeps_hi (v:Int) (hv:3≤v) {l:List Int} (hb: ∀x∈l,0≤x∧x<256) (hl:l.length≤1000000) (a e:Int) (ha:0≤a∧a≤l.length) (A:Option Addr) (c:Nat) (T:List ByteArray) (hT:T.length≤1000000) (N:Int) (hN:0≤N∧N<18446744073709551616) (w:World) (hC:Kd.C Kd.string w A T.length T):
  Calls Tryz.prog 54 #[.agg #[.string (strOfNums l),.int .i64 (pl a e),.slice A T.length c],.int .i64 v,.int .u64 N] w fun en w'=>∃dv,en= .returned (.tuple #[dv,.agg #[.string (strOfNums l),.int .i64 (pl (depsL v T l (l.length+2) N a e []).2.1 (depsL v T l (l.length+2) N a e []).2.2),.slice A T.length c]])∧Kd.R k129 129 w' w.heap.size (fun _=>True) dv (depsL v T l (l.length+2) N a e []).1∧Below w.heap.size w w':=by
 have HNU:=hQ (fun(a e:Int) (W:World)=>wnum_is hb hl a e A T.length c W)
 have HNM:=hQ (fun(a e:Int) (W:World) (h:Below w.heap.size w W)=>wname_is v hb hl a e A c T hT W (Kd.C_below hC h))
 have HKN:=hQ (fun(a e m:Int) (hm:0≤m∧m<18446744073709551616) (W:World) (h:Below w.heap.size w W)=>wknown_is (strOfNums l) a e A c T hT m hm W (Kd.C_below hC h))
 obtain⟨s,hs⟩:=eX (strOfNums l)
 rw[hs]at HNU HNM HKN ⊢
 obtain⟨F,hF⟩:=eX (depsL v T l (l.length+2) N a e [])
 rw[hF]
 have HF:=hQ hF
 have HBY:=hQ hb
 clear hC hF hs hb
 obtain⟨w1,hw1⟩:=eX (((w.alloc (.cells #[.string s,.int .i64 (pl a e),.slice A T.length c] 118)).alloc (.cells #[.string ⟨#[]⟩,.int .i64 0,.slice none 0 0] 118)).alloc (.cells #[] 129))
 have hb1:Below w.heap.size w w1:=by rw[←hw1];exact(((Below.refl _ _).alloc (Nat.le_refl _) _).alloc (by rw[heap_size_alloc];omega) _).alloc (by rw[heap_size_alloc,heap_size_alloc];omega) _
 have hk3:w1.heap[w.heap.size]? =some (.cells #[.string s,.int .i64 (pl a e),.slice A T.length c] 118 (0,0)):=by rw[←hw1];exact blk_alloc (blk_alloc (heap_new _ _) _) _
 have hk7:w1.heap[w.heap.size+1]? =some (.cells #[.string ⟨#[]⟩,.int .i64 0,.slice none 0 0] 118 (0,0)):=by
  rw[←hw1]
  have:=heap_new (w.alloc (.cells #[.string s,.int .i64 (pl a e),.slice A T.length c] 118)) (.cells #[.string ⟨#[]⟩,.int .i64 0,.slice none 0 0] 118)
  rw[heap_size_alloc]at this
  exact blk_alloc this _
 have hk8:w1.heap[w.heap.size+2]? =some (.cells #[] 129 (0,0)):=by
  rw[←hw1]
  have:=heap_new ((w.alloc (.cells #[.string s,.int .i64 (pl a e),.slice A T.length c] 118)).alloc (.cells #[.string ⟨#[]⟩,.int .i64 0,.slice none 0 0] 118)) (.cells #[] 129)
  rwa [heap_size_alloc,heap_size_alloc]at this
 obtain⟨b3,hbb⟩:=eX (w.heap.size)
 rw[hbb]at hk3 hk7 hk8
 have hz8:Kd.R k129 129 w1 (b3+2) (fun _=>True) (.slice (some ⟨b3+2,0,none⟩) 0 0) []:=R_empty k129 w1 (b3+2) (b3+2) 129 (fun _=>True) hk8 (Nat.le_refl _) trivial
 have HB1:=hQ hb1
 have HW1:=hQ hw1
 have HK3:=hQ hk3
 have HK7:=hQ hk7
 have HZ8:=hQ hz8
 have HBB:=hQ hbb
 have HU:=hQ Tryz.underlying118
 clear hb1 hk3 hk7 hk8 hz8 hbb hw1
 go_enter Tryz.func54,Tryz.ntmps54
 go_wp2_with fail
 rw[HW1.out,HBB.out]
 go_loopw [8,9] (fun u8 u9 wr=>∃(i:Nat) (acc:List S129) (a e:Int),u9= .int .u64 (i:Int)∧0≤a∧a≤(l.length:Int)∧(i:Int)≤N∧(i:Int)≤a+(if e=0 then 0 else 1)∧acc.length=i∧Hid (Kd.R k129 129 wr (b3+2) (fun _=>True) u8 acc)∧Hid (wr.heap[b3]? =some (.cells #[.string s,.int .i64 (pl a e),.slice A T.length c] 118 (0,0)))∧Hid (wr.heap[b3+1]? =some (.cells #[.string ⟨#[]⟩,.int .i64 0,.slice none 0 0] 118 (0,0)))∧Hid (Below w.heap.size w wr)∧Hid (depsL v T l (l.length+2-i) (N-i) a e acc=F)) (fun _ u _=>l.length+2-(intOf u).toNat)
 case atStart=>exact⟨0,[],a,e,rfl,ha.1,ha.2,hN.1,by split<;>omega,rfl,HZ8,HK3,HK7,HB1,hQ (by simpa using HF.out)⟩
 case round=>
  clear HZ8 HK3 HK7
  obtain⟨i,acc,a,e,rfl,ha0,ha1,hiN,hia,hacc,HR,HK,HK7,HB,HD⟩:=hrel
  obtain⟨Ad,cd,rfl⟩:=Kd.R_slice HR.out
  have hk:=HK.out
  have HACC:=hQ hacc
  have hal:acc.length≤1000001:=by rw[hacc];split at hia<;>omega
  clear hacc
  have p0:=bcl hk 0 rfl
  have p1:=bcl hk 1 rfl
  have p2:=bcl hk 2 rfl
  have pf1:=blk_frozen hk 1
  have HPN:=hQ (pl_nonneg (e:=e) ha0)
  by_cases hlt:(i:Int)<N
  ·have d1:decide ((i:Int)<N)=true:=decide_eq_true hlt
   by_cases he:e=0
   ·have hpn:=HPN.out
    rw[decide_eq_true he]at hpn
    have hil:i≤l.length:=by rw[if_pos he]at hia;omega
    subst he
    have hdl:=HD.out
    obtain⟨f,hf⟩: ∃f,l.length+2-i=f+1:=⟨l.length+1-i,by omega⟩
    rw[hf,depsL,if_pos ⟨by omega,rfl⟩]at hdl
    have hpd:=depR_place v T l HBY.out a 0 ⟨ha0,ha1⟩
    have hdr:depR v T l a 0=((txF T ((cuNum l a 0).1/2),decide ((cuNum l a 0).1%2=1)),(cuNum l a 0).2.1,txE T ((cuNum l a 0).1/2) (cuNum l a 0).2.2):=by unfold depR;rw[if_neg (by omega)]
    have HN1:=hQ (HNU.out a 0)
    have hmr:=cuNum_rg (a:=a) (e:=0) HBY.out
    rw[hdr]at hdl hpd
    generalize cuNum l a 0=N1 at*
    obtain⟨m,a7,e4⟩:=N1
    dsimp only at hdl hpd HN1 hmr
    have hKN:=fun(W:World) (h:Below w.heap.size w W)=>HKN.out a7 e4 (m/2) (by omega) W h
    obtain⟨m,rfl⟩: ∃k:Nat,m=(k:Int):=⟨m.toNat,by omega⟩
    have hq1:Int.tdiv (m:Int) 2=(m:Int)/2:=rfl
    have hq2:Int.tmod (m:Int) 2=(m:Int)%2:=rfl
    have hq3:IntKind.u64.wrap ((m:Int)/2)=(m:Int)/2:=by rw[IntKind.wrap_u64];omega
    have hq4:IntKind.u64.wrap ((m:Int)%2)=(m:Int)%2:=by rw[IntKind.wrap_u64];omega
    have hq5:((m:Int)%2==1)=decide ((m:Int)%2=1):=by rw[Bool.eq_iff_iff];simp
    generalize txF T ((m:Int)/2)=sd at*
    generalize txE T ((m:Int)/2) e4=e7 at*
    have HKNm:=hQ hKN
    clear hdr hmr hKN
    have hps:=cuNum_step l HBY.out a7 e7 ⟨by omega,hpd.2⟩
    have HNH:=hQ (HNU.out a7 e7)
    have hnr:=cuNum_rg (a:=a7) (e:=e7) HBY.out
    generalize cuNum l a7 e7=NH at*
    obtain⟨hh,a8,e8⟩:=NH
    dsimp only at hdl hps HNH hnr
    have HDL:=hQ hdl
    have HPS:=hQ (show a≤a8∧a8≤(l.length:Int)∧(e8=0→a+1≤a8)∧0≤a8 from⟨by omega,hps.1,fun h=>by have:=(hps.2.2.1 h).1;omega,by omega⟩)
    have hwi:IntKind.u64.wrap ((i:Int)+1)=(i:Int)+1:=by rw[IntKind.wrap_u64];omega
    have hpl:decide (pl a 0≥0)=true:=hpn
    obtain⟨wd,hwd⟩:=eX (wr.alloc (.cells #[.string ⟨#[]⟩,.int .u64 0,.bool false] 129))
    have hbd:Below wr.heap.size wr wd:=by rw[←hwd];exact(Below.refl _ _).alloc (Nat.le_refl _) _
    have hkd:wd.heap[wr.heap.size]? =some (.cells #[.string ⟨#[]⟩,.int .u64 0,.bool false] 129 (0,0)):=by rw[←hwd];exact heap_new _ _
    obtain⟨bd,hbde⟩:=eX (wr.heap.size)
    rw[hbde]at hkd
    have hb3d:b3+1<bd:=by have:=blk_lt HK7.out;omega
    have HWD:=hQ hwd
    have HBDE:=hQ hbde
    have HBD:=hQ (HB.out.trans (hbd.mono HB.out.size))
    have HKD:=hQ hkd
    have HK3:=hQ (blk_below hk hbd)
    have HK7d:=hQ (blk_below HK7.out hbd)
    have HRd:=hQ (Kd.R_mono (Kd.R_bound (Kd.R_below HR.out hbd)) (fun k hk=>hk.2.1))
    have HRD:=hQ (Kd.R_mono (ok':=fun k=>k<bd) (Kd.R_below (Kd.R_bound HR.out) hbd) (fun k hk=>by have:=hk.2.2.1;omega))
    have z0:(wr.alloc (.cells #[.string ⟨#[]⟩,.int .u64 0,.bool false] 129)).cell? ⟨b3,0,none⟩=some (.string s):=by rw[hwd];exact(blk_cell HK3.out 0).trans rfl
    have z1:(wr.alloc (.cells #[.string ⟨#[]⟩,.int .u64 0,.bool false] 129)).cell? ⟨b3,1,none⟩=some (.int .i64 (pl a 0)):=by rw[hwd];exact(blk_cell HK3.out 1).trans rfl
    have z2:(wr.alloc (.cells #[.string ⟨#[]⟩,.int .u64 0,.bool false] 129)).cell? ⟨b3,2,none⟩=some (.slice A T.length c):=by rw[hwd];exact(blk_cell HK3.out 2).trans rfl
    clear hk hbd hkd hwd hbde hdl hps hpd hnr HD HRd
    have dv3:decide (v<3)=false:=decide_eq_false (by omega)
    go_wp2_with fail
    clear z0 z1 z2 p0 p1 p2 pf1
    rw[HWD.out,HBDE.out]
    refine(HN1.out wd).mono ?_
    rintro en w4 ⟨rfl,hb4⟩
    have hk34:=blk_below HK3.out hb4
    have hkd4:=blk_below HKD.out hb4
    have hk74:=blk_below HK7d.out hb4
    have hR4:=Kd.R_below HRD.out hb4
    have hB4:=HBD.out.trans (hb4.mono HBD.out.size)
    obtain⟨x0,xf0,x1,xf1,x2,xf2⟩:=wf6 hk34
    have hkd5:(((w4.setCell ⟨b3,0,none⟩ (.string s)).setCell ⟨b3,1,none⟩ (.int .i64 (pl a7 e4))).setCell ⟨b3,2,none⟩ (.slice A T.length c)).heap[bd]? =some (.cells #[.string ⟨#[]⟩,.int .u64 0,.bool false] 129 (0,0)):=(heap_put3 _ (by omega) _ _ _).trans hkd4
    have hk35:(((w4.setCell ⟨b3,0,none⟩ (.string s)).setCell ⟨b3,1,none⟩ (.int .i64 (pl a7 e4))).setCell ⟨b3,2,none⟩ (.slice A T.length c)).heap[b3]? =some (.cells #[.string s,.int .i64 (pl a7 e4),.slice A T.length c] 118 (0,0)):=blk_put3 hk34 _ _ _
    have u2:(((w4.setCell ⟨b3,0,none⟩ (.string s)).setCell ⟨b3,1,none⟩ (.int .i64 (pl a7 e4))).setCell ⟨b3,2,none⟩ (.slice A T.length c)).cell? ⟨bd,2,none⟩=some (.bool false):=(blk_cell hkd5 2).trans rfl
    have uf2:=blk_frozen hkd5 2
    have hk36:((((w4.setCell ⟨b3,0,none⟩ (.string s)).setCell ⟨b3,1,none⟩ (.int .i64 (pl a7 e4))).setCell ⟨b3,2,none⟩ (.slice A T.length c)).setCell ⟨bd,2,none⟩ (.bool (decide ((m:Int)%2=1)))).heap[b3]? =some (.cells #[.string s,.int .i64 (pl a7 e4),.slice A T.length c] 118 (0,0)):=(Below.heap_setCell _ _ _ _ (by show b3≠bd;omega)).trans hk35
    obtain⟨v0,v1,v2⟩:=wf3 hk36
    obtain⟨wk,hwk⟩:=eX (((((w4.setCell ⟨b3,0,none⟩ (.string s)).setCell ⟨b3,1,none⟩ (.int .i64 (pl a7 e4))).setCell ⟨b3,2,none⟩ (.slice A T.length c)).setCell ⟨bd,2,none⟩ (.bool (decide ((m:Int)%2=1)))))
    have hkd6:wk.heap[bd]? =some (.cells #[.string ⟨#[]⟩,.int .u64 0,.bool (decide ((m:Int)%2=1))] 129 (0,0)):=by
     rw[←hwk];exact blk_put (cs':=#[.string ⟨#[]⟩,.int .u64 0,.bool (decide ((m:Int)%2=1))]) hkd5 2 _ rfl
    have hk37:wk.heap[b3]? =some (.cells #[.string s,.int .i64 (pl a7 e4),.slice A T.length c] 118 (0,0)):=by rw[←hwk];exact hk36
    have hk76:wk.heap[b3+1]? =some (.cells #[.string ⟨#[]⟩,.int .i64 0,.slice none 0 0] 118 (0,0)):=by
     rw[←hwk];exact(Below.heap_setCell _ _ _ _ (by show b3+1≠bd;omega)).trans ((heap_put3 _ (by omega) _ _ _).trans hk74)
    have hRk:Kd.R k129 129 wk (b3+2) (fun k=>k<bd) (.slice Ad acc.length cd) acc:=by
     refine Kd.R_mono (Kd.R_step (Kd.R_bound hR4) (fun k hk hlt=> ?_)) (fun k hk=>hk.1)
     have h1:=hk.1
     have h2:=hk.2.1
     rw[←hwk]
     exact(Below.heap_setCell _ _ _ _ (by show k≠bd;omega)).trans (heap_put3 _ (by omega) _ _ _)
    have hBk:Below w.heap.size w wk:=by
     rw[←hwk]
     have:=HBB.out
     exact(below_put3 hB4 (by omega) _ _ _).setCell (p:=⟨bd,2,none⟩) (by show w.heap.size≤bd;omega) _
    have HWK:=hQ hwk
    have HKDk:=hQ hkd6
    have HK3k:=hQ hk37
    have HK7k:=hQ hk76
    have HRk:=hQ hRk
    have HBk:=hQ hBk
    clear hb4 hk34 hkd4 hk74 hR4 hB4 hkd5 hk35 hk36 hwk hkd6 hk37 hk76 hRk hBk
    go_wp2_with fail
    clear x0 xf0 x1 xf1 x2 xf2 u2 uf2 v0 v1 v2
    try rw[hq5]
    rw[HWK.out]
    refine(HKNm.out wk HBk.out).mono ?_
    rintro en w5 ⟨rfl,hb5⟩
    obtain⟨od,hod⟩:=eX (decide ((m:Int)%2=1))
    have hk35:=blk_below HK3k.out hb5
    have hkd5:=blk_below HKDk.out hb5
    rw[hod]at hkd5
    have hdl2:=HDL.out
    rw[hod]at hdl2
    have HDLo:=hQ hdl2
    have hk75:=blk_below HK7k.out hb5
    have hR5:=Kd.R_below HRk.out hb5
    have hB5:=HBk.out.trans (hb5.mono HBk.out.size)
    have hk36:(w5.setCell ⟨bd,0,none⟩ (.string sd)).heap[b3]? =some (.cells #[.string s,.int .i64 (pl a7 e4),.slice A T.length c] 118 (0,0)):=(Below.heap_setCell _ _ _ _ (by show b3≠bd;omega)).trans hk35
    have g0:=bcl hkd5 0 rfl
    have gf0:=blk_frozen hkd5 0
    obtain⟨x0,xf0,x1,xf1,x2,xf2⟩:=wf6 hk36
    obtain⟨w6,hw6⟩:=eX (((((w5.setCell ⟨bd,0,none⟩ (.string sd)).setCell ⟨b3,0,none⟩ (.string s)).setCell ⟨b3,1,none⟩ (.int .i64 (pl a7 e7))).setCell ⟨b3,2,none⟩ (.slice A T.length c)))
    have hk37:w6.heap[b3]? =some (.cells #[.string s,.int .i64 (pl a7 e7),.slice A T.length c] 118 (0,0)):=by rw[←hw6];exact blk_put3 hk36 _ _ _
    have hkd6:w6.heap[bd]? =some (.cells #[.string sd,.int .u64 0,.bool od] 129 (0,0)):=by
     rw[←hw6,heap_put3 _ (by omega)];exact blk_put (cs':=#[.string sd,.int .u64 0,.bool od]) hkd5 0 (.string sd) rfl
    have hk76:w6.heap[b3+1]? =some (.cells #[.string ⟨#[]⟩,.int .i64 0,.slice none 0 0] 118 (0,0)):=by
     rw[←hw6,heap_put3 _ (by omega)];exact(Below.heap_setCell _ _ _ _ (by show b3+1≠bd;omega)).trans hk75
    have hR6:Kd.R k129 129 w6 (b3+2) (fun k=>k<bd) (.slice Ad acc.length cd) acc:=by
     refine Kd.R_mono (Kd.R_step (Kd.R_bound hR5) (fun k hk hlt=> ?_)) (fun k hk=>hk.1)
     have h1:=hk.1
     have h2:=hk.2.1
     rw[←hw6,heap_put3 _ (by omega)]
     exact Below.heap_setCell _ _ _ _ (by show k≠bd;omega)
    have hB6:Below w.heap.size w w6:=by
     rw[←hw6]
     have:=HBB.out
     exact below_put3 (hB5.setCell (p:=⟨bd,0,none⟩) (by show w.heap.size≤bd;omega) _) (by omega) _ _ _
    have HW6:=hQ hw6
    have HK36:=hQ hk37
    have HKD6:=hQ hkd6
    have HK76:=hQ hk76
    have HR6:=hQ hR6
    have HB6:=hQ hB6
    clear hb5 hk35 hkd5 hk75 hR5 hB5 hk36 hw6 hk37 hkd6 hk76 hR6 hB6
    go_wp2_with fail
    clear g0 gf0 x0 xf0 x1 xf1 x2 xf2
    rw[HW6.out]
    refine(HNH.out w6).mono ?_
    rintro en w7 ⟨rfl,hb7⟩
    have hk37:=blk_below HK36.out hb7
    have hkd7:=blk_below HKD6.out hb7
    have hk77:=blk_below HK76.out hb7
    have HR7:=hQ (Kd.R_below HR6.out hb7)
    have HB7:=hQ (HB6.out.trans (hb7.mono HB6.out.size))
    have hk38':(w7.setCell ⟨bd,1,none⟩ (.int .u64 hh)).heap[b3]? =some (.cells #[.string s,.int .i64 (pl a7 e7),.slice A T.length c] 118 (0,0)):=(Below.heap_setCell _ _ _ _ (by show b3≠bd;omega)).trans hk37
    obtain⟨x0,xf0,x1,xf1,x2,xf2⟩:=wf6 hk38'
    clear hk38'
    have hkx:(w7.setCell ⟨bd,1,none⟩ (.int .u64 hh)).heap[bd]? =some (.cells #[.string sd,.int .u64 hh,.bool od] 129 (0,0)):=blk_put (cs':=#[.string sd,.int .u64 hh,.bool od]) hkd7 1 (.int .u64 hh) rfl
    obtain⟨w8,hw8⟩:=eX (((((w7.setCell ⟨bd,1,none⟩ (.int .u64 hh)).setCell ⟨b3,0,none⟩ (.string s)).setCell ⟨b3,1,none⟩ (.int .i64 (pl a8 e8))).setCell ⟨b3,2,none⟩ (.slice A T.length c)))
    have hk8:w8.heap[bd]? =some (.cells #[.string sd,.int .u64 hh,.bool od] 129 (0,0)):=by rw[←hw8,heap_put3 _ (by omega)];exact hkx
    have hk38:w8.heap[b3]? =some (.cells #[.string s,.int .i64 (pl a8 e8),.slice A T.length c] 118 (0,0)):=by
     rw[←hw8];exact blk_put3 ((Below.heap_setCell _ _ _ _ (by show b3≠bd;omega)).trans hk37) _ _ _
    have hk78:w8.heap[b3+1]? =some (.cells #[.string ⟨#[]⟩,.int .i64 0,.slice none 0 0] 118 (0,0)):=by
     rw[←hw8,heap_put3 _ (by omega)];exact(Below.heap_setCell _ _ _ _ (by show b3+1≠bd;omega)).trans hk77
    have hR8:Kd.R k129 129 w8 (b3+2) (fun _=>True) (.slice Ad acc.length cd) acc:=by
     refine Kd.R_mono (Kd.R_step (Kd.R_bound HR7.out) (fun k hk hlt=> ?_)) (fun _ _=>trivial)
     have h1:=hk.1
     have h2:=hk.2.1
     rw[←hw8,heap_put3 _ (by omega)]
     exact Below.heap_setCell _ _ _ _ (by show k≠bd;omega)
    have hB8:Below w.heap.size w w8:=by
     rw[←hw8]
     have:=HBB.out
     exact below_put3 (HB7.out.setCell (p:=⟨bd,1,none⟩) (by show w.heap.size≤bd;omega) _) (by omega) _ _ _
    have y0:((((w7.setCell ⟨bd,1,none⟩ (.int .u64 hh)).setCell ⟨b3,0,none⟩ (.string s)).setCell ⟨b3,1,none⟩ (.int .i64 (pl a8 e8))).setCell ⟨b3,2,none⟩ (.slice A T.length c)).cell? ⟨bd,0,none⟩=some (.string sd):=by rw[hw8];exact(blk_cell hk8 0).trans rfl
    have y1:((((w7.setCell ⟨bd,1,none⟩ (.int .u64 hh)).setCell ⟨b3,0,none⟩ (.string s)).setCell ⟨b3,1,none⟩ (.int .i64 (pl a8 e8))).setCell ⟨b3,2,none⟩ (.slice A T.length c)).cell? ⟨bd,1,none⟩=some (.int .u64 hh):=by rw[hw8];exact(blk_cell hk8 1).trans rfl
    have y2:((((w7.setCell ⟨bd,1,none⟩ (.int .u64 hh)).setCell ⟨b3,0,none⟩ (.string s)).setCell ⟨b3,1,none⟩ (.int .i64 (pl a8 e8))).setCell ⟨b3,2,none⟩ (.slice A T.length c)).cell? ⟨bd,2,none⟩=some (.bool od):=by rw[hw8];exact(blk_cell hk8 2).trans rfl
    have q1:=bcl hkd7 1 rfl
    have qf1:=blk_frozen hkd7 1
    obtain⟨w9,hw9⟩:=eX (w8.alloc (.cells #[.string sd,.int .u64 hh,.bool od] 129))
    have hb9:Below w8.heap.size w8 w9:=by rw[←hw9];exact(Below.refl _ _).alloc (Nat.le_refl _) _
    have hk9:w9.heap[w8.heap.size]? =some (.cells #[.string sd,.int .u64 hh,.bool od] 129 (0,0)):=by rw[←hw9];exact heap_new _ _
    have hw89:((((w7.setCell ⟨bd,1,none⟩ (.int .u64 hh)).setCell ⟨b3,0,none⟩ (.string s)).setCell ⟨b3,1,none⟩ (.int .i64 (pl a8 e8))).setCell ⟨b3,2,none⟩ (.slice A T.length c)).heap.size=w8.heap.size:=by rw[hw8]
    have HW8:=hQ hw8
    have HW9:=hQ hw9
    have HK9:=hQ hk9
    have HK39:=hQ (blk_below hk38 hb9)
    have HK79:=hQ (blk_below hk78 hb9)
    have HR9:=hQ (Kd.R_below hR8 hb9)
    have HB9:=hQ (hB8.trans (hb9.mono hB8.size))
    have h89:w7.heap.size=w8.heap.size:=by rw[←hw8];simp
    clear hb7 hk37 hkd7 hk77 hkx hk8 hk38 hk78 hR8 hB8 hb9 hk9 hw8 hw9 hw89
    go_wp2_with (at_builtin;refine Halt.mk ?_)
    refine Halt.of ?_
    clear y0 y1 y2 q1 qf1 x0 xf0 x1 xf1 x2 xf2
    rw[HW8.out,HW9.out]
    have hb3w:=HBB.out
    refine Kd.R_append_rows k129 (w0:=w9) (b3+2) rfl (.tmp 56) (.tmp 58) 47 129 (.agg #[.string ⟨#[]⟩,.int .u64 0,.bool false]) 32 rfl Tryz.underlying47 info_dep rfl (by decide) (by omega) _ acc [⟨sd,hh,od⟩] _ _ _ (fun _=>True) (fun _=>False) rfl rfl HR9.out (row_dep HK9.out) ?_ (fun _ h=>h.elim) (fun _ _=>trivial) (Below.refl _ _) (by have:=blk_lt HK9.out;have:=HB9.out.size;have:=blk_lt HK79.out;omega) (by omega) ?_
    ·rintro _ _ ⟨rfl,rfl⟩
     exact k129_mkM _ _ _ (⟨sd,hh,od⟩:S129)
    intro v12 w12 hR12 hb12 hg12 _
    have hdl2:=HDLo.out
    obtain⟨ac2,hac2⟩:=eX (acc++[(⟨sd,hh,od⟩:S129)])
    rw[hac2]at hR12 hdl2
    have HAC2:=hQ (show ac2.length=i+1 by rw[←hac2,List.length_append,HACC.out];rfl)
    have HDL2:=hQ hdl2
    clear hac2 hdl2
    obtain⟨A12,c12,rfl⟩:=Kd.R_slice hR12
    have hown: ∀k,(Value.slice Ad acc.length cd).ownBlock=some k→b3+2≤k:=fun k hk=>Kd.R_base HR9.out k hk
    have hkp:Kp w9 w12 (fun k=>b3+2≤k):=(Kp.refl w9 _).grown hg12 (fun k hk=> .inl (hown k hk))
    have HK12:=hQ (hkp.heap HK39.out (by omega))
    have HK712:=hQ (hkp.heap HK79.out (by omega))
    have HB12:=hQ (HB9.out.grown hg12 HB9.out.size (fun k hk=>by have:=hown k hk;omega))
    have HR12:=hQ hR12
    have hps:=HPS.out
    have hac:=HACC.out
    have hfe:l.length+2-(i+1)=f:=by omega
    have hNe:N-((i+1:Nat):Int)=N-(i:Int)-1:=by omega
    have HFE:=hQ hfe
    have HNE:=hQ hNe
    have HI2:=hQ (show((i+1:Nat):Int)≤N∧((i+1:Nat):Int)≤a8+(if e8=0 then 0 else 1) from⟨by omega,by
     have h1:(i:Int)≤a:=by simpa using hia
     split
     ·rename_i h8;have:=hps.2.2.1 h8;omega
     ·omega⟩)
    clear hR12 hb12 hg12 hown hkp hfe hNe hac hps
    go_wp2_with fail
    go_roundw
    case rel=>exact⟨i+1,_,a8,e8,by go_num,HPS.out.2.2.2,HPS.out.2.1,HI2.out.1,HI2.out.2,HAC2.out,HR12,HK12,HK712,HB12,hQ (by rw[HFE.out,HNE.out];exact HDL2.out)⟩
    case measure=>simp[intOf];omega
   ·have hpn:=HPN.out
    rw[decide_eq_false he]at hpn
    have hpl:decide (pl a e≥0)=false:=hpn
    have hdl:=HD.out
    rw[depsL_end _ (by intro h;exact he h.2)]at hdl
    have HDL:=hQ hdl
    clear hk hdl
    go_wp2_with fail
    have hR9:Kd.R k129 129 wr (b3+2) (fun k=>k≠b3+1) (.slice Ad acc.length cd) acc:=Kd.R_mono (Kd.R_bound HR.out) (fun k hk=>by have:=hk.2.1;omega)
    obtain⟨pp,hpp⟩:=eX (pl a e)
    have hk3:=HK.out
    rw[hpp]at hk3
    have HPP:=hQ hpp
    have kT1:=And.intro hk3 hR9
    have kT3:=HK7.out
    have hsz:=HB.out.size
    have hb3w:=HBB.out
    clear p0 p1 p2 pf1 hR9 hk3 hpp
    refine region_one (n:=4) (base:=w.heap.size) (w0:=w) (b:=(b3+1)) (jw:=3) (byList [isV (.slice Ad acc.length cd),isV (.agg #[.string s,.int .i64 pp,.slice A T.length c]),isV (.slice Ad acc.length cd),(fun _ _=>True)]) (fun W=>W.heap[b3]? =some (.cells #[.string s,.int .i64 pp,.slice A T.length c] 118 (0,0))∧Kd.R k129 129 W (b3+2) (fun k=>k≠b3+1) (.slice Ad acc.length cd) acc) (fun W=>W.heap[(b3+1)]? =some (.cells #[.string ⟨#[]⟩,.int .i64 0,.slice none 0 0] 118 (0,0))) (fun W=>W.heap[(b3+1)]? =some (.cells #[.string s,.int .i64 pp,.slice A T.length c] 118 (0,0))) (by kernel_rfl) rfl (by omega) (byList_any ?_) (by kernel_rfl) (by kernel_rfl) (by omega) (fun W W' row hrow h hg=>⟨blk_grown' h.1 hg (by rcases hrow with rfl|rfl<;>simp),Kd.R_grown h.2 hg (fun k hk=>by rcases hrow with rfl|rfl<;>simp;omega)⟩) (fun W W' h hg=>blk_below h (below_none hg)) (fun W W' h hg=>blk_below h (below_none hg)) HB.out (Nat.le_refl _) kT1 kT3 (show AllLt 4 _ from ?_) ?_
    ·intro p hp
     simp only[List.mem_cons,List.not_mem_nil,or_false]at hp
     rcases hp with rfl|rfl|rfl|rfl<;>exact fun _ _ _ h=>h
    ·refine allLt_succ (allLt_succ (allLt_succ (allLt_succ (allLt_zero _) ?_) ?_) ?_) ?_
     ·refine StepOkO.run (get_lit rfl) rfl (by omega) fun a W hS hB hd hR=> ?_
      have e8:=hS.get (t:=8) rfl rfl
      refine wp_value (c:= .slice Ad acc.length cd) ?_ rfl
      go_simp
     ·refine StepOkO.run (get_lit rfl) rfl (by omega) fun a W hS hB hd hR=> ?_
      have e3:=hS.get (t:=3) rfl rfl
      refine wp_value (c:= .agg #[.string s,.int .i64 pp,.slice A T.length c]) ?_ rfl
      have c0:=bcl hR.1 0 rfl
      have c1:=bcl hR.1 1 rfl
      have c2:=bcl hR.1 2 rfl
      go_simp
     ·refine StepOkO.run (get_lit rfl) rfl (by omega) fun a W hS hB hd hR=> ?_
      have e60:=(hd 0 rfl).bool rfl rfl rfl
      refine wp_value (c:= .slice Ad acc.length cd) ?_ rfl
      go_simp
     ·refine StepOkO.write (get_lit rfl) rfl rfl rfl fun a W hS hB hd hR hP=> ?_
      have e7:=hS.get (t:=7) rfl rfl
      have e61:=(hd 1 rfl).bool rfl rfl rfl
      have z0:W.cell? ⟨(b3+1),0,none⟩=some (.string ⟨#[]⟩):=(blk_cell hP 0).trans rfl
      have zf0:=blk_frozen hP 0
      have z1:W.cell? ⟨(b3+1),1,none⟩=some (.int .i64 0):=(blk_cell hP 1).trans rfl
      have zf1:=blk_frozen hP 1
      have z2:W.cell? ⟨(b3+1),2,none⟩=some (.slice none 0 0):=(blk_cell hP 2).trans rfl
      have zf2:=blk_frozen hP 2
      refine⟨_, ?_,grown_put (grown_put (grown_put (World.grownBy.refl _ _) (.string s)) (.int .i64 pp)) (.slice A T.length c),blk_put3 hP _ _ _⟩
      go_simp
    ·intro a W hS hB hh hRD hFD
     have e6:a.tmps[6]? =some (.slice Ad acc.length cd):=(hh 2 (by omega)).bool rfl rfl rfl
     have HBR:=hQ hB
     obtain⟨zz,hlit,hzz⟩:=same_litz hS
     clear hh hS hB
     simp only[List.filterMap_cons,List.filterMap_nil,List.foldl_cons,List.foldl_nil,List.setIfInBounds_toArray,List.set_cons_zero,List.set_cons_succ]at hlit
     rw[hzz 6 _ e6]at hlit
     clear e6
     clear hzz;subst hlit
     go_wp2_with fail
     refine bodyPost_ret (results_tc rfl _ _ (b3+1) 118 #[_,_,_] (0,0) _ rfl hFD HU.out rfl (by kernel_rfl)) rfl ?_
     rw[←HDL.out,←HPP.out]
     exact⟨_,rfl,Kd.R_mono (Kd.R_lower hRD.2 (by omega)) (fun _ _=>trivial),HBR.out⟩
  ·have d1:decide ((i:Int)<N)=false:=decide_eq_false hlt
   have hdl:=HD.out
   rw[depsL_end _ (by intro h;omega)]at hdl
   have HDL:=hQ hdl
   clear hk hdl
   go_wp2_with fail
   have hR9:Kd.R k129 129 wr (b3+2) (fun k=>k≠b3+1) (.slice Ad acc.length cd) acc:=Kd.R_mono (Kd.R_bound HR.out) (fun k hk=>by have:=hk.2.1;omega)
   obtain⟨pp,hpp⟩:=eX (pl a e)
   have hk3:=HK.out
   rw[hpp]at hk3
   have HPP:=hQ hpp
   have kT1:=And.intro hk3 hR9
   have kT3:=HK7.out
   have hsz:=HB.out.size
   have hb3w:=HBB.out
   clear p0 p1 p2 pf1 hR9 hk3 hpp
   refine region_one (n:=4) (base:=w.heap.size) (w0:=w) (b:=(b3+1)) (jw:=3) (byList [isV (.slice Ad acc.length cd),isV (.agg #[.string s,.int .i64 pp,.slice A T.length c]),isV (.slice Ad acc.length cd),(fun _ _=>True)]) (fun W=>W.heap[b3]? =some (.cells #[.string s,.int .i64 pp,.slice A T.length c] 118 (0,0))∧Kd.R k129 129 W (b3+2) (fun k=>k≠b3+1) (.slice Ad acc.length cd) acc) (fun W=>W.heap[(b3+1)]? =some (.cells #[.string ⟨#[]⟩,.int .i64 0,.slice none 0 0] 118 (0,0))) (fun W=>W.heap[(b3+1)]? =some (.cells #[.string s,.int .i64 pp,.slice A T.length c] 118 (0,0))) (by kernel_rfl) rfl (by omega) (byList_any ?_) (by kernel_rfl) (by kernel_rfl) (by omega) (fun W W' row hrow h hg=>⟨blk_grown' h.1 hg (by rcases hrow with rfl|rfl<;>simp),Kd.R_grown h.2 hg (fun k hk=>by rcases hrow with rfl|rfl<;>simp;omega)⟩) (fun W W' h hg=>blk_below h (below_none hg)) (fun W W' h hg=>blk_below h (below_none hg)) HB.out (Nat.le_refl _) kT1 kT3 (show AllLt 4 _ from ?_) ?_
   ·intro p hp
    simp only[List.mem_cons,List.not_mem_nil,or_false]at hp
    rcases hp with rfl|rfl|rfl|rfl<;>exact fun _ _ _ h=>h
   ·refine allLt_succ (allLt_succ (allLt_succ (allLt_succ (allLt_zero _) ?_) ?_) ?_) ?_
    ·refine StepOkO.run (get_lit rfl) rfl (by omega) fun a W hS hB hd hR=> ?_
     have e8:=hS.get (t:=8) rfl rfl
     refine wp_value (c:= .slice Ad acc.length cd) ?_ rfl
     go_simp
    ·refine StepOkO.run (get_lit rfl) rfl (by omega) fun a W hS hB hd hR=> ?_
     have e3:=hS.get (t:=3) rfl rfl
     refine wp_value (c:= .agg #[.string s,.int .i64 pp,.slice A T.length c]) ?_ rfl
     have c0:=bcl hR.1 0 rfl
     have c1:=bcl hR.1 1 rfl
     have c2:=bcl hR.1 2 rfl
     go_simp
    ·refine StepOkO.run (get_lit rfl) rfl (by omega) fun a W hS hB hd hR=> ?_
     have e60:=(hd 0 rfl).bool rfl rfl rfl
     refine wp_value (c:= .slice Ad acc.length cd) ?_ rfl
     go_simp
    ·refine StepOkO.write (get_lit rfl) rfl rfl rfl fun a W hS hB hd hR hP=> ?_
     have e7:=hS.get (t:=7) rfl rfl
     have e61:=(hd 1 rfl).bool rfl rfl rfl
     have z0:W.cell? ⟨(b3+1),0,none⟩=some (.string ⟨#[]⟩):=(blk_cell hP 0).trans rfl
     have zf0:=blk_frozen hP 0
     have z1:W.cell? ⟨(b3+1),1,none⟩=some (.int .i64 0):=(blk_cell hP 1).trans rfl
     have zf1:=blk_frozen hP 1
     have z2:W.cell? ⟨(b3+1),2,none⟩=some (.slice none 0 0):=(blk_cell hP 2).trans rfl
     have zf2:=blk_frozen hP 2
     refine⟨_, ?_,grown_put (grown_put (grown_put (World.grownBy.refl _ _) (.string s)) (.int .i64 pp)) (.slice A T.length c),blk_put3 hP _ _ _⟩
     go_simp
   ·intro a W hS hB hh hRD hFD
    have e6:a.tmps[6]? =some (.slice Ad acc.length cd):=(hh 2 (by omega)).bool rfl rfl rfl
    have HBR:=hQ hB
    obtain⟨zz,hlit,hzz⟩:=same_litz hS
    clear hh hS hB
    simp only[List.filterMap_cons,List.filterMap_nil,List.foldl_cons,List.foldl_nil,List.setIfInBounds_toArray,List.set_cons_zero,List.set_cons_succ]at hlit
    rw[hzz 6 _ e6]at hlit
    clear e6
    clear hzz;subst hlit
    go_wp2_with fail
    refine bodyPost_ret (results_tc rfl _ _ (b3+1) 118 #[_,_,_] (0,0) _ rfl hFD HU.out rfl (by kernel_rfl)) rfl ?_
    rw[←HDL.out,←HPP.out]
    exact⟨_,rfl,Kd.R_mono (Kd.R_lower hRD.2 (by omega)) (fun _ _=>trivial),HBR.out⟩
end Go.Proofs.YtfflenbfapgilaaGreat
