/- Texts laid as one by shake.py, cut to what the claim needs: CuP, CuW, CuM, CuNew, CuRt, One. (Names that begin with W and the print's groups (G..x, G..z): laid by the kit's print, cut.) -/
import Derived.Test.YtfflenbfapgilaaGreatZCj
import Derived.Test.YtfflenbfapgilaaGreatZCk
import Derived.Test.YtfflenbfapgilaaGreatZCi
import Derived.Deep.QuietTactic
import Derived.BigQuiet
set_option linter.unusedVariables false
set_option linter.unusedSimpArgs false
set_option maxHeartbeats 8000000
set_option maxRecDepth 100000
open Go.RowKit Go.Proofs.YtfflenbfapgilaaGreatW.PrintWords
namespace Go.Proofs.YtfflenbfapgilaaGreat
open Go.Proofs.YtfflenbfapgilaaGreat.GVB
theorem getS_cases2 (l:List Int) (hb: ∀x∈l,0≤x∧x<256) (a:Int):(∃e:Int,getS l a=(0,0,e)∧1≤e∧e≤3)∨
  ∃lo n p:Nat,a=(lo:Int)∧getS l a=((n:Int),(p:Int),0)∧lo<p∧p≤l.length∧n<18446744073709551616:=by
 rcases getS_cases l hb a with⟨ec,h1,h2⟩|⟨lo,n,p,ha,h1,h2,h3,h4,h5⟩
 ·exact .inl ⟨ec,h1,by omega,by omega⟩
 ·refine .inr ⟨lo,n,p,ha,h1, ?_,h3,h4⟩
  have:=congrArg List.length h5
  rw[List.length_drop,List.length_take]at this
  have h6:0<(ints (vb n)).length:=by
   rw[show(ints (vb n)).length=(vb n).length by simp[ints]]
   exact List.length_pos_iff.2 (vb_ne n)
  omega
def IsCu (w0 W:World) (g:Nat) (l:List Int) (a e:Int):Prop:=
 ∃A c,W.heap[g]? =some (.cells #[.slice A l.length c,.int .i64 a,.int .i64 e] 146 (0,0))∧w0.heap.size≤g∧Kd.C (Kd.int .u8) w0 A l.length l∧l.length≤c
theorem IsCu.keep {w0 W W':World} {g:Nat} {l:List Int} {a e:Int} (h:IsCu w0 W g l a e) (hb:Below W.heap.size W W'):IsCu w0 W' g l a e:=by
 obtain⟨A,c,h1,h2,h3,h4⟩:=h
 exact⟨A,c,blk_below h1 hb,h2,h3,h4⟩
theorem IsCu.grown {w0 W W':World} {g:Nat} {l:List Int} {a e:Int} {row:Option Nat} (h:IsCu w0 W g l a e) (hg:W.grownBy W' row) (hr:some g≠row):IsCu w0 W' g l a e:=by
 obtain⟨A,c,h1,h2,h3,h4⟩:=h
 exact⟨A,c,(hg.block g (Array.getElem?_eq_some_iff.1 h1).1 hr).trans h1,h2,h3,h4⟩
def CuPost (w0 w:World) (g:Nat) (l:List Int) (v:Value) (a e:Int) (en:Ending) (w':World):Prop:=
 en= .returned v∧IsCu w0 w' g l a e∧w.grownBy w' (some g)∧Below w0.heap.size w0 w'
theorem cu_cells {w0 W:World} {g:Nat} {l:List Int} {a e:Int} (h:IsCu w0 W g l a e): ∃A c,l.length≤c∧Kd.C (Kd.int .u8) w0 A l.length l∧w0.heap.size≤g∧W.heap[g]? =some (.cells #[.slice A l.length c,.int .i64 a,.int .i64 e] 146 (0,0))∧W.cell? ⟨g,0,none⟩=some (.slice A l.length c)∧W.cell? ⟨g,1,none⟩=some (.int .i64 a)∧W.cell? ⟨g,2,none⟩=some (.int .i64 e)∧W.frozen? ⟨g,1,none⟩=false∧W.frozen? ⟨g,2,none⟩=false:=by
 obtain⟨A,c,h1,h2,h3,h4⟩:=h
 exact⟨A,c,h4,h3,h2,h1,by simp[World.cell?,h1],by simp[World.cell?,h1],by simp[World.cell?,h1],by simp[World.frozen?,h1],by simp[World.frozen?,h1]⟩
theorem IsCu.fail {w0 W:World} {g:Nat} {l:List Int} {a e:Int} (h:IsCu w0 W g l a e) (ec:Int):IsCu w0 (W.setCell ⟨g,2,none⟩ (.int .i64 ec)) g l a ec:=by
 obtain⟨A,c,h1,h2,h3,h4⟩:=h
 exact⟨A,c,by simpa using blk_set h1 2 (.int .i64 ec),h2,h3,h4⟩
theorem IsCu.go {w0 W:World} {g:Nat} {l:List Int} {a e:Int} (h:IsCu w0 W g l a e) (n:Int):IsCu w0 (W.setCell ⟨g,1,none⟩ (.int .i64 n)) g l n e:=by
 obtain⟨A,c,h1,h2,h3,h4⟩:=h
 exact⟨A,c,by simpa using blk_set h1 1 (.int .i64 n),h2,h3,h4⟩
theorem grownBy_setAt (W:World) (b i:Nat) (v:Value):W.grownBy (W.setCell ⟨b,i,none⟩ v) (some b):=
 ⟨rfl,rfl,rfl,by simp[World.setCell],fun k _ hk=>Below.heap_setCell W ⟨b,i,none⟩ v k (fun e=>hk (by rw[e]))⟩
theorem one_byte_failed (w0 w:World) (g:Nat) (l:List Int) (at0 e:Int) (tv:Value) (hI:IsCu w0 w g l at0 e) (hB:Below w0.heap.size w0 w) (he:(e !=0)=true):
  Calls Tryz.prog 94 #[.pointer (some ⟨g,0,none⟩),tv] w (CuPost w0 w g l (.int .u8 0) at0 e):=by
 have HI:=hQ hI
 obtain⟨A,c,_,_,_,_,c0,c1,c2,_,_⟩:=cu_cells hI
 clear hI
 go_enter Tryz.func94,Tryz.ntmps94
 go_wp2_with fail
 go_ret
 exact⟨rfl,HI.out,World.grownBy.refl _ _,hB⟩
theorem one_byte_err (w0 w:World) (g:Nat) (l:List Int) (at0:Int) (x:Int) (nx ec:Int) (hI:IsCu w0 w g l at0 0) (hB:Below w0.heap.size w0 w) (he:(ec !=0)=true)
  (hT: ∀A c W,Kd.C (Kd.int .u8) W A l.length l→l.length≤c→Below w.heap.size w W→Calls Tryz.prog 95 #[.slice A l.length c,.int .i64 at0] W fun e' W'=>e'= .returned (.tuple #[.int .u8 x,.int .i64 nx,.int .i64 ec])∧Below W.heap.size W W'):
  Calls Tryz.prog 94 #[.pointer (some ⟨g,0,none⟩),.func (.func 95) #[] #[]] w (CuPost w0 w g l (.int .u8 0) at0 ec):=by
 have HI:=hQ hI
 have HBB:=hQ hB
 have HT:=hQ hT
 obtain⟨A,c,hc,hC,hg,hh,c0,c1,c2,f1,f2⟩:=cu_cells hI
 have HH:=hQ hh
 have HCC:=hQ hC
 clear hI hC hh hB hT
 go_enter Tryz.func94,Tryz.ntmps94
 go_wp2_with fail
 refine region_calmA (n:=17) (byList [isV (.func (.func 95) #[] #[]),isV (.pointer (some ⟨g,0,none⟩)),isV (.pointer (some ⟨g,0,none⟩)),isV (.pointer (some ⟨g,0,none⟩)),isV (.slice A l.length c),isV (.pointer (some ⟨g,0,none⟩)),isV (.pointer (some ⟨g,0,none⟩)),isV (.pointer (some ⟨g,1,none⟩)),isV (.int .i64 at0),isV (.tuple #[.int .u8 x,.int .i64 nx,.int .i64 ec]),isV (.tuple #[.int .u8 x,.int .i64 nx,.int .i64 ec]),isV (.int .u8 x),isV (.int .i64 nx),isV (.int .i64 ec),isV (.int .u8 x),isV (.int .i64 nx),isV (.int .i64 ec)]) (by kernel_rfl) rfl (byList_lasts ?_) (by kernel_rfl) (by kernel_rfl) (show AllLt 17 _ from ?_) ?_
 ·intro p hp
  simp only[List.mem_cons,List.not_mem_nil,or_false]at hp
  rcases hp with rfl|rfl|rfl|rfl|rfl|rfl|rfl|rfl|rfl|rfl|rfl|rfl|rfl|rfl|rfl|rfl|rfl<;>first|exact isV_lasts|exact isC_lasts
 ·refine allLt_succ (allLt_succ (allLt_succ (allLt_succ (allLt_succ (allLt_succ (allLt_succ (allLt_succ (allLt_succ (allLt_succ (allLt_succ (allLt_succ (allLt_succ (allLt_succ (allLt_succ (allLt_succ (allLt_succ (allLt_zero _) ?_) ?_) ?_) ?_) ?_) ?_) ?_) ?_) ?_) ?_) ?_) ?_) ?_) ?_) ?_) ?_) ?_
  ·refine StepOkA.run (get_lit rfl) rfl fun a W hS hB hd=> ?_
   have e1:=hS.get (t:=1) rfl rfl
   refine wp_value (c:= .func (.func 95) #[] #[]) ?_ rfl
   go_simp
  ·refine StepOkA.run (get_lit rfl) rfl fun a W hS hB hd=> ?_
   have e0:=hS.get (t:=0) rfl rfl
   refine wp_value (c:= .pointer (some ⟨g,0,none⟩)) ?_ rfl
   go_simp
  ·refine StepOkA.run (get_lit rfl) rfl fun a W hS hB hd=> ?_
   have e17:=(hd 1 rfl).bool rfl rfl rfl
   refine wp_value (c:= .pointer (some ⟨g,0,none⟩)) ?_ rfl
   go_simp
  ·refine StepOkA.run (get_lit rfl) rfl fun a W hS hB hd=> ?_
   have e18:=(hd 2 rfl).bool rfl rfl rfl
   refine wp_value (c:= .pointer (some ⟨g,0,none⟩)) ?_ rfl
   go_simp
  ·refine StepOkA.run (get_lit rfl) rfl fun a W hS hB hd=> ?_
   have e19:=(hd 3 rfl).bool rfl rfl rfl
   refine wp_value (c:= .slice A l.length c) ?_ rfl
   have hh:=blk_below HH.out hB
   have hcW:W.cell? ⟨g,0,none⟩=some (.slice A l.length c):=by simp[World.cell?,hh]
   go_simp
  ·refine StepOkA.run (get_lit rfl) rfl fun a W hS hB hd=> ?_
   have e0:=hS.get (t:=0) rfl rfl
   refine wp_value (c:= .pointer (some ⟨g,0,none⟩)) ?_ rfl
   go_simp
  ·refine StepOkA.run (get_lit rfl) rfl fun a W hS hB hd=> ?_
   have e21:=(hd 5 rfl).bool rfl rfl rfl
   refine wp_value (c:= .pointer (some ⟨g,0,none⟩)) ?_ rfl
   go_simp
  ·refine StepOkA.run (get_lit rfl) rfl fun a W hS hB hd=> ?_
   have e22:=(hd 6 rfl).bool rfl rfl rfl
   refine wp_value (c:= .pointer (some ⟨g,1,none⟩)) ?_ rfl
   go_simp
  ·refine StepOkA.run (get_lit rfl) rfl fun a W hS hB hd=> ?_
   have e23:=(hd 7 rfl).bool rfl rfl rfl
   refine wp_value (c:= .int .i64 at0) ?_ rfl
   have hh:=blk_below HH.out hB
   have hcW:W.cell? ⟨g,1,none⟩=some (.int .i64 at0):=by simp[World.cell?,hh]
   go_simp
  ·refine StepOkA.run (get_lit rfl) rfl fun a W hS hB hd=> ?_
   have e16:=(hd 0 rfl).bool rfl rfl rfl
   have e20:=(hd 4 rfl).bool rfl rfl rfl
   have e24:=(hd 8 rfl).bool rfl rfl rfl
   refine wp_called_fn (pre:=#[]) (post:=#[]) Tryz.func95 (by kernel_rfl) rfl #[.slice A l.length c,.int .i64 at0] rfl (by simp[Act.eval, *]) (by simp[Act.eval, *]) ?_
   refine(HT.out A c W (Kd.C_below HCC.out (HBB.out.trans (hB.mono HBB.out.size))) hc hB).mono ?_
   rintro e9 w9 ⟨rfl,hb9⟩
   exact⟨_,rfl,rfl,hb9⟩
  ·refine StepOkA.run (get_lit rfl) rfl fun a W hS hB hd=> ?_
   have e25:=(hd 9 rfl).bool rfl rfl rfl
   refine wp_value (c:= .tuple #[.int .u8 x,.int .i64 nx,.int .i64 ec]) ?_ rfl
   go_simp
  ·refine StepOkA.run (get_lit rfl) rfl fun a W hS hB hd=> ?_
   have e15:=(hd 10 rfl).bool rfl rfl rfl
   refine wp_value (c:= .int .u8 x) ?_ rfl
   go_simp
  ·refine StepOkA.run (get_lit rfl) rfl fun a W hS hB hd=> ?_
   have e15:=(hd 10 rfl).bool rfl rfl rfl
   refine wp_value (c:= .int .i64 nx) ?_ rfl
   go_simp
  ·refine StepOkA.run (get_lit rfl) rfl fun a W hS hB hd=> ?_
   have e15:=(hd 10 rfl).bool rfl rfl rfl
   refine wp_value (c:= .int .i64 ec) ?_ rfl
   go_simp
  ·refine StepOkA.run (get_lit rfl) rfl fun a W hS hB hd=> ?_
   have e26:=(hd 11 rfl).bool rfl rfl rfl
   refine wp_value (c:= .int .u8 x) ?_ rfl
   go_simp
  ·refine StepOkA.run (get_lit rfl) rfl fun a W hS hB hd=> ?_
   have e27:=(hd 12 rfl).bool rfl rfl rfl
   refine wp_value (c:= .int .i64 nx) ?_ rfl
   go_simp
  ·refine StepOkA.run (get_lit rfl) rfl fun a W hS hB hd=> ?_
   have e28:=(hd 13 rfl).bool rfl rfl rfl
   refine wp_value (c:= .int .i64 ec) ?_ rfl
   go_simp
 ·intro a W hS hB hh
  have e6:a.tmps[6]? =some (.int .u8 x):=(hh 14 (by omega)).bool rfl rfl rfl
  have e7:a.tmps[7]? =some (.int .i64 nx):=(hh 15 (by omega)).bool rfl rfl rfl
  have e8:a.tmps[8]? =some (.int .i64 ec):=(hh 16 (by omega)).bool rfl rfl rfl
  have HBR:=hQ hB
  obtain⟨zz,hlit,hzz⟩:=same_litz hS
  clear hh hS hB
  simp only[List.filterMap_cons,List.filterMap_nil,List.foldl_cons,List.foldl_nil,List.setIfInBounds_toArray,List.set_cons_zero,List.set_cons_succ]at hlit
  rw[hzz 6 _ e6]at hlit
  rw[hzz 7 _ e7]at hlit
  rw[hzz 8 _ e8]at hlit
  clear e6 e7 e8
  clear hzz;subst hlit
  have hI2:=HI.out.keep HBR.out
  have HB2:=hQ (HBB.out.trans (HBR.out.mono HBB.out.size))
  have HI2:=hQ hI2
  obtain⟨A2,c2',_,_,_,_,c0',c1',c2',f1',f2'⟩:=cu_cells hI2
  clear hI2 c0 c1 c2 f1 f2
  go_wp2
  go_ret
  exact⟨rfl,HI2.out.fail _,(World.grownBy.but (grownBy_none HBR.out) _).trans (grownBy_setAt _ _ _ _),HB2.out.setCell hg _⟩
theorem one_byte_ok (w0 w:World) (g:Nat) (l:List Int) (at0:Int) (x:Int) (nx:Int) (hI:IsCu w0 w g l at0 0) (hB:Below w0.heap.size w0 w)
  (hT: ∀A c W,Kd.C (Kd.int .u8) W A l.length l→l.length≤c→Below w.heap.size w W→Calls Tryz.prog 95 #[.slice A l.length c,.int .i64 at0] W fun e' W'=>e'= .returned (.tuple #[.int .u8 x,.int .i64 nx,.int .i64 0])∧Below W.heap.size W W'):
  Calls Tryz.prog 94 #[.pointer (some ⟨g,0,none⟩),.func (.func 95) #[] #[]] w (CuPost w0 w g l (.int .u8 x) nx 0):=by
 have HI:=hQ hI
 have HBB:=hQ hB
 have HT:=hQ hT
 obtain⟨A,c,hc,hC,hg,hh,c0,c1,c2,f1,f2⟩:=cu_cells hI
 have HH:=hQ hh
 have HCC:=hQ hC
 clear hI hC hh hB hT
 go_enter Tryz.func94,Tryz.ntmps94
 go_wp2_with fail
 refine region_calmA (n:=17) (byList [isV (.func (.func 95) #[] #[]),isV (.pointer (some ⟨g,0,none⟩)),isV (.pointer (some ⟨g,0,none⟩)),isV (.pointer (some ⟨g,0,none⟩)),isV (.slice A l.length c),isV (.pointer (some ⟨g,0,none⟩)),isV (.pointer (some ⟨g,0,none⟩)),isV (.pointer (some ⟨g,1,none⟩)),isV (.int .i64 at0),isV (.tuple #[.int .u8 x,.int .i64 nx,.int .i64 0]),isV (.tuple #[.int .u8 x,.int .i64 nx,.int .i64 0]),isV (.int .u8 x),isV (.int .i64 nx),isV (.int .i64 0),isV (.int .u8 x),isV (.int .i64 nx),isV (.int .i64 0)]) (by kernel_rfl) rfl (byList_lasts ?_) (by kernel_rfl) (by kernel_rfl) (show AllLt 17 _ from ?_) ?_
 ·intro p hp
  simp only[List.mem_cons,List.not_mem_nil,or_false]at hp
  rcases hp with rfl|rfl|rfl|rfl|rfl|rfl|rfl|rfl|rfl|rfl|rfl|rfl|rfl|rfl|rfl|rfl|rfl<;>first|exact isV_lasts|exact isC_lasts
 ·refine allLt_succ (allLt_succ (allLt_succ (allLt_succ (allLt_succ (allLt_succ (allLt_succ (allLt_succ (allLt_succ (allLt_succ (allLt_succ (allLt_succ (allLt_succ (allLt_succ (allLt_succ (allLt_succ (allLt_succ (allLt_zero _) ?_) ?_) ?_) ?_) ?_) ?_) ?_) ?_) ?_) ?_) ?_) ?_) ?_) ?_) ?_) ?_) ?_
  ·refine StepOkA.run (get_lit rfl) rfl fun a W hS hB hd=> ?_
   have e1:=hS.get (t:=1) rfl rfl
   refine wp_value (c:= .func (.func 95) #[] #[]) ?_ rfl
   go_simp
  ·refine StepOkA.run (get_lit rfl) rfl fun a W hS hB hd=> ?_
   have e0:=hS.get (t:=0) rfl rfl
   refine wp_value (c:= .pointer (some ⟨g,0,none⟩)) ?_ rfl
   go_simp
  ·refine StepOkA.run (get_lit rfl) rfl fun a W hS hB hd=> ?_
   have e17:=(hd 1 rfl).bool rfl rfl rfl
   refine wp_value (c:= .pointer (some ⟨g,0,none⟩)) ?_ rfl
   go_simp
  ·refine StepOkA.run (get_lit rfl) rfl fun a W hS hB hd=> ?_
   have e18:=(hd 2 rfl).bool rfl rfl rfl
   refine wp_value (c:= .pointer (some ⟨g,0,none⟩)) ?_ rfl
   go_simp
  ·refine StepOkA.run (get_lit rfl) rfl fun a W hS hB hd=> ?_
   have e19:=(hd 3 rfl).bool rfl rfl rfl
   refine wp_value (c:= .slice A l.length c) ?_ rfl
   have hh:=blk_below HH.out hB
   have hcW:W.cell? ⟨g,0,none⟩=some (.slice A l.length c):=by simp[World.cell?,hh]
   go_simp
  ·refine StepOkA.run (get_lit rfl) rfl fun a W hS hB hd=> ?_
   have e0:=hS.get (t:=0) rfl rfl
   refine wp_value (c:= .pointer (some ⟨g,0,none⟩)) ?_ rfl
   go_simp
  ·refine StepOkA.run (get_lit rfl) rfl fun a W hS hB hd=> ?_
   have e21:=(hd 5 rfl).bool rfl rfl rfl
   refine wp_value (c:= .pointer (some ⟨g,0,none⟩)) ?_ rfl
   go_simp
  ·refine StepOkA.run (get_lit rfl) rfl fun a W hS hB hd=> ?_
   have e22:=(hd 6 rfl).bool rfl rfl rfl
   refine wp_value (c:= .pointer (some ⟨g,1,none⟩)) ?_ rfl
   go_simp
  ·refine StepOkA.run (get_lit rfl) rfl fun a W hS hB hd=> ?_
   have e23:=(hd 7 rfl).bool rfl rfl rfl
   refine wp_value (c:= .int .i64 at0) ?_ rfl
   have hh:=blk_below HH.out hB
   have hcW:W.cell? ⟨g,1,none⟩=some (.int .i64 at0):=by simp[World.cell?,hh]
   go_simp
  ·refine StepOkA.run (get_lit rfl) rfl fun a W hS hB hd=> ?_
   have e16:=(hd 0 rfl).bool rfl rfl rfl
   have e20:=(hd 4 rfl).bool rfl rfl rfl
   have e24:=(hd 8 rfl).bool rfl rfl rfl
   refine wp_called_fn (pre:=#[]) (post:=#[]) Tryz.func95 (by kernel_rfl) rfl #[.slice A l.length c,.int .i64 at0] rfl (by simp[Act.eval, *]) (by simp[Act.eval, *]) ?_
   refine(HT.out A c W (Kd.C_below HCC.out (HBB.out.trans (hB.mono HBB.out.size))) hc hB).mono ?_
   rintro e9 w9 ⟨rfl,hb9⟩
   exact⟨_,rfl,rfl,hb9⟩
  ·refine StepOkA.run (get_lit rfl) rfl fun a W hS hB hd=> ?_
   have e25:=(hd 9 rfl).bool rfl rfl rfl
   refine wp_value (c:= .tuple #[.int .u8 x,.int .i64 nx,.int .i64 0]) ?_ rfl
   go_simp
  ·refine StepOkA.run (get_lit rfl) rfl fun a W hS hB hd=> ?_
   have e15:=(hd 10 rfl).bool rfl rfl rfl
   refine wp_value (c:= .int .u8 x) ?_ rfl
   go_simp
  ·refine StepOkA.run (get_lit rfl) rfl fun a W hS hB hd=> ?_
   have e15:=(hd 10 rfl).bool rfl rfl rfl
   refine wp_value (c:= .int .i64 nx) ?_ rfl
   go_simp
  ·refine StepOkA.run (get_lit rfl) rfl fun a W hS hB hd=> ?_
   have e15:=(hd 10 rfl).bool rfl rfl rfl
   refine wp_value (c:= .int .i64 0) ?_ rfl
   go_simp
  ·refine StepOkA.run (get_lit rfl) rfl fun a W hS hB hd=> ?_
   have e26:=(hd 11 rfl).bool rfl rfl rfl
   refine wp_value (c:= .int .u8 x) ?_ rfl
   go_simp
  ·refine StepOkA.run (get_lit rfl) rfl fun a W hS hB hd=> ?_
   have e27:=(hd 12 rfl).bool rfl rfl rfl
   refine wp_value (c:= .int .i64 nx) ?_ rfl
   go_simp
  ·refine StepOkA.run (get_lit rfl) rfl fun a W hS hB hd=> ?_
   have e28:=(hd 13 rfl).bool rfl rfl rfl
   refine wp_value (c:= .int .i64 0) ?_ rfl
   go_simp
 ·intro a W hS hB hh
  have e6:a.tmps[6]? =some (.int .u8 x):=(hh 14 (by omega)).bool rfl rfl rfl
  have e7:a.tmps[7]? =some (.int .i64 nx):=(hh 15 (by omega)).bool rfl rfl rfl
  have e8:a.tmps[8]? =some (.int .i64 0):=(hh 16 (by omega)).bool rfl rfl rfl
  have HBR:=hQ hB
  obtain⟨zz,hlit,hzz⟩:=same_litz hS
  clear hh hS hB
  simp only[List.filterMap_cons,List.filterMap_nil,List.foldl_cons,List.foldl_nil,List.setIfInBounds_toArray,List.set_cons_zero,List.set_cons_succ]at hlit
  rw[hzz 6 _ e6]at hlit
  rw[hzz 7 _ e7]at hlit
  rw[hzz 8 _ e8]at hlit
  clear e6 e7 e8
  clear hzz;subst hlit
  have hI2:=HI.out.keep HBR.out
  have HB2:=hQ (HBB.out.trans (HBR.out.mono HBB.out.size))
  have HI2:=hQ hI2
  obtain⟨A2,c2',_,_,_,_,c0',c1',c2',f1',f2'⟩:=cu_cells hI2
  clear hI2 c0 c1 c2 f1 f2
  go_wp2
  go_ret
  exact⟨rfl,HI2.out.go _,(World.grownBy.but (grownBy_none HBR.out) _).trans (grownBy_setAt _ _ _ _),HB2.out.setCell hg _⟩
theorem one_num_failed (w0 w:World) (g:Nat) (l:List Int) (at0 e:Int) (tv:Value) (hI:IsCu w0 w g l at0 e) (hB:Below w0.heap.size w0 w) (he:(e !=0)=true):
  Calls Tryz.prog 96 #[.pointer (some ⟨g,0,none⟩),tv] w (CuPost w0 w g l (.int .u64 0) at0 e):=by
 have HI:=hQ hI
 obtain⟨A,c,_,_,_,_,c0,c1,c2,_,_⟩:=cu_cells hI
 clear hI
 go_enter Tryz.func96,Tryz.ntmps96
 go_wp2_with fail
 go_ret
 exact⟨rfl,HI.out,World.grownBy.refl _ _,hB⟩
theorem one_num_err (w0 w:World) (g:Nat) (l:List Int) (at0:Int) (x:Int) (nx ec:Int) (hI:IsCu w0 w g l at0 0) (hB:Below w0.heap.size w0 w) (he:(ec !=0)=true)
  (hT: ∀A c W,Kd.C (Kd.int .u8) W A l.length l→l.length≤c→Below w.heap.size w W→Calls Tryz.prog 92 #[.slice A l.length c,.int .i64 at0] W fun e' W'=>e'= .returned (.tuple #[.int .u64 x,.int .i64 nx,.int .i64 ec])∧Below W.heap.size W W'):
  Calls Tryz.prog 96 #[.pointer (some ⟨g,0,none⟩),.func (.func 92) #[] #[]] w (CuPost w0 w g l (.int .u64 0) at0 ec):=by
 have HI:=hQ hI
 have HBB:=hQ hB
 have HT:=hQ hT
 obtain⟨A,c,hc,hC,hg,hh,c0,c1,c2,f1,f2⟩:=cu_cells hI
 have HH:=hQ hh
 have HCC:=hQ hC
 clear hI hC hh hB hT
 go_enter Tryz.func96,Tryz.ntmps96
 go_wp2_with fail
 refine region_calmA (n:=17) (byList [isV (.func (.func 92) #[] #[]),isV (.pointer (some ⟨g,0,none⟩)),isV (.pointer (some ⟨g,0,none⟩)),isV (.pointer (some ⟨g,0,none⟩)),isV (.slice A l.length c),isV (.pointer (some ⟨g,0,none⟩)),isV (.pointer (some ⟨g,0,none⟩)),isV (.pointer (some ⟨g,1,none⟩)),isV (.int .i64 at0),isV (.tuple #[.int .u64 x,.int .i64 nx,.int .i64 ec]),isV (.tuple #[.int .u64 x,.int .i64 nx,.int .i64 ec]),isV (.int .u64 x),isV (.int .i64 nx),isV (.int .i64 ec),isV (.int .u64 x),isV (.int .i64 nx),isV (.int .i64 ec)]) (by kernel_rfl) rfl (byList_lasts ?_) (by kernel_rfl) (by kernel_rfl) (show AllLt 17 _ from ?_) ?_
 ·intro p hp
  simp only[List.mem_cons,List.not_mem_nil,or_false]at hp
  rcases hp with rfl|rfl|rfl|rfl|rfl|rfl|rfl|rfl|rfl|rfl|rfl|rfl|rfl|rfl|rfl|rfl|rfl<;>first|exact isV_lasts|exact isC_lasts
 ·refine allLt_succ (allLt_succ (allLt_succ (allLt_succ (allLt_succ (allLt_succ (allLt_succ (allLt_succ (allLt_succ (allLt_succ (allLt_succ (allLt_succ (allLt_succ (allLt_succ (allLt_succ (allLt_succ (allLt_succ (allLt_zero _) ?_) ?_) ?_) ?_) ?_) ?_) ?_) ?_) ?_) ?_) ?_) ?_) ?_) ?_) ?_) ?_) ?_
  ·refine StepOkA.run (get_lit rfl) rfl fun a W hS hB hd=> ?_
   have e1:=hS.get (t:=1) rfl rfl
   refine wp_value (c:= .func (.func 92) #[] #[]) ?_ rfl
   go_simp
  ·refine StepOkA.run (get_lit rfl) rfl fun a W hS hB hd=> ?_
   have e0:=hS.get (t:=0) rfl rfl
   refine wp_value (c:= .pointer (some ⟨g,0,none⟩)) ?_ rfl
   go_simp
  ·refine StepOkA.run (get_lit rfl) rfl fun a W hS hB hd=> ?_
   have e17:=(hd 1 rfl).bool rfl rfl rfl
   refine wp_value (c:= .pointer (some ⟨g,0,none⟩)) ?_ rfl
   go_simp
  ·refine StepOkA.run (get_lit rfl) rfl fun a W hS hB hd=> ?_
   have e18:=(hd 2 rfl).bool rfl rfl rfl
   refine wp_value (c:= .pointer (some ⟨g,0,none⟩)) ?_ rfl
   go_simp
  ·refine StepOkA.run (get_lit rfl) rfl fun a W hS hB hd=> ?_
   have e19:=(hd 3 rfl).bool rfl rfl rfl
   refine wp_value (c:= .slice A l.length c) ?_ rfl
   have hh:=blk_below HH.out hB
   have hcW:W.cell? ⟨g,0,none⟩=some (.slice A l.length c):=by simp[World.cell?,hh]
   go_simp
  ·refine StepOkA.run (get_lit rfl) rfl fun a W hS hB hd=> ?_
   have e0:=hS.get (t:=0) rfl rfl
   refine wp_value (c:= .pointer (some ⟨g,0,none⟩)) ?_ rfl
   go_simp
  ·refine StepOkA.run (get_lit rfl) rfl fun a W hS hB hd=> ?_
   have e21:=(hd 5 rfl).bool rfl rfl rfl
   refine wp_value (c:= .pointer (some ⟨g,0,none⟩)) ?_ rfl
   go_simp
  ·refine StepOkA.run (get_lit rfl) rfl fun a W hS hB hd=> ?_
   have e22:=(hd 6 rfl).bool rfl rfl rfl
   refine wp_value (c:= .pointer (some ⟨g,1,none⟩)) ?_ rfl
   go_simp
  ·refine StepOkA.run (get_lit rfl) rfl fun a W hS hB hd=> ?_
   have e23:=(hd 7 rfl).bool rfl rfl rfl
   refine wp_value (c:= .int .i64 at0) ?_ rfl
   have hh:=blk_below HH.out hB
   have hcW:W.cell? ⟨g,1,none⟩=some (.int .i64 at0):=by simp[World.cell?,hh]
   go_simp
  ·refine StepOkA.run (get_lit rfl) rfl fun a W hS hB hd=> ?_
   have e16:=(hd 0 rfl).bool rfl rfl rfl
   have e20:=(hd 4 rfl).bool rfl rfl rfl
   have e24:=(hd 8 rfl).bool rfl rfl rfl
   refine wp_called_fn (pre:=#[]) (post:=#[]) Tryz.func92 (by kernel_rfl) rfl #[.slice A l.length c,.int .i64 at0] rfl (by simp[Act.eval, *]) (by simp[Act.eval, *]) ?_
   refine(HT.out A c W (Kd.C_below HCC.out (HBB.out.trans (hB.mono HBB.out.size))) hc hB).mono ?_
   rintro e9 w9 ⟨rfl,hb9⟩
   exact⟨_,rfl,rfl,hb9⟩
  ·refine StepOkA.run (get_lit rfl) rfl fun a W hS hB hd=> ?_
   have e25:=(hd 9 rfl).bool rfl rfl rfl
   refine wp_value (c:= .tuple #[.int .u64 x,.int .i64 nx,.int .i64 ec]) ?_ rfl
   go_simp
  ·refine StepOkA.run (get_lit rfl) rfl fun a W hS hB hd=> ?_
   have e15:=(hd 10 rfl).bool rfl rfl rfl
   refine wp_value (c:= .int .u64 x) ?_ rfl
   go_simp
  ·refine StepOkA.run (get_lit rfl) rfl fun a W hS hB hd=> ?_
   have e15:=(hd 10 rfl).bool rfl rfl rfl
   refine wp_value (c:= .int .i64 nx) ?_ rfl
   go_simp
  ·refine StepOkA.run (get_lit rfl) rfl fun a W hS hB hd=> ?_
   have e15:=(hd 10 rfl).bool rfl rfl rfl
   refine wp_value (c:= .int .i64 ec) ?_ rfl
   go_simp
  ·refine StepOkA.run (get_lit rfl) rfl fun a W hS hB hd=> ?_
   have e26:=(hd 11 rfl).bool rfl rfl rfl
   refine wp_value (c:= .int .u64 x) ?_ rfl
   go_simp
  ·refine StepOkA.run (get_lit rfl) rfl fun a W hS hB hd=> ?_
   have e27:=(hd 12 rfl).bool rfl rfl rfl
   refine wp_value (c:= .int .i64 nx) ?_ rfl
   go_simp
  ·refine StepOkA.run (get_lit rfl) rfl fun a W hS hB hd=> ?_
   have e28:=(hd 13 rfl).bool rfl rfl rfl
   refine wp_value (c:= .int .i64 ec) ?_ rfl
   go_simp
 ·intro a W hS hB hh
  have e6:a.tmps[6]? =some (.int .u64 x):=(hh 14 (by omega)).bool rfl rfl rfl
  have e7:a.tmps[7]? =some (.int .i64 nx):=(hh 15 (by omega)).bool rfl rfl rfl
  have e8:a.tmps[8]? =some (.int .i64 ec):=(hh 16 (by omega)).bool rfl rfl rfl
  have HBR:=hQ hB
  obtain⟨zz,hlit,hzz⟩:=same_litz hS
  clear hh hS hB
  simp only[List.filterMap_cons,List.filterMap_nil,List.foldl_cons,List.foldl_nil,List.setIfInBounds_toArray,List.set_cons_zero,List.set_cons_succ]at hlit
  rw[hzz 6 _ e6]at hlit
  rw[hzz 7 _ e7]at hlit
  rw[hzz 8 _ e8]at hlit
  clear e6 e7 e8
  clear hzz;subst hlit
  have hI2:=HI.out.keep HBR.out
  have HB2:=hQ (HBB.out.trans (HBR.out.mono HBB.out.size))
  have HI2:=hQ hI2
  obtain⟨A2,c2',_,_,_,_,c0',c1',c2',f1',f2'⟩:=cu_cells hI2
  clear hI2 c0 c1 c2 f1 f2
  go_wp2
  go_ret
  exact⟨rfl,HI2.out.fail _,(World.grownBy.but (grownBy_none HBR.out) _).trans (grownBy_setAt _ _ _ _),HB2.out.setCell hg _⟩
theorem one_num_ok (w0 w:World) (g:Nat) (l:List Int) (at0:Int) (x:Int) (nx:Int) (hI:IsCu w0 w g l at0 0) (hB:Below w0.heap.size w0 w)
  (hT: ∀A c W,Kd.C (Kd.int .u8) W A l.length l→l.length≤c→Below w.heap.size w W→Calls Tryz.prog 92 #[.slice A l.length c,.int .i64 at0] W fun e' W'=>e'= .returned (.tuple #[.int .u64 x,.int .i64 nx,.int .i64 0])∧Below W.heap.size W W'):
  Calls Tryz.prog 96 #[.pointer (some ⟨g,0,none⟩),.func (.func 92) #[] #[]] w (CuPost w0 w g l (.int .u64 x) nx 0):=by
 have HI:=hQ hI
 have HBB:=hQ hB
 have HT:=hQ hT
 obtain⟨A,c,hc,hC,hg,hh,c0,c1,c2,f1,f2⟩:=cu_cells hI
 have HH:=hQ hh
 have HCC:=hQ hC
 clear hI hC hh hB hT
 go_enter Tryz.func96,Tryz.ntmps96
 go_wp2_with fail
 refine region_calmA (n:=17) (byList [isV (.func (.func 92) #[] #[]),isV (.pointer (some ⟨g,0,none⟩)),isV (.pointer (some ⟨g,0,none⟩)),isV (.pointer (some ⟨g,0,none⟩)),isV (.slice A l.length c),isV (.pointer (some ⟨g,0,none⟩)),isV (.pointer (some ⟨g,0,none⟩)),isV (.pointer (some ⟨g,1,none⟩)),isV (.int .i64 at0),isV (.tuple #[.int .u64 x,.int .i64 nx,.int .i64 0]),isV (.tuple #[.int .u64 x,.int .i64 nx,.int .i64 0]),isV (.int .u64 x),isV (.int .i64 nx),isV (.int .i64 0),isV (.int .u64 x),isV (.int .i64 nx),isV (.int .i64 0)]) (by kernel_rfl) rfl (byList_lasts ?_) (by kernel_rfl) (by kernel_rfl) (show AllLt 17 _ from ?_) ?_
 ·intro p hp
  simp only[List.mem_cons,List.not_mem_nil,or_false]at hp
  rcases hp with rfl|rfl|rfl|rfl|rfl|rfl|rfl|rfl|rfl|rfl|rfl|rfl|rfl|rfl|rfl|rfl|rfl<;>first|exact isV_lasts|exact isC_lasts
 ·refine allLt_succ (allLt_succ (allLt_succ (allLt_succ (allLt_succ (allLt_succ (allLt_succ (allLt_succ (allLt_succ (allLt_succ (allLt_succ (allLt_succ (allLt_succ (allLt_succ (allLt_succ (allLt_succ (allLt_succ (allLt_zero _) ?_) ?_) ?_) ?_) ?_) ?_) ?_) ?_) ?_) ?_) ?_) ?_) ?_) ?_) ?_) ?_) ?_
  ·refine StepOkA.run (get_lit rfl) rfl fun a W hS hB hd=> ?_
   have e1:=hS.get (t:=1) rfl rfl
   refine wp_value (c:= .func (.func 92) #[] #[]) ?_ rfl
   go_simp
  ·refine StepOkA.run (get_lit rfl) rfl fun a W hS hB hd=> ?_
   have e0:=hS.get (t:=0) rfl rfl
   refine wp_value (c:= .pointer (some ⟨g,0,none⟩)) ?_ rfl
   go_simp
  ·refine StepOkA.run (get_lit rfl) rfl fun a W hS hB hd=> ?_
   have e17:=(hd 1 rfl).bool rfl rfl rfl
   refine wp_value (c:= .pointer (some ⟨g,0,none⟩)) ?_ rfl
   go_simp
  ·refine StepOkA.run (get_lit rfl) rfl fun a W hS hB hd=> ?_
   have e18:=(hd 2 rfl).bool rfl rfl rfl
   refine wp_value (c:= .pointer (some ⟨g,0,none⟩)) ?_ rfl
   go_simp
  ·refine StepOkA.run (get_lit rfl) rfl fun a W hS hB hd=> ?_
   have e19:=(hd 3 rfl).bool rfl rfl rfl
   refine wp_value (c:= .slice A l.length c) ?_ rfl
   have hh:=blk_below HH.out hB
   have hcW:W.cell? ⟨g,0,none⟩=some (.slice A l.length c):=by simp[World.cell?,hh]
   go_simp
  ·refine StepOkA.run (get_lit rfl) rfl fun a W hS hB hd=> ?_
   have e0:=hS.get (t:=0) rfl rfl
   refine wp_value (c:= .pointer (some ⟨g,0,none⟩)) ?_ rfl
   go_simp
  ·refine StepOkA.run (get_lit rfl) rfl fun a W hS hB hd=> ?_
   have e21:=(hd 5 rfl).bool rfl rfl rfl
   refine wp_value (c:= .pointer (some ⟨g,0,none⟩)) ?_ rfl
   go_simp
  ·refine StepOkA.run (get_lit rfl) rfl fun a W hS hB hd=> ?_
   have e22:=(hd 6 rfl).bool rfl rfl rfl
   refine wp_value (c:= .pointer (some ⟨g,1,none⟩)) ?_ rfl
   go_simp
  ·refine StepOkA.run (get_lit rfl) rfl fun a W hS hB hd=> ?_
   have e23:=(hd 7 rfl).bool rfl rfl rfl
   refine wp_value (c:= .int .i64 at0) ?_ rfl
   have hh:=blk_below HH.out hB
   have hcW:W.cell? ⟨g,1,none⟩=some (.int .i64 at0):=by simp[World.cell?,hh]
   go_simp
  ·refine StepOkA.run (get_lit rfl) rfl fun a W hS hB hd=> ?_
   have e16:=(hd 0 rfl).bool rfl rfl rfl
   have e20:=(hd 4 rfl).bool rfl rfl rfl
   have e24:=(hd 8 rfl).bool rfl rfl rfl
   refine wp_called_fn (pre:=#[]) (post:=#[]) Tryz.func92 (by kernel_rfl) rfl #[.slice A l.length c,.int .i64 at0] rfl (by simp[Act.eval, *]) (by simp[Act.eval, *]) ?_
   refine(HT.out A c W (Kd.C_below HCC.out (HBB.out.trans (hB.mono HBB.out.size))) hc hB).mono ?_
   rintro e9 w9 ⟨rfl,hb9⟩
   exact⟨_,rfl,rfl,hb9⟩
  ·refine StepOkA.run (get_lit rfl) rfl fun a W hS hB hd=> ?_
   have e25:=(hd 9 rfl).bool rfl rfl rfl
   refine wp_value (c:= .tuple #[.int .u64 x,.int .i64 nx,.int .i64 0]) ?_ rfl
   go_simp
  ·refine StepOkA.run (get_lit rfl) rfl fun a W hS hB hd=> ?_
   have e15:=(hd 10 rfl).bool rfl rfl rfl
   refine wp_value (c:= .int .u64 x) ?_ rfl
   go_simp
  ·refine StepOkA.run (get_lit rfl) rfl fun a W hS hB hd=> ?_
   have e15:=(hd 10 rfl).bool rfl rfl rfl
   refine wp_value (c:= .int .i64 nx) ?_ rfl
   go_simp
  ·refine StepOkA.run (get_lit rfl) rfl fun a W hS hB hd=> ?_
   have e15:=(hd 10 rfl).bool rfl rfl rfl
   refine wp_value (c:= .int .i64 0) ?_ rfl
   go_simp
  ·refine StepOkA.run (get_lit rfl) rfl fun a W hS hB hd=> ?_
   have e26:=(hd 11 rfl).bool rfl rfl rfl
   refine wp_value (c:= .int .u64 x) ?_ rfl
   go_simp
  ·refine StepOkA.run (get_lit rfl) rfl fun a W hS hB hd=> ?_
   have e27:=(hd 12 rfl).bool rfl rfl rfl
   refine wp_value (c:= .int .i64 nx) ?_ rfl
   go_simp
  ·refine StepOkA.run (get_lit rfl) rfl fun a W hS hB hd=> ?_
   have e28:=(hd 13 rfl).bool rfl rfl rfl
   refine wp_value (c:= .int .i64 0) ?_ rfl
   go_simp
 ·intro a W hS hB hh
  have e6:a.tmps[6]? =some (.int .u64 x):=(hh 14 (by omega)).bool rfl rfl rfl
  have e7:a.tmps[7]? =some (.int .i64 nx):=(hh 15 (by omega)).bool rfl rfl rfl
  have e8:a.tmps[8]? =some (.int .i64 0):=(hh 16 (by omega)).bool rfl rfl rfl
  have HBR:=hQ hB
  obtain⟨zz,hlit,hzz⟩:=same_litz hS
  clear hh hS hB
  simp only[List.filterMap_cons,List.filterMap_nil,List.foldl_cons,List.foldl_nil,List.setIfInBounds_toArray,List.set_cons_zero,List.set_cons_succ]at hlit
  rw[hzz 6 _ e6]at hlit
  rw[hzz 7 _ e7]at hlit
  rw[hzz 8 _ e8]at hlit
  clear e6 e7 e8
  clear hzz;subst hlit
  have hI2:=HI.out.keep HBR.out
  have HB2:=hQ (HBB.out.trans (HBR.out.mono HBB.out.size))
  have HI2:=hQ hI2
  obtain⟨A2,c2',_,_,_,_,c0',c1',c2',f1',f2'⟩:=cu_cells hI2
  clear hI2 c0 c1 c2 f1 f2
  go_wp2
  go_ret
  exact⟨rfl,HI2.out.go _,(World.grownBy.but (grownBy_none HBR.out) _).trans (grownBy_setAt _ _ _ _),HB2.out.setCell hg _⟩
theorem one_text_failed (w0 w:World) (g:Nat) (l:List Int) (at0 e:Int) (tv:Value) (hI:IsCu w0 w g l at0 e) (hB:Below w0.heap.size w0 w) (he:(e !=0)=true):
  Calls Tryz.prog 99 #[.pointer (some ⟨g,0,none⟩),tv] w (CuPost w0 w g l (.string ⟨#[]⟩) at0 e):=by
 have HI:=hQ hI
 obtain⟨A,c,_,_,_,_,c0,c1,c2,_,_⟩:=cu_cells hI
 clear hI
 go_enter Tryz.func99,Tryz.ntmps99
 go_wp2_with fail
 go_ret
 exact⟨rfl,HI.out,World.grownBy.refl _ _,hB⟩
theorem one_text_err (w0 w:World) (g:Nat) (l:List Int) (at0:Int) (pb:Addr) (x:ByteArray) (nx ec:Int) (hI:IsCu w0 w g l at0 0) (hB:Below w0.heap.size w0 w) (he:(ec !=0)=true)
  (hT: ∀A c W,Kd.C (Kd.int .u8) W A l.length l→l.length≤c→Below w.heap.size w W→Calls Tryz.prog 100 #[.slice A l.length c,.int .i64 at0,.pointer (some pb)] W fun e' W'=>e'= .returned (.tuple #[.string x,.int .i64 nx,.int .i64 ec])∧Below W.heap.size W W'):
  Calls Tryz.prog 99 #[.pointer (some ⟨g,0,none⟩),.func (.func 100) #[] #[.pointer (some pb)]] w (CuPost w0 w g l (.string ⟨#[]⟩) at0 ec):=by
 have HI:=hQ hI
 have HBB:=hQ hB
 have HT:=hQ hT
 obtain⟨A,c,hc,hC,hg,hh,c0,c1,c2,f1,f2⟩:=cu_cells hI
 have HH:=hQ hh
 have HCC:=hQ hC
 clear hI hC hh hB hT
 go_enter Tryz.func99,Tryz.ntmps99
 go_wp2_with fail
 refine region_calmA (n:=17) (byList [isV (.func (.func 100) #[] #[.pointer (some pb)]),isV (.pointer (some ⟨g,0,none⟩)),isV (.pointer (some ⟨g,0,none⟩)),isV (.pointer (some ⟨g,0,none⟩)),isV (.slice A l.length c),isV (.pointer (some ⟨g,0,none⟩)),isV (.pointer (some ⟨g,0,none⟩)),isV (.pointer (some ⟨g,1,none⟩)),isV (.int .i64 at0),isV (.tuple #[.string x,.int .i64 nx,.int .i64 ec]),isV (.tuple #[.string x,.int .i64 nx,.int .i64 ec]),isV (.string x),isV (.int .i64 nx),isV (.int .i64 ec),isV (.string x),isV (.int .i64 nx),isV (.int .i64 ec)]) (by kernel_rfl) rfl (byList_lasts ?_) (by kernel_rfl) (by kernel_rfl) (show AllLt 17 _ from ?_) ?_
 ·intro p hp
  simp only[List.mem_cons,List.not_mem_nil,or_false]at hp
  rcases hp with rfl|rfl|rfl|rfl|rfl|rfl|rfl|rfl|rfl|rfl|rfl|rfl|rfl|rfl|rfl|rfl|rfl<;>first|exact isV_lasts|exact isC_lasts
 ·refine allLt_succ (allLt_succ (allLt_succ (allLt_succ (allLt_succ (allLt_succ (allLt_succ (allLt_succ (allLt_succ (allLt_succ (allLt_succ (allLt_succ (allLt_succ (allLt_succ (allLt_succ (allLt_succ (allLt_succ (allLt_zero _) ?_) ?_) ?_) ?_) ?_) ?_) ?_) ?_) ?_) ?_) ?_) ?_) ?_) ?_) ?_) ?_) ?_
  ·refine StepOkA.run (get_lit rfl) rfl fun a W hS hB hd=> ?_
   have e1:=hS.get (t:=1) rfl rfl
   refine wp_value (c:= .func (.func 100) #[] #[.pointer (some pb)]) ?_ rfl
   go_simp
  ·refine StepOkA.run (get_lit rfl) rfl fun a W hS hB hd=> ?_
   have e0:=hS.get (t:=0) rfl rfl
   refine wp_value (c:= .pointer (some ⟨g,0,none⟩)) ?_ rfl
   go_simp
  ·refine StepOkA.run (get_lit rfl) rfl fun a W hS hB hd=> ?_
   have e17:=(hd 1 rfl).bool rfl rfl rfl
   refine wp_value (c:= .pointer (some ⟨g,0,none⟩)) ?_ rfl
   go_simp
  ·refine StepOkA.run (get_lit rfl) rfl fun a W hS hB hd=> ?_
   have e18:=(hd 2 rfl).bool rfl rfl rfl
   refine wp_value (c:= .pointer (some ⟨g,0,none⟩)) ?_ rfl
   go_simp
  ·refine StepOkA.run (get_lit rfl) rfl fun a W hS hB hd=> ?_
   have e19:=(hd 3 rfl).bool rfl rfl rfl
   refine wp_value (c:= .slice A l.length c) ?_ rfl
   have hh:=blk_below HH.out hB
   have hcW:W.cell? ⟨g,0,none⟩=some (.slice A l.length c):=by simp[World.cell?,hh]
   go_simp
  ·refine StepOkA.run (get_lit rfl) rfl fun a W hS hB hd=> ?_
   have e0:=hS.get (t:=0) rfl rfl
   refine wp_value (c:= .pointer (some ⟨g,0,none⟩)) ?_ rfl
   go_simp
  ·refine StepOkA.run (get_lit rfl) rfl fun a W hS hB hd=> ?_
   have e21:=(hd 5 rfl).bool rfl rfl rfl
   refine wp_value (c:= .pointer (some ⟨g,0,none⟩)) ?_ rfl
   go_simp
  ·refine StepOkA.run (get_lit rfl) rfl fun a W hS hB hd=> ?_
   have e22:=(hd 6 rfl).bool rfl rfl rfl
   refine wp_value (c:= .pointer (some ⟨g,1,none⟩)) ?_ rfl
   go_simp
  ·refine StepOkA.run (get_lit rfl) rfl fun a W hS hB hd=> ?_
   have e23:=(hd 7 rfl).bool rfl rfl rfl
   refine wp_value (c:= .int .i64 at0) ?_ rfl
   have hh:=blk_below HH.out hB
   have hcW:W.cell? ⟨g,1,none⟩=some (.int .i64 at0):=by simp[World.cell?,hh]
   go_simp
  ·refine StepOkA.run (get_lit rfl) rfl fun a W hS hB hd=> ?_
   have e16:=(hd 0 rfl).bool rfl rfl rfl
   have e20:=(hd 4 rfl).bool rfl rfl rfl
   have e24:=(hd 8 rfl).bool rfl rfl rfl
   refine wp_called_fn (pre:=#[]) (post:=#[.pointer (some pb)]) Tryz.func100 (by kernel_rfl) rfl #[.slice A l.length c,.int .i64 at0,.pointer (some pb)] rfl (by simp[Act.eval, *]) (by simp[Act.eval, *]) ?_
   refine(HT.out A c W (Kd.C_below HCC.out (HBB.out.trans (hB.mono HBB.out.size))) hc hB).mono ?_
   rintro e9 w9 ⟨rfl,hb9⟩
   exact⟨_,rfl,rfl,hb9⟩
  ·refine StepOkA.run (get_lit rfl) rfl fun a W hS hB hd=> ?_
   have e25:=(hd 9 rfl).bool rfl rfl rfl
   refine wp_value (c:= .tuple #[.string x,.int .i64 nx,.int .i64 ec]) ?_ rfl
   go_simp
  ·refine StepOkA.run (get_lit rfl) rfl fun a W hS hB hd=> ?_
   have e15:=(hd 10 rfl).bool rfl rfl rfl
   refine wp_value (c:= .string x) ?_ rfl
   go_simp
  ·refine StepOkA.run (get_lit rfl) rfl fun a W hS hB hd=> ?_
   have e15:=(hd 10 rfl).bool rfl rfl rfl
   refine wp_value (c:= .int .i64 nx) ?_ rfl
   go_simp
  ·refine StepOkA.run (get_lit rfl) rfl fun a W hS hB hd=> ?_
   have e15:=(hd 10 rfl).bool rfl rfl rfl
   refine wp_value (c:= .int .i64 ec) ?_ rfl
   go_simp
  ·refine StepOkA.run (get_lit rfl) rfl fun a W hS hB hd=> ?_
   have e26:=(hd 11 rfl).bool rfl rfl rfl
   refine wp_value (c:= .string x) ?_ rfl
   go_simp
  ·refine StepOkA.run (get_lit rfl) rfl fun a W hS hB hd=> ?_
   have e27:=(hd 12 rfl).bool rfl rfl rfl
   refine wp_value (c:= .int .i64 nx) ?_ rfl
   go_simp
  ·refine StepOkA.run (get_lit rfl) rfl fun a W hS hB hd=> ?_
   have e28:=(hd 13 rfl).bool rfl rfl rfl
   refine wp_value (c:= .int .i64 ec) ?_ rfl
   go_simp
 ·intro a W hS hB hh
  have e6:a.tmps[6]? =some (.string x):=(hh 14 (by omega)).bool rfl rfl rfl
  have e7:a.tmps[7]? =some (.int .i64 nx):=(hh 15 (by omega)).bool rfl rfl rfl
  have e8:a.tmps[8]? =some (.int .i64 ec):=(hh 16 (by omega)).bool rfl rfl rfl
  have HBR:=hQ hB
  obtain⟨zz,hlit,hzz⟩:=same_litz hS
  clear hh hS hB
  simp only[List.filterMap_cons,List.filterMap_nil,List.foldl_cons,List.foldl_nil,List.setIfInBounds_toArray,List.set_cons_zero,List.set_cons_succ]at hlit
  rw[hzz 6 _ e6]at hlit
  rw[hzz 7 _ e7]at hlit
  rw[hzz 8 _ e8]at hlit
  clear e6 e7 e8
  clear hzz;subst hlit
  have hI2:=HI.out.keep HBR.out
  have HB2:=hQ (HBB.out.trans (HBR.out.mono HBB.out.size))
  have HI2:=hQ hI2
  obtain⟨A2,c2',_,_,_,_,c0',c1',c2',f1',f2'⟩:=cu_cells hI2
  clear hI2 c0 c1 c2 f1 f2
  go_wp2
  go_ret
  exact⟨rfl,HI2.out.fail _,(World.grownBy.but (grownBy_none HBR.out) _).trans (grownBy_setAt _ _ _ _),HB2.out.setCell hg _⟩
theorem one_text_ok (w0 w:World) (g:Nat) (l:List Int) (at0:Int) (pb:Addr) (x:ByteArray) (nx:Int) (hI:IsCu w0 w g l at0 0) (hB:Below w0.heap.size w0 w)
  (hT: ∀A c W,Kd.C (Kd.int .u8) W A l.length l→l.length≤c→Below w.heap.size w W→Calls Tryz.prog 100 #[.slice A l.length c,.int .i64 at0,.pointer (some pb)] W fun e' W'=>e'= .returned (.tuple #[.string x,.int .i64 nx,.int .i64 0])∧Below W.heap.size W W'):
  Calls Tryz.prog 99 #[.pointer (some ⟨g,0,none⟩),.func (.func 100) #[] #[.pointer (some pb)]] w (CuPost w0 w g l (.string x) nx 0):=by
 have HI:=hQ hI
 have HBB:=hQ hB
 have HT:=hQ hT
 obtain⟨A,c,hc,hC,hg,hh,c0,c1,c2,f1,f2⟩:=cu_cells hI
 have HH:=hQ hh
 have HCC:=hQ hC
 clear hI hC hh hB hT
 go_enter Tryz.func99,Tryz.ntmps99
 go_wp2_with fail
 refine region_calmA (n:=17) (byList [isV (.func (.func 100) #[] #[.pointer (some pb)]),isV (.pointer (some ⟨g,0,none⟩)),isV (.pointer (some ⟨g,0,none⟩)),isV (.pointer (some ⟨g,0,none⟩)),isV (.slice A l.length c),isV (.pointer (some ⟨g,0,none⟩)),isV (.pointer (some ⟨g,0,none⟩)),isV (.pointer (some ⟨g,1,none⟩)),isV (.int .i64 at0),isV (.tuple #[.string x,.int .i64 nx,.int .i64 0]),isV (.tuple #[.string x,.int .i64 nx,.int .i64 0]),isV (.string x),isV (.int .i64 nx),isV (.int .i64 0),isV (.string x),isV (.int .i64 nx),isV (.int .i64 0)]) (by kernel_rfl) rfl (byList_lasts ?_) (by kernel_rfl) (by kernel_rfl) (show AllLt 17 _ from ?_) ?_
 ·intro p hp
  simp only[List.mem_cons,List.not_mem_nil,or_false]at hp
  rcases hp with rfl|rfl|rfl|rfl|rfl|rfl|rfl|rfl|rfl|rfl|rfl|rfl|rfl|rfl|rfl|rfl|rfl<;>first|exact isV_lasts|exact isC_lasts
 ·refine allLt_succ (allLt_succ (allLt_succ (allLt_succ (allLt_succ (allLt_succ (allLt_succ (allLt_succ (allLt_succ (allLt_succ (allLt_succ (allLt_succ (allLt_succ (allLt_succ (allLt_succ (allLt_succ (allLt_succ (allLt_zero _) ?_) ?_) ?_) ?_) ?_) ?_) ?_) ?_) ?_) ?_) ?_) ?_) ?_) ?_) ?_) ?_) ?_
  ·refine StepOkA.run (get_lit rfl) rfl fun a W hS hB hd=> ?_
   have e1:=hS.get (t:=1) rfl rfl
   refine wp_value (c:= .func (.func 100) #[] #[.pointer (some pb)]) ?_ rfl
   go_simp
  ·refine StepOkA.run (get_lit rfl) rfl fun a W hS hB hd=> ?_
   have e0:=hS.get (t:=0) rfl rfl
   refine wp_value (c:= .pointer (some ⟨g,0,none⟩)) ?_ rfl
   go_simp
  ·refine StepOkA.run (get_lit rfl) rfl fun a W hS hB hd=> ?_
   have e17:=(hd 1 rfl).bool rfl rfl rfl
   refine wp_value (c:= .pointer (some ⟨g,0,none⟩)) ?_ rfl
   go_simp
  ·refine StepOkA.run (get_lit rfl) rfl fun a W hS hB hd=> ?_
   have e18:=(hd 2 rfl).bool rfl rfl rfl
   refine wp_value (c:= .pointer (some ⟨g,0,none⟩)) ?_ rfl
   go_simp
  ·refine StepOkA.run (get_lit rfl) rfl fun a W hS hB hd=> ?_
   have e19:=(hd 3 rfl).bool rfl rfl rfl
   refine wp_value (c:= .slice A l.length c) ?_ rfl
   have hh:=blk_below HH.out hB
   have hcW:W.cell? ⟨g,0,none⟩=some (.slice A l.length c):=by simp[World.cell?,hh]
   go_simp
  ·refine StepOkA.run (get_lit rfl) rfl fun a W hS hB hd=> ?_
   have e0:=hS.get (t:=0) rfl rfl
   refine wp_value (c:= .pointer (some ⟨g,0,none⟩)) ?_ rfl
   go_simp
  ·refine StepOkA.run (get_lit rfl) rfl fun a W hS hB hd=> ?_
   have e21:=(hd 5 rfl).bool rfl rfl rfl
   refine wp_value (c:= .pointer (some ⟨g,0,none⟩)) ?_ rfl
   go_simp
  ·refine StepOkA.run (get_lit rfl) rfl fun a W hS hB hd=> ?_
   have e22:=(hd 6 rfl).bool rfl rfl rfl
   refine wp_value (c:= .pointer (some ⟨g,1,none⟩)) ?_ rfl
   go_simp
  ·refine StepOkA.run (get_lit rfl) rfl fun a W hS hB hd=> ?_
   have e23:=(hd 7 rfl).bool rfl rfl rfl
   refine wp_value (c:= .int .i64 at0) ?_ rfl
   have hh:=blk_below HH.out hB
   have hcW:W.cell? ⟨g,1,none⟩=some (.int .i64 at0):=by simp[World.cell?,hh]
   go_simp
  ·refine StepOkA.run (get_lit rfl) rfl fun a W hS hB hd=> ?_
   have e16:=(hd 0 rfl).bool rfl rfl rfl
   have e20:=(hd 4 rfl).bool rfl rfl rfl
   have e24:=(hd 8 rfl).bool rfl rfl rfl
   refine wp_called_fn (pre:=#[]) (post:=#[.pointer (some pb)]) Tryz.func100 (by kernel_rfl) rfl #[.slice A l.length c,.int .i64 at0,.pointer (some pb)] rfl (by simp[Act.eval, *]) (by simp[Act.eval, *]) ?_
   refine(HT.out A c W (Kd.C_below HCC.out (HBB.out.trans (hB.mono HBB.out.size))) hc hB).mono ?_
   rintro e9 w9 ⟨rfl,hb9⟩
   exact⟨_,rfl,rfl,hb9⟩
  ·refine StepOkA.run (get_lit rfl) rfl fun a W hS hB hd=> ?_
   have e25:=(hd 9 rfl).bool rfl rfl rfl
   refine wp_value (c:= .tuple #[.string x,.int .i64 nx,.int .i64 0]) ?_ rfl
   go_simp
  ·refine StepOkA.run (get_lit rfl) rfl fun a W hS hB hd=> ?_
   have e15:=(hd 10 rfl).bool rfl rfl rfl
   refine wp_value (c:= .string x) ?_ rfl
   go_simp
  ·refine StepOkA.run (get_lit rfl) rfl fun a W hS hB hd=> ?_
   have e15:=(hd 10 rfl).bool rfl rfl rfl
   refine wp_value (c:= .int .i64 nx) ?_ rfl
   go_simp
  ·refine StepOkA.run (get_lit rfl) rfl fun a W hS hB hd=> ?_
   have e15:=(hd 10 rfl).bool rfl rfl rfl
   refine wp_value (c:= .int .i64 0) ?_ rfl
   go_simp
  ·refine StepOkA.run (get_lit rfl) rfl fun a W hS hB hd=> ?_
   have e26:=(hd 11 rfl).bool rfl rfl rfl
   refine wp_value (c:= .string x) ?_ rfl
   go_simp
  ·refine StepOkA.run (get_lit rfl) rfl fun a W hS hB hd=> ?_
   have e27:=(hd 12 rfl).bool rfl rfl rfl
   refine wp_value (c:= .int .i64 nx) ?_ rfl
   go_simp
  ·refine StepOkA.run (get_lit rfl) rfl fun a W hS hB hd=> ?_
   have e28:=(hd 13 rfl).bool rfl rfl rfl
   refine wp_value (c:= .int .i64 0) ?_ rfl
   go_simp
 ·intro a W hS hB hh
  have e6:a.tmps[6]? =some (.string x):=(hh 14 (by omega)).bool rfl rfl rfl
  have e7:a.tmps[7]? =some (.int .i64 nx):=(hh 15 (by omega)).bool rfl rfl rfl
  have e8:a.tmps[8]? =some (.int .i64 0):=(hh 16 (by omega)).bool rfl rfl rfl
  have HBR:=hQ hB
  obtain⟨zz,hlit,hzz⟩:=same_litz hS
  clear hh hS hB
  simp only[List.filterMap_cons,List.filterMap_nil,List.foldl_cons,List.foldl_nil,List.setIfInBounds_toArray,List.set_cons_zero,List.set_cons_succ]at hlit
  rw[hzz 6 _ e6]at hlit
  rw[hzz 7 _ e7]at hlit
  rw[hzz 8 _ e8]at hlit
  clear e6 e7 e8
  clear hzz;subst hlit
  have hI2:=HI.out.keep HBR.out
  have HB2:=hQ (HBB.out.trans (HBR.out.mono HBB.out.size))
  have HI2:=hQ hI2
  obtain⟨A2,c2',_,_,_,_,c0',c1',c2',f1',f2'⟩:=cu_cells hI2
  clear hI2 c0 c1 c2 f1 f2
  go_wp2
  go_ret
  exact⟨rfl,HI2.out.go _,(World.grownBy.but (grownBy_none HBR.out) _).trans (grownBy_setAt _ _ _ _),HB2.out.setCell hg _⟩
def cuByte (l:List Int) (a e:Int):Int×Int×Int:=if e≠0 then(0,a,e)else if a=(l.length:Int)then(0,a,2)else(rd l a,a+1,0)
def cuNum (l:List Int) (a e:Int):Int×Int×Int:=if e≠0 then(0,a,e)else if (getS l a).2.2≠0 then(0,a,(getS l a).2.2)else((getS l a).1,(getS l a).2.1,0)
def cuText (l:List Int) (lim a e:Int):ByteArray×Int×Int:=if e≠0 then(⟨#[]⟩,a,e)else if (bgetS l a lim).2.2≠0 then(⟨#[]⟩,a,(bgetS l a lim).2.2)else((bgetS l a lim).1,(bgetS l a lim).2.1,0)
section
variable (w0 w:World) (g:Nat) (l:List Int) (at0 e:Int)
theorem byte1_end (A:Option Addr) (c:Nat) (W:World) (hl:l.length≤1000000):
  Calls Tryz.prog 95 #[.slice A l.length c,.int .i64 (l.length:Int)] W fun e' W'=>e'= .returned (.tuple #[.int .u8 0,.int .i64 0,.int .i64 2])∧Below W.heap.size W W':=by
 go_enter Tryz.func95,Tryz.ntmps95
 go_wp2_with fail
 go_ret3
 exact⟨rfl,Below.refl _ _⟩
theorem byte1_ok (A:Option Addr) (c:Nat) (W:World) (p:Nat) (hl:l.length≤1000000) (hp:p<l.length) (hC:Kd.C (Kd.int .u8) W A l.length l):
  Calls Tryz.prog 95 #[.slice A l.length c,.int .i64 (p:Int)] W fun e' W'=>e'= .returned (.tuple #[.int .u8 (rd l (p:Int)),.int .i64 ((p:Int)+1),.int .i64 0])∧Below W.heap.size W W':=by
 obtain⟨ad,he,hcell⟩:=Kd.at_int hC (p:Int) (by omega) (by omega)
 subst he
 rw[Int.toNat_natCast]at hcell
 generalize rd l (p:Int)=x at*
 have hn: ¬l.length≤p:=by omega
 clear hC
 go_enter Tryz.func95,Tryz.ntmps95
 go_wp2_with fail
 go_ret3
 exact⟨rfl,Below.refl _ _⟩
theorem byte_any (hI:IsCu w0 w g l at0 e) (hB:Below w0.heap.size w0 w) (hl:l.length≤1000000) (ha:0≤at0∧at0≤l.length):
  Calls Tryz.prog 78 #[.pointer (some ⟨g,0,none⟩)] w (CuPost w0 w g l (.int .u8 (cuByte l at0 e).1) (cuByte l at0 e).2.1 (cuByte l at0 e).2.2):=by
 have key:Calls Tryz.prog 94 #[.pointer (some ⟨g,0,none⟩),.func (.func 95) #[] #[]] w (CuPost w0 w g l (.int .u8 (cuByte l at0 e).1) (cuByte l at0 e).2.1 (cuByte l at0 e).2.2):=by
  unfold cuByte
  by_cases he:e=0
  ·subst he
   rw[if_neg (by simp)]
   by_cases h:at0=(l.length:Int)
   ·rw[if_pos h]
    subst h
    exact one_byte_err w0 w g l _ 0 0 2 hI hB rfl (fun A c W _ _ _=>byte1_end l A c W hl)
   ·rw[if_neg h]
    obtain⟨p,rfl⟩:=Int.eq_ofNat_of_zero_le ha.1
    exact one_byte_ok w0 w g l _ _ _ hI hB (fun A c W hC _ _=>byte1_ok l A c W p hl (by omega) hC)
  ·rw[if_pos he]
   exact one_byte_failed w0 w g l at0 e _ hI hB (by simpa using he)
 have HK:=hQ key
 clear key hI
 go_enter Tryz.func78,Tryz.ntmps78
 go_wp2_with fail
 refine HK.out.mono ?_
 rintro en w1 ⟨rfl,h1,h2,h3⟩
 have HP:=hQ (And.intro h1 (And.intro h2 h3))
 clear h1 h2 h3
 go_wp2_with fail
 go_ret
 exact⟨rfl,HP.out⟩
theorem num_any (hI:IsCu w0 w g l at0 e) (hB:Below w0.heap.size w0 w) (hb: ∀x∈l,0≤x∧x<256) (hl:l.length≤1000000):
  Calls Tryz.prog 79 #[.pointer (some ⟨g,0,none⟩)] w (CuPost w0 w g l (.int .u64 (cuNum l at0 e).1) (cuNum l at0 e).2.1 (cuNum l at0 e).2.2):=by
 have key:Calls Tryz.prog 96 #[.pointer (some ⟨g,0,none⟩),.func (.func 92) #[] #[]] w (CuPost w0 w g l (.int .u64 (cuNum l at0 e).1) (cuNum l at0 e).2.1 (cuNum l at0 e).2.2):=by
  have hT: ∀A c W,Kd.C (Kd.int .u8) W A l.length l→l.length≤c→Below w.heap.size w W→Calls Tryz.prog 92 #[.slice A l.length c,.int .i64 at0] W fun e' W'=>e'= .returned (.tuple #[.int .u64 (getS l at0).1,.int .i64 (getS l at0).2.1,.int .i64 (getS l at0).2.2])∧Below W.heap.size W W':=
   fun A c W hC hc _=>(varint_Get.calls 30 A c l at0 _ _ _ W hC hc (get_is l hb (by omega) at0 30 (Nat.le_refl _))).mono fun e' W' hh=>⟨hh.1,hh.2.below⟩
  unfold cuNum
  by_cases he:e=0
  ·subst he
   rw[if_neg (by simp)]
   by_cases h:(getS l at0).2.2=0
   ·rw[if_neg (by simpa using h)]
    rw[h]at hT
    exact one_num_ok w0 w g l _ _ _ hI hB hT
   ·rw[if_pos h]
    exact one_num_err w0 w g l _ _ _ _ hI hB (by simpa using h) hT
  ·rw[if_pos he]
   exact one_num_failed w0 w g l at0 e _ hI hB (by simpa using he)
 have HK:=hQ key
 clear key hI hb
 go_enter Tryz.func79,Tryz.ntmps79
 go_wp2_with fail
 refine HK.out.mono ?_
 rintro en w1 ⟨rfl,h1,h2,h3⟩
 have HP:=hQ (And.intro h1 (And.intro h2 h3))
 clear h1 h2 h3
 go_wp2_with fail
 go_ret
 exact⟨rfl,HP.out⟩
theorem text1_any (A:Option Addr) (c:Nat) (W:World) (pb:Addr) (lim:Int) (hC:Kd.C (Kd.int .u8) W A l.length l) (hc:l.length≤c) (hb: ∀x∈l,0≤x∧x<256) (hl:l.length≤1000000) (hlim: -9223372036854775808≤lim∧lim≤9223372036854775807) (hp:W.cell? pb=some (.int .i64 lim)):
  Calls Tryz.prog 100 #[.slice A l.length c,.int .i64 at0,.pointer (some pb)] W fun e' W'=>e'= .returned (.tuple #[.string (bgetS l at0 lim).1,.int .i64 (bgetS l at0 lim).2.1,.int .i64 (bgetS l at0 lim).2.2])∧Below W.heap.size W W':=by
 have HG:=hQ (bget_any A c l lim W at0 hC hc hb (by omega) hlim)
 clear hC hb hlim
 go_enter Tryz.func100,Tryz.ntmps100
 go_wp2_with fail
 refine HG.out.mono ?_
 rintro en w1 ⟨rfl,h1⟩
 go_wp2_with fail
 go_ret3
 exact⟨rfl,h1⟩
theorem text_any (lim:Int) (hI:IsCu w0 w g l at0 e) (hB:Below w0.heap.size w0 w) (hb: ∀x∈l,0≤x∧x<256) (hl:l.length≤1000000) (hlim: -9223372036854775808≤lim∧lim≤9223372036854775807):
  Calls Tryz.prog 93 #[.pointer (some ⟨g,0,none⟩),.int .i64 lim] w (CuPost w0 w g l (.string (cuText l lim at0 e).1) (cuText l lim at0 e).2.1 (cuText l lim at0 e).2.2):=by
 obtain⟨w1,hw1⟩:=eX (w.alloc (.cells #[.int .i64 lim] 3))
 have hBw:Below w.heap.size w w1:=by rw[←hw1];exact(Below.refl _ _).alloc (Nat.le_refl _) _
 have hB1:Below w0.heap.size w0 w1:=hB.trans (hBw.mono hB.size)
 have hpb:w1.cell? ⟨w.heap.size,0,none⟩=some (.int .i64 lim):=by rw[←hw1];simp
 have hI1:=hI.keep hBw
 have key:Calls Tryz.prog 99 #[.pointer (some ⟨g,0,none⟩),.func (.func 100) #[] #[.pointer (some ⟨w.heap.size,0,none⟩)]] w1 (CuPost w0 w1 g l (.string (cuText l lim at0 e).1) (cuText l lim at0 e).2.1 (cuText l lim at0 e).2.2):=by
  have hT: ∀A c W,Kd.C (Kd.int .u8) W A l.length l→l.length≤c→Below w1.heap.size w1 W→Calls Tryz.prog 100 #[.slice A l.length c,.int .i64 at0,.pointer (some ⟨w.heap.size,0,none⟩)] W fun e' W'=>e'= .returned (.tuple #[.string (bgetS l at0 lim).1,.int .i64 (bgetS l at0 lim).2.1,.int .i64 (bgetS l at0 lim).2.2])∧Below W.heap.size W W':=
   fun A c W hC hc hBW=>text1_any l at0 A c W _ lim hC hc hb hl hlim (cell_keep hBW hpb)
  unfold cuText
  by_cases he:e=0
  ·subst he
   rw[if_neg (by simp)]
   by_cases h:(bgetS l at0 lim).2.2=0
   ·rw[if_neg (by simpa using h)]
    rw[h]at hT
    exact one_text_ok w0 w1 g l _ _ _ _ hI1 hB1 hT
   ·rw[if_pos h]
    exact one_text_err w0 w1 g l _ _ _ _ _ hI1 hB1 (by simpa using h) hT
  ·rw[if_pos he]
   exact one_text_failed w0 w1 g l at0 e _ hI1 hB1 (by simpa using he)
 rw[←hw1]at key
 have HK:=hQ key
 have HBW:=hQ hBw
 have HW1:=hQ hw1
 clear key hI hb hw1 hBw hB1 hpb hI1
 go_enter Tryz.func93,Tryz.ntmps93
 go_wp2_with fail
 refine HK.out.mono ?_
 rintro en w2 ⟨rfl,h1,h2,h3⟩
 rw[HW1.out]at h2
 have HP:=hQ (And.intro h1 (And.intro ((World.grownBy.but (grownBy_none HBW.out) _).trans h2) h3))
 clear h1 h2 h3
 go_wp2_with fail
 go_ret
 exact⟨rfl,HP.out⟩
theorem fail_any (ec:Int) (hI:IsCu w0 w g l at0 e) (hB:Below w0.heap.size w0 w):
  Calls Tryz.prog 97 #[.pointer (some ⟨g,0,none⟩),.int .i64 ec] w (CuPost w0 w g l (.tuple #[]) at0 (if e=0 then ec else e)):=by
 have HI:=hQ hI
 obtain⟨A,c,hc,hC,hg,hh,c0,c1,c2,f1,f2⟩:=cu_cells hI
 clear hI hC hh
 by_cases he:e=0
 ·subst he
  rw[if_pos rfl]
  go_enter Tryz.func97,Tryz.ntmps97
  go_wp2_with fail
  (try simp only[Exit.inBlock,Exit.then])
  first|go_end0|refine bodyPost_ret (results_none rfl _ _ _) rfl ?_
  exact⟨rfl,HI.out.fail _,grownBy_setAt _ _ _ _,hB.setCell hg _⟩
 ·have he2:(e==0)=false:=by simpa using he
  rw[if_neg he]
  go_enter Tryz.func97,Tryz.ntmps97
  go_wp2_with fail
  (try simp only[Exit.inBlock,Exit.then])
  first|go_end0|refine bodyPost_ret (results_none rfl _ _ _) rfl ?_
  exact⟨rfl,HI.out,World.grownBy.refl _ _,hB⟩
theorem err_any (hI:IsCu w0 w g l at0 e):
  Calls Tryz.prog 80 #[.pointer (some ⟨g,0,none⟩)] w fun en w'=>en= .returned (.int .i64 e)∧w=w':=by
 obtain⟨A,c,hc,hC,hg,hh,c0,c1,c2,f1,f2⟩:=cu_cells hI
 clear hI hC hh
 go_enter Tryz.func80,Tryz.ntmps80
 go_wp2_with fail
 go_ret
 exact⟨rfl,rfl⟩
end
end Go.Proofs.YtfflenbfapgilaaGreat
namespace Go.Proofs.YtfflenbfapgilaaGreat
open Go.Proofs.YtfflenbfapgilaaGreat.GVB
attribute [local go_sem] Go.Proofs.YtfflenbfapgilaaGreatW.PrintMore.max2_int
def newAt (l:List Int) (at0:Int):Int:=if at0<0∨(l.length:Int)<at0 then 0 else at0
def newE (l:List Int) (at0:Int):Int:=if at0<0∨(l.length:Int)<at0 then 1 else 0
def CuOwn (base:Nat) (w0 W:World) (g:Nat) (l:List Int) (a e:Int):Prop:=
 ∃A c,W.heap[g]? =some (.cells #[.slice A l.length c,.int .i64 a,.int .i64 e] 146 (0,0))∧w0.heap.size≤g∧Kd.R (Kd.int .u8) 5 w0 base (fun _=>True) (.slice A l.length c) l
def NewPost (w:World) (l:List Int) (at0:Int) (en:Ending) (w':World):Prop:=
 ∃g w0,en= .returned (.pointer (some ⟨g,0,none⟩))∧Below w.heap.size w w0∧IsCu w0 w' g l (newAt l at0) (newE l at0)∧Below w0.heap.size w0 w'∧w0.grownBy w' none∧CuOwn w.heap.size w0 w' g l (newAt l at0) (newE l at0)
theorem cnew_any (A:Option Addr) (c:Nat) (l:List Int) (at0:Int) (w:World) (hC:Kd.C (Kd.int .u8) w A l.length l) (hc:l.length≤c) (hl:l.length≤1000000):
  Calls Tryz.prog 46 #[.slice A l.length c,.int .i64 at0] w (NewPost w l at0):=by
 have HCL:=hQ (clone_any A c l w hC hc (by omega))
 clear hC
 by_cases h0:at0<0
 ·have d0:decide (at0<0)=true:=decide_eq_true h0
  have e1:newAt l at0=0:=by unfold newAt;rw[if_pos (.inl h0)]
  have e2:newE l at0=1:=by unfold newE;rw[if_pos (.inl h0)]
  have HE:=hQ (And.intro e1 e2)
  clear e1 e2
  go_enter Tryz.func46,Tryz.ntmps46
  go_wp2_with fail
  refine HCL.out.mono ?_
  rintro en w1 ⟨v,rfl,hR,hb⟩
  obtain⟨A1,c1,rfl⟩:=Kd.R_slice hR
  have HR:=hQ (Kd.R_reads' hR)
  have HO:=hQ hR
  have HB:=hQ hb
  clear hR hb
  go_wp2_with fail
  go_ret
  have hb1:=(Below.refl w1.heap.size w1).alloc (Nat.le_refl _) (.cells #[.slice A1 l.length c1,.int .i64 0,.int .i64 1] 146)
  refine⟨w1.heap.size,w1,rfl,HB.out,⟨A1,c1, ?_,Nat.le_refl _,HR.out.2.2,HR.out.2.1⟩,hb1,grownBy_none hb1,A1,c1, ?_,Nat.le_refl _,HO.out⟩
  all_goals (rw[HE.out.1,HE.out.2];exact blk_new _ _)
 ·have d0:decide (at0<0)=false:=decide_eq_false h0
  by_cases h1:(l.length:Int)<at0
  ·have d1:decide ((l.length:Int)<at0)=true:=decide_eq_true h1
   have e1:newAt l at0=0:=by unfold newAt;rw[if_pos (.inr h1)]
   have e2:newE l at0=1:=by unfold newE;rw[if_pos (.inr h1)]
   have HE:=hQ (And.intro e1 e2)
   clear e1 e2
   go_enter Tryz.func46,Tryz.ntmps46
   go_wp2_with fail
   refine HCL.out.mono ?_
   rintro en w1 ⟨v,rfl,hR,hb⟩
   obtain⟨A1,c1,rfl⟩:=Kd.R_slice hR
   have HR:=hQ (Kd.R_reads' hR)
   have HO:=hQ hR
   have HB:=hQ hb
   clear hR hb
   go_wp2_with fail
   go_ret
   have hb1:=(Below.refl w1.heap.size w1).alloc (Nat.le_refl _) (.cells #[.slice A1 l.length c1,.int .i64 0,.int .i64 1] 146)
   refine⟨w1.heap.size,w1,rfl,HB.out,⟨A1,c1, ?_,Nat.le_refl _,HR.out.2.2,HR.out.2.1⟩,hb1,grownBy_none hb1,A1,c1, ?_,Nat.le_refl _,HO.out⟩
   all_goals (rw[HE.out.1,HE.out.2];exact blk_new _ _)
  ·have d1:decide ((l.length:Int)<at0)=false:=decide_eq_false h1
   have e1:newAt l at0=at0:=by unfold newAt;rw[if_neg (by omega)]
   have e2:newE l at0=0:=by unfold newE;rw[if_neg (by omega)]
   have HE:=hQ (And.intro e1 e2)
   clear e1 e2
   go_enter Tryz.func46,Tryz.ntmps46
   go_wp2_with fail
   refine HCL.out.mono ?_
   rintro en w1 ⟨v,rfl,hR,hb⟩
   obtain⟨A1,c1,rfl⟩:=Kd.R_slice hR
   have HR:=hQ (Kd.R_reads' hR)
   have HO:=hQ hR
   have HB:=hQ hb
   clear hR hb
   go_wp2_with fail
   go_ret
   have hb1:=(Below.refl w1.heap.size w1).alloc (Nat.le_refl _) (.cells #[.slice A1 l.length c1,.int .i64 at0,.int .i64 0] 146)
   refine⟨w1.heap.size,w1,rfl,HB.out,⟨A1,c1, ?_,Nat.le_refl _,HR.out.2.2,HR.out.2.1⟩,hb1,grownBy_none hb1,A1,c1, ?_,Nat.le_refl _,HO.out⟩
   all_goals (rw[HE.out.1,HE.out.2];exact blk_new _ _)
theorem cuNum_step (l:List Int) (hb: ∀x∈l,0≤x∧x<256) (a e:Int) (ha:0≤a∧a≤l.length):(cuNum l a e).2.1≤l.length∧a≤(cuNum l a e).2.1∧((cuNum l a e).2.2=0→a+1≤(cuNum l a e).2.1∧e=0)∧0≤(cuNum l a e).1∧(cuNum l a e).1<18446744073709551616∧((cuNum l a e).2.2≠0→(cuNum l a e).1=0∧(cuNum l a e).2.1=a)∧(e≠0→(cuNum l a e).2.2=e):=by
 unfold cuNum
 by_cases he:e=0
 ·subst he
  rw[if_neg (by simp)]
  rcases getS_cases2 l hb a with⟨ec,h1,h2,h3⟩|⟨lo,n,p,h1,h2,h3,h4,h5⟩
  ·rw[h1,if_pos (by show ec≠0;omega)]
   dsimp only
   exact⟨by omega,by omega,fun h=>by omega,by omega,by omega,fun _=>⟨rfl,rfl⟩,fun h=>absurd rfl h⟩
  ·rw[h2,if_neg (by simp)]
   dsimp only
   exact⟨by omega,by omega,fun _=>⟨by omega,rfl⟩,by omega,by omega,fun h=>absurd rfl h,fun h=>absurd rfl h⟩
 ·rw[if_pos he]
  dsimp only
  exact⟨by omega,by omega,fun h=>absurd h he,by omega,by omega,fun _=>⟨rfl,rfl⟩,fun _=>rfl⟩
theorem cuText_step (l:List Int) (hb: ∀x∈l,0≤x∧x<256) (lim a e:Int) (ha:0≤a∧a≤l.length):(cuText l lim a e).2.1≤l.length∧a≤(cuText l lim a e).2.1∧((cuText l lim a e).2.2=0→a+1≤(cuText l lim a e).2.1∧e=0)∧((cuText l lim a e).2.2≠0→(cuText l lim a e).1=⟨#[]⟩∧(cuText l lim a e).2.1=a)∧(e≠0→(cuText l lim a e).2.2=e)∧(cuText l lim a e).1.size≤l.length:=by
 unfold cuText
 by_cases he:e=0
 ·subst he
  rw[if_neg (by simp)]
  rcases bgetS_cases l hb a lim with⟨ec,h1,h2⟩|⟨lo,p,q,h1,h2,h3,h4,h5,h6⟩
  ·rw[h1,if_pos (by show ec≠0;omega)]
   dsimp only
   exact⟨by omega,by omega,fun h=>by omega,fun _=>⟨rfl,rfl⟩,fun h=>absurd rfl h,Nat.zero_le _⟩
  ·rw[h2,if_neg (by simp)]
   dsimp only
   exact⟨by omega,by omega,fun _=>⟨by omega,rfl⟩,fun h=>absurd rfl h,fun h=>absurd rfl h,by rw[strOfNums_size,List.length_drop,List.length_take];omega⟩
 ·rw[if_pos he]
  dsimp only
  exact⟨by omega,by omega,fun h=>absurd h he,fun _=>⟨rfl,rfl⟩,fun _=>rfl,Nat.zero_le _⟩
end Go.Proofs.YtfflenbfapgilaaGreat
namespace Go.Proofs.YtfflenbfapgilaaGreat
open Go.Proofs.YtfflenbfapgilaaGreat.GVB
theorem bytesOf_byte (s:ByteArray): ∀x∈bytesOf s,0≤x∧x<256:=by
 intro x hx
 simp only[bytesOf,List.mem_map]at hx
 obtain⟨y,_,rfl⟩:=hx
 have:=y.toNat_lt
 omega
theorem blob_bytes (s:ByteArray) (hs:s.size<18446744073709551616): ∀x∈blob s,0≤x∧x<256:=by
 intro x hx
 rcases List.mem_append.1 hx with hx|hx
 ·exact ints_bytes _ (vb_bytes _ hs) x hx
 ·exact bytesOf_byte s x hx
theorem nats_app (u v:List Int):nats (u++v)=nats u++nats v:=by simp[nats]
theorem bget_blob (l:List Int) (s:ByteArray) (u:List Int) (lim:Int) (hs:s.size≤1000000000) (hlim:(s.size:Int)≤lim):
  bgetS (l++(blob s++u)) (l.length:Int) lim=(s,((l.length+(blob s).length:Nat):Int),0):=by
 have hv:=vb_len10 s.size (by omega)
 have hbl:=blob_len s
 have hd:(nats (l++(blob s++u))).drop l.length=vb s.size++(nats (bytesOf s)++nats u):=by
  rw[nats_app,show l.length=(nats l).length by simp[nats],List.drop_left]
  unfold blob
  rw[nats_app,nats_app,nats_ints,List.append_assoc]
 have hg:getS (l++(blob s++u)) (l.length:Int)=((s.size:Int),((l.length+(vb s.size).length:Nat):Int),0):=by
  unfold getS
  rw[if_neg (by simp only[List.length_append];omega),Int.toNat_natCast,hd,dec_vb0 _ _ (by omega)]
  rfl
 unfold bgetS
 rw[hg,if_neg (by simp),if_neg (by split<;>omega),if_neg (by simp only[List.length_append];omega)]
 have e1:(((l.length+(vb s.size).length:Nat):Int)).toNat=(l++ints (vb s.size)).length:=by rw[Int.toNat_natCast,List.length_append];simp[ints]
 have e2:((s.size:Int)).toNat=(bytesOf s).length:=by rw[Int.toNat_natCast,bytesOf_length]
 have e3:((l++(blob s++u)).take ((l++ints (vb s.size)).length+(bytesOf s).length)).drop (l++ints (vb s.size)).length=bytesOf s:=by
  rw[show l++(blob s++u)=(l++ints (vb s.size))++(bytesOf s++u)by unfold blob;simp only[List.append_assoc],List.take_append,List.take_of_length_le (by omega),List.drop_left,Nat.add_sub_cancel_left,List.take_left]
 simp only[e1,e2,e3,bytes_str]
 congr 2
 rw[hbl]
 omega
theorem get_vb (p:List Int) (n:Nat) (u:List Int) (hn:n<18446744073709551616):getS (p++(ints (vb n)++u)) (p.length:Int)=((n:Int),((p.length+(vb n).length:Nat):Int),0):=by
 have hd:(nats (p++(ints (vb n)++u))).drop p.length=vb n++nats u:=by
  rw[nats_app,nats_app,nats_ints,show p.length=(nats p).length by simp[nats],List.drop_left]
 have hv:=vb_len10 n hn
 unfold getS
 rw[if_neg (by simp only[List.length_append];omega),Int.toNat_natCast,hd,dec_vb0 _ _ (by omega)]
 unfold outS
 rw[if_pos rfl]
theorem cuNum_vb (p:List Int) (n:Int) (u:List Int) (hn:0≤n∧n<18446744073709551616):cuNum (p++(ints (vb n.toNat)++u)) (p.length:Int) 0=(n,(((p++ints (vb n.toNat)).length:Nat):Int),0):=by
 have h:=get_vb p n.toNat u (by omega)
 unfold cuNum
 rw[h,if_neg (by simp),if_neg (by simp)]
 simp only[Prod.mk.injEq,and_true]
 exact⟨by omega,by rw[List.length_append];simp[ints]⟩
theorem vb_k (k:Nat) (h:k<128):ints (vb ((k:Int).toNat))=[(k:Int)]:=by rw[Int.toNat_natCast,vb_small k h];rfl
theorem cuText_blob (p:List Int) (s:ByteArray) (u:List Int) (lim:Int) (hs:s.size≤1000000000) (hlim:(s.size:Int)≤lim):cuText (p++(blob s++u)) lim (p.length:Int) 0=(s,(((p++blob s).length:Nat):Int),0):=by
 have h:=bget_blob p s u lim hs hlim
 unfold cuText
 rw[h,if_neg (by simp),if_neg (by simp)]
 simp only[Prod.mk.injEq,and_true,true_and]
 rw[List.length_append]
end Go.Proofs.YtfflenbfapgilaaGreat
namespace Go.Proofs.YtfflenbfapgilaaGreat
theorem grown_put {w w':World} {g i:Nat} (h:w.grownBy w' (some g)) (v:Value):w.grownBy (w'.setCell ⟨g,i,none⟩ v) (some g):=
 ⟨h.os,h.tape,h.output,by simpa [World.setCell]using h.size,fun k hk hne=>(Below.heap_setCell _ _ _ _ (by rintro rfl;exact hne rfl)).trans (h.block k hk hne)⟩
def StepOkO (P:Program) (ops:Array Oper) (Q:Exit→Act→World→Prop) (V:Nat→Value→World→Prop) (RD PD FD:World→Prop) (b jw:Nat) (a0:Act) (base:Nat) (w0:World) (i:Nat):Prop:=
 ∀oi a W,ops[i]? =some oi→Same ops a0 a→Below base w0 W→(∀j,waitsA oi j=true→Has ops V a W j)→RD W→(i=jw→PD W)→
  if Region.wanted oi (yielded ops a.tmps)=true then oi.wp P a W (fun a' W'=>∃v,a'=a.put oi.dst v∧(oi.dst≠none→V i v W')∧W.grownBy W' (if i=jw then some b else none)∧(i=jw→FD W')) Q else(oi.dst≠none→V i undef W)∧i≠jw
theorem one_any {P:Program} {n base b jw:Nat} {ops:Array Oper} {Q:Exit→Act→World→Prop} {a0:Act} {w0 w1:World} (V:Nat→Value→World→Prop) (RD PD FD:World→Prop)
  (hn:ops.size=n) (hj:jw<n) (hV: ∀j v W W',V j v W→V j v W') (hd:dstsOk ops a0.tmps.size=true) (hback:backA ops=true) (hbb:base≤b)
  (hRD: ∀W W' row,(row=none∨row=some b)→RD W→W.grownBy W' row→RD W') (hFD: ∀W W',FD W→W.grownBy W' none→FD W') (hPD: ∀W W',PD W→W.grownBy W' none→PD W')
  (hB0:Below base w0 w1) (hsz:base≤w0.heap.size) (hR0:RD w1) (hP0:PD w1)
  (hs: ∀i,i<n→StepOkO P ops Q V RD PD FD b jw a0 base w0 i)
  (he: ∀a W,Same ops a0 a→Below base w0 W→(∀j,j<n→Has ops V a W j)→RD W→FD W→Q .normal a W):
  wpAny P .any ops Q n (Array.replicate n false) a0 w1:=by
 refine flow_any (base:=base) (w0:=w0) V (fun i W=>RD W∧(i=jw→FD W)) (fun i W=>RD W∧(i=jw→PD W)) (fun i=>if i=jw then some b else none) hn hd hback (fun i j _ _ _ _ v W W' _ _ hv=>hV j v W W' hv) ?_ ?_ hB0 (fun _ _=>⟨hR0,fun _=>hP0⟩) ?_ (fun a W hS hB hh=>he a W hS hB (fun j hj=>(hh j hj).1) (hh jw hj).2.1 ((hh jw hj).2.2 rfl))
 ·intro i j _ _ hij _ W W' _ hg ⟨h1,h2⟩
  refine⟨hRD W W' _ ?_ h1 hg,fun e=> ?_⟩
  ·split
   ·exact .inr rfl
   ·exact .inl rfl
  ·rw[if_neg (by omega)]at hg
   exact hFD W W' (h2 e) hg
 ·intro i j _ _ hij _ W W' _ hg ⟨h1,h2⟩
  refine⟨hRD W W' _ ?_ h1 hg,fun e=> ?_⟩
  ·split
   ·exact .inr rfl
   ·exact .inl rfl
  ·rw[if_neg (by omega)]at hg
   exact hPD W W' (h2 e) hg
 ·intro i hi oi a W hoi hS hB hdp hG
  have h:=hs i hi oi a W hoi hS hB (fun j hj=>(hdp j (by rw[waits_is hoi];exact hj)).1) hG.1 hG.2
  split
  ·rename_i hw
   rw[if_pos hw]at h
   refine Oper.wp_mono (fun a' W' ⟨v,h1,h2,h3,h4⟩=>⟨v,h1,h2,⟨hRD W W' _ ?_ hG.1 h3,h4⟩,h3,hB.grown h3 (Nat.le_trans hsz hB.size) ?_⟩) h
   ·split
    ·exact .inr rfl
    ·exact .inl rfl
   ·intro k hk
    split at hk
    ·cases hk;exact hbb
    ·cases hk
  ·rename_i hw
   rw[if_neg hw]at h
   exact⟨h.1,hG.1,fun e=>absurd e h.2⟩
theorem region_one {P:Program} {id n base b jw:Nat} {ops:Array Oper} {Q:Exit→Act→World→Prop} {a0:Act} {w0 w:World} (V:Nat→Value→World→Prop) (RD PD FD:World→Prop)
  (hm:P.follows .mixedOrders=true) (hn:ops.size=n) (hj:jw<n) (hV: ∀j v W W',V j v W→V j v W') (hd:dstsOk ops a0.tmps.size=true) (hback:backA ops=true) (hbb:base≤b)
  (hRD: ∀W W' row,(row=none∨row=some b)→RD W→W.grownBy W' row→RD W') (hFD: ∀W W',FD W→W.grownBy W' none→FD W') (hPD: ∀W W',PD W→W.grownBy W' none→PD W')
  (hB0:Below base w0 w) (hsz:base≤w0.heap.size) (hR0:RD w) (hP0:PD w)
  (hs: ∀i,i<n→StepOkO P ops Q V RD PD FD b jw a0 base w0 i)
  (he: ∀a W,Same ops a0 a→Below base w0 W→(∀j,j<n→Has ops V a W j)→RD W→FD W→Q .normal a W):
  (Code.region id ops true).wp P Q a0 w:=by
 refine wp_region_any hm ?_
 have hbd:Below w.heap.size w { w with drawn:=w.drawn+1 }:=⟨rfl,rfl,rfl,Nat.le_refl _,fun _ _=>rfl⟩
 have:=one_any (P:=P) (Q:=Q) (w0:=w0) (w1:={ w with drawn:=w.drawn+1 }) V RD PD FD hn hj hV hd hback hbb hRD hFD hPD (hB0.trans (hbd.mono (Nat.le_trans hsz hB0.size))) hsz (hRD _ _ none (.inl rfl) hR0 (grownBy_none hbd)) (hPD _ _ hP0 (grownBy_none hbd)) hs he
 rw[hn];exact this
theorem byList_any {l:List (Value→World→Prop)} (h: ∀p∈l,∀v W W',p v W→p v W'): ∀j v W W',byList l j v W→byList l j v W':=by
 intro i v W W' hp
 unfold byList at hp ⊢
 cases hl:l[i]? with
 |none=>trivial
 |some p=>rw[hl]at hp;exact h p (List.mem_of_getElem? hl) v W W' hp
section
variable {P:Program} {ops:Array Oper} {Q:Exit→Act→World→Prop} {V:Nat→Value→World→Prop} {RD PD FD:World→Prop} {b jw:Nat} {a0:Act} {base:Nat} {w0:World} {i:Nat}
theorem StepOkO.run {o:Oper} (ho:ops[i]? =some o) (hg:o.guard=none) (hij:i≠jw)
  (h: ∀a W,Same ops a0 a→Below base w0 W→(∀j,waitsA o j=true→Has ops V a W j)→RD W→o.wp P a W (fun a' W'=>∃v,a'=a.put o.dst v∧V i v W'∧Below W.heap.size W W') Q):StepOkO P ops Q V RD PD FD b jw a0 base w0 i:=by
 intro oi a W hoi hS hB hd hR hP
 obtain rfl:o=oi:=by rw[ho]at hoi;exact Option.some.inj hoi
 rw[if_pos (wanted_none hg),if_neg hij]
 exact Oper.wp_mono (fun a' W' ⟨v,h1,h2,h3⟩=>⟨v,h1,fun _=>h2,grownBy_none h3,fun e=>absurd e hij⟩) (h a W hS hB hd hR)
theorem StepOkO.on {o og:Oper} {g:Nat} {t:Tmp} {u:Bool} (ho:ops[i]? =some o) (hg:o.guard=some (g,u)) (hij:i≠jw) (hog:ops[g]? =some og) (hdt:og.dst=some t) (hw:waitsA o g=true) (hV:V g=isV (.bool u))
  (h: ∀a W,Same ops a0 a→Below base w0 W→(∀j,waitsA o j=true→Has ops V a W j)→RD W→o.wp P a W (fun a' W'=>∃v,a'=a.put o.dst v∧V i v W'∧Below W.heap.size W W') Q):StepOkO P ops Q V RD PD FD b jw a0 base w0 i:=by
 intro oi a W hoi hS hB hd hR hP
 obtain rfl:o=oi:=by rw[ho]at hoi;exact Option.some.inj hoi
 have hv:=(hd g hw).bool hog hdt hV
 rw[if_pos (by rw[wanted_get hg hog hdt hv];simp),if_neg hij]
 exact Oper.wp_mono (fun a' W' ⟨v,h1,h2,h3⟩=>⟨v,h1,fun _=>h2,grownBy_none h3,fun e=>absurd e hij⟩) (h a W hS hB hd hR)
theorem StepOkO.write {o:Oper} (ho:ops[i]? =some o) (hg:o.guard=none) (hdn:o.dst=none) (hij:i=jw)
  (h: ∀a W,Same ops a0 a→Below base w0 W→(∀j,waitsA o j=true→Has ops V a W j)→RD W→PD W→∃W',(execOp a.eval o).run P W= .ok .skip W'∧W.grownBy W' (some b)∧FD W'):StepOkO P ops Q V RD PD FD b jw a0 base w0 i:=by
 intro oi a W hoi hS hB hd hR hP
 obtain rfl:o=oi:=by rw[ho]at hoi;exact Option.some.inj hoi
 rw[if_pos (wanted_none hg),if_pos hij]
 obtain⟨W',h1,h2,h3⟩:=h a W hS hB hd hR (hP hij)
 unfold Oper.wp
 rw[h1]
 exact⟨undef,rfl,fun hn=>absurd hdn hn,h2,fun _=>h3⟩
end
end Go.Proofs.YtfflenbfapgilaaGreat
