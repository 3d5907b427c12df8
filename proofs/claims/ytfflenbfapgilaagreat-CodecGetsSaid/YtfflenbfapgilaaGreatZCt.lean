/- Texts laid as one by shake.py, cut to what the claim needs: SamG, RecM, SchO. (Names that begin with W and the print's groups (G..x, G..z): laid by the kit's print, cut.) -/
import Derived.Test.YtfflenbfapgilaaGreatZCp
import Derived.Test.YtfflenbfapgilaaGreatZCe
import Derived.Test.YtfflenbfapgilaaGreatZCg
import Derived.Test.YtfflenbfapgilaaGreatZCs
import Derived.Lib.Strings
import Derived.Test.YtfflenbfapgilaaGreatZCr
import Derived.Test.YtfflenbfapgilaaGreatZCw
set_option linter.unusedVariables false
set_option linter.unusedSimpArgs false
set_option maxHeartbeats 8000000
set_option maxRecDepth 100000
open Go.RowKit Go.Proofs.YtfflenbfapgilaaGreatW.PrintWords
namespace Go.Proofs.YtfflenbfapgilaaGreat
open Go.Proofs.YtfflenbfapgilaaGreat.GRR
theorem heap_new2g (w:World) (o p:Obj):((w.alloc o).alloc p).heap[w.heap.size+1]? =some p:=by
 have:=heap_new (w.alloc o) p
 rwa [heap_size_alloc]at this
theorem deq_nil (A:Option Addr) (n c:Nat) (w:World) (hn:n≤1000000):Calls Tryz.prog 88 #[.slice A n c,.slice none 0 0] w fun e w'=>e= .returned (.bool (decide (n=0)))∧Below w.heap.size w w':=by
 by_cases h:n=0
 ·subst h
  go_enter Tryz.func88,Tryz.ntmps88
  go_wp2_with fail
  go_loopw [13] (fun u wr=>u= .int .i64 0∧wr=w) (fun _ _=>0)
  case atStart=>exact⟨rfl,rfl⟩
  case round=>
   obtain⟨rfl,rfl⟩:=hrel
   go_wp2_with fail
   go_ret
   exact⟨rfl,Below.refl _ _⟩
 ·have d:((n:Int) !=0)=true:=by simp[h]
  have d2:decide (n=0)=false:=decide_eq_false h
  rw[d2]
  go_enter Tryz.func88,Tryz.ntmps88
  go_wp2_with fail
  go_ret
  exact⟨rfl,Below.refl _ _⟩
attribute [local go_sem high] GRR.eqA157
theorem rsame_gone (k0:Int) (t:ByteArray) (rule:Int) (A:Option Addr) (c:Nat) (l:List S129) (out when_:Int) (tag:ByteArray) (hn:l.length≤1000000) (w:World) (hC:Kd.C k129 w A l.length l) (hc:l.length≤c):
  ∃sb:Bool,(sb=true↔k0=2∧t=t∧rule=0∧l=[]∧out=0∧when_=0∧tag=⟨#[]⟩)∧
   Calls Tryz.prog 63 #[.agg #[.int .i64 k0,.string t,.int .u64 rule,.slice A l.length c,.int .u64 out,.int .u64 when_,.string tag],.agg #[.int .i64 2,.string t,.int .u64 0,.slice none 0 0,.int .u64 0,.int .u64 0,.string ⟨#[]⟩]] w fun e w'=>e= .returned (.bool sb)∧Below w.heap.size w w':=by
 obtain⟨b9,hb9⟩:=eX ((k0==2&&(tag.toList.isEmpty&&(rule==0&&(out==0&&when_==0)))))
 refine⟨b9&&decide (l.length=0), ?_, ?_⟩
 ·rw [←hb9]
  have ht:tag.toList.isEmpty=true↔tag=⟨#[]⟩:=by
   rw[List.isEmpty_iff,Lib.toList_data]
   constructor
   ·intro h;exact ByteArray.ext (Array.ext' (by simpa using h))
   ·intro h;rw[h]
  simp only[Bool.and_eq_true,beq_iff_eq,decide_eq_true_eq,ht,true_and,List.length_eq_zero_iff]
  constructor
  ·rintro⟨⟨h1,h2,h3,h4,h5⟩,h6⟩;exact⟨h1,h3,h6,h4,h5,h2⟩
  ·rintro⟨h1,h3,h6,h4,h5,h2⟩;exact⟨⟨h1,h2,h3,h4,h5⟩,h6⟩
 ·obtain ⟨w1,hw1⟩: ∃x,(w.alloc (.cells #[.int .i64 k0,.string t,.int .u64 rule,.slice A l.length c,.int .u64 out,.int .u64 when_,.string tag] 49)).alloc (.cells #[.int .i64 2,.string t,.int .u64 0,.slice none 0 0,.int .u64 0,.int .u64 0,.string ⟨#[]⟩] 49)=x:=⟨_,rfl⟩
  have hb1:Below w.heap.size w w1:=by rw[←hw1];exact((Below.refl _ _).alloc (Nat.le_refl _) _).alloc (by rw[heap_size_alloc];omega) _
  have k2:w1.heap[w.heap.size]? =some (.cells #[.int .i64 k0,.string t,.int .u64 rule,.slice A l.length c,.int .u64 out,.int .u64 when_,.string tag] 49 (0,0)):=by rw[←hw1];exact blk_alloc (heap_new _ _) _
  have k3:w1.heap[w.heap.size+1]? =some (.cells #[.int .i64 2,.string t,.int .u64 0,.slice none 0 0,.int .u64 0,.int .u64 0,.string ⟨#[]⟩] 49 (0,0)):=by rw[←hw1];exact heap_new2g _ _ _
  obtain⟨b,hb⟩:=eX (w.heap.size)
  rw[hb]at k2 k3
  have HB1:=hQ hb1
  have HK2:=hQ k2
  have HK3:=hQ k3
  have HW1:=hQ hw1
  have HBE:=hQ hb
  have HB9:=hQ hb9
  have HCW:=hQ (fun(W:World) (h:Below w1.heap.size w1 W)=>Kd.C_below hC (hb1.trans (h.mono hb1.size)))
  clear hb1 k2 k3 hw1 hb hb9 hC
  go_enter Tryz.func63,Tryz.ntmps63
  go_wp2_with fail
  rw[HW1.out,HBE.out]
  cases b9 with
  | true=>
   refine region_calm (n:=13) (byList [isV (.agg #[.int .i64 k0,.string t,.int .u64 rule,.slice A l.length c,.int .u64 out,.int .u64 when_,.string tag]),isV (.agg #[.int .i64 k0,.string t,.string tag,.int .u64 rule,.int .u64 out,.int .u64 when_]),isV (.agg #[.int .i64 2,.string t,.int .u64 0,.slice none 0 0,.int .u64 0,.int .u64 0,.string ⟨#[]⟩]),isV (.agg #[.int .i64 2,.string t,.string ⟨#[]⟩,.int .u64 0,.int .u64 0,.int .u64 0]),isV (.bool true),isV (.bool true),isV (.pointer (some ⟨b,3,none⟩)),isV (.slice A l.length c),isV (.pointer (some ⟨b+1,3,none⟩)),isV (.slice none 0 0),isV (.bool (decide (l.length=0))),isV (.bool (decide (l.length=0))),isV (.bool (decide (l.length=0)))]) (by kernel_rfl) rfl (byList_lasts ?_) (by kernel_rfl) (by kernel_rfl) (by kernel_rfl) (show AllLt 13 _ from ?_) ?_
   ·intro p hp
    simp only[List.mem_cons,List.not_mem_nil,or_false]at hp
    rcases hp with rfl|rfl|rfl|rfl|rfl|rfl|rfl|rfl|rfl|rfl|rfl|rfl|rfl<;>first|exact isV_lasts|exact isC_lasts
   ·refine allLt_succ (allLt_succ (allLt_succ (allLt_succ (allLt_succ (allLt_succ (allLt_succ (allLt_succ (allLt_succ (allLt_succ (allLt_succ (allLt_succ (allLt_succ (allLt_zero _) ?_) ?_) ?_) ?_) ?_) ?_) ?_) ?_) ?_) ?_) ?_) ?_) ?_
    ·refine StepOk.run (get_lit rfl) rfl fun a W hS hB hd=> ?_
     have e2:=hS.get (t:=2) rfl rfl
     refine wp_value (c:= .agg #[.int .i64 k0,.string t,.int .u64 rule,.slice A l.length c,.int .u64 out,.int .u64 when_,.string tag]) ?_ rfl
     have hkW:=blk_below HK2.out hB
     obtain⟨y0,y1,y2,y3,y4,y5,y6⟩:=facts7 hkW
     go_simp
    ·refine StepOk.run (get_lit rfl) rfl fun a W hS hB hd=> ?_
     have e5:=(hd 0 rfl).bool rfl rfl rfl
     refine wp_called Tryz.func87 (by kernel_rfl) rfl #[.agg #[.int .i64 k0,.string t,.int .u64 rule,.slice A l.length c,.int .u64 out,.int .u64 when_,.string tag]] rfl (by simp[Act.eval, *]) ?_
     refine(record_of.calls k0 t rule A c l out when_ tag _ _ _ _ _ _ W (HCW.out W hB) hc rfl).mono ?_
     rintro e9 w9 ⟨rfl,hb9⟩
     exact⟨_,rfl,rfl,hb9⟩
    ·refine StepOk.run (get_lit rfl) rfl fun a W hS hB hd=> ?_
     have e3:=hS.get (t:=3) rfl rfl
     refine wp_value (c:= .agg #[.int .i64 2,.string t,.int .u64 0,.slice none 0 0,.int .u64 0,.int .u64 0,.string ⟨#[]⟩]) ?_ rfl
     have hkW:=blk_below HK3.out hB
     obtain⟨y0,y1,y2,y3,y4,y5,y6⟩:=facts7 hkW
     go_simp
    ·refine StepOk.run (get_lit rfl) rfl fun a W hS hB hd=> ?_
     have e7:=(hd 2 rfl).bool rfl rfl rfl
     refine wp_called Tryz.func87 (by kernel_rfl) rfl #[.agg #[.int .i64 2,.string t,.int .u64 0,.slice none 0 0,.int .u64 0,.int .u64 0,.string ⟨#[]⟩]] rfl (by simp[Act.eval, *]) ?_
     refine(record_of.calls 2 t 0 none 0 [] 0 0 ⟨#[]⟩ _ _ _ _ _ _ W (Kd.C_nil _ _) (Nat.le_refl _) rfl).mono ?_
     rintro e9 w9 ⟨rfl,hb9⟩
     exact⟨_,rfl,rfl,hb9⟩
    ·refine StepOk.run (get_lit rfl) rfl fun a W hS hB hd=> ?_
     have e6:=(hd 1 rfl).bool rfl rfl rfl
     have e8:=(hd 3 rfl).bool rfl rfl rfl
     refine wp_value (c:= .bool true) ?_ rfl
     have hb9:=HB9.out
     go_simp
    ·refine StepOk.run (get_lit rfl) rfl fun a W hS hB hd=> ?_
     have e9:=(hd 4 rfl).bool rfl rfl rfl
     refine wp_value (c:= .bool true) ?_ rfl
     go_simp
    ·refine StepOk.on (g:=5) (u:=true) (get_lit rfl) rfl rfl rfl rfl rfl fun a W hS hB hd=> ?_
     have e2:=hS.get (t:=2) rfl rfl
     refine wp_value (c:= .pointer (some ⟨b,3,none⟩)) ?_ rfl
     go_simp
    ·refine StepOk.on (g:=5) (u:=true) (get_lit rfl) rfl rfl rfl rfl rfl fun a W hS hB hd=> ?_
     have e11:=(hd 6 rfl).bool rfl rfl rfl
     refine wp_value (c:= .slice A l.length c) ?_ rfl
     have hkW:=blk_below HK2.out hB
     obtain⟨y0,y1,y2,y3,y4,y5,y6⟩:=facts7 hkW
     go_simp
    ·refine StepOk.on (g:=5) (u:=true) (get_lit rfl) rfl rfl rfl rfl rfl fun a W hS hB hd=> ?_
     have e3:=hS.get (t:=3) rfl rfl
     refine wp_value (c:= .pointer (some ⟨b+1,3,none⟩)) ?_ rfl
     go_simp
    ·refine StepOk.on (g:=5) (u:=true) (get_lit rfl) rfl rfl rfl rfl rfl fun a W hS hB hd=> ?_
     have e13:=(hd 8 rfl).bool rfl rfl rfl
     refine wp_value (c:= .slice none 0 0) ?_ rfl
     have hkW:=blk_below HK3.out hB
     obtain⟨y0,y1,y2,y3,y4,y5,y6⟩:=facts7 hkW
     go_simp
    ·refine StepOk.on (g:=5) (u:=true) (get_lit rfl) rfl rfl rfl rfl rfl fun a W hS hB hd=> ?_
     have e12:=(hd 7 rfl).bool rfl rfl rfl
     have e14:=(hd 9 rfl).bool rfl rfl rfl
     refine wp_called Tryz.func88 (by kernel_rfl) rfl #[.slice A l.length c,.slice none 0 0] rfl (by simp[Act.eval, *]) ?_
     refine(deq_nil A l.length c W hn).mono ?_
     rintro e9 w9 ⟨rfl,hb9⟩
     exact⟨_,rfl,rfl,hb9⟩
    ·refine StepOk.run (get_lit rfl) rfl fun a W hS hB hd=> ?_
     have e10:=(hd 5 rfl).bool rfl rfl rfl
     have e15:=(hd 10 rfl).bool rfl rfl rfl
     refine wp_value (c:= .bool (decide (l.length=0))) ?_ rfl
     go_simp
    ·refine StepOk.run (get_lit rfl) rfl fun a W hS hB hd=> ?_
     have e16:=(hd 11 rfl).bool rfl rfl rfl
     refine wp_value (c:= .bool (decide (l.length=0))) ?_ rfl
     go_simp
   ·intro a W hS hB hh
    have e4:a.tmps[4]? =some (.bool (decide (l.length=0))):=(hh 12 (by omega)).bool rfl rfl rfl
    have HBR:=hQ hB
    obtain⟨zz,hlit,hzz⟩:=same_litz hS
    clear hh hS hB
    simp only[List.filterMap_cons,List.filterMap_nil,List.foldl_cons,List.foldl_nil,List.setIfInBounds_toArray,List.set_cons_zero,List.set_cons_succ]at hlit
    rw[hzz 4 _ e4]at hlit
    clear e4
    clear hzz;subst hlit
    go_wp2_with fail
    go_ret
    exact⟨by simp,HB1.out.trans (HBR.out.mono HB1.out.size)⟩
  | false=>
   refine region_calm (n:=13) (byList [isV (.agg #[.int .i64 k0,.string t,.int .u64 rule,.slice A l.length c,.int .u64 out,.int .u64 when_,.string tag]),isV (.agg #[.int .i64 k0,.string t,.string tag,.int .u64 rule,.int .u64 out,.int .u64 when_]),isV (.agg #[.int .i64 2,.string t,.int .u64 0,.slice none 0 0,.int .u64 0,.int .u64 0,.string ⟨#[]⟩]),isV (.agg #[.int .i64 2,.string t,.string ⟨#[]⟩,.int .u64 0,.int .u64 0,.int .u64 0]),isV (.bool false),isV (.bool false),isV (undef),isV (undef),isV (undef),isV (undef),isV (undef),isV (.bool false),isV (.bool false)]) (by kernel_rfl) rfl (byList_lasts ?_) (by kernel_rfl) (by kernel_rfl) (by kernel_rfl) (show AllLt 13 _ from ?_) ?_
   ·intro p hp
    simp only[List.mem_cons,List.not_mem_nil,or_false]at hp
    rcases hp with rfl|rfl|rfl|rfl|rfl|rfl|rfl|rfl|rfl|rfl|rfl|rfl|rfl<;>first|exact isV_lasts|exact isC_lasts
   ·refine allLt_succ (allLt_succ (allLt_succ (allLt_succ (allLt_succ (allLt_succ (allLt_succ (allLt_succ (allLt_succ (allLt_succ (allLt_succ (allLt_succ (allLt_succ (allLt_zero _) ?_) ?_) ?_) ?_) ?_) ?_) ?_) ?_) ?_) ?_) ?_) ?_) ?_
    ·refine StepOk.run (get_lit rfl) rfl fun a W hS hB hd=> ?_
     have e2:=hS.get (t:=2) rfl rfl
     refine wp_value (c:= .agg #[.int .i64 k0,.string t,.int .u64 rule,.slice A l.length c,.int .u64 out,.int .u64 when_,.string tag]) ?_ rfl
     have hkW:=blk_below HK2.out hB
     obtain⟨y0,y1,y2,y3,y4,y5,y6⟩:=facts7 hkW
     go_simp
    ·refine StepOk.run (get_lit rfl) rfl fun a W hS hB hd=> ?_
     have e5:=(hd 0 rfl).bool rfl rfl rfl
     refine wp_called Tryz.func87 (by kernel_rfl) rfl #[.agg #[.int .i64 k0,.string t,.int .u64 rule,.slice A l.length c,.int .u64 out,.int .u64 when_,.string tag]] rfl (by simp[Act.eval, *]) ?_
     refine(record_of.calls k0 t rule A c l out when_ tag _ _ _ _ _ _ W (HCW.out W hB) hc rfl).mono ?_
     rintro e9 w9 ⟨rfl,hb9⟩
     exact⟨_,rfl,rfl,hb9⟩
    ·refine StepOk.run (get_lit rfl) rfl fun a W hS hB hd=> ?_
     have e3:=hS.get (t:=3) rfl rfl
     refine wp_value (c:= .agg #[.int .i64 2,.string t,.int .u64 0,.slice none 0 0,.int .u64 0,.int .u64 0,.string ⟨#[]⟩]) ?_ rfl
     have hkW:=blk_below HK3.out hB
     obtain⟨y0,y1,y2,y3,y4,y5,y6⟩:=facts7 hkW
     go_simp
    ·refine StepOk.run (get_lit rfl) rfl fun a W hS hB hd=> ?_
     have e7:=(hd 2 rfl).bool rfl rfl rfl
     refine wp_called Tryz.func87 (by kernel_rfl) rfl #[.agg #[.int .i64 2,.string t,.int .u64 0,.slice none 0 0,.int .u64 0,.int .u64 0,.string ⟨#[]⟩]] rfl (by simp[Act.eval, *]) ?_
     refine(record_of.calls 2 t 0 none 0 [] 0 0 ⟨#[]⟩ _ _ _ _ _ _ W (Kd.C_nil _ _) (Nat.le_refl _) rfl).mono ?_
     rintro e9 w9 ⟨rfl,hb9⟩
     exact⟨_,rfl,rfl,hb9⟩
    ·refine StepOk.run (get_lit rfl) rfl fun a W hS hB hd=> ?_
     have e6:=(hd 1 rfl).bool rfl rfl rfl
     have e8:=(hd 3 rfl).bool rfl rfl rfl
     refine wp_value (c:= .bool false) ?_ rfl
     have hb9:=HB9.out
     go_simp
    ·refine StepOk.run (get_lit rfl) rfl fun a W hS hB hd=> ?_
     have e9:=(hd 4 rfl).bool rfl rfl rfl
     refine wp_value (c:= .bool false) ?_ rfl
     go_simp
    ·exact StepOk.off (g:=5) (u:=true) (get_lit rfl) rfl rfl rfl rfl rfl rfl
    ·exact StepOk.off (g:=5) (u:=true) (get_lit rfl) rfl rfl rfl rfl rfl rfl
    ·exact StepOk.off (g:=5) (u:=true) (get_lit rfl) rfl rfl rfl rfl rfl rfl
    ·exact StepOk.off (g:=5) (u:=true) (get_lit rfl) rfl rfl rfl rfl rfl rfl
    ·exact StepOk.off (g:=5) (u:=true) (get_lit rfl) rfl rfl rfl rfl rfl rfl
    ·refine StepOk.run (get_lit rfl) rfl fun a W hS hB hd=> ?_
     have e10:=(hd 5 rfl).bool rfl rfl rfl
     have e15:=(hd 10 rfl).bool rfl rfl rfl
     refine wp_value (c:= .bool false) ?_ rfl
     go_simp
    ·refine StepOk.run (get_lit rfl) rfl fun a W hS hB hd=> ?_
     have e16:=(hd 11 rfl).bool rfl rfl rfl
     refine wp_value (c:= .bool false) ?_ rfl
     go_simp
   ·intro a W hS hB hh
    have e4:a.tmps[4]? =some (.bool false):=(hh 12 (by omega)).bool rfl rfl rfl
    have HBR:=hQ hB
    obtain⟨zz,hlit,hzz⟩:=same_litz hS
    clear hh hS hB
    simp only[List.filterMap_cons,List.filterMap_nil,List.foldl_cons,List.foldl_nil,List.setIfInBounds_toArray,List.set_cons_zero,List.set_cons_succ]at hlit
    rw[hzz 4 _ e4]at hlit
    clear e4
    clear hzz;subst hlit
    go_wp2_with fail
    go_ret
    exact⟨by simp,HB1.out.trans (HBR.out.mono HB1.out.size)⟩
end Go.Proofs.YtfflenbfapgilaaGreat
namespace Go.Proofs.YtfflenbfapgilaaGreat
open Go.Proofs.YtfflenbfapgilaaGreat.GRR
section
variable (v k0:Int) (t:ByteArray) (rule:Int) (A:Option Addr) (c:Nat) (l:List S129) (out when:Int) (tag:ByteArray) (w:World)
theorem may_any (hr:Kd.C k129 w A l.length l) (hc:l.length≤c) (hok:RecOk t l tag):
    Calls Tryz.prog 35 #[.int .i64 v,.agg #[.int .i64 k0,.string t,.int .u64 rule,.slice A l.length c,.int .u64 out,.int .u64 when,.string tag]] w fun e w'=>e= .returned (.bool (mayB v k0 t rule l out when tag))∧Below w.heap.size w w':=by
  have hb0:=(Below.refl w.heap.size w).alloc (Nat.le_refl _) (.cells #[.int .i64 k0,.string t,.int .u64 rule,.slice A l.length c,.int .u64 out,.int .u64 when,.string tag] 49)
  have HB0:=hQ hb0
  have hC1:=Kd.C_below hr hb0
  have hszt:t.size≤9223372036854775807:=by have:=hok.t;simp only[maxLen]at this;omega
  have HNM:=hQ (fun W=>name_any t W hszt)
  have HDP:=hQ (deps_any v k0 t rule A c l out when tag _ hC1 hc hok.n hok.d hok.t)
  obtain⟨sb,hs2,hsm⟩:=rsame_gone k0 t rule A c l out when tag (by have:=hok.n;omega) _ hC1 hc
  have HSM:=hQ hsm
  have hs:True:=trivial
  clear hsm
  have htag:tag=⟨#[]⟩↔tag.size=0:=by
    constructor
    · intro h;rw[h];rfl
    · intro h;exact tl_eq.1 ((tl_nil.2 h).trans (tl_nil.2 rfl).symm)
  rw[htag,show l=[]↔l.length=0 by simp]at hs2
  have HS2:=hQ hs2
  have hres:mayB v k0 t rule l out when tag=mayB v k0 t rule l out when tag:=rfl
  obtain⟨M,hM⟩:=eX (mayB v k0 t rule l out when tag)
  rw[hM]
  unfold mayB at hM
  obtain⟨nb,hnb⟩:=eX (nameB t)
  obtain⟨D,hD⟩:=eX (depsB v t l)
  rw[hnb]at HNM hM
  rw[hD]at HDP hM
  have HM:=hQ hM
  have htsz:tag.size≤9223372036854775807:=by have:=hok.tag;simp only[maxLen]at this;omega
  clear hr hok hb0 hC1 hs hs2 htag hres hM hnb hD
  by_cases h1:v<1
  · have b1:decide (v<1)=true:=decide_eq_true h1
    go_enter Tryz.func35,Tryz.ntmps35
    go_wp2_with fail
    go_ret
    refine⟨?_,HB0.out⟩
    rw[←HM.out,show decide (1≤v∧v≤3)=false from decide_eq_false (by omega)];rfl
  · by_cases h3 :3<v
    · have b1:decide (v<1)=false:=decide_eq_false h1
      have b3:decide (3<v)=true:=decide_eq_true h3
      go_enter Tryz.func35,Tryz.ntmps35
      go_wp2_with fail
      go_ret
      refine⟨?_,HB0.out⟩
      rw[←HM.out,show decide (1≤v∧v≤3)=false from decide_eq_false (by omega)];rfl
    · have b1 : decide (v<1)=false:=decide_eq_false h1
      have b3:decide (3<v)=false:=decide_eq_false h3
      have hm:=HM.out
      rw[show decide (1≤v∧v≤3)=true from decide_eq_true (by omega)]at hm
      cases nb with
      | false=>
        go_enter Tryz.func35,Tryz.ntmps35
        go_wp2_with fail
        refine(HNM.out _).mono ?_
        rintro e w1 ⟨rfl,rfl⟩
        go_wp2_with fail
        go_ret
        exact⟨by rw[←HM.out];simp,HB0.out⟩
      | true =>
        by_cases k1:k0=1
        · subst k1
          obtain⟨v2,hv2⟩:=eX (decide (v<2))
          obtain⟨v3,hv3⟩:=eX (decide (v<3))
          obtain⟨bw,hbw⟩:=eX ((when !=0))
          obtain⟨bt,hbt⟩:=eX (tag.toList.isEmpty)
          obtain⟨bl,hbl⟩:=eX (decide ((tag.size:Int)≤64))
          have hm1:(!(v2&&bw||v3&& !bt)&&bl&&D)=M:=by
            rw[←hm,if_pos rfl,←hv2,←hv3,←hbw,←hbt,←hbl]
            have e1:(when !=0)=decide (when≠0):=by by_cases h:when=0<;>simp[h]
            have e2:(!tag.toList.isEmpty)=decide (tag.size≠0):=by
              by_cases h:tag.size=0
              · rw[(tl_nil.2 h)];simp[h]
              · have:tag.toList≠[]:=fun hh=>h (tl_nil.1 hh)
                simp[h,this]
            have e3:decide ((tag.size:Int)≤64)=decide (tag.size≤64):=by congr 1;apply propext;omega
            rw[e1,e2,e3];simp
          have HM1:=hQ hm1
          clear hm hm1 HM
          go_enter Tryz.func35,Tryz.ntmps35
          go_wp2_with fail
          refine(HNM.out _).mono ?_
          rintro e w1 ⟨rfl,rfl⟩
          cases v2<;>cases v3<;>cases bw<;>cases bt<;>cases bl
          all_goals go_wp2_with fail
          all_goals first
            | (refine HDP.out.mono ?_
               rintro e w1 ⟨rfl,hd⟩
               go_wp2_with fail
               go_ret
               exact⟨by rw[←HM1.out];rfl,HB0.out.trans (hd.mono HB0.out.size)⟩)
            | (go_ret
               exact⟨by rw[←HM1.out];rfl,HB0.out⟩)
        · by_cases k2:k0=2
          · subst k2
            go_enter Tryz.func35,Tryz.ntmps35
            go_wp2_with fail
            refine(HNM.out _).mono ?_
            rintro e w1 ⟨rfl,rfl⟩
            go_wp2_with fail
            refine HSM.out.mono ?_
            rintro e w1 ⟨rfl,hd⟩
            go_wp2_with fail
            go_ret
            refine⟨?_,HB0.out.trans (hd.mono HB0.out.size)⟩
            rw[←HM.out,if_neg (by decide: ¬(2:Int)=1)]
            have h2:=HS2.out
            simp only[true_and]at h2
            congr 1
            refine Eq.trans (show _=Value.bool sb from rfl) (congrArg Value.bool (Bool.eq_iff_iff.2 ?_))
            rw[h2,show decide (1≤v∧v≤3)=true from decide_eq_true (by omega)]
            simp only[Bool.true_and,Bool.and_eq_true,decide_eq_true_eq,if_true,eq_self_iff_true]
            simp[and_assoc]
          · have b4:((k0:Int)==1)=false:=by simp[k1]
            have b5:((k0:Int)==2)=false:=by simp[k2]
            clear hm
            go_enter Tryz.func35,Tryz.ntmps35
            go_wp2_with fail
            refine(HNM.out _).mono ?_
            rintro e w1 ⟨rfl,rfl⟩
            go_wp2_with fail
            go_ret
            exact⟨by rw[←HM.out,if_neg k1];simp[k2],HB0.out⟩
end
end Go.Proofs.YtfflenbfapgilaaGreat
namespace Go.Proofs.YtfflenbfapgilaaGreat
open Go.Proofs.YtfflenbfapgilaaGreat.GRR
end Go.Proofs.YtfflenbfapgilaaGreat
