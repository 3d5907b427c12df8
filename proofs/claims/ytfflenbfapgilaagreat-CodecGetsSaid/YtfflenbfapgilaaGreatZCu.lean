/- Texts laid as one by shake.py, cut to what the claim needs: SchB, SchC, SchD, SchE, SchR, SchK, SchL, SchS, SchT, SchX, WkA. (Names that begin with W and the print's groups (G..x, G..z): laid by the kit's print, cut.) -/
import Derived.Test.YtfflenbfapgilaaGreatZCo
import Derived.Test.YtfflenbfapgilaaGreatZCt
import Derived.Test.YtfflenbfapgilaaGreatZCl
import Derived.Test.YtfflenbfapgilaaGreatZCk
import Derived.Test.YtfflenbfapgilaaGreatZCe
import Derived.Test.YtfflenbfapgilaaGreatZCj
set_option linter.unusedVariables false
set_option linter.unusedSimpArgs false
set_option maxHeartbeats 8000000
set_option maxRecDepth 100000
open Go.RowKit Go.Proofs.YtfflenbfapgilaaGreatW.PrintWords
namespace Go.Proofs.YtfflenbfapgilaaGreat
open Go.Proofs.YtfflenbfapgilaaGreat.GRR
def textE (v:Int) (T:List ByteArray) (s:ByteArray):List Int:=if v=1 then blob s else numE T s
def depE (v:Int) (T:List ByteArray) (d:S129):List Int:=if v<3 then textE v T d.f0 else ints (vb (2*atI T d.f0+(if d.f2=true then 1 else 0)).toNat)
def tagE (T:List ByteArray) (s:ByteArray):List Int:=if s.size=0 then ints (vb 0)else ints (vb (atI T s+1).toNat)
section
variable {B:Nat} {W:World} {S:Nat→Prop} {g t:Nat} {T:List ByteArray} {bs:List Int}
theorem wdep3_any (h:Wr B W S g t T bs) (v:Int) (s:ByteArray) (m:Int) (o:Bool) (fv:Value) (hl:bs.length≤1000000) (hs:s.size≤maxLen) (hv:3≤v):
  Calls Tryz.prog 69 #[.pointer (some ⟨g,0,none⟩),.int .i64 v,.agg #[.string s,.int .u64 m,.bool o],fv] W (WrPost B W S g t T (bs++ints (vb (2*atI T s+(if o=true then 1 else 0)).toNat))):=by
 obtain⟨w1,hw1⟩:=eX (W.alloc (.cells #[.string s,.int .u64 m,.bool o] 129))
 have hb1:Below W.heap.size W w1:=by rw[←hw1];exact(Below.refl _ _).alloc (Nat.le_refl _) _
 have hk6:w1.heap[W.heap.size]? =some (.cells #[.string s,.int .u64 m,.bool o] 129 (0,0)):=by rw[←hw1];exact heap_new _ _
 obtain⟨b6,hb6⟩:=eX (W.heap.size)
 rw[hb6]at hk6
 have h1:=h.keep hb1
 obtain⟨v0,hk,hR⟩:=h1.w
 have a1:=bcl hk 1 rfl
 have HA1:=hQ a1
 have HC0:=hQ ((blk_cell hk6 0).trans rfl:w1.cell? ⟨b6,0,none⟩=some (.string s))
 have HC2:=hQ hk6
 have hbd:=atI_bd T s h.tab.len
 have HFI:=hQ (fun(W':World) (hb:Below w1.heap.size w1 W')=>find_any (h1.keep hb).tab s hs)
 have HN:=hQ (fun(W':World) (hb:Below w1.heap.size w1 W')=>number_any (h1.keep hb) (2*atI T s+(if o=true then 1 else 0)) hl (by split<;>omega))
 have HW1:=hQ hw1
 have HB6:=hQ hb6
 have HB1:=hQ hb1
 have hd:decide (v<3)=false:=decide_eq_false (by omega)
 obtain⟨q,hq⟩:=eX (2*atI T s+(if o=true then 1 else 0))
 rw[hq]at HN ⊢
 have HQ:=hQ hq
 clear hk hR h h1 hb1 hk6 hw1 a1 hb6 hl hs hv hq
 generalize atI T s=n at*
 generalize isIn T s=b at*
 go_enter Tryz.func69,Tryz.ntmps69
 go_wp2_with fail
 rw[HW1.out,HB6.out]
 refine region_calmA (n:=12) (byList [isV (.pointer (some ⟨g,0,none⟩)),isV (.pointer (some ⟨g,0,none⟩)),isV (.pointer (some ⟨g,1,none⟩)),isV (.pointer (some ⟨t,0,none⟩)),isV (.pointer (some ⟨b6,0,none⟩)),isV (.string s),isV (.tuple #[.int .u64 n,.bool b]),isV (.tuple #[.int .u64 n,.bool b]),isV (.int .u64 n),isV (.bool b),isV (.int .u64 n),isV (.bool b)]) (by kernel_rfl) rfl (byList_lasts ?_) (by kernel_rfl) (by kernel_rfl) (show AllLt 12 _ from ?_) ?_
 ·intro p hp
  simp only[List.mem_cons,List.not_mem_nil,or_false]at hp
  rcases hp with rfl|rfl|rfl|rfl|rfl|rfl|rfl|rfl|rfl|rfl|rfl|rfl<;>first|exact isV_lasts|exact isC_lasts
 ·refine allLt_succ (allLt_succ (allLt_succ (allLt_succ (allLt_succ (allLt_succ (allLt_succ (allLt_succ (allLt_succ (allLt_succ (allLt_succ (allLt_succ (allLt_zero _) ?_) ?_) ?_) ?_) ?_) ?_) ?_) ?_) ?_) ?_) ?_) ?_
  ·refine StepOkA.run (get_lit rfl) rfl fun a W hS hB hd=> ?_
   have e0:=hS.get (t:=0) rfl rfl
   refine wp_value (c:= .pointer (some ⟨g,0,none⟩)) ?_ rfl
   go_simp
  ·refine StepOkA.run (get_lit rfl) rfl fun a W hS hB hd=> ?_
   have e17:=(hd 0 rfl).bool rfl rfl rfl
   refine wp_value (c:= .pointer (some ⟨g,0,none⟩)) ?_ rfl
   go_simp
  ·refine StepOkA.run (get_lit rfl) rfl fun a W hS hB hd=> ?_
   have e18:=(hd 1 rfl).bool rfl rfl rfl
   refine wp_value (c:= .pointer (some ⟨g,1,none⟩)) ?_ rfl
   go_simp
  ·refine StepOkA.run (get_lit rfl) rfl fun a W hS hB hd=> ?_
   have e19:=(hd 2 rfl).bool rfl rfl rfl
   refine wp_value (c:= .pointer (some ⟨t,0,none⟩)) ?_ rfl
   have hcW:W.cell? ⟨g,1,none⟩=some (.pointer (some ⟨t,0,none⟩)):=pw_cell_below hB HA1.out
   go_simp
  ·refine StepOkA.run (get_lit rfl) rfl fun a W hS hB hd=> ?_
   have e6:=hS.get (t:=6) rfl rfl
   refine wp_value (c:= .pointer (some ⟨b6,0,none⟩)) ?_ rfl
   go_simp
  ·refine StepOkA.run (get_lit rfl) rfl fun a W hS hB hd=> ?_
   have e21:=(hd 4 rfl).bool rfl rfl rfl
   refine wp_value (c:= .string s) ?_ rfl
   have hcW:W.cell? ⟨b6,0,none⟩=some (.string s):=pw_cell_below hB HC0.out
   go_simp
  ·refine StepOkA.run (get_lit rfl) rfl fun a W hS hB hd=> ?_
   have e20:=(hd 3 rfl).bool rfl rfl rfl
   have e22:=(hd 5 rfl).bool rfl rfl rfl
   refine wp_called Tryz.func89 (by kernel_rfl) rfl #[.pointer (some ⟨t,0,none⟩),.string s] rfl (by simp[Act.eval, *]) ?_
   refine(HFI.out W hB).mono ?_
   rintro e w9 ⟨rfl,rfl⟩
   exact⟨_,rfl,rfl,Below.refl _ _⟩
  ·refine StepOkA.run (get_lit rfl) rfl fun a W hS hB hd=> ?_
   have e23:=(hd 6 rfl).bool rfl rfl rfl
   refine wp_value (c:= .tuple #[.int .u64 n,.bool b]) ?_ rfl
   go_simp
  ·refine StepOkA.run (get_lit rfl) rfl fun a W hS hB hd=> ?_
   have e16:=(hd 7 rfl).bool rfl rfl rfl
   refine wp_value (c:= .int .u64 n) ?_ rfl
   go_simp
  ·refine StepOkA.run (get_lit rfl) rfl fun a W hS hB hd=> ?_
   have e16:=(hd 7 rfl).bool rfl rfl rfl
   refine wp_value (c:= .bool b) ?_ rfl
   go_simp
  ·refine StepOkA.run (get_lit rfl) rfl fun a W hS hB hd=> ?_
   have e24:=(hd 8 rfl).bool rfl rfl rfl
   refine wp_value (c:= .int .u64 n) ?_ rfl
   go_simp
  ·refine StepOkA.run (get_lit rfl) rfl fun a W hS hB hd=> ?_
   have e25:=(hd 9 rfl).bool rfl rfl rfl
   refine wp_value (c:= .bool b) ?_ rfl
   go_simp
 ·intro a W hS hB hh
  have e8:a.tmps[8]? =some (.int .u64 n):=(hh 10 (by omega)).bool rfl rfl rfl
  have e9:a.tmps[9]? =some (.bool b):=(hh 11 (by omega)).bool rfl rfl rfl
  have HBR:=hQ hB
  obtain⟨zz,hlit,hzz⟩:=same_litz hS
  clear hh hS hB
  simp only[List.filterMap_cons,List.filterMap_nil,List.foldl_cons,List.foldl_nil,List.setIfInBounds_toArray,List.set_cons_zero,List.set_cons_succ]at hlit
  rw[hzz 8 _ e8]at hlit
  rw[hzz 9 _ e9]at hlit
  clear e8 e9
  clear hzz;subst hlit
  have c2:W.cell? ⟨b6,2,none⟩=some (.bool o):=(blk_cell (blk_below HC2.out HBR.out) 2).trans rfl
  have e1:IntKind.u64.wrap (n*2)=n*2:=by rw[IntKind.wrap_u64];omega
  have e2:IntKind.u64.wrap (n*2+1)=n*2+1:=by rw[IntKind.wrap_u64];omega
  cases o with
  |true=>
   have hq2:n*2+1=q:=by have:=HQ.out;simp at this;omega
   clear HQ
   go_wp2_with fail
   (try rw[hq2])
   refine(HN.out W HBR.out).mono ?_
   rintro e w6 ⟨rfl,hw,hk⟩
   have HW:=hQ hw
   have HK:=hQ (Kp.trans (Kp.of_below (HB1.out.trans (HBR.out.mono HB1.out.size)) (fun k=>k=g)) hk (fun _ h=> .inl h))
   clear hw hk
   go_wp2_with fail
   (try simp only[Exit.inBlock,Exit.then])
   first|go_end0|refine bodyPost_ret (results_none rfl _ _ _) rfl ?_
   exact⟨rfl,HW.out,HK.out⟩
  |false=>
   have hq2:n*2=q:=by have:=HQ.out;simp at this;omega
   clear HQ
   go_wp2_with fail
   (try rw[hq2])
   refine(HN.out W HBR.out).mono ?_
   rintro e w6 ⟨rfl,hw,hk⟩
   have HW:=hQ hw
   have HK:=hQ (Kp.trans (Kp.of_below (HB1.out.trans (HBR.out.mono HB1.out.size)) (fun k=>k=g)) hk (fun _ h=> .inl h))
   clear hw hk
   go_wp2_with fail
   (try simp only[Exit.inBlock,Exit.then])
   first|go_end0|refine bodyPost_ret (results_none rfl _ _ _) rfl ?_
   exact⟨rfl,HW.out,HK.out⟩
theorem wdep1_any (h:Wr B W S g t T bs) (v:Int) (s:ByteArray) (m:Int) (o:Bool) (hl:bs.length≤1000000) (hs:s.size≤1000000) (hv:v<3):
  Calls Tryz.prog 69 #[.pointer (some ⟨g,0,none⟩),.int .i64 v,.agg #[.string s,.int .u64 m,.bool o],.func (.func 67) #[.pointer (some ⟨g,0,none⟩)] #[]] W (WrPost B W S g t T (bs++blob s)):=by
 obtain⟨w1,hw1⟩:=eX (W.alloc (.cells #[.string s,.int .u64 m,.bool o] 129))
 have hb1:Below W.heap.size W w1:=by rw[←hw1];exact(Below.refl _ _).alloc (Nat.le_refl _) _
 have hk6:w1.heap[W.heap.size]? =some (.cells #[.string s,.int .u64 m,.bool o] 129 (0,0)):=by rw[←hw1];exact heap_new _ _
 obtain⟨b6,hb6⟩:=eX (W.heap.size)
 rw[hb6]at hk6
 have h1:=h.keep hb1
 have c0:=bcl hk6 0 rfl
 have HN:=hQ (wblob_any h1 s hl hs)
 have HW1:=hQ hw1
 have HB6:=hQ hb6
 have HB1:=hQ hb1
 have hd:decide (v<3)=true:=decide_eq_true hv
 clear h h1 hb1 hk6 hw1 hb6 hl hs hv
 go_enter Tryz.func69,Tryz.ntmps69
 go_wp2_with fail
 rw[HW1.out,HB6.out]
 refine HN.out.mono ?_
 rintro e w6 ⟨rfl,hw,hk⟩
 have HW:=hQ hw
 have HK:=hQ (Kp.trans (Kp.of_below HB1.out (fun k=>k=g)) hk (fun _ h=> .inl h))
 clear hw hk
 go_wp2_with fail
 (try simp only[Exit.inBlock,Exit.then])
 first|go_end0|refine bodyPost_ret (results_none rfl _ _ _) rfl ?_
 exact⟨rfl,HW.out,HK.out⟩
theorem wdep2_any (h:Wr B W S g t T bs) (v:Int) (s:ByteArray) (m:Int) (o:Bool) (hl:bs.length≤1000000) (hs:s.size≤1000000) (hv:v<3):
  Calls Tryz.prog 69 #[.pointer (some ⟨g,0,none⟩),.int .i64 v,.agg #[.string s,.int .u64 m,.bool o],.func (.func 66) #[.pointer (some ⟨g,0,none⟩)] #[]] W (WrPost B W S g t T (bs++numE T s)):=by
 obtain⟨w1,hw1⟩:=eX (W.alloc (.cells #[.string s,.int .u64 m,.bool o] 129))
 have hb1:Below W.heap.size W w1:=by rw[←hw1];exact(Below.refl _ _).alloc (Nat.le_refl _) _
 have hk6:w1.heap[W.heap.size]? =some (.cells #[.string s,.int .u64 m,.bool o] 129 (0,0)):=by rw[←hw1];exact heap_new _ _
 obtain⟨b6,hb6⟩:=eX (W.heap.size)
 rw[hb6]at hk6
 have h1:=h.keep hb1
 have c0:=bcl hk6 0 rfl
 have HN:=hQ (wknown_any h1 s hl (by simp only[maxLen];omega))
 have HW1:=hQ hw1
 have HB6:=hQ hb6
 have HB1:=hQ hb1
 have hd:decide (v<3)=true:=decide_eq_true hv
 clear h h1 hb1 hk6 hw1 hb6 hl hs hv
 go_enter Tryz.func69,Tryz.ntmps69
 go_wp2_with fail
 rw[HW1.out,HB6.out]
 refine HN.out.mono ?_
 rintro e w6 ⟨rfl,hw,hk⟩
 have HW:=hQ hw
 have HK:=hQ (Kp.trans (Kp.of_below HB1.out (fun k=>k=g)) hk (fun _ h=> .inl h))
 clear hw hk
 go_wp2_with fail
 (try simp only[Exit.inBlock,Exit.then])
 first|go_end0|refine bodyPost_ret (results_none rfl _ _ _) rfl ?_
 exact⟨rfl,HW.out,HK.out⟩
theorem wtag_any (h:Wr B W S g t T bs) (s:ByteArray) (hl:bs.length≤1000000) (hs:s.size≤maxLen):
  Calls Tryz.prog 70 #[.pointer (some ⟨g,0,none⟩),.string s] W (WrPost B W S g t T (bs++tagE T s)):=by
 obtain⟨v,hk,hR⟩:=h.w
 have a1:=bcl hk 1 rfl
 unfold tagE
 by_cases h0:s.size=0
 ·rw[if_pos h0]
  have hd:s.toList.isEmpty=true:=by rw[List.isEmpty_iff];exact tl_nil.2 h0
  have HN:=hQ (number_any h 0 hl (by omega))
  rw[Int.toNat_zero]at HN
  clear hk hR h hl hs h0
  go_enter Tryz.func70,Tryz.ntmps70
  go_wp2_with fail
  refine HN.out.mono ?_
  rintro e w6 ⟨rfl,hw,hk⟩
  have HW:=hQ hw
  have HK:=hQ hk
  clear hw hk
  go_wp2_with fail
  (try simp only[Exit.inBlock,Exit.then])
  first|go_end0|refine bodyPost_ret (results_none rfl _ _ _) rfl ?_
  exact⟨rfl,HW.out,HK.out⟩
 ·rw[if_neg h0]
  have hd:s.toList.isEmpty=false:=by rw[Bool.eq_false_iff,ne_eq,List.isEmpty_iff,tl_nil];exact h0
  have HF:=hQ (find_any h.tab s hs)
  have hbd:=atI_bd T s h.tab.len
  have HN:=hQ (number_any h (atI T s+1) hl (by omega))
  clear hk hR h hl hs h0
  generalize atI T s=n at*
  generalize isIn T s=b at*
  have e2:IntKind.u64.wrap (n+1)=n+1:=by rw[IntKind.wrap_u64];omega
  go_enter Tryz.func70,Tryz.ntmps70
  go_wp2_with fail
  refine HF.out.mono ?_
  rintro e w5 ⟨rfl,rfl⟩
  go_wp2_with fail
  refine HN.out.mono ?_
  rintro e w6 ⟨rfl,hw,hk⟩
  have HW:=hQ hw
  have HK:=hQ hk
  clear hw hk
  go_wp2_with fail
  (try simp only[Exit.inBlock,Exit.then])
  first|go_end0|refine bodyPost_ret (results_none rfl _ _ _) rfl ?_
  exact⟨rfl,HW.out,HK.out⟩
end
end Go.Proofs.YtfflenbfapgilaaGreat
namespace Go.Proofs.YtfflenbfapgilaaGreat
open Go.Proofs.YtfflenbfapgilaaGreat.GRR
def depsE (v:Int) (T:List ByteArray) (l:List S129):List Int:=(l.map fun d=>depE v T d++ints (vb d.f1.toNat)).flatten
def bodyE (v:Int) (T:List ByteArray) (x2:Int) (l:List S129) (x4 x5:Int) (x6:ByteArray):List Int:=
 ints (vb x2.toNat)++ints (vb l.length)++depsE v T l++ints (vb x4.toNat)++(if 2≤v then ints (vb x5.toNat)else [])++(if 3≤v then tagE T x6 else [])
def lastE (v:Int) (T:List ByteArray) (k0:Int) (x1:ByteArray) (x2:Int) (l:List S129) (x4 x5:Int) (x6:ByteArray):List Int:=
 [k0]++textE v T x1++(if k0=2 then []else bodyE v T x2 l x4 x5 x6)
theorem depsE_take (v:Int) (T:List ByteArray) (l:List S129) (i:Nat) (h:i<l.length):depsE v T (l.take (i+1))=depsE v T (l.take i)++(depE v T l[i]++ints (vb l[i].f1.toNat)):=by
 unfold depsE
 rw[List.take_succ_eq_append_getElem h,List.map_append,List.flatten_append]
 simp
theorem depsE_le (v:Int) (T:List ByteArray) (l:List S129) (i:Nat):(depsE v T (l.take i)).length≤(depsE v T l).length:=by
 conv=>rhs;rw[←List.take_append_drop i l]
 unfold depsE
 simp only[List.map_append,List.flatten_append,List.length_append]
 omega
theorem C_kp {α:Type} {d:Kd α} {W W':World} {A:Option Addr} {xs:List α} {g:Nat} (h:d.C W A xs.length xs) (hd: ∀{x:α} {cs:List Value},d.K W x cs→d.K W' x cs) (hk:Kp W W' (fun k=>k=g)) (hg: ∀a,A=some a→xs≠[]→a.block≠g∧a.block<W.heap.size):d.C W' A xs.length xs:=
 C_move hd h (fun a ha hx=>hk.block _ (hg a ha hx).2 (hg a ha hx).1)
theorem deps_ne {W:World} {g t:Nat} {v:Value} {A:Option Addr} {l:List S129} (hk:W.heap[g]? =some (.cells #[v,.pointer (some ⟨t,0,none⟩)] 97 (0,0))) (hv: ∃A n c,v= .slice A n c) (hr:Kd.C k129 W A l.length l):
  ∀a,A=some a→l≠[]→a.block≠g∧a.block<W.heap.size:=by
 intro a ha hl
 have hpos:0<l.length:=List.length_pos_iff.2 hl
 obtain⟨ad,e,hc⟩:=hr.2.2 hpos
 obtain rfl:a=ad:=by rw[e]at ha;exact(Option.some.inj ha).symm
 obtain⟨cs,_,hK,hcell⟩:=hc 0 l[0] (List.getElem?_eq_getElem hpos)
 have hcs:=k129_open hK
 subst hcs
 have h0:=hcell 0 _ rfl
 have hlt:=World.block_lt_of_cell? W _ h0
 have hbk:(a.add (0*Kd.sz k129+0)).block=a.block:=by unfold Addr.add;split<;>rfl
 rw[hbk]at hlt
 refine⟨fun e1=> ?_,hlt⟩
 obtain⟨A2,n2,c2,rfl⟩:=hv
 unfold World.cell? at h0
 rw[hbk,e1,hk]at h0
 generalize (a.add (0*Kd.sz k129+0)).off=q at h0
 match q with
 | 0=>simp at h0
 | 1=>simp at h0
 |q+2=>simp at h0
theorem Wr.start {B:Nat} {W:World} {S:Nat→Prop} {g t:Nat} {T:List ByteArray} {o:Obj} {k0:Int} (h:Wr B W S g t T []):
  Wr B (((W.alloc o).alloc (.cells #[.int .u8 k0] 5)).setCell ⟨g,0,none⟩ (.slice (some ⟨W.heap.size+1,0,none⟩) 1 1)) S g t T [k0]∧Kp W (((W.alloc o).alloc (.cells #[.int .u8 k0] 5)).setCell ⟨g,0,none⟩ (.slice (some ⟨W.heap.size+1,0,none⟩) 1 1)) (fun k=>k=g):=by
 obtain⟨v,hk,hR⟩:=h.w
 have hk1:(W.alloc o).heap[g]? =_:=blk_alloc hk o
 have hb:((W.alloc o).alloc (.cells #[.int .u8 k0] 5)).heap[W.heap.size+1]? =some (.cells #[.int .u8 k0] 5 (0,0)):=by
  have:=heap_new (W.alloc o) (.cells #[.int .u8 k0] 5)
  rwa [heap_size_alloc]at this
 have hR2:=R_block .u8 ((W.alloc o).alloc (.cells #[.int .u8 k0] 5)) W.heap.size (W.heap.size+1) 5 [k0] (fun _=>True) hb (by omega) (by simp[maxLen]) trivial
 have hp:=IsW.put (B:=B) hk hR2 (((Below.refl _ _).alloc (Nat.le_refl _) o).alloc (by rw[heap_size_alloc];omega) _) h.le
 exact⟨h.step hp.1 hp.2,hp.2⟩
theorem wlast1_any {B:Nat} {W:World} {S:Nat→Prop} {g t:Nat} {T:List ByteArray} (h:Wr B W S g t T []) (k0:Int) (x1:ByteArray) (x2:Int) (A:Option Addr) (c:Nat) (l:List S129) (x4 x5:Int) (x6:ByteArray)
  (hr:Kd.C k129 W A l.length l) (hc:l.length≤c) (hk0:k0=1∨k0=2) (hs1:x1.size≤1000000) (hd: ∀d∈l,d.f0.size≤1000000∧0≤d.f1∧d.f1<18446744073709551616)
  (h2:0≤x2∧x2<18446744073709551616) (h4:0≤x4∧x4<18446744073709551616) (h5:0≤x5∧x5<18446744073709551616) (h6:x6.size≤maxLen) (hl:l.length≤1000) (hlen:1+(blob x1).length+(bodyE 1 T x2 l x4 x5 x6).length≤1000000):
  Calls Tryz.prog 38 #[.pointer (some ⟨g,0,none⟩),.int .i64 1,.agg #[.int .i64 k0,.string x1,.int .u64 x2,.slice A l.length c,.int .u64 x4,.int .u64 x5,.string x6]] W fun e W'=>∃v',e= .returned v'∧Kd.R (Kd.int .u8) 5 W' B (fun k=>k≠g) v' (lastE 1 T k0 x1 x2 l x4 x5 x6)∧Kp W W' (fun k=>k=g):=by
 obtain⟨v0,hkg,hR0⟩:=h.w
 have hne:W.heap.size≠g:=by have:=blk_lt hkg;omega
 have hst:=h.start (o:= .cells #[.int .i64 k0,.string x1,.int .u64 x2,.slice A l.length c,.int .u64 x4,.int .u64 x5,.string x6] 49) (k0:=k0)
 have hkb:(((W.alloc (.cells #[.int .i64 k0,.string x1,.int .u64 x2,.slice A l.length c,.int .u64 x4,.int .u64 x5,.string x6] 49)).alloc (.cells #[.int .u8 k0] 5)).setCell ⟨g,0,none⟩ (.slice (some ⟨W.heap.size+1,0,none⟩) 1 1)).heap[W.heap.size]? =some (.cells #[.int .i64 k0,.string x1,.int .u64 x2,.slice A l.length c,.int .u64 x4,.int .u64 x5,.string x6] 49 (0,0)):=by
  have e1:((W.alloc (.cells #[.int .i64 k0,.string x1,.int .u64 x2,.slice A l.length c,.int .u64 x4,.int .u64 x5,.string x6] 49)).alloc (.cells #[.int .u8 k0] 5)).heap[W.heap.size]? =some (.cells #[.int .i64 k0,.string x1,.int .u64 x2,.slice A l.length c,.int .u64 x4,.int .u64 x5,.string x6] 49 (0,0)):=blk_alloc (heap_new _ _) _
  exact(Below.heap_setCell _ ⟨g,0,none⟩ _ _ hne).trans e1
 have f0:((W.alloc (.cells #[.int .i64 k0,.string x1,.int .u64 x2,.slice A l.length c,.int .u64 x4,.int .u64 x5,.string x6] 49)).alloc (.cells #[.int .u8 k0] 5)).frozen? ⟨g,0,none⟩=false:=blk_frozen (blk_alloc (blk_alloc hkg _) _) 0
 have a0:((W.alloc (.cells #[.int .i64 k0,.string x1,.int .u64 x2,.slice A l.length c,.int .u64 x4,.int .u64 x5,.string x6] 49)).alloc (.cells #[.int .u8 k0] 5)).cell? ⟨g,0,none⟩=some v0:=(blk_cell (blk_alloc (blk_alloc hkg _) _) 0).trans rfl
 have c1:(((W.alloc (.cells #[.int .i64 k0,.string x1,.int .u64 x2,.slice A l.length c,.int .u64 x4,.int .u64 x5,.string x6] 49)).alloc (.cells #[.int .u8 k0] 5)).setCell ⟨g,0,none⟩ (.slice (some ⟨W.heap.size+1,0,none⟩) 1 1)).cell? ⟨W.heap.size,1,none⟩=some (.string x1):=(blk_cell hkb 1).trans rfl
 have hcv:IntKind.u8.wrap k0=k0:=by rcases hk0 with rfl|rfl<;>rfl
 have hrk:=deps_ne hkg (Kd.R_slice hR0 |>.imp fun A h=>⟨_,h⟩) hr
 have HRK:=hQ (fun(W':World) (hk:Kp W W' (fun k=>k=g))=>C_kp (d:=k129) (W':=W') hr (fun {x cs} h=>h) hk hrk)
 have HST:=hQ hst
 have HKB:=hQ hkb
 have HNE:=hQ hne
 have HR:=hQ hr
 have HD:=hQ hd
 have HLE:Hid (1+(blob x1).length+(ints (vb x2.toNat)).length+(ints (vb l.length)).length+(depsE 1 T l).length+(ints (vb x4.toNat)).length≤1000000):=hQ (by
  have:=hlen
  unfold bodyE at this
  simp only[List.length_append]at this ⊢
  omega)
 clear h hst hkb hkg hR0 hr hd hlen hne hrk
 go_enter Tryz.func38,Tryz.ntmps38
 go_wp2_with fail
 clear f0 c1 a0
 obtain⟨w3,hw3⟩:=eX ((((W.alloc (.cells #[.int .i64 k0,.string x1,.int .u64 x2,.slice A l.length c,.int .u64 x4,.int .u64 x5,.string x6] 49)).alloc (.cells #[.int .u8 k0] 5)).setCell ⟨g,0,none⟩ (.slice (some ⟨W.heap.size+1,0,none⟩) 1 1)))
 rw[hw3]at HST HKB ⊢
 obtain⟨b5,hb5⟩:=eX (W.heap.size)
 rw[hb5]at HKB HNE ⊢
 have HW3:=hQ HST.out.1
 have HK3:=hQ HST.out.2
 have KB3:=HKB
 have HB5:=hQ hb5
 have HW3_:=hQ hw3
 clear HST HKB hb5 hw3
 refine(wblob_any HW3.out x1 (by simp) hs1).mono ?_
 rintro e w4 ⟨rfl,hw,hk⟩
 have HW4:=hQ hw
 have HK4:=hQ (Kp.trans HK3.out hk (fun _ h=> .inl h))
 have KB4:=hQ (hk.heap KB3.out HNE.out)
 clear hw hk 
 have c0:=bcl KB4.out 0 rfl
 rcases hk0 with hk1|hk1
 ·have hdk:decide (k0=2)=false:=decide_eq_false (by omega)
  have c2:=bcl KB4.out 2 rfl
  go_wp2_with fail
  refine(number_any HW4.out x2 (by have:=HLE.out;simp only[List.length_append,List.length_cons,List.length_nil];omega) h2).mono ?_
  rintro e w5 ⟨rfl,hw,hk⟩
  have HW5:=hQ hw
  have HK5:=hQ (Kp.trans HK4.out hk (fun _ h=> .inl h))
  have KB5:=hQ (hk.heap KB4.out HNE.out)
  clear hw hk c0 c2
  have c3:=bcl KB5.out 3 rfl
  have hwl:IntKind.u64.wrap (l.length:Int)=(l.length:Int):=by rw[IntKind.wrap_u64];omega
  go_wp2_with fail
  refine(number_any HW5.out (l.length:Int) (by have:=HLE.out;simp only[List.length_append,List.length_cons,List.length_nil];omega) (by omega)).mono ?_
  rintro e w6 ⟨rfl,hw,hk⟩
  have HW6:=hQ hw
  have HK6:=hQ (Kp.trans HK5.out hk (fun _ h=> .inl h))
  have KB6:=hQ (hk.heap KB5.out HNE.out)
  clear hw hk c3
  have c3:=bcl KB6.out 3 rfl
  go_wp2_with fail
  clear c3
  go_loopw [47] (fun u wr=>∃(i:Nat),i≤l.length∧u= .int .i64 i∧Hid (Wr B wr S g t T ([k0]++blob x1++ints (vb x2.toNat)++ints (vb l.length)++depsE 1 T (l.take i)))∧Hid (Kp W wr (fun k=>k=g))∧Hid (wr.heap[b5]? =some (.cells #[.int .i64 k0,.string x1,.int .u64 x2,.slice A l.length c,.int .u64 x4,.int .u64 x5,.string x6] 49 (0,0)))) (fun v _=>l.length-(intOf v).toNat)
  case atStart=>exact⟨0,by omega,rfl,hQ (by simpa [depsE]using HW6.out),HK6,KB6⟩
  case round=>
   obtain⟨i,hi,rfl,HWr,HKr,KBr⟩:=hrel
   by_cases hlt:i<l.length
   ·obtain ⟨ad,rfl,d0,d1,d2⟩:=at_T129 (HRK.out _ HKr.out) (i:Int) (by omega) (by omega)
    rw[Int.toNat_natCast,rd_dep l i hlt]at d0 d1 d2
    have hdd:=HD.out l[i] (List.getElem_mem _)
    have htk:=depsE_take 1 T l i hlt
    have hle:=depsE_le 1 T l (i+1)
    generalize l[i]=d at*
    have hde:depE 1 T d=blob d.f0:=by simp[depE,textE]
    rw[hde]at htk
    rw[htk]at hle
    have hle2:([k0]++blob x1++ints (vb x2.toNat)++ints (vb l.length)++depsE 1 T (l.take i)).length≤1000000∧([k0]++blob x1++ints (vb x2.toNat)++ints (vb l.length)++depsE 1 T (l.take i)++blob d.f0).length≤1000000:=by
     have h8:=HLE.out
     simp only[List.length_append,List.length_cons,List.length_nil]at hle ⊢
     omega
    have hbo:wr.heap.size≠g:=by have:=blk_lt HWr.out.w.choose_spec.1;omega
    have HWa:=HWr.out.keep ((Below.refl wr.heap.size wr).alloc (Nat.le_refl _) (.cells #[.string d.f0,.int .u64 d.f1,.bool d.f2] 129))
    have hlq:=hle2.1
    have HDC:=hQ (wdep1_any HWa 1 d.f0 d.f1 d.f2 hlq hdd.1 (by omega))
    have hkb:(wr.alloc (.cells #[.string d.f0,.int .u64 d.f1,.bool d.f2] 129)).heap[wr.heap.size]? =some (.cells #[.string d.f0,.int .u64 d.f1,.bool d.f2] 129 (0,0)):=heap_new _ _
    have q0:(wr.alloc (.cells #[.string d.f0,.int .u64 d.f1,.bool d.f2] 129)).cell? ⟨wr.heap.size,0,none⟩=some (.string d.f0):=(blk_cell hkb 0).trans rfl
    have q1:(wr.alloc (.cells #[.string d.f0,.int .u64 d.f1,.bool d.f2] 129)).cell? ⟨wr.heap.size,1,none⟩=some (.int .u64 d.f1):=(blk_cell hkb 1).trans rfl
    have q2:(wr.alloc (.cells #[.string d.f0,.int .u64 d.f1,.bool d.f2] 129)).cell? ⟨wr.heap.size,2,none⟩=some (.bool d.f2):=(blk_cell hkb 2).trans rfl
    have HKQ:=hQ hkb
    have HTK:=hQ htk
    have HL2:=hQ hle2
    have HDD:=hQ hdd
    have HBO:=hQ hbo
    have HKa:=hQ ((HKr.out).alloc (.cells #[.string d.f0,.int .u64 d.f1,.bool d.f2] 129))
    have HKBa:=hQ (blk_alloc KBr.out (.cells #[.string d.f0,.int .u64 d.f1,.bool d.f2] 129))
    have hdl:decide ((i:Int)<(l.length:Int))=true:=decide_eq_true (by omega)
    clear hkb htk hle hle2 hdd hbo HWa hlq hde HRK HWr HKr KBr
    go_wp2_with fail
    clear q0 q1 q2 d0 d1 d2
    refine HDC.out.mono ?_
    rintro e w7 ⟨rfl,hw,hk⟩
    have HW7:=hQ hw
    have HK7:=hQ (Kp.trans HKa.out hk (fun _ h=> .inl h))
    have KB7:=hQ (hk.heap HKBa.out HNE.out)
    have q1:w7.cell? ⟨wr.heap.size,1,none⟩=some (.int .u64 d.f1):=(blk_cell (hk.heap HKQ.out HBO.out) 1).trans rfl
    clear hw hk HKa HKBa HKQ
    go_wp2_with fail
    refine(number_any HW7.out d.f1 HL2.out.2 HDD.out.2).mono ?_
    rintro e w8 ⟨rfl,hw,hk⟩
    have HW8:=hQ hw
    have HK8:=hQ (Kp.trans HK7.out hk (fun _ h=> .inl h))
    have KB8:=hQ (hk.heap KB7.out HNE.out)
    clear hw hk q1
    go_wp2_with fail
    go_roundw
    case rel=>exact⟨i+1,by omega,by go_num,hQ (by rw[HTK.out];have:=HW8.out;simpa only[List.append_assoc]using this),HK8,KB8⟩
    case measure=>simp[intOf];omega
   ·obtain rfl:i=l.length:=by omega
    rw[List.take_length]at HWr
    have c4:=bcl KBr.out 4 rfl
    clear HRK
    go_wp2_with fail
    refine(number_any HWr.out x4 (by have:=HLE.out;simp only[List.length_append,List.length_cons,List.length_nil];omega) h4).mono ?_
    rintro e wa ⟨rfl,hw,hk⟩
    have HWwa:=hQ hw
    have HKwa:=hQ (Kp.trans HKr.out hk (fun _ h=> .inl h))
    have KBwa:=hQ (hk.heap KBr.out HNE.out)
    clear hw hk c4
    obtain⟨v9,hk9,hR9⟩:=HWwa.out.w
    obtain⟨A9,c9,rfl⟩:=Kd.R_slice hR9
    have g0:=(blk_cell hk9 0).trans rfl
    have HR9:=hQ hR9
    clear hk9 hR9
    go_wp2_with fail
    go_ret
    refine⟨_,rfl, ?_,HKwa.out⟩
    have:=HR9.out
    unfold lastE bodyE
    simpa [hk1,textE]using this
 ·have hdk:decide (k0=2)=true:=decide_eq_true hk1
  obtain⟨v9,hk9,hR9⟩:=HW4.out.w
  obtain⟨A9,c9,rfl⟩:=Kd.R_slice hR9
  have g0:=(blk_cell hk9 0).trans rfl
  have HR9:=hQ hR9
  clear hk9 hR9
  go_wp2_with fail
  go_ret
  refine⟨_,rfl, ?_,HK4.out⟩
  have:=HR9.out
  unfold lastE
  simpa [hk1,textE]using this
theorem wlast2_any {B:Nat} {W:World} {S:Nat→Prop} {g t:Nat} {T:List ByteArray} (h:Wr B W S g t T []) (k0:Int) (x1:ByteArray) (x2:Int) (A:Option Addr) (c:Nat) (l:List S129) (x4 x5:Int) (x6:ByteArray)
  (hr:Kd.C k129 W A l.length l) (hc:l.length≤c) (hk0:k0=1∨k0=2) (hs1:x1.size≤1000000) (hd: ∀d∈l,d.f0.size≤1000000∧0≤d.f1∧d.f1<18446744073709551616)
  (h2:0≤x2∧x2<18446744073709551616) (h4:0≤x4∧x4<18446744073709551616) (h5:0≤x5∧x5<18446744073709551616) (h6:x6.size≤maxLen) (hl:l.length≤1000) (hlen:1+(numE T x1).length+(bodyE 2 T x2 l x4 x5 x6).length≤1000000):
  Calls Tryz.prog 38 #[.pointer (some ⟨g,0,none⟩),.int .i64 2,.agg #[.int .i64 k0,.string x1,.int .u64 x2,.slice A l.length c,.int .u64 x4,.int .u64 x5,.string x6]] W fun e W'=>∃v',e= .returned v'∧Kd.R (Kd.int .u8) 5 W' B (fun k=>k≠g) v' (lastE 2 T k0 x1 x2 l x4 x5 x6)∧Kp W W' (fun k=>k=g):=by
 obtain⟨v0,hkg,hR0⟩:=h.w
 have hne:W.heap.size≠g:=by have:=blk_lt hkg;omega
 have hst:=h.start (o:= .cells #[.int .i64 k0,.string x1,.int .u64 x2,.slice A l.length c,.int .u64 x4,.int .u64 x5,.string x6] 49) (k0:=k0)
 have hkb:(((W.alloc (.cells #[.int .i64 k0,.string x1,.int .u64 x2,.slice A l.length c,.int .u64 x4,.int .u64 x5,.string x6] 49)).alloc (.cells #[.int .u8 k0] 5)).setCell ⟨g,0,none⟩ (.slice (some ⟨W.heap.size+1,0,none⟩) 1 1)).heap[W.heap.size]? =some (.cells #[.int .i64 k0,.string x1,.int .u64 x2,.slice A l.length c,.int .u64 x4,.int .u64 x5,.string x6] 49 (0,0)):=by
  have e1:((W.alloc (.cells #[.int .i64 k0,.string x1,.int .u64 x2,.slice A l.length c,.int .u64 x4,.int .u64 x5,.string x6] 49)).alloc (.cells #[.int .u8 k0] 5)).heap[W.heap.size]? =some (.cells #[.int .i64 k0,.string x1,.int .u64 x2,.slice A l.length c,.int .u64 x4,.int .u64 x5,.string x6] 49 (0,0)):=blk_alloc (heap_new _ _) _
  exact(Below.heap_setCell _ ⟨g,0,none⟩ _ _ hne).trans e1
 have f0:((W.alloc (.cells #[.int .i64 k0,.string x1,.int .u64 x2,.slice A l.length c,.int .u64 x4,.int .u64 x5,.string x6] 49)).alloc (.cells #[.int .u8 k0] 5)).frozen? ⟨g,0,none⟩=false:=blk_frozen (blk_alloc (blk_alloc hkg _) _) 0
 have a0:((W.alloc (.cells #[.int .i64 k0,.string x1,.int .u64 x2,.slice A l.length c,.int .u64 x4,.int .u64 x5,.string x6] 49)).alloc (.cells #[.int .u8 k0] 5)).cell? ⟨g,0,none⟩=some v0:=(blk_cell (blk_alloc (blk_alloc hkg _) _) 0).trans rfl
 have c1:(((W.alloc (.cells #[.int .i64 k0,.string x1,.int .u64 x2,.slice A l.length c,.int .u64 x4,.int .u64 x5,.string x6] 49)).alloc (.cells #[.int .u8 k0] 5)).setCell ⟨g,0,none⟩ (.slice (some ⟨W.heap.size+1,0,none⟩) 1 1)).cell? ⟨W.heap.size,1,none⟩=some (.string x1):=(blk_cell hkb 1).trans rfl
 have hcv:IntKind.u8.wrap k0=k0:=by rcases hk0 with rfl|rfl<;>rfl
 have hrk:=deps_ne hkg (Kd.R_slice hR0 |>.imp fun A h=>⟨_,h⟩) hr
 have HRK:=hQ (fun(W':World) (hk:Kp W W' (fun k=>k=g))=>C_kp (d:=k129) (W':=W') hr (fun {x cs} h=>h) hk hrk)
 have HST:=hQ hst
 have HKB:=hQ hkb
 have HNE:=hQ hne
 have HR:=hQ hr
 have HD:=hQ hd
 have HLE:Hid (1+(numE T x1).length+(ints (vb x2.toNat)).length+(ints (vb l.length)).length+(depsE 2 T l).length+(ints (vb x4.toNat)).length+(ints (vb x5.toNat)).length≤1000000):=hQ (by
  have:=hlen
  unfold bodyE at this
  simp only[List.length_append,show(2:Int)≤2 from by decide,if_true]at this ⊢
  omega)
 clear h hst hkb hkg hR0 hr hd hlen hne hrk
 go_enter Tryz.func38,Tryz.ntmps38
 go_wp2_with fail
 clear f0 c1 a0
 obtain⟨w3,hw3⟩:=eX ((((W.alloc (.cells #[.int .i64 k0,.string x1,.int .u64 x2,.slice A l.length c,.int .u64 x4,.int .u64 x5,.string x6] 49)).alloc (.cells #[.int .u8 k0] 5)).setCell ⟨g,0,none⟩ (.slice (some ⟨W.heap.size+1,0,none⟩) 1 1)))
 rw[hw3]at HST HKB ⊢
 obtain⟨b5,hb5⟩:=eX (W.heap.size)
 rw[hb5]at HKB HNE ⊢
 have HW3:=hQ HST.out.1
 have HK3:=hQ HST.out.2
 have KB3:=HKB
 have HB5:=hQ hb5
 have HW3_:=hQ hw3
 clear HST HKB hb5 hw3
 refine(wknown_any HW3.out x1 (by simp) (by simp only[maxLen];omega)).mono ?_
 rintro e w4 ⟨rfl,hw,hk⟩
 have HW4:=hQ hw
 have HK4:=hQ (Kp.trans HK3.out hk (fun _ h=> .inl h))
 have KB4:=hQ (hk.heap KB3.out HNE.out)
 clear hw hk 
 have c0:=bcl KB4.out 0 rfl
 rcases hk0 with hk1|hk1
 ·have hdk:decide (k0=2)=false:=decide_eq_false (by omega)
  have c2:=bcl KB4.out 2 rfl
  go_wp2_with fail
  refine(number_any HW4.out x2 (by have:=HLE.out;simp only[List.length_append,List.length_cons,List.length_nil];omega) h2).mono ?_
  rintro e w5 ⟨rfl,hw,hk⟩
  have HW5:=hQ hw
  have HK5:=hQ (Kp.trans HK4.out hk (fun _ h=> .inl h))
  have KB5:=hQ (hk.heap KB4.out HNE.out)
  clear hw hk c0 c2
  have c3:=bcl KB5.out 3 rfl
  have hwl:IntKind.u64.wrap (l.length:Int)=(l.length:Int):=by rw[IntKind.wrap_u64];omega
  go_wp2_with fail
  refine(number_any HW5.out (l.length:Int) (by have:=HLE.out;simp only[List.length_append,List.length_cons,List.length_nil];omega) (by omega)).mono ?_
  rintro e w6 ⟨rfl,hw,hk⟩
  have HW6:=hQ hw
  have HK6:=hQ (Kp.trans HK5.out hk (fun _ h=> .inl h))
  have KB6:=hQ (hk.heap KB5.out HNE.out)
  clear hw hk c3
  have c3:=bcl KB6.out 3 rfl
  go_wp2_with fail
  clear c3
  go_loopw [47] (fun u wr=>∃(i:Nat),i≤l.length∧u= .int .i64 i∧Hid (Wr B wr S g t T ([k0]++numE T x1++ints (vb x2.toNat)++ints (vb l.length)++depsE 2 T (l.take i)))∧Hid (Kp W wr (fun k=>k=g))∧Hid (wr.heap[b5]? =some (.cells #[.int .i64 k0,.string x1,.int .u64 x2,.slice A l.length c,.int .u64 x4,.int .u64 x5,.string x6] 49 (0,0)))) (fun v _=>l.length-(intOf v).toNat)
  case atStart=>exact⟨0,by omega,rfl,hQ (by simpa [depsE]using HW6.out),HK6,KB6⟩
  case round=>
   obtain⟨i,hi,rfl,HWr,HKr,KBr⟩:=hrel
   by_cases hlt:i<l.length
   ·obtain ⟨ad,rfl,d0,d1,d2⟩:=at_T129 (HRK.out _ HKr.out) (i:Int) (by omega) (by omega)
    rw[Int.toNat_natCast,rd_dep l i hlt]at d0 d1 d2
    have hdd:=HD.out l[i] (List.getElem_mem _)
    have htk:=depsE_take 2 T l i hlt
    have hle:=depsE_le 2 T l (i+1)
    generalize l[i]=d at*
    have hde:depE 2 T d=numE T d.f0:=by simp[depE,textE]
    rw[hde]at htk
    rw[htk]at hle
    have hle2:([k0]++numE T x1++ints (vb x2.toNat)++ints (vb l.length)++depsE 2 T (l.take i)).length≤1000000∧([k0]++numE T x1++ints (vb x2.toNat)++ints (vb l.length)++depsE 2 T (l.take i)++numE T d.f0).length≤1000000:=by
     have h8:=HLE.out
     simp only[List.length_append,List.length_cons,List.length_nil]at hle ⊢
     omega
    have hbo:wr.heap.size≠g:=by have:=blk_lt HWr.out.w.choose_spec.1;omega
    have HWa:=HWr.out.keep ((Below.refl wr.heap.size wr).alloc (Nat.le_refl _) (.cells #[.string d.f0,.int .u64 d.f1,.bool d.f2] 129))
    have hlq:=hle2.1
    have HDC:=hQ (wdep2_any HWa 2 d.f0 d.f1 d.f2 hlq hdd.1 (by omega))
    have hkb:(wr.alloc (.cells #[.string d.f0,.int .u64 d.f1,.bool d.f2] 129)).heap[wr.heap.size]? =some (.cells #[.string d.f0,.int .u64 d.f1,.bool d.f2] 129 (0,0)):=heap_new _ _
    have q0:(wr.alloc (.cells #[.string d.f0,.int .u64 d.f1,.bool d.f2] 129)).cell? ⟨wr.heap.size,0,none⟩=some (.string d.f0):=(blk_cell hkb 0).trans rfl
    have q1:(wr.alloc (.cells #[.string d.f0,.int .u64 d.f1,.bool d.f2] 129)).cell? ⟨wr.heap.size,1,none⟩=some (.int .u64 d.f1):=(blk_cell hkb 1).trans rfl
    have q2:(wr.alloc (.cells #[.string d.f0,.int .u64 d.f1,.bool d.f2] 129)).cell? ⟨wr.heap.size,2,none⟩=some (.bool d.f2):=(blk_cell hkb 2).trans rfl
    have HKQ:=hQ hkb
    have HTK:=hQ htk
    have HL2:=hQ hle2
    have HDD:=hQ hdd
    have HBO:=hQ hbo
    have HKa:=hQ ((HKr.out).alloc (.cells #[.string d.f0,.int .u64 d.f1,.bool d.f2] 129))
    have HKBa:=hQ (blk_alloc KBr.out (.cells #[.string d.f0,.int .u64 d.f1,.bool d.f2] 129))
    have hdl:decide ((i:Int)<(l.length:Int))=true:=decide_eq_true (by omega)
    clear hkb htk hle hle2 hdd hbo HWa hlq hde HRK HWr HKr KBr
    go_wp2_with fail
    clear q0 q1 q2 d0 d1 d2
    refine HDC.out.mono ?_
    rintro e w7 ⟨rfl,hw,hk⟩
    have HW7:=hQ hw
    have HK7:=hQ (Kp.trans HKa.out hk (fun _ h=> .inl h))
    have KB7:=hQ (hk.heap HKBa.out HNE.out)
    have q1:w7.cell? ⟨wr.heap.size,1,none⟩=some (.int .u64 d.f1):=(blk_cell (hk.heap HKQ.out HBO.out) 1).trans rfl
    clear hw hk HKa HKBa HKQ
    go_wp2_with fail
    refine(number_any HW7.out d.f1 HL2.out.2 HDD.out.2).mono ?_
    rintro e w8 ⟨rfl,hw,hk⟩
    have HW8:=hQ hw
    have HK8:=hQ (Kp.trans HK7.out hk (fun _ h=> .inl h))
    have KB8:=hQ (hk.heap KB7.out HNE.out)
    clear hw hk q1
    go_wp2_with fail
    go_roundw
    case rel=>exact⟨i+1,by omega,by go_num,hQ (by rw[HTK.out];have:=HW8.out;simpa only[List.append_assoc]using this),HK8,KB8⟩
    case measure=>simp[intOf];omega
   ·obtain rfl:i=l.length:=by omega
    rw[List.take_length]at HWr
    have c4:=bcl KBr.out 4 rfl
    clear HRK
    go_wp2_with fail
    refine(number_any HWr.out x4 (by have:=HLE.out;simp only[List.length_append,List.length_cons,List.length_nil];omega) h4).mono ?_
    rintro e wa ⟨rfl,hw,hk⟩
    have HWwa:=hQ hw
    have HKwa:=hQ (Kp.trans HKr.out hk (fun _ h=> .inl h))
    have KBwa:=hQ (hk.heap KBr.out HNE.out)
    clear hw hk c4
    have c5:=bcl KBwa.out 5 rfl
    go_wp2_with fail
    refine(number_any HWwa.out x5 (by have:=HLE.out;simp only[List.length_append,List.length_cons,List.length_nil];omega) h5).mono ?_
    rintro e wb ⟨rfl,hw,hk⟩
    have HWwb:=hQ hw
    have HKwb:=hQ (Kp.trans HKwa.out hk (fun _ h=> .inl h))
    have KBwb:=hQ (hk.heap KBwa.out HNE.out)
    clear hw hk c5
    obtain⟨v9,hk9,hR9⟩:=HWwb.out.w
    obtain⟨A9,c9,rfl⟩:=Kd.R_slice hR9
    have g0:=(blk_cell hk9 0).trans rfl
    have HR9:=hQ hR9
    clear hk9 hR9
    go_wp2_with fail
    go_ret
    refine⟨_,rfl, ?_,HKwb.out⟩
    have:=HR9.out
    unfold lastE bodyE
    simpa [hk1,textE]using this
 ·have hdk:decide (k0=2)=true:=decide_eq_true hk1
  obtain⟨v9,hk9,hR9⟩:=HW4.out.w
  obtain⟨A9,c9,rfl⟩:=Kd.R_slice hR9
  have g0:=(blk_cell hk9 0).trans rfl
  have HR9:=hQ hR9
  clear hk9 hR9
  go_wp2_with fail
  go_ret
  refine⟨_,rfl, ?_,HK4.out⟩
  have:=HR9.out
  unfold lastE
  simpa [hk1,textE]using this
theorem wlast3_any {B:Nat} {W:World} {S:Nat→Prop} {g t:Nat} {T:List ByteArray} (h:Wr B W S g t T []) (k0:Int) (x1:ByteArray) (x2:Int) (A:Option Addr) (c:Nat) (l:List S129) (x4 x5:Int) (x6:ByteArray)
  (hr:Kd.C k129 W A l.length l) (hc:l.length≤c) (hk0:k0=1∨k0=2) (hs1:x1.size≤1000000) (hd: ∀d∈l,d.f0.size≤1000000∧0≤d.f1∧d.f1<18446744073709551616)
  (h2:0≤x2∧x2<18446744073709551616) (h4:0≤x4∧x4<18446744073709551616) (h5:0≤x5∧x5<18446744073709551616) (h6:x6.size≤maxLen) (hl:l.length≤1000) (hlen:1+(numE T x1).length+(bodyE 3 T x2 l x4 x5 x6).length≤1000000):
  Calls Tryz.prog 38 #[.pointer (some ⟨g,0,none⟩),.int .i64 3,.agg #[.int .i64 k0,.string x1,.int .u64 x2,.slice A l.length c,.int .u64 x4,.int .u64 x5,.string x6]] W fun e W'=>∃v',e= .returned v'∧Kd.R (Kd.int .u8) 5 W' B (fun k=>k≠g) v' (lastE 3 T k0 x1 x2 l x4 x5 x6)∧Kp W W' (fun k=>k=g):=by
 obtain⟨v0,hkg,hR0⟩:=h.w
 have hne:W.heap.size≠g:=by have:=blk_lt hkg;omega
 have hst:=h.start (o:= .cells #[.int .i64 k0,.string x1,.int .u64 x2,.slice A l.length c,.int .u64 x4,.int .u64 x5,.string x6] 49) (k0:=k0)
 have hkb:(((W.alloc (.cells #[.int .i64 k0,.string x1,.int .u64 x2,.slice A l.length c,.int .u64 x4,.int .u64 x5,.string x6] 49)).alloc (.cells #[.int .u8 k0] 5)).setCell ⟨g,0,none⟩ (.slice (some ⟨W.heap.size+1,0,none⟩) 1 1)).heap[W.heap.size]? =some (.cells #[.int .i64 k0,.string x1,.int .u64 x2,.slice A l.length c,.int .u64 x4,.int .u64 x5,.string x6] 49 (0,0)):=by
  have e1:((W.alloc (.cells #[.int .i64 k0,.string x1,.int .u64 x2,.slice A l.length c,.int .u64 x4,.int .u64 x5,.string x6] 49)).alloc (.cells #[.int .u8 k0] 5)).heap[W.heap.size]? =some (.cells #[.int .i64 k0,.string x1,.int .u64 x2,.slice A l.length c,.int .u64 x4,.int .u64 x5,.string x6] 49 (0,0)):=blk_alloc (heap_new _ _) _
  exact(Below.heap_setCell _ ⟨g,0,none⟩ _ _ hne).trans e1
 have f0:((W.alloc (.cells #[.int .i64 k0,.string x1,.int .u64 x2,.slice A l.length c,.int .u64 x4,.int .u64 x5,.string x6] 49)).alloc (.cells #[.int .u8 k0] 5)).frozen? ⟨g,0,none⟩=false:=blk_frozen (blk_alloc (blk_alloc hkg _) _) 0
 have a0:((W.alloc (.cells #[.int .i64 k0,.string x1,.int .u64 x2,.slice A l.length c,.int .u64 x4,.int .u64 x5,.string x6] 49)).alloc (.cells #[.int .u8 k0] 5)).cell? ⟨g,0,none⟩=some v0:=(blk_cell (blk_alloc (blk_alloc hkg _) _) 0).trans rfl
 have c1:(((W.alloc (.cells #[.int .i64 k0,.string x1,.int .u64 x2,.slice A l.length c,.int .u64 x4,.int .u64 x5,.string x6] 49)).alloc (.cells #[.int .u8 k0] 5)).setCell ⟨g,0,none⟩ (.slice (some ⟨W.heap.size+1,0,none⟩) 1 1)).cell? ⟨W.heap.size,1,none⟩=some (.string x1):=(blk_cell hkb 1).trans rfl
 have hcv:IntKind.u8.wrap k0=k0:=by rcases hk0 with rfl|rfl<;>rfl
 have hrk:=deps_ne hkg (Kd.R_slice hR0 |>.imp fun A h=>⟨_,h⟩) hr
 have HRK:=hQ (fun(W':World) (hk:Kp W W' (fun k=>k=g))=>C_kp (d:=k129) (W':=W') hr (fun {x cs} h=>h) hk hrk)
 have HST:=hQ hst
 have HKB:=hQ hkb
 have HNE:=hQ hne
 have HR:=hQ hr
 have HD:=hQ hd
 have HLE:Hid (1+(numE T x1).length+(ints (vb x2.toNat)).length+(ints (vb l.length)).length+(depsE 3 T l).length+(ints (vb x4.toNat)).length+(ints (vb x5.toNat)).length≤1000000):=hQ (by
  have:=hlen
  unfold bodyE at this
  simp only[List.length_append,show(2:Int)≤3 from by decide,if_true]at this ⊢
  omega)
 clear h hst hkb hkg hR0 hr hd hlen hne hrk
 go_enter Tryz.func38,Tryz.ntmps38
 go_wp2_with fail
 clear f0 c1 a0
 obtain⟨w3,hw3⟩:=eX ((((W.alloc (.cells #[.int .i64 k0,.string x1,.int .u64 x2,.slice A l.length c,.int .u64 x4,.int .u64 x5,.string x6] 49)).alloc (.cells #[.int .u8 k0] 5)).setCell ⟨g,0,none⟩ (.slice (some ⟨W.heap.size+1,0,none⟩) 1 1)))
 rw[hw3]at HST HKB ⊢
 obtain⟨b5,hb5⟩:=eX (W.heap.size)
 rw[hb5]at HKB HNE ⊢
 have HW3:=hQ HST.out.1
 have HK3:=hQ HST.out.2
 have KB3:=HKB
 have HB5:=hQ hb5
 have HW3_:=hQ hw3
 clear HST HKB hb5 hw3
 refine(wknown_any HW3.out x1 (by simp) (by simp only[maxLen];omega)).mono ?_
 rintro e w4 ⟨rfl,hw,hk⟩
 have HW4:=hQ hw
 have HK4:=hQ (Kp.trans HK3.out hk (fun _ h=> .inl h))
 have KB4:=hQ (hk.heap KB3.out HNE.out)
 clear hw hk 
 have c0:=bcl KB4.out 0 rfl
 rcases hk0 with hk1|hk1
 ·have hdk:decide (k0=2)=false:=decide_eq_false (by omega)
  have c2:=bcl KB4.out 2 rfl
  go_wp2_with fail
  refine(number_any HW4.out x2 (by have:=HLE.out;simp only[List.length_append,List.length_cons,List.length_nil];omega) h2).mono ?_
  rintro e w5 ⟨rfl,hw,hk⟩
  have HW5:=hQ hw
  have HK5:=hQ (Kp.trans HK4.out hk (fun _ h=> .inl h))
  have KB5:=hQ (hk.heap KB4.out HNE.out)
  clear hw hk c0 c2
  have c3:=bcl KB5.out 3 rfl
  have hwl:IntKind.u64.wrap (l.length:Int)=(l.length:Int):=by rw[IntKind.wrap_u64];omega
  go_wp2_with fail
  refine(number_any HW5.out (l.length:Int) (by have:=HLE.out;simp only[List.length_append,List.length_cons,List.length_nil];omega) (by omega)).mono ?_
  rintro e w6 ⟨rfl,hw,hk⟩
  have HW6:=hQ hw
  have HK6:=hQ (Kp.trans HK5.out hk (fun _ h=> .inl h))
  have KB6:=hQ (hk.heap KB5.out HNE.out)
  clear hw hk c3
  have c3:=bcl KB6.out 3 rfl
  go_wp2_with fail
  clear c3
  go_loopw [47] (fun u wr=>∃(i:Nat),i≤l.length∧u= .int .i64 i∧Hid (Wr B wr S g t T ([k0]++numE T x1++ints (vb x2.toNat)++ints (vb l.length)++depsE 3 T (l.take i)))∧Hid (Kp W wr (fun k=>k=g))∧Hid (wr.heap[b5]? =some (.cells #[.int .i64 k0,.string x1,.int .u64 x2,.slice A l.length c,.int .u64 x4,.int .u64 x5,.string x6] 49 (0,0)))) (fun v _=>l.length-(intOf v).toNat)
  case atStart=>exact⟨0,by omega,rfl,hQ (by simpa [depsE]using HW6.out),HK6,KB6⟩
  case round=>
   obtain⟨i,hi,rfl,HWr,HKr,KBr⟩:=hrel
   by_cases hlt:i<l.length
   ·obtain ⟨ad,rfl,d0,d1,d2⟩:=at_T129 (HRK.out _ HKr.out) (i:Int) (by omega) (by omega)
    rw[Int.toNat_natCast,rd_dep l i hlt]at d0 d1 d2
    have hdd:=HD.out l[i] (List.getElem_mem _)
    have htk:=depsE_take 3 T l i hlt
    have hle:=depsE_le 3 T l (i+1)
    generalize l[i]=d at*
    have hde:depE 3 T d=ints (vb (2*atI T d.f0+(if d.f2=true then 1 else 0)).toNat):=by simp[depE,textE]
    rw[hde]at htk
    rw[htk]at hle
    have hle2:([k0]++numE T x1++ints (vb x2.toNat)++ints (vb l.length)++depsE 3 T (l.take i)).length≤1000000∧([k0]++numE T x1++ints (vb x2.toNat)++ints (vb l.length)++depsE 3 T (l.take i)++ints (vb (2*atI T d.f0+(if d.f2=true then 1 else 0)).toNat)).length≤1000000:=by
     have h8:=HLE.out
     simp only[List.length_append,List.length_cons,List.length_nil]at hle ⊢
     omega
    have hbo:wr.heap.size≠g:=by have:=blk_lt HWr.out.w.choose_spec.1;omega
    have HWa:=HWr.out.keep ((Below.refl wr.heap.size wr).alloc (Nat.le_refl _) (.cells #[.string d.f0,.int .u64 d.f1,.bool d.f2] 129))
    have hlq:=hle2.1
    have HDC:=hQ (wdep3_any HWa 3 d.f0 d.f1 d.f2 (.func (.func 66) #[.pointer (some ⟨g,0,none⟩)] #[]) hlq (by have:=hdd.1;simp only[maxLen];omega) (by omega))
    have hkb:(wr.alloc (.cells #[.string d.f0,.int .u64 d.f1,.bool d.f2] 129)).heap[wr.heap.size]? =some (.cells #[.string d.f0,.int .u64 d.f1,.bool d.f2] 129 (0,0)):=heap_new _ _
    have q0:(wr.alloc (.cells #[.string d.f0,.int .u64 d.f1,.bool d.f2] 129)).cell? ⟨wr.heap.size,0,none⟩=some (.string d.f0):=(blk_cell hkb 0).trans rfl
    have q1:(wr.alloc (.cells #[.string d.f0,.int .u64 d.f1,.bool d.f2] 129)).cell? ⟨wr.heap.size,1,none⟩=some (.int .u64 d.f1):=(blk_cell hkb 1).trans rfl
    have q2:(wr.alloc (.cells #[.string d.f0,.int .u64 d.f1,.bool d.f2] 129)).cell? ⟨wr.heap.size,2,none⟩=some (.bool d.f2):=(blk_cell hkb 2).trans rfl
    have HKQ:=hQ hkb
    have HTK:=hQ htk
    have HL2:=hQ hle2
    have HDD:=hQ hdd
    have HBO:=hQ hbo
    have HKa:=hQ ((HKr.out).alloc (.cells #[.string d.f0,.int .u64 d.f1,.bool d.f2] 129))
    have HKBa:=hQ (blk_alloc KBr.out (.cells #[.string d.f0,.int .u64 d.f1,.bool d.f2] 129))
    have hdl:decide ((i:Int)<(l.length:Int))=true:=decide_eq_true (by omega)
    clear hkb htk hle hle2 hdd hbo HWa hlq hde HRK HWr HKr KBr
    go_wp2_with fail
    clear q0 q1 q2 d0 d1 d2
    refine HDC.out.mono ?_
    rintro e w7 ⟨rfl,hw,hk⟩
    have HW7:=hQ hw
    have HK7:=hQ (Kp.trans HKa.out hk (fun _ h=> .inl h))
    have KB7:=hQ (hk.heap HKBa.out HNE.out)
    have q1:w7.cell? ⟨wr.heap.size,1,none⟩=some (.int .u64 d.f1):=(blk_cell (hk.heap HKQ.out HBO.out) 1).trans rfl
    clear hw hk HKa HKBa HKQ
    go_wp2_with fail
    refine(number_any HW7.out d.f1 HL2.out.2 HDD.out.2).mono ?_
    rintro e w8 ⟨rfl,hw,hk⟩
    have HW8:=hQ hw
    have HK8:=hQ (Kp.trans HK7.out hk (fun _ h=> .inl h))
    have KB8:=hQ (hk.heap KB7.out HNE.out)
    clear hw hk q1
    go_wp2_with fail
    go_roundw
    case rel=>exact⟨i+1,by omega,by go_num,hQ (by rw[HTK.out];have:=HW8.out;simpa only[List.append_assoc]using this),HK8,KB8⟩
    case measure=>simp[intOf];omega
   ·obtain rfl:i=l.length:=by omega
    rw[List.take_length]at HWr
    have c4:=bcl KBr.out 4 rfl
    clear HRK
    go_wp2_with fail
    refine(number_any HWr.out x4 (by have:=HLE.out;simp only[List.length_append,List.length_cons,List.length_nil];omega) h4).mono ?_
    rintro e wa ⟨rfl,hw,hk⟩
    have HWwa:=hQ hw
    have HKwa:=hQ (Kp.trans HKr.out hk (fun _ h=> .inl h))
    have KBwa:=hQ (hk.heap KBr.out HNE.out)
    clear hw hk c4
    have c5:=bcl KBwa.out 5 rfl
    go_wp2_with fail
    refine(number_any HWwa.out x5 (by have:=HLE.out;simp only[List.length_append,List.length_cons,List.length_nil];omega) h5).mono ?_
    rintro e wb ⟨rfl,hw,hk⟩
    have HWwb:=hQ hw
    have HKwb:=hQ (Kp.trans HKwa.out hk (fun _ h=> .inl h))
    have KBwb:=hQ (hk.heap KBwa.out HNE.out)
    clear hw hk c5
    have c6:=bcl KBwb.out 6 rfl
    go_wp2_with fail
    refine(wtag_any HWwb.out x6 (by have:=HLE.out;simp only[List.length_append,List.length_cons,List.length_nil];omega) h6).mono ?_
    rintro e wc ⟨rfl,hw,hk⟩
    have HWwc:=hQ hw
    have HKwc:=hQ (Kp.trans HKwb.out hk (fun _ h=> .inl h))
    have KBwc:=hQ (hk.heap KBwb.out HNE.out)
    clear hw hk c6
    obtain⟨v9,hk9,hR9⟩:=HWwc.out.w
    obtain⟨A9,c9,rfl⟩:=Kd.R_slice hR9
    have g0:=(blk_cell hk9 0).trans rfl
    have HR9:=hQ hR9
    clear hk9 hR9
    go_wp2_with fail
    go_ret
    refine⟨_,rfl, ?_,HKwc.out⟩
    have:=HR9.out
    unfold lastE bodyE
    simpa [hk1,textE]using this
 ·have hdk:decide (k0=2)=true:=decide_eq_true hk1
  obtain⟨v9,hk9,hR9⟩:=HW4.out.w
  obtain⟨A9,c9,rfl⟩:=Kd.R_slice hR9
  have g0:=(blk_cell hk9 0).trans rfl
  have HR9:=hQ hR9
  clear hk9 hR9
  go_wp2_with fail
  go_ret
  refine⟨_,rfl, ?_,HK4.out⟩
  have:=HR9.out
  unfold lastE
  simpa [hk1,textE]using this
theorem known9_any (v:Int) (w:World):Calls Tryz.prog 34 #[.int .i64 v] w fun e w'=>e= .returned (.bool (decide (1≤v∧v≤3)))∧w=w':=by
  by_cases e1:1≤v
  · have d1:decide (1≤v)=true:=decide_eq_true e1
    have e:decide (1≤v∧v≤3)=decide (v≤3):=by simp[e1]
    rw[e]
    go_enter Tryz.func34,Tryz.ntmps34
    go_wp2_with fail
    go_ret
    exact⟨rfl,rfl⟩
  · have d1:decide (1≤v)=false:=decide_eq_false e1
    have e:decide (1≤v∧v≤3)=false:=by simp[e1]
    rw[e]
    go_enter Tryz.func34,Tryz.ntmps34
    go_wp2_with fail
    go_ret
    exact⟨rfl,rfl⟩
def defE (s:ByteArray):List Int:=0::bytesOf s
def moreE (T T':List ByteArray):List (List Int):=(T'.drop T.length).map defE
theorem moreE_self (T:List ByteArray):moreE T T=[]:=by simp[moreE]
theorem moreE_in {T T':List ByteArray} {s:ByteArray} (h:s∈T'):moreE T (tput T' s)=moreE T T':=by rw[tput_in h]
theorem moreE_out {T T':List ByteArray} {s:ByteArray} (hl:T.length≤T'.length) (h:s ∉ T'):moreE T (tput T' s)=moreE T T'++[defE s]:=by
  rw[tput_out h]
  unfold moreE
  rw[List.drop_append_of_le_length hl]
  simp
theorem tnewOn_take (T ns:List ByteArray) (i:Nat) (h:i<ns.length):tnewOn T (ns.take (i+1))=tput (tnewOn T (ns.take i)) ns[i]:=by
  rw[List.take_succ_eq_append_getElem h,tnewOn_snoc]
theorem tnewOn_ge (T ns:List ByteArray):T.length≤(tnewOn T ns).length:=by
  induction ns generalizing T with
  |nil=>exact Nat.le_refl _
  |cons a r ih=>exact Nat.le_trans (tput_len_ge T a) (ih (tput T a))
abbrev kRows:Kd (List Int):=Kd.slice 5 (Kd.int .u8)
structure PSt (W W':World) (S S':Nat→Prop) (t:Nat) (T':List ByteArray) (bx:Nat) (rec:Array Value) (nv:Value) (ns:List ByteArray) (ov:Value) (rows:List (List Int)):Prop where
  tab:Tab W' S' t T'
  sub: ∀k,S' k→S k∨W.heap.size≤k
  kp:Kp W W' S
  box:W'.heap[bx]? =some (.cells rec 49 (0,0))
  nb: ¬S' bx
  nm:Kd.R Kd.string 9 W' W.heap.size (fun k=>¬S' k) nv ns
  out:Kd.R kRows 22 W' W.heap.size (fun k=>¬S' k) ov rows
theorem PSt.below {W W1 W2:World} {S S':Nat→Prop} {t:Nat} {T':List ByteArray} {bx:Nat} {rec:Array Value} {nv:Value} {ns:List ByteArray} {ov:Value} {rows:List (List Int)}
    (h:PSt W W1 S S' t T' bx rec nv ns ov rows) (hb:Below W1.heap.size W1 W2):PSt W W2 S S' t T' bx rec nv ns ov rows:=
  ⟨h.tab.keep (Kp.of_below hb (fun _=>False)) (fun _ _ h=>h),h.sub,h.kp.below hb,blk_below h.box hb,h.nb,Kd.R_below h.nm hb,Kd.R_below h.out hb⟩
theorem R_wrote {α:Type} {d:Kd α} {e:Nat} {W1 W2:World} {S' S2:Nat→Prop} {base:Nat} {v:Value} {xs:List α} (h:d.R e W1 base (fun k=>¬S' k) v xs) (hk:Kp W1 W2 S') (hs: ∀k,S2 k→S' k∨W1.heap.size≤k):d.R e W2 base (fun k=>¬S2 k) v xs:=
  Kd.R_mono (Kd.R_step (Kd.R_bound h) (fun k hk' hlt=>hk.block k hlt hk'.1)) (fun k hk' h2=>(hs k h2).elim hk'.1 (fun h3=>by have:=hk'.2.2.1;omega))
theorem PSt.wrote {W W1 W2:World} {S S':Nat→Prop} {t:Nat} {T' T2:List ByteArray} {bx:Nat} {rec:Array Value} {nv:Value} {ns:List ByteArray} {ov:Value} {rows:List (List Int)}
    (h:PSt W W1 S S' t T' bx rec nv ns ov rows) (hd:TabDone W1 W2 S' t T2): ∃S2,PSt W W2 S S2 t T2 bx rec nv ns ov rows:=by
  obtain⟨S2,h1,h2,h3⟩:=hd
  have hlt:=blk_lt h.box
  refine⟨S2,h1,fun k hk=> ?_,h.kp.trans h3 h.sub,h3.heap h.box h.nb,fun hk=> ?_,R_wrote h.nm h3 h2,R_wrote h.out h3 h2⟩
  · rcases h2 k hk with h4|h4
    · exact h.sub k h4
    · exact .inr (Nat.le_trans h.kp.size h4)
  · rcases h2 bx hk with h4|h4
    · exact h.nb h4
    · omega
theorem ty_ne_box:(22:Nat)≠49:=by decide
theorem ty_ne_str:(22:Nat)≠9:=by decide
theorem PSt.pushed {W W1 W2:World} {S S':Nat→Prop} {t:Nat} {T':List ByteArray} {bx:Nat} {rec:Array Value} {nv:Value} {ns:List ByteArray} {ov ov2:Value} {rows rows2:List (List Int)}
    (h:PSt W W1 S S' t T' bx rec nv ns ov rows) (hR:Kd.R kRows 22 W2 W.heap.size (fun k=>¬S' k) ov2 rows2) (hg:W1.grownBy W2 ov.ownBlock):PSt W W2 S S' t T' bx rec nv ns ov2 rows2:=by
  obtain⟨inner,how⟩:=Kd.R_own h.out
  have hty: ∀k,ov.ownBlock=some k→W.heap.size≤k∧∃C,W1.heap[k]? =some (.cells C 22 (0,0)):=fun k hk=>⟨own_base how k hk,own_typed how k hk⟩
  have ho:=h.out.1
  have hk:Kp W1 W2 (fun k=>ov.ownBlock=some k):=(Kp.refl W1 _).grown hg (fun k e=> .inl e)
  refine⟨h.tab.keep hk (fun k hs e=>ho k e hs),h.sub,h.kp.trans hk (fun k e=> .inr (hty k e).1),hk.heap h.box (fun e=> ?_),h.nb, ?_,hR⟩
  · obtain⟨_,C,hC⟩:=hty _ e
    rw[h.box]at hC
    injection hC with hC
    injection hC with _ hC
    exact ty_ne_box hC.symm
  · cases hob:ov.ownBlock with
    |none=>exact Kd.R_grown h.nm hg (fun k _=>by rw[hob];simp)
    | some b=>
      obtain⟨_,C,hC⟩:=hty b hob
      have h2:=Kd.R_types h.nm hC (by intro q hq;simp[Kd.string,Kd.scalar]at hq;subst hq;exact ty_ne_str.symm)
      exact Kd.R_mono (Kd.R_grown h2 hg (fun k hk=>by rw[hob];simpa using hk.2)) (fun k hk=>hk.1)
theorem depsOk_facts {v:Int}: ∀(l:List S129) (met:List ByteArray),depsOk v met l=true→∀d∈l,1≤d.f0.size∧d.f0.size≤64∧(d.f2=true→3≤v):=by
  intro l
  induction l with
  |nil=>intro met _ d hd;cases hd
  | cons a r ih=>
    intro met h d hd
    simp only[depsOk,Bool.and_eq_true,Bool.not_eq_true']at h
    rcases List.mem_cons.1 hd with rfl|hd
    · have h1:=h.1.1.1
      unfold nameB at h1
      rw[decide_eq_true_eq]at h1
      refine⟨h1.1,h1.2,fun h2=> ?_⟩
      have h3:=h.1.2
      rw[h2,Bool.true_and,decide_eq_false_iff_not]at h3
      omega
    · exact ih _ h.2 d hd
structure MayFacts (v k0:Int) (x1:ByteArray) (x2:Int) (l:List S129) (x4 x5:Int) (x6:ByteArray):Prop where
  ver:1≤v∧v≤3
  k:k0=1∨k0=2
  t:1≤x1.size∧x1.size≤64
  n:l.length≤16
  d: ∀d∈l,1≤d.f0.size∧d.f0.size≤64∧(d.f2=true→3≤v)
  tag:x6.size≤64∧(v<3→x6.size=0)
  w:v<2→x5=0
  gone:k0=2→x2=0∧l=[]∧x4=0∧x5=0∧x6.size=0
theorem may_facts {v k0:Int} {x1:ByteArray} {x2:Int} {l:List S129} {x4 x5:Int} {x6:ByteArray} (h:mayB v k0 x1 x2 l x4 x5 x6=true):MayFacts v k0 x1 x2 l x4 x5 x6:=by
  unfold mayB nameB at h
  simp only[Bool.and_eq_true,decide_eq_true_eq]at h
  obtain⟨⟨hv,ht⟩,h⟩:=h
  split at h
  · rename_i hk
    unfold depsB at h
    simp only[Bool.and_eq_true,decide_eq_true_eq,Bool.not_eq_true',Bool.or_eq_false_iff,Bool.and_eq_false_iff,decide_eq_false_iff_not]at h
    obtain⟨⟨⟨h1,h2⟩,h3⟩,h4,h5⟩:=h
    exact⟨hv,.inl hk,ht,by omega,depsOk_facts l _ h4,⟨h3,fun hv3=>by rcases h2 with h2|h2<;>omega⟩,fun hv2=>by rcases h1 with h1|h1<;>omega,fun h2=>by omega⟩
  · simp only[Bool.and_eq_true,decide_eq_true_eq]at h
    obtain⟨⟨⟨⟨⟨h1,h2⟩,h3⟩,h4⟩,h5⟩,h6⟩:=h
    have hl:l=[]:=List.eq_nil_of_length_eq_zero h3
    subst hl
    exact⟨hv,.inr h1,ht,by simp,by simp,⟨by omega,fun _=>h6⟩,fun _=>h5,fun _=>⟨h2,rfl,h4,h5,h6⟩⟩
def putF (v:Int) (T:List ByteArray) (k0:Int) (x1:ByteArray) (x2:Int) (l:List S129) (x4 x5:Int) (x6:ByteArray):List (List Int)×List ByteArray×Int:=
  if 1 ≤v∧v≤3 then(if mayB v k0 x1 x2 l x4 x5 x6=true then
      (let T':=if 1<v then tnewOn T (tnew (namesL x1 l x6))else T
       (moreE T T'++[lastE v T' k0 x1 x2 l x4 x5 x6],T',0))
    else([],T,1))else([],T,11)
def PutPost (W:World) (S:Nat→Prop) (t:Nat) (F:List (List Int)×List ByteArray×Int) (e:Ending) (W':World):Prop:=
  ∃v' S',e= .returned (.tuple #[v', .int .i64 F.2.2])∧Tab W' S' t F.2.1∧(∀k,S' k→S k∨W.heap.size≤k)∧Kp W W' S∧Kd.R kRows 22 W' W.heap.size (fun k=>¬S' k) v' F.1
theorem names_few {x1:ByteArray} {l:List S129} {x6:ByteArray} (h1:x1.size≤64) (hn:l.length≤16) (hd: ∀d∈l,d.f0.size≤64) (h6:x6.size≤64):(tnew (namesL x1 l x6)).length≤18∧∀s∈tnew (namesL x1 l x6),s.size≤64:=by
  refine⟨Nat.le_trans (tnew_len _) ?_,fun s hs=> ?_⟩
  · unfold namesL
    split<;>simp<;>omega
  · rw [mem_tnew]at hs
    unfold namesL at hs
    rcases List.mem_append.1 hs with hs|hs
    · rcases List.mem_cons.1 hs with rfl|hs
      · exact h1
      · obtain⟨d,hd1,rfl⟩:=List.mem_map.1 hs
        exact hd d hd1
    · split at hs
      · cases hs
      · simp at hs;subst hs;exact h6
theorem vbI_len (n:Int) (h:n<18446744073709551616):(ints (vb n.toNat)).length≤10:=by
  rw[show(ints (vb n.toNat)).length=(vb n.toNat).length by simp[ints]]
  exact vb_len10 _ (by omega)
theorem textE_len (v:Int) (T:List ByteArray) (hT:T.length≤1000000) (s:ByteArray) (h:s.size≤64):(textE v T s).length≤74:=by
  unfold textE
  split
  · rw[blob_len];have:=vb_len10 s.size (by omega);omega
  · unfold numE
    have:=vbI_len (atI T s) (by have:=(atI_bd T s hT).2;omega)
    omega
theorem depE_len (v:Int) (T:List ByteArray) (hT:T.length≤1000000) (d:S129) (h:d.f0.size≤64):(depE v T d).length≤74:=by
  unfold depE
  split
  · exact textE_len v T hT d.f0 h
  · have:=vbI_len (2*atI T d.f0+(if d.f2=true then 1 else 0)) (by have:=(atI_bd T d.f0 hT).2;split<;>omega)
    omega
theorem depsE_len (v:Int) (T:List ByteArray) (hT:T.length≤1000000) (l:List S129) (h: ∀d∈l,d.f0.size≤64∧d.f1<18446744073709551616):(depsE v T l).length≤84*l.length:=by
  induction l with
  |nil=>simp[depsE]
  | cons a r ih=>
    have h1:=ih (fun d hd=>h d (List.mem_cons_of_mem _ hd))
    have h2:=h a List.mem_cons_self
    have h3:=depE_len v T hT a h2.1
    have h4:=vbI_len a.f1 h2.2
    have e:depsE v T (a::r)=(depE v T a++ints (vb a.f1.toNat))++depsE v T r:=by simp[depsE]
    rw[e,List.length_append,List.length_append,List.length_cons]
    omega
theorem bodyE_len (v:Int) (T:List ByteArray) (hT:T.length≤1000000) (x2:Int) (l:List S129) (x4 x5:Int) (x6:ByteArray) (hn:l.length≤16) (h: ∀d∈l,d.f0.size≤64∧d.f1<18446744073709551616)
    (h2:x2<18446744073709551616) (h4:x4<18446744073709551616) (h5:x5<18446744073709551616):(bodyE v T x2 l x4 x5 x6).length≤1500:=by
  have a1:=vbI_len x2 h2
  have a2:=vbI_len (l.length:Int) (by omega)
  have a3:=depsE_len v T hT l h
  have a4:=vbI_len x4 h4
  have a5:=vbI_len x5 h5
  have a6:=vbI_len (atI T x6+1) (by have:=(atI_bd T x6 hT).2;omega)
  have a7:(ints (vb 0)).length≤10:=vbI_len 0 (by omega)
  rw[Int.toNat_natCast]at a2
  unfold bodyE tagE
  simp only[List.length_append]
  split<;>split<;>(try split)<;>(try simp only[List.length_nil])<;>omega
theorem info_bs9:(Tryz.prog.info? 22).map (fun i=>(i.zero,i.size,i.bytes))=some (some (.slice none 0 0),1,24):=by kernel_rfl
theorem info_u89:(Tryz.prog.info? 5).map (fun i=>(i.zero,i.size,i.bytes))=some (some (.int .u8 0),1,1):=by kernel_rfl
theorem row_val {w:World} {b:Nat} {e:TypeId} {v:Value} {α:Type} (y:α) (hb:w.heap[b]? =some (.cells #[v] e (0,0))):ReadsRow (fun x cs=>x=y∧cs=[v]) 1 w (some ⟨b,0,none⟩) 1 [y]:=by
 refine⟨rfl,by omega,fun _=>⟨_,rfl,fun j p hj=> ?_⟩⟩
 match j with
 | 0=>
  obtain rfl:y=p:=by simpa using hj
  refine⟨_,rfl,⟨rfl,rfl⟩,fun i u hu=> ?_⟩
  rw[Nat.zero_mul,Nat.zero_add]
  have e:(⟨b,0,none⟩:Addr).add i=⟨b,i,none⟩:=add_plain b i
  rw[e,blk_cell hb i]
  simpa using hu
 |j+1=>simp at hj
theorem Wr.fresh {W:World} {S:Nat→Prop} {t:Nat} {T:List ByteArray} (h:Tab W S t T):
  Wr W.heap.size (W.alloc (.cells #[.slice none 0 0,.pointer (some ⟨t,0,none⟩)] 97)) S W.heap.size t T []:=
 ⟨⟨_,heap_new _ _,Kd.R_nil _ _ _ _ _⟩,by rw[heap_size_alloc];omega,h.keep (Kp.of_below ((Below.refl _ _).alloc (Nat.le_refl _) _) (fun _=>False)) (fun _ _ h=>h),fun hs=>absurd (h.lt _ hs) (by omega)⟩
theorem sputok1_any {W:World} {S:Nat→Prop} {t:Nat} {T:List ByteArray} (h:Tab W S t T) (k0:Int) (x1:ByteArray) (x2:Int) (A:Option Addr) (c:Nat) (l:List S129) (x4 x5:Int) (x6:ByteArray)
  (hrow: ∀W',Kp W W' S→Kd.C k129 W' A l.length l) (hc:l.length≤c) (hok:RecOk x1 l x6) (hm:mayB 1 k0 x1 x2 l x4 x5 x6=true) (h2:0≤x2∧x2<18446744073709551616) (h4:0≤x4∧x4<18446744073709551616) (h5:0≤x5∧x5<18446744073709551616) (hdr: ∀d∈l,0≤d.f1∧d.f1<18446744073709551616) (hT:T.length≤100000):
  Calls Tryz.prog 18 #[.int .i64 1,.pointer (some ⟨t,0,none⟩),.agg #[.int .i64 k0,.string x1,.int .u64 x2,.slice A l.length c,.int .u64 x4,.int .u64 x5,.string x6]] W (PutPost W S t ((moreE T T)++[lastE 1 T k0 x1 x2 l x4 x5 x6],T,0)):=by
 obtain⟨w1,hw1⟩:=eX (W.alloc (.cells #[.int .i64 k0,.string x1,.int .u64 x2,.slice A l.length c,.int .u64 x4,.int .u64 x5,.string x6] 49))
 have hb1:Below W.heap.size W w1:=by rw[←hw1];exact(Below.refl _ _).alloc (Nat.le_refl _) _
 have hk5:w1.heap[W.heap.size]? =some (.cells #[.int .i64 k0,.string x1,.int .u64 x2,.slice A l.length c,.int .u64 x4,.int .u64 x5,.string x6] 49 (0,0)):=by rw[←hw1];exact heap_new _ _
 obtain⟨b5,hb5⟩:=eX (W.heap.size)
 rw[hb5]at hk5
 have HM:=hQ (may_facts hm)
 have HMY:=hQ (may_any 1 k0 x1 x2 A c l x4 x5 x6 w1 (hrow _ (Kp.of_below hb1 _)) hc hok)
 rw[hm]at HMY
 have HH:=hQ h
 have HRO:=hQ hrow
 have HDR:=hQ hdr
 have HB1:=hQ hb1
 have HK5:=hQ hk5
 have HW1:=hQ hw1
 have HB5:=hQ hb5
 have HKN:=hQ (known9_any 1 w1)
 have HOK:=hQ hok
 clear h hrow hdr hm hb1 hk5 hw1 hb5 hok
 go_enter Tryz.func18,Tryz.ntmps18
 go_wp2_with fail
 rw[HW1.out,HB5.out]
 refine HKN.out.mono ?_
 rintro e w9 ⟨rfl,rfl⟩
 obtain⟨c0,c1,c2,c3,c4,c5,c6⟩:=facts7 HK5.out
 go_wp2_with fail
 clear c0 c1 c2 c3 c4 c5 c6
 refine HMY.out.mono ?_
 rintro e w2 ⟨rfl,hb⟩
 have HB2:=hQ (HB1.out.trans (hb.mono HB1.out.size))
 have HK2:=hQ (blk_below HK5.out hb)
 clear hb HMY HKN
 obtain ⟨S',HP⟩: ∃S',Hid (PSt W w2 S S' t T b5 #[.int .i64 k0,.string x1,.int .u64 x2,.slice A l.length c,.int .u64 x4,.int .u64 x5,.string x6] (.slice none 0 0) [] (.slice none 0 0) []):=
  ⟨S,hQ ⟨HH.out.keep (Kp.of_below HB2.out (fun _=>False)) (fun _ _ h=>h),fun k hk=> .inl hk,Kp.of_below HB2.out _,HK2.out,fun hs=>by have:=HH.out.lt _ hs;have:=HB5.out;omega,Kd.R_nil _ _ _ _ _,Kd.R_nil _ _ _ _ _⟩⟩
 clear HK2 HB2
 generalize w2=wr at*
 have hkw:(wr.alloc (.cells #[.slice none 0 0,.pointer (some ⟨t,0,none⟩)] 97)).heap[b5]? =some (.cells #[.int .i64 k0,.string x1,.int .u64 x2,.slice A l.length c,.int .u64 x4,.int .u64 x5,.string x6] 49 (0,0)):=blk_alloc HP.out.box _
 obtain⟨c0,c1,c2,c3,c4,c5,c6⟩:=facts7 hkw
 have HL:=hQ (wlast1_any (Wr.fresh HP.out.tab) k0 x1 x2 A c l x4 x5 x6 (HRO.out _ (HP.out.kp.alloc _)) hc HM.out.k (by have:=HM.out.t;omega) (fun d hd=>⟨by have:=(HM.out.d d hd).2.1;omega,HDR.out d hd⟩) h2 h4 h5 (by have:=HM.out.tag;simp only[maxLen];omega) (by have:=HM.out.n;omega) (by
  have e1:=textE_len 1 T (HP.out.tab.len) x1 HM.out.t.2
  have e2:=bodyE_len 1 T (HP.out.tab.len) x2 l x4 x5 x6 HM.out.n (fun d hd=>⟨(HM.out.d d hd).2.1,(HDR.out d hd).2⟩) h2.2 h4.2 h5.2
  have e3:(textE 1 T x1).length=(blob x1).length:=rfl
  omega))
 clear hkw
 go_wp2_with fail
 clear c0 c1 c2 c3 c4 c5 c6
 refine HL.out.mono ?_
 rintro e w9 ⟨v9,rfl,hR9,hk9⟩
 have hbl:Below wr.heap.size wr w9:=(Kp.trans (Kp.of_below ((Below.refl _ _).alloc (Nat.le_refl _) _) (fun k=>k=wr.heap.size)) hk9 (fun _ h=> .inl h)).to_below (fun k hk=>by omega)
 have HP9:=hQ (HP.out.below hbl)
 obtain⟨A9,c9,rfl⟩:=Kd.R_slice hR9
 have HR9:=hQ hR9
 have HZ:=hQ hbl.size
 clear hR9 hk9 hbl HL
 go_wp2_with (at_builtin;refine Halt.mk ?_)
 refine Halt.of ?_
 generalize hLE:lastE 1 T k0 x1 x2 l x4 x5 x6=LE at HR9 ⊢
 have hb10:Below w9.heap.size w9 (w9.alloc (.cells #[.slice A9 LE.length c9] 22)):=(Below.refl _ _).alloc (Nat.le_refl _) _
 have hkN:(w9.alloc (.cells #[.slice A9 LE.length c9] 22)).heap[w9.heap.size]? =some (.cells #[.slice A9 LE.length c9] 22 (0,0)):=heap_new _ _
 have hP10:=HP9.out.below hb10
 have hR10:=Kd.R_below HR9.out hb10
 have HS1:=HP.out.kp.size
 have hrn:([]:List (List Int)).length≤1000000:=by
  have:=HP.out.tab.len
  simp
 refine Kd.R_append_rows kRows (w0:=w9.alloc (.cells #[.slice A9 LE.length c9] 22)) W.heap.size rfl (.tmp 51) (.tmp 56) 40 22 (.slice none 0 0) 24 rfl Tryz.underlying40 info_bs9 rfl (by decide) (by omega) _ ([]:List (List Int)) [LE] _ _ _ (fun k=>¬S' k) (fun k=>wr.heap.size≤k) rfl rfl hP10.out (row_val LE hkN) ?_ ?_ (fun k hk hs=>absurd (hP10.tab.lt k hs) (by omega)) (Below.refl _ _) (by have:=hb10.size;have:=HZ.out;omega) (by omega) ?_
 ·rintro _ _ ⟨rfl,rfl⟩
  exact⟨_,rfl,Kd.R_lower (Kd.R_mono (Kd.R_bound hR10) (fun k hk=>hk.2.1)) HS1⟩
 ·intro k hk
  refine⟨fun hs=>absurd (HP.out.tab.lt k hs) (by omega),fun e=> ?_⟩
  have hlt:=own_lt (Kd.R_own HP.out.out).choose_spec k e.symm
  omega
 intro v11 w11 hR11 _ hg11 _
 obtain⟨RR,hRR⟩:=eX (([]:List (List Int))++[LE])
 rw[hRR]at hR11
 have HRR:=hQ (And.intro hLE hRR)
 have hP11:=hP10.pushed hR11 hg11
 have HPE:=hQ hP11
 obtain⟨A11,c11,rfl⟩:=Kd.R_slice hR11
 clear hR11 hg11 hP11 hP10 hR10 hkN hb10 hRR hLE
 go_wp2_with fail
 go_ret2
 refine⟨_,S',rfl,HPE.out.tab,HPE.out.sub,HPE.out.kp, ?_⟩
 rw[HRR.out.1,moreE_self,HRR.out.2]
 exact HPE.out.out
theorem sputok2_any {W:World} {S:Nat→Prop} {t:Nat} {T:List ByteArray} (h:Tab W S t T) (k0:Int) (x1:ByteArray) (x2:Int) (A:Option Addr) (c:Nat) (l:List S129) (x4 x5:Int) (x6:ByteArray)
  (hrow: ∀W',Kp W W' S→Kd.C k129 W' A l.length l) (hc:l.length≤c) (hok:RecOk x1 l x6) (hm:mayB 2 k0 x1 x2 l x4 x5 x6=true) (h2:0≤x2∧x2<18446744073709551616) (h4:0≤x4∧x4<18446744073709551616) (h5:0≤x5∧x5<18446744073709551616) (hdr: ∀d∈l,0≤d.f1∧d.f1<18446744073709551616) (hT:T.length≤100000):
  Calls Tryz.prog 18 #[.int .i64 2,.pointer (some ⟨t,0,none⟩),.agg #[.int .i64 k0,.string x1,.int .u64 x2,.slice A l.length c,.int .u64 x4,.int .u64 x5,.string x6]] W (PutPost W S t ((moreE T (tnewOn T (tnew (namesL x1 l x6))))++[lastE 2 (tnewOn T (tnew (namesL x1 l x6))) k0 x1 x2 l x4 x5 x6],(tnewOn T (tnew (namesL x1 l x6))),0)):=by
 obtain⟨w1,hw1⟩:=eX (W.alloc (.cells #[.int .i64 k0,.string x1,.int .u64 x2,.slice A l.length c,.int .u64 x4,.int .u64 x5,.string x6] 49))
 have hb1:Below W.heap.size W w1:=by rw[←hw1];exact(Below.refl _ _).alloc (Nat.le_refl _) _
 have hk5:w1.heap[W.heap.size]? =some (.cells #[.int .i64 k0,.string x1,.int .u64 x2,.slice A l.length c,.int .u64 x4,.int .u64 x5,.string x6] 49 (0,0)):=by rw[←hw1];exact heap_new _ _
 obtain⟨b5,hb5⟩:=eX (W.heap.size)
 rw[hb5]at hk5
 have HM:=hQ (may_facts hm)
 have HMY:=hQ (may_any 2 k0 x1 x2 A c l x4 x5 x6 w1 (hrow _ (Kp.of_below hb1 _)) hc hok)
 rw[hm]at HMY
 have HH:=hQ h
 have HRO:=hQ hrow
 have HDR:=hQ hdr
 have HB1:=hQ hb1
 have HK5:=hQ hk5
 have HW1:=hQ hw1
 have HB5:=hQ hb5
 have HKN:=hQ (known9_any 2 w1)
 have HOK:=hQ hok
 clear h hrow hdr hm hb1 hk5 hw1 hb5 hok
 go_enter Tryz.func18,Tryz.ntmps18
 go_wp2_with fail
 rw[HW1.out,HB5.out]
 refine HKN.out.mono ?_
 rintro e w9 ⟨rfl,rfl⟩
 obtain⟨c0,c1,c2,c3,c4,c5,c6⟩:=facts7 HK5.out
 go_wp2_with fail
 clear c0 c1 c2 c3 c4 c5 c6
 refine HMY.out.mono ?_
 rintro e w2 ⟨rfl,hb⟩
 have HB2:=hQ (HB1.out.trans (hb.mono HB1.out.size))
 have HK2:=hQ (blk_below HK5.out hb)
 clear hb HMY HKN
 obtain⟨c0,c1,c2,c3,c4,c5,c6⟩:=facts7 HK2.out
 go_wp2_with fail
 clear c0 c1 c2 c3 c4 c5 c6
 refine(names_any k0 x1 x2 A c l x4 x5 x6 w2 (HRO.out _ (Kp.of_below HB2.out _)) hc HOK.out.n HOK.out.d HOK.out.t HOK.out.tag).mono ?_
 rintro e w3 ⟨v3,rfl,hR3,hb⟩
 have hns:=names_few (x1:=x1) (l:=l) (x6:=x6) HM.out.t.2 HM.out.n (fun d hd=>(HM.out.d d hd).2.1) HM.out.tag.1
 generalize tnew (namesL x1 l x6)=ns at*
 obtain⟨An,cn,rfl⟩:=Kd.R_slice hR3
 have hb3:=HB2.out.trans (hb.mono HB2.out.size)
 have hlt9:=HH.out.lt
 have hp0:PSt W w3 S S t T b5 #[.int .i64 k0,.string x1,.int .u64 x2,.slice A l.length c,.int .u64 x4,.int .u64 x5,.string x6] (.slice An ns.length cn) ns (.slice none 0 0) []:=
  ⟨HH.out.keep (Kp.of_below hb3 (fun _=>False)) (fun _ _ h=>h),fun k hk=> .inl hk,Kp.of_below hb3 _,blk_below HK2.out hb,fun hs=>by have:=hlt9 _ hs;have:=HB5.out;omega,Kd.R_lower (Kd.R_mono (Kd.R_bound hR3) (fun k hk hs=>by have h8:=hlt9 k hs;have h9:=hk.2.1;have:=HB2.out.size;omega)) HB2.out.size,Kd.R_nil _ _ _ _ _⟩
 have HP0:=hQ hp0
 have HNS:=hQ hns
 clear hp0 hR3 hb hb3 hlt9 hns
 go_wp2_with fail
 go_loopw [8,30] (fun u8 u30 wr=>∃(i:Nat) (S':Nat→Prop),i≤ns.length∧u30= .int .i64 i∧Hid (PSt W wr S S' t (tnewOn T (ns.take i)) b5 #[.int .i64 k0,.string x1,.int .u64 x2,.slice A l.length c,.int .u64 x4,.int .u64 x5,.string x6] (.slice An ns.length cn) ns u8 (moreE T (tnewOn T (ns.take i))))) (fun _ v _=>ns.length-(intOf v).toNat)
 case atStart=>exact⟨0,S,by omega,rfl,hQ (by rw[List.take_zero,show tnewOn T []=T from rfl,moreE_self];exact HP0.out)⟩
 case round=>
  obtain⟨i,S',hi,rfl,HP⟩:=hrel
  by_cases hlt:i<ns.length
  ·have hdl:decide ((i:Int)<(ns.length:Int))=true:=decide_eq_true (by omega)
   obtain⟨ad,hA,hcell⟩:=Kd.at_string (Kd.R_reads' HP.out.nm).2.2 (i:Int) (by omega) (by omega)
   subst hA
   rw[Int.toNat_natCast]at hcell
   obtain⟨s,hs⟩:=eX (ns[i])
   have hrd:rdOf ByteArray.empty ns (i:Int)=s:=by simp[rdOf,hlt,hs]
   rw[hrd]at hcell
   have hsz:=HNS.out.2 s (hs ▸ List.getElem_mem _)
   have htk:=tnewOn_take T ns i hlt
   rw[hs]at htk
   have hll:=tnewOn_len T (ns.take i)
   have hge:=tnewOn_ge T (ns.take i)
   rw[List.length_take]at hll
   have hn18:=HNS.out.1
   generalize tnewOn T (ns.take i)=L at*
   have HID:=hQ (id_any HP.out.tab s (by simp only[maxLen];omega) (by omega))
   have HTK:=hQ htk
   have HSZ:=hQ (And.intro hsz (And.intro hll hge))
   clear hrd hs htk hsz hll hge
   by_cases hin:s∈L
   ·rw[isIn_iff.2 hin,Bool.not_true]at HID
    have HMO:=hQ (And.intro (moreE_in (T:=T) hin) hin)
    generalize posOf L s=q at HID
    clear hin
    go_wp2_with fail
    clear hcell
    refine HID.out.mono ?_
    rintro e w5 ⟨rfl,hd⟩
    obtain⟨S2,hp⟩:=HP.out.wrote hd
    have HP2:=hQ hp
    clear hd hp
    go_wp2_with fail
    go_roundw
    case rel=>exact⟨i+1,S2,by omega,by go_num,hQ (by rw[HTK.out,HMO.out.1];exact HP2.out)⟩
    case measure=>simp[intOf];omega
   ·rw [isIn_ne.2 hin,Bool.not_false]at HID
    have HMO:=hQ (moreE_out (T:=T) HSZ.out.2.2 hin)
    generalize posOf L s=q at HID
    clear hin
    go_wp2_with fail
    clear hcell
    refine HID.out.mono ?_
    rintro e w5 ⟨rfl,hd⟩
    obtain⟨S2,hp⟩:=HP.out.wrote hd
    have HP2:=hQ hp
    have hmr:(moreE T L).length≤1000000:=by unfold moreE;rw[List.length_map,List.length_drop];have:=HSZ.out.2.1;omega
    clear hd hp HID
    generalize moreE T L=rs at*
    obtain⟨Ao,co,rfl⟩:=Kd.R_slice HP2.out.out
    go_wp2_with (at_builtin;refine Halt.mk ?_)
    refine Halt.of ?_
    have hb6:Below w5.heap.size w5 (w5.alloc (.cells #[.int .u8 0] 5)):=(Below.refl _ _).alloc (Nat.le_refl _) _
    have hk6:(w5.alloc (.cells #[.int .u8 0] 5)).heap[w5.heap.size]? =some (.cells #[.int .u8 0] 5 (0,0)):=heap_new _ _
    have hR6:=R_block .u8 (w5.alloc (.cells #[.int .u8 0] 5)) w5.heap.size w5.heap.size 5 [0] (fun _=>True) hk6 (Nat.le_refl _) (by simp[maxLen]) trivial
    refine print_append_str (w0:=w5) w5.heap.size rfl (.tmp 42) (.tmp 43) 22 9 5 rfl Tryz.underlying22 Tryz.underlying9 info_u89 _ [0] s rfl rfl (Kd.own_of_R hR6) hb6 hb6.size (by have:=HSZ.out.1;simp only[List.length_cons,List.length_nil];omega) ?_
    intro v7 w7 hO7 hb7 _
    have hR7:Kd.R (Kd.int .u8) 5 w7 w5.heap.size (fun _=>True) v7 ([0]++bytesOf s):=Kd.R_of_own hO7 (fun _ _=>trivial)
    have HW5:=hQ HP2.out.kp.size
    rw[show [(0:Int)]++bytesOf s=defE s from rfl]at hR7
    obtain⟨A7,c7,rfl⟩:=Kd.R_slice hR7
    have hdl7:(defE s).length≤1000000:=by unfold defE;rw[List.length_cons,bytesOf_length];have:=HSZ.out.1;omega
    have HR7:=hQ hR7
    have HB7:=hQ hb7
    have HOLD:=hQ (fun k (hk:(Value.slice Ao rs.length co).ownBlock=some k)=>own_lt (Kd.R_own HP2.out.out).choose_spec k hk)
    have HOT:=hQ (fun k (hk:S2 k)=>HP2.out.tab.lt k hk)
    have HP7:=hQ (HP2.out.below hb7)
    have HDF:=hQ (rfl:defE s=defE s)
    clear hO7 hR7 hb7 hR6 hk6 hb6 HP2
    generalize hde:defE s=D at HR7 HMO ⊢
    go_wp2_with (at_builtin;refine Halt.mk ?_)
    refine Halt.of ?_
    have hb8:Below w7.heap.size w7 (w7.alloc (.cells #[.slice A7 D.length c7] 22)):=(Below.refl _ _).alloc (Nat.le_refl _) _
    have hk8:(w7.alloc (.cells #[.slice A7 D.length c7] 22)).heap[w7.heap.size]? =some (.cells #[.slice A7 D.length c7] 22 (0,0)):=heap_new _ _
    have hP8:=HP7.out.below hb8
    have hR8:=Kd.R_below HR7.out hb8
    have HS1:=HP7.out.kp.size
    have HS5:=HP.out.kp.size
    refine Kd.R_append_rows kRows (w0:=w7.alloc (.cells #[.slice A7 D.length c7] 22)) W.heap.size rfl (.tmp 41) (.tmp 45) 40 22 (.slice none 0 0) 24 rfl Tryz.underlying40 info_bs9 rfl (by decide) (by omega) _ rs [D] _ _ _ (fun k=>¬S2 k) (fun k=>w5.heap.size≤k) rfl rfl hP8.out (row_val D hk8) ?_ ?_ (fun k hk hs=>absurd (hP8.tab.lt k hs) (by omega)) (Below.refl _ _) (by have:=hb8.size;omega) (by omega) ?_
    ·rintro _ _ ⟨rfl,rfl⟩
     exact⟨_,rfl,Kd.R_lower (Kd.R_mono (Kd.R_bound hR8) (fun k hk=>hk.2.1)) HW5.out⟩
    ·intro k hk
     exact⟨fun hs=>absurd (HOT.out k hs) (by omega),fun e=>absurd (HOLD.out k e.symm) (by omega)⟩
    intro v11 w11 hR11 _ hg11 _
    have HP11:=hQ (hP8.pushed hR11 hg11)
    clear hR11 hg11 hP8 hR8 hk8 hb8
    go_wp2_with fail
    go_roundw
    case rel=>exact⟨i+1,S2,by omega,by go_num,hQ (by rw[HTK.out,HMO.out];exact HP11.out)⟩
    case measure=>simp[intOf];omega
  ·obtain rfl:i=ns.length:=by omega
   rw[List.take_length]at HP
   have hdl:decide ((ns.length:Int)<(ns.length:Int))=false:=decide_eq_false (by omega)
   obtain⟨Ao,co,rfl⟩:=Kd.R_slice HP.out.out
   have hkw:(wr.alloc (.cells #[.slice none 0 0,.pointer (some ⟨t,0,none⟩)] 97)).heap[b5]? =some (.cells #[.int .i64 k0,.string x1,.int .u64 x2,.slice A l.length c,.int .u64 x4,.int .u64 x5,.string x6] 49 (0,0)):=blk_alloc HP.out.box _
   obtain⟨c0,c1,c2,c3,c4,c5,c6⟩:=facts7 hkw
   have HL:=hQ (wlast2_any (Wr.fresh HP.out.tab) k0 x1 x2 A c l x4 x5 x6 (HRO.out _ (HP.out.kp.alloc _)) hc HM.out.k (by have:=HM.out.t;omega) (fun d hd=>⟨by have:=(HM.out.d d hd).2.1;omega,HDR.out d hd⟩) h2 h4 h5 (by have:=HM.out.tag;simp only[maxLen];omega) (by have:=HM.out.n;omega) (by
    have e1:=textE_len 2 (tnewOn T ns) (HP.out.tab.len) x1 HM.out.t.2
    have e2:=bodyE_len 2 (tnewOn T ns) (HP.out.tab.len) x2 l x4 x5 x6 HM.out.n (fun d hd=>⟨(HM.out.d d hd).2.1,(HDR.out d hd).2⟩) h2.2 h4.2 h5.2
    have e3:(textE 2 (tnewOn T ns) x1).length=(numE (tnewOn T ns) x1).length:=rfl
    omega))
   clear hkw
   go_wp2_with fail
   clear c0 c1 c2 c3 c4 c5 c6
   refine HL.out.mono ?_
   rintro e w9 ⟨v9,rfl,hR9,hk9⟩
   have hbl:Below wr.heap.size wr w9:=(Kp.trans (Kp.of_below ((Below.refl _ _).alloc (Nat.le_refl _) _) (fun k=>k=wr.heap.size)) hk9 (fun _ h=> .inl h)).to_below (fun k hk=>by omega)
   have HP9:=hQ (HP.out.below hbl)
   obtain⟨A9,c9,rfl⟩:=Kd.R_slice hR9
   have HR9:=hQ hR9
   have HZ:=hQ hbl.size
   clear hR9 hk9 hbl HL
   go_wp2_with (at_builtin;refine Halt.mk ?_)
   refine Halt.of ?_
   generalize hLE:lastE 2 (tnewOn T ns) k0 x1 x2 l x4 x5 x6=LE at HR9 ⊢
   have hb10:Below w9.heap.size w9 (w9.alloc (.cells #[.slice A9 LE.length c9] 22)):=(Below.refl _ _).alloc (Nat.le_refl _) _
   have hkN:(w9.alloc (.cells #[.slice A9 LE.length c9] 22)).heap[w9.heap.size]? =some (.cells #[.slice A9 LE.length c9] 22 (0,0)):=heap_new _ _
   have hP10:=HP9.out.below hb10
   have hR10:=Kd.R_below HR9.out hb10
   have HS1:=HP.out.kp.size
   have hrn:(moreE T (tnewOn T ns)).length≤1000000:=by
    have:=HP.out.tab.len
    unfold moreE;rw[List.length_map,List.length_drop];omega
   refine Kd.R_append_rows kRows (w0:=w9.alloc (.cells #[.slice A9 LE.length c9] 22)) W.heap.size rfl (.tmp 51) (.tmp 56) 40 22 (.slice none 0 0) 24 rfl Tryz.underlying40 info_bs9 rfl (by decide) (by omega) _ (moreE T (tnewOn T ns)) [LE] _ _ _ (fun k=>¬S' k) (fun k=>wr.heap.size≤k) rfl rfl hP10.out (row_val LE hkN) ?_ ?_ (fun k hk hs=>absurd (hP10.tab.lt k hs) (by omega)) (Below.refl _ _) (by have:=hb10.size;have:=HZ.out;omega) (by omega) ?_
   ·rintro _ _ ⟨rfl,rfl⟩
    exact⟨_,rfl,Kd.R_lower (Kd.R_mono (Kd.R_bound hR10) (fun k hk=>hk.2.1)) HS1⟩
   ·intro k hk
    refine⟨fun hs=>absurd (HP.out.tab.lt k hs) (by omega),fun e=> ?_⟩
    have hlt:=own_lt (Kd.R_own HP.out.out).choose_spec k e.symm
    omega
   intro v11 w11 hR11 _ hg11 _
   obtain⟨RR,hRR⟩:=eX ((moreE T (tnewOn T ns))++[LE])
   rw[hRR]at hR11
   have HRR:=hQ (And.intro hLE hRR)
   have hP11:=hP10.pushed hR11 hg11
   have HPE:=hQ hP11
   obtain⟨A11,c11,rfl⟩:=Kd.R_slice hR11
   clear hR11 hg11 hP11 hP10 hR10 hkN hb10 hRR hLE
   go_wp2_with fail
   go_ret2
   refine⟨_,S',rfl,HPE.out.tab,HPE.out.sub,HPE.out.kp, ?_⟩
   rw[HRR.out.1,HRR.out.2]
   exact HPE.out.out
theorem sputok3_any {W:World} {S:Nat→Prop} {t:Nat} {T:List ByteArray} (h:Tab W S t T) (k0:Int) (x1:ByteArray) (x2:Int) (A:Option Addr) (c:Nat) (l:List S129) (x4 x5:Int) (x6:ByteArray)
  (hrow: ∀W',Kp W W' S→Kd.C k129 W' A l.length l) (hc:l.length≤c) (hok:RecOk x1 l x6) (hm:mayB 3 k0 x1 x2 l x4 x5 x6=true) (h2:0≤x2∧x2<18446744073709551616) (h4:0≤x4∧x4<18446744073709551616) (h5:0≤x5∧x5<18446744073709551616) (hdr: ∀d∈l,0≤d.f1∧d.f1<18446744073709551616) (hT:T.length≤100000):
  Calls Tryz.prog 18 #[.int .i64 3,.pointer (some ⟨t,0,none⟩),.agg #[.int .i64 k0,.string x1,.int .u64 x2,.slice A l.length c,.int .u64 x4,.int .u64 x5,.string x6]] W (PutPost W S t ((moreE T (tnewOn T (tnew (namesL x1 l x6))))++[lastE 3 (tnewOn T (tnew (namesL x1 l x6))) k0 x1 x2 l x4 x5 x6],(tnewOn T (tnew (namesL x1 l x6))),0)):=by
 obtain⟨w1,hw1⟩:=eX (W.alloc (.cells #[.int .i64 k0,.string x1,.int .u64 x2,.slice A l.length c,.int .u64 x4,.int .u64 x5,.string x6] 49))
 have hb1:Below W.heap.size W w1:=by rw[←hw1];exact(Below.refl _ _).alloc (Nat.le_refl _) _
 have hk5:w1.heap[W.heap.size]? =some (.cells #[.int .i64 k0,.string x1,.int .u64 x2,.slice A l.length c,.int .u64 x4,.int .u64 x5,.string x6] 49 (0,0)):=by rw[←hw1];exact heap_new _ _
 obtain⟨b5,hb5⟩:=eX (W.heap.size)
 rw[hb5]at hk5
 have HM:=hQ (may_facts hm)
 have HMY:=hQ (may_any 3 k0 x1 x2 A c l x4 x5 x6 w1 (hrow _ (Kp.of_below hb1 _)) hc hok)
 rw[hm]at HMY
 have HH:=hQ h
 have HRO:=hQ hrow
 have HDR:=hQ hdr
 have HB1:=hQ hb1
 have HK5:=hQ hk5
 have HW1:=hQ hw1
 have HB5:=hQ hb5
 have HKN:=hQ (known9_any 3 w1)
 have HOK:=hQ hok
 clear h hrow hdr hm hb1 hk5 hw1 hb5 hok
 go_enter Tryz.func18,Tryz.ntmps18
 go_wp2_with fail
 rw[HW1.out,HB5.out]
 refine HKN.out.mono ?_
 rintro e w9 ⟨rfl,rfl⟩
 obtain⟨c0,c1,c2,c3,c4,c5,c6⟩:=facts7 HK5.out
 go_wp2_with fail
 clear c0 c1 c2 c3 c4 c5 c6
 refine HMY.out.mono ?_
 rintro e w2 ⟨rfl,hb⟩
 have HB2:=hQ (HB1.out.trans (hb.mono HB1.out.size))
 have HK2:=hQ (blk_below HK5.out hb)
 clear hb HMY HKN
 obtain⟨c0,c1,c2,c3,c4,c5,c6⟩:=facts7 HK2.out
 go_wp2_with fail
 clear c0 c1 c2 c3 c4 c5 c6
 refine(names_any k0 x1 x2 A c l x4 x5 x6 w2 (HRO.out _ (Kp.of_below HB2.out _)) hc HOK.out.n HOK.out.d HOK.out.t HOK.out.tag).mono ?_
 rintro e w3 ⟨v3,rfl,hR3,hb⟩
 have hns:=names_few (x1:=x1) (l:=l) (x6:=x6) HM.out.t.2 HM.out.n (fun d hd=>(HM.out.d d hd).2.1) HM.out.tag.1
 generalize tnew (namesL x1 l x6)=ns at*
 obtain⟨An,cn,rfl⟩:=Kd.R_slice hR3
 have hb3:=HB2.out.trans (hb.mono HB2.out.size)
 have hlt9:=HH.out.lt
 have hp0:PSt W w3 S S t T b5 #[.int .i64 k0,.string x1,.int .u64 x2,.slice A l.length c,.int .u64 x4,.int .u64 x5,.string x6] (.slice An ns.length cn) ns (.slice none 0 0) []:=
  ⟨HH.out.keep (Kp.of_below hb3 (fun _=>False)) (fun _ _ h=>h),fun k hk=> .inl hk,Kp.of_below hb3 _,blk_below HK2.out hb,fun hs=>by have:=hlt9 _ hs;have:=HB5.out;omega,Kd.R_lower (Kd.R_mono (Kd.R_bound hR3) (fun k hk hs=>by have h8:=hlt9 k hs;have h9:=hk.2.1;have:=HB2.out.size;omega)) HB2.out.size,Kd.R_nil _ _ _ _ _⟩
 have HP0:=hQ hp0
 have HNS:=hQ hns
 clear hp0 hR3 hb hb3 hlt9 hns
 go_wp2_with fail
 go_loopw [8,30] (fun u8 u30 wr=>∃(i:Nat) (S':Nat→Prop),i≤ns.length∧u30= .int .i64 i∧Hid (PSt W wr S S' t (tnewOn T (ns.take i)) b5 #[.int .i64 k0,.string x1,.int .u64 x2,.slice A l.length c,.int .u64 x4,.int .u64 x5,.string x6] (.slice An ns.length cn) ns u8 (moreE T (tnewOn T (ns.take i))))) (fun _ v _=>ns.length-(intOf v).toNat)
 case atStart=>exact⟨0,S,by omega,rfl,hQ (by rw[List.take_zero,show tnewOn T []=T from rfl,moreE_self];exact HP0.out)⟩
 case round=>
  obtain⟨i,S',hi,rfl,HP⟩:=hrel
  by_cases hlt:i<ns.length
  ·have hdl:decide ((i:Int)<(ns.length:Int))=true:=decide_eq_true (by omega)
   obtain⟨ad,hA,hcell⟩:=Kd.at_string (Kd.R_reads' HP.out.nm).2.2 (i:Int) (by omega) (by omega)
   subst hA
   rw[Int.toNat_natCast]at hcell
   obtain⟨s,hs⟩:=eX (ns[i])
   have hrd:rdOf ByteArray.empty ns (i:Int)=s:=by simp[rdOf,hlt,hs]
   rw[hrd]at hcell
   have hsz:=HNS.out.2 s (hs ▸ List.getElem_mem _)
   have htk:=tnewOn_take T ns i hlt
   rw[hs]at htk
   have hll:=tnewOn_len T (ns.take i)
   have hge:=tnewOn_ge T (ns.take i)
   rw[List.length_take]at hll
   have hn18:=HNS.out.1
   generalize tnewOn T (ns.take i)=L at*
   have HID:=hQ (id_any HP.out.tab s (by simp only[maxLen];omega) (by omega))
   have HTK:=hQ htk
   have HSZ:=hQ (And.intro hsz (And.intro hll hge))
   clear hrd hs htk hsz hll hge
   by_cases hin:s∈L
   ·rw[isIn_iff.2 hin,Bool.not_true]at HID
    have HMO:=hQ (And.intro (moreE_in (T:=T) hin) hin)
    generalize posOf L s=q at HID
    clear hin
    go_wp2_with fail
    clear hcell
    refine HID.out.mono ?_
    rintro e w5 ⟨rfl,hd⟩
    obtain⟨S2,hp⟩:=HP.out.wrote hd
    have HP2:=hQ hp
    clear hd hp
    go_wp2_with fail
    go_roundw
    case rel=>exact⟨i+1,S2,by omega,by go_num,hQ (by rw[HTK.out,HMO.out.1];exact HP2.out)⟩
    case measure=>simp[intOf];omega
   ·rw [isIn_ne.2 hin,Bool.not_false]at HID
    have HMO:=hQ (moreE_out (T:=T) HSZ.out.2.2 hin)
    generalize posOf L s=q at HID
    clear hin
    go_wp2_with fail
    clear hcell
    refine HID.out.mono ?_
    rintro e w5 ⟨rfl,hd⟩
    obtain⟨S2,hp⟩:=HP.out.wrote hd
    have HP2:=hQ hp
    have hmr:(moreE T L).length≤1000000:=by unfold moreE;rw[List.length_map,List.length_drop];have:=HSZ.out.2.1;omega
    clear hd hp HID
    generalize moreE T L=rs at*
    obtain⟨Ao,co,rfl⟩:=Kd.R_slice HP2.out.out
    go_wp2_with (at_builtin;refine Halt.mk ?_)
    refine Halt.of ?_
    have hb6:Below w5.heap.size w5 (w5.alloc (.cells #[.int .u8 0] 5)):=(Below.refl _ _).alloc (Nat.le_refl _) _
    have hk6:(w5.alloc (.cells #[.int .u8 0] 5)).heap[w5.heap.size]? =some (.cells #[.int .u8 0] 5 (0,0)):=heap_new _ _
    have hR6:=R_block .u8 (w5.alloc (.cells #[.int .u8 0] 5)) w5.heap.size w5.heap.size 5 [0] (fun _=>True) hk6 (Nat.le_refl _) (by simp[maxLen]) trivial
    refine print_append_str (w0:=w5) w5.heap.size rfl (.tmp 42) (.tmp 43) 22 9 5 rfl Tryz.underlying22 Tryz.underlying9 info_u89 _ [0] s rfl rfl (Kd.own_of_R hR6) hb6 hb6.size (by have:=HSZ.out.1;simp only[List.length_cons,List.length_nil];omega) ?_
    intro v7 w7 hO7 hb7 _
    have hR7:Kd.R (Kd.int .u8) 5 w7 w5.heap.size (fun _=>True) v7 ([0]++bytesOf s):=Kd.R_of_own hO7 (fun _ _=>trivial)
    have HW5:=hQ HP2.out.kp.size
    rw[show [(0:Int)]++bytesOf s=defE s from rfl]at hR7
    obtain⟨A7,c7,rfl⟩:=Kd.R_slice hR7
    have hdl7:(defE s).length≤1000000:=by unfold defE;rw[List.length_cons,bytesOf_length];have:=HSZ.out.1;omega
    have HR7:=hQ hR7
    have HB7:=hQ hb7
    have HOLD:=hQ (fun k (hk:(Value.slice Ao rs.length co).ownBlock=some k)=>own_lt (Kd.R_own HP2.out.out).choose_spec k hk)
    have HOT:=hQ (fun k (hk:S2 k)=>HP2.out.tab.lt k hk)
    have HP7:=hQ (HP2.out.below hb7)
    have HDF:=hQ (rfl:defE s=defE s)
    clear hO7 hR7 hb7 hR6 hk6 hb6 HP2
    generalize hde:defE s=D at HR7 HMO ⊢
    go_wp2_with (at_builtin;refine Halt.mk ?_)
    refine Halt.of ?_
    have hb8:Below w7.heap.size w7 (w7.alloc (.cells #[.slice A7 D.length c7] 22)):=(Below.refl _ _).alloc (Nat.le_refl _) _
    have hk8:(w7.alloc (.cells #[.slice A7 D.length c7] 22)).heap[w7.heap.size]? =some (.cells #[.slice A7 D.length c7] 22 (0,0)):=heap_new _ _
    have hP8:=HP7.out.below hb8
    have hR8:=Kd.R_below HR7.out hb8
    have HS1:=HP7.out.kp.size
    have HS5:=HP.out.kp.size
    refine Kd.R_append_rows kRows (w0:=w7.alloc (.cells #[.slice A7 D.length c7] 22)) W.heap.size rfl (.tmp 41) (.tmp 45) 40 22 (.slice none 0 0) 24 rfl Tryz.underlying40 info_bs9 rfl (by decide) (by omega) _ rs [D] _ _ _ (fun k=>¬S2 k) (fun k=>w5.heap.size≤k) rfl rfl hP8.out (row_val D hk8) ?_ ?_ (fun k hk hs=>absurd (hP8.tab.lt k hs) (by omega)) (Below.refl _ _) (by have:=hb8.size;omega) (by omega) ?_
    ·rintro _ _ ⟨rfl,rfl⟩
     exact⟨_,rfl,Kd.R_lower (Kd.R_mono (Kd.R_bound hR8) (fun k hk=>hk.2.1)) HW5.out⟩
    ·intro k hk
     exact⟨fun hs=>absurd (HOT.out k hs) (by omega),fun e=>absurd (HOLD.out k e.symm) (by omega)⟩
    intro v11 w11 hR11 _ hg11 _
    have HP11:=hQ (hP8.pushed hR11 hg11)
    clear hR11 hg11 hP8 hR8 hk8 hb8
    go_wp2_with fail
    go_roundw
    case rel=>exact⟨i+1,S2,by omega,by go_num,hQ (by rw[HTK.out,HMO.out];exact HP11.out)⟩
    case measure=>simp[intOf];omega
  ·obtain rfl:i=ns.length:=by omega
   rw[List.take_length]at HP
   have hdl:decide ((ns.length:Int)<(ns.length:Int))=false:=decide_eq_false (by omega)
   obtain⟨Ao,co,rfl⟩:=Kd.R_slice HP.out.out
   have hkw:(wr.alloc (.cells #[.slice none 0 0,.pointer (some ⟨t,0,none⟩)] 97)).heap[b5]? =some (.cells #[.int .i64 k0,.string x1,.int .u64 x2,.slice A l.length c,.int .u64 x4,.int .u64 x5,.string x6] 49 (0,0)):=blk_alloc HP.out.box _
   obtain⟨c0,c1,c2,c3,c4,c5,c6⟩:=facts7 hkw
   have HL:=hQ (wlast3_any (Wr.fresh HP.out.tab) k0 x1 x2 A c l x4 x5 x6 (HRO.out _ (HP.out.kp.alloc _)) hc HM.out.k (by have:=HM.out.t;omega) (fun d hd=>⟨by have:=(HM.out.d d hd).2.1;omega,HDR.out d hd⟩) h2 h4 h5 (by have:=HM.out.tag;simp only[maxLen];omega) (by have:=HM.out.n;omega) (by
    have e1:=textE_len 3 (tnewOn T ns) (HP.out.tab.len) x1 HM.out.t.2
    have e2:=bodyE_len 3 (tnewOn T ns) (HP.out.tab.len) x2 l x4 x5 x6 HM.out.n (fun d hd=>⟨(HM.out.d d hd).2.1,(HDR.out d hd).2⟩) h2.2 h4.2 h5.2
    have e3:(textE 3 (tnewOn T ns) x1).length=(numE (tnewOn T ns) x1).length:=rfl
    omega))
   clear hkw
   go_wp2_with fail
   clear c0 c1 c2 c3 c4 c5 c6
   refine HL.out.mono ?_
   rintro e w9 ⟨v9,rfl,hR9,hk9⟩
   have hbl:Below wr.heap.size wr w9:=(Kp.trans (Kp.of_below ((Below.refl _ _).alloc (Nat.le_refl _) _) (fun k=>k=wr.heap.size)) hk9 (fun _ h=> .inl h)).to_below (fun k hk=>by omega)
   have HP9:=hQ (HP.out.below hbl)
   obtain⟨A9,c9,rfl⟩:=Kd.R_slice hR9
   have HR9:=hQ hR9
   have HZ:=hQ hbl.size
   clear hR9 hk9 hbl HL
   go_wp2_with (at_builtin;refine Halt.mk ?_)
   refine Halt.of ?_
   generalize hLE:lastE 3 (tnewOn T ns) k0 x1 x2 l x4 x5 x6=LE at HR9 ⊢
   have hb10:Below w9.heap.size w9 (w9.alloc (.cells #[.slice A9 LE.length c9] 22)):=(Below.refl _ _).alloc (Nat.le_refl _) _
   have hkN:(w9.alloc (.cells #[.slice A9 LE.length c9] 22)).heap[w9.heap.size]? =some (.cells #[.slice A9 LE.length c9] 22 (0,0)):=heap_new _ _
   have hP10:=HP9.out.below hb10
   have hR10:=Kd.R_below HR9.out hb10
   have HS1:=HP.out.kp.size
   have hrn:(moreE T (tnewOn T ns)).length≤1000000:=by
    have:=HP.out.tab.len
    unfold moreE;rw[List.length_map,List.length_drop];omega
   refine Kd.R_append_rows kRows (w0:=w9.alloc (.cells #[.slice A9 LE.length c9] 22)) W.heap.size rfl (.tmp 51) (.tmp 56) 40 22 (.slice none 0 0) 24 rfl Tryz.underlying40 info_bs9 rfl (by decide) (by omega) _ (moreE T (tnewOn T ns)) [LE] _ _ _ (fun k=>¬S' k) (fun k=>wr.heap.size≤k) rfl rfl hP10.out (row_val LE hkN) ?_ ?_ (fun k hk hs=>absurd (hP10.tab.lt k hs) (by omega)) (Below.refl _ _) (by have:=hb10.size;have:=HZ.out;omega) (by omega) ?_
   ·rintro _ _ ⟨rfl,rfl⟩
    exact⟨_,rfl,Kd.R_lower (Kd.R_mono (Kd.R_bound hR10) (fun k hk=>hk.2.1)) HS1⟩
   ·intro k hk
    refine⟨fun hs=>absurd (HP.out.tab.lt k hs) (by omega),fun e=> ?_⟩
    have hlt:=own_lt (Kd.R_own HP.out.out).choose_spec k e.symm
    omega
   intro v11 w11 hR11 _ hg11 _
   obtain⟨RR,hRR⟩:=eX ((moreE T (tnewOn T ns))++[LE])
   rw[hRR]at hR11
   have HRR:=hQ (And.intro hLE hRR)
   have hP11:=hP10.pushed hR11 hg11
   have HPE:=hQ hP11
   obtain⟨A11,c11,rfl⟩:=Kd.R_slice hR11
   clear hR11 hg11 hP11 hP10 hR10 hkN hb10 hRR hLE
   go_wp2_with fail
   go_ret2
   refine⟨_,S',rfl,HPE.out.tab,HPE.out.sub,HPE.out.kp, ?_⟩
   rw[HRR.out.1,HRR.out.2]
   exact HPE.out.out
theorem sput_any {W:World} {S:Nat→Prop} {t:Nat} {T:List ByteArray} (v:Int) (h:Tab W S t T) (k0:Int) (x1:ByteArray) (x2:Int) (A:Option Addr) (c:Nat) (l:List S129) (x4 x5:Int) (x6:ByteArray)
  (hrow: ∀W',Kp W W' S→Kd.C k129 W' A l.length l) (hc:l.length≤c) (hok:RecOk x1 l x6) (h2:0≤x2∧x2<18446744073709551616) (h4:0≤x4∧x4<18446744073709551616) (h5:0≤x5∧x5<18446744073709551616) (hdr: ∀d∈l,0≤d.f1∧d.f1<18446744073709551616) (hT:T.length≤100000):
  Calls Tryz.prog 18 #[.int .i64 v,.pointer (some ⟨t,0,none⟩),.agg #[.int .i64 k0,.string x1,.int .u64 x2,.slice A l.length c,.int .u64 x4,.int .u64 x5,.string x6]] W (PutPost W S t (putF v T k0 x1 x2 l x4 x5 x6)):=by
 unfold putF
 by_cases hv:1≤v∧v≤3
 ·rw [if_pos hv]
  by_cases hm:mayB v k0 x1 x2 l x4 x5 x6=true
  ·rw[if_pos hm]
   have hv3:v=1∨v=2∨v=3:=by omega
   rcases hv3 with rfl|rfl|rfl
   ·exact sputok1_any h k0 x1 x2 A c l x4 x5 x6 hrow hc hok hm h2 h4 h5 hdr hT
   ·exact sputok2_any h k0 x1 x2 A c l x4 x5 x6 hrow hc hok hm h2 h4 h5 hdr hT
   ·exact sputok3_any h k0 x1 x2 A c l x4 x5 x6 hrow hc hok hm h2 h4 h5 hdr hT
  ·rw[if_neg hm]
   rw[Bool.not_eq_true]at hm
   obtain⟨w1,hw1⟩:=eX (W.alloc (.cells #[.int .i64 k0,.string x1,.int .u64 x2,.slice A l.length c,.int .u64 x4,.int .u64 x5,.string x6] 49))
   have hb1:Below W.heap.size W w1:=by rw[←hw1];exact(Below.refl _ _).alloc (Nat.le_refl _) _
   have hk5:w1.heap[W.heap.size]? =some (.cells #[.int .i64 k0,.string x1,.int .u64 x2,.slice A l.length c,.int .u64 x4,.int .u64 x5,.string x6] 49 (0,0)):=by rw[←hw1];exact heap_new _ _
   obtain⟨b5,hb5⟩:=eX (W.heap.size)
   rw[hb5]at hk5
   have HMY:=hQ (may_any v k0 x1 x2 A c l x4 x5 x6 w1 (hrow _ (Kp.of_below hb1 _)) hc hok)
   rw[hm]at HMY
   have HKN:=hQ (known9_any v w1)
   rw[show decide (1≤v∧v≤3)=true from decide_eq_true hv]at HKN
   have HH:=hQ h
   have HB1:=hQ hb1
   have HK5:=hQ hk5
   have HW1:=hQ hw1
   have HB5:=hQ hb5
   clear h hrow hdr hm hb1 hk5 hw1 hb5 hok hv h2 h4 h5
   go_enter Tryz.func18,Tryz.ntmps18
   go_wp2_with fail
   rw[HW1.out,HB5.out]
   refine HKN.out.mono ?_
   rintro e w9 ⟨rfl,rfl⟩
   obtain⟨c0,c1,c2,c3,c4,c5,c6⟩:=facts7 HK5.out
   go_wp2_with fail
   refine HMY.out.mono ?_
   rintro e w2 ⟨rfl,hb⟩
   have HB2:=hQ (HB1.out.trans (hb.mono HB1.out.size))
   clear hb
   go_wp2_with fail
   go_ret2
   exact⟨_,S,rfl,HH.out.keep (Kp.of_below HB2.out (fun _=>False)) (fun _ _ h=>h),fun k hk=> .inl hk,Kp.of_below HB2.out _,Kd.R_nil _ _ _ _ _⟩
 ·rw[if_neg hv]
  have HH:=hQ h
  clear h hrow hdr hok h2 h4 h5
  have HKN:=hQ (fun W'=>known9_any v W')
  rw[show decide (1≤v∧v≤3)=false from decide_eq_false hv]at HKN
  clear hv
  go_enter Tryz.func18,Tryz.ntmps18
  go_wp2_with fail
  refine(HKN.out _).mono ?_
  rintro e w9 ⟨rfl,rfl⟩
  go_wp2_with fail
  go_ret2
  have hb:=(Below.refl W.heap.size W).alloc (Nat.le_refl _) (.cells #[.int .i64 k0,.string x1,.int .u64 x2,.slice A l.length c,.int .u64 x4,.int .u64 x5,.string x6] 49)
  exact⟨_,S,rfl,HH.out.keep (Kp.of_below hb (fun _=>False)) (fun _ _ h=>h),fun k hk=> .inl hk,Kp.of_below hb _,Kd.R_nil _ _ _ _ _⟩
structure Rd (w0 W:World) (S:Nat→Prop) (g t:Nat) (T:List ByteArray) (l:List Int) (a e:Int):Prop where
 cu:IsCu w0 W g l a e
 b:Below w0.heap.size w0 W
 tab:Tab W S t T
 ne: ¬S g
theorem Rd.keep {w0 W W':World} {S:Nat→Prop} {g t:Nat} {T:List ByteArray} {l:List Int} {a e:Int} (h:Rd w0 W S g t T l a e) (hb:Below W.heap.size W W'):Rd w0 W' S g t T l a e:=
 ⟨h.cu.keep hb,h.b.trans (hb.mono h.b.size),h.tab.keep (Kp.of_below hb (fun _=>False)) (fun _ _ h=>h),h.ne⟩
theorem Rd.step {w0 W W':World} {S:Nat→Prop} {g t:Nat} {T:List ByteArray} {l:List Int} {a e a' e':Int} {v:Value} {en:Ending} (h:Rd w0 W S g t T l a e) (hp:CuPost w0 W g l v a' e' en W'):Rd w0 W' S g t T l a' e'∧Kp W W' (fun k=>k=g):=by
 have hk:Kp W W' (fun k=>k=g):=(Kp.refl W _).grown hp.2.2.1 (fun k e=> .inl (Option.some.inj e).symm)
 exact⟨⟨hp.2.1,hp.2.2.2,h.tab.keep hk (fun k hs e=>h.ne (e ▸ hs)),h.ne⟩,hk⟩
def RdPost (w0 W:World) (S:Nat→Prop) (g t:Nat) (T:List ByteArray) (l:List Int) (v:Value) (a e:Int) (en:Ending) (W':World):Prop:=
 en= .returned v∧Rd w0 W' S g t T l a e∧Kp W W' (fun k=>k=g)
def txF (T:List ByteArray) (n:Int):ByteArray:=if n<(T.length:Int)then T.getD n.toNat ⟨#[]⟩else ⟨#[]⟩
def txE (T:List ByteArray) (n e:Int):Int:=if n<(T.length:Int)then e else if e=0 then 3 else e
section
variable {w0 W:World} {S:Nat→Prop} {g t:Nat} {T:List ByteArray} {l:List Int} {a e:Int}
theorem rtext_any (h:Rd w0 W S g t T l a e) (n:Int) (hn:0≤n∧n<18446744073709551616):
  Calls Tryz.prog 82 #[.agg #[.pointer (some ⟨g,0,none⟩),.pointer (some ⟨t,0,none⟩)],.int .u64 n] W (RdPost w0 W S g t T l (.string (txF T n)) a (txE T n e)):=by
 obtain⟨w1,hw1⟩:=eX (W.alloc (.cells #[.pointer (some ⟨g,0,none⟩),.pointer (some ⟨t,0,none⟩)] 110))
 have hb1:Below W.heap.size W w1:=by rw[←hw1];exact(Below.refl _ _).alloc (Nat.le_refl _) _
 have hk1:w1.heap[W.heap.size]? =some (.cells #[.pointer (some ⟨g,0,none⟩),.pointer (some ⟨t,0,none⟩)] 110 (0,0)):=by rw[←hw1];exact heap_new _ _
 have h1:=h.keep hb1
 have c0:w1.cell? ⟨W.heap.size,0,none⟩=some (.pointer (some ⟨g,0,none⟩)):=(blk_cell hk1 0).trans rfl
 have HB1:=hQ hb1
 have HW1:=hQ hw1
 have H1:=hQ h1
 by_cases hlt:n<(T.length:Int)
 ·obtain⟨m,rfl⟩:=Int.eq_ofNat_of_zero_le hn.1
  have hm:m<T.length:=by omega
  have HT:=hQ (text_in h1.tab m hm)
  have e1:txF T (m:Int)=T[m]:=by unfold txF;rw[if_pos hlt,Int.toNat_natCast];simp[hm]
  have e2:txE T (m:Int) e=e:=by unfold txE;rw[if_pos hlt]
  rw[e1,e2]
  generalize T[m]=s at HT
  clear e1 e2 h h1 hb1 hk1 hw1
  go_enter Tryz.func82,Tryz.ntmps82
  go_wp2_with fail
  rw[HW1.out]
  refine HT.out.mono ?_
  rintro en w2 ⟨rfl,rfl⟩
  go_wp2_with fail
  go_ret
  exact⟨rfl,H1.out,Kp.of_below HB1.out _⟩
 ·have HT:=hQ (text_out h1.tab n (by omega))
  have e1:txF T n=⟨#[]⟩:=by unfold txF;rw[if_neg hlt]
  have e2:txE T n e=if e=0 then 3 else e:=by unfold txE;rw[if_neg hlt]
  rw[e1,e2]
  have HF:=hQ (fail_any (ec:=3) (hI:=h1.cu) (hB:=h1.b))
  generalize (if e=0 then(3:Int)else e)=e9 at HF ⊢
  clear e1 e2 h h1 hb1 hk1 hw1
  go_enter Tryz.func82,Tryz.ntmps82
  go_wp2_with fail
  rw[HW1.out]
  refine HT.out.mono ?_
  rintro en w2 ⟨rfl,rfl⟩
  go_wp2_with fail
  refine HF.out.mono ?_
  rintro en w3 hp
  have hs:=H1.out.step hp
  obtain⟨rfl,_⟩:=hp
  have HS:=hQ hs
  clear hs
  go_wp2_with fail
  go_ret
  exact⟨rfl,HS.out.1,Kp.trans (Kp.of_below HB1.out _) HS.out.2 (fun _ h=> .inl h)⟩
theorem rnum_any (h:Rd w0 W S g t T l a e) (hb: ∀x∈l,0≤x∧x<256) (hl:l.length≤1000000):
  Calls Tryz.prog 79 #[.pointer (some ⟨g,0,none⟩)] W (RdPost w0 W S g t T l (.int .u64 (cuNum l a e).1) (cuNum l a e).2.1 (cuNum l a e).2.2):=
 (num_any (hI:=h.cu) (hB:=h.b) (hb:=hb) (hl:=hl)).mono fun en w' hp=>⟨hp.1,(h.step hp).1,(h.step hp).2⟩
theorem rblob_any (h:Rd w0 W S g t T l a e) (hb: ∀x∈l,0≤x∧x<256) (hl:l.length≤1000000):
  Calls Tryz.prog 77 #[.agg #[.pointer (some ⟨g,0,none⟩),.pointer (some ⟨t,0,none⟩)]] W (RdPost w0 W S g t T l (.string (cuText l 64 a e).1) (cuText l 64 a e).2.1 (cuText l 64 a e).2.2):=by
 obtain⟨w1,hw1⟩:=eX (W.alloc (.cells #[.pointer (some ⟨g,0,none⟩),.pointer (some ⟨t,0,none⟩)] 110))
 have hb1:Below W.heap.size W w1:=by rw[←hw1];exact(Below.refl _ _).alloc (Nat.le_refl _) _
 have h1:=h.keep hb1
 have HT:=hQ (text_any (lim:=64) (hI:=h1.cu) (hB:=h1.b) (hb:=hb) (hl:=hl) (hlim:=by omega))
 have HB1:=hQ hb1
 have HW1:=hQ hw1
 have H1:=hQ h1
 clear h h1 hb1 hw1 hb
 generalize cuText l 64 a e=F at*
 obtain⟨s,a2,e2⟩:=F
 dsimp only at HT ⊢
 go_enter Tryz.func77,Tryz.ntmps77
 go_wp2_with fail
 rw[HW1.out]
 refine HT.out.mono ?_
 rintro en w3 hp
 have hs:=H1.out.step hp
 obtain⟨rfl,_⟩:=hp
 have HS:=hQ hs
 clear hs
 go_wp2_with fail
 go_ret
 exact⟨rfl,HS.out.1,Kp.trans (Kp.of_below HB1.out _) HS.out.2 (fun _ h=> .inl h)⟩
theorem cuNum_rg (hb: ∀x∈l,0≤x∧x<256):0≤(cuNum l a e).1∧(cuNum l a e).1<18446744073709551616:=by
 unfold cuNum
 split
 ·exact⟨by omega,by omega⟩
 ·rcases getS_cases2 l hb a with⟨ec,h1,h2⟩|⟨lo,n,p,_,h1,_,_,hn⟩
  ·rw[h1];split<;>exact⟨by simp,by simp⟩
  ·rw[h1];split<;>exact⟨by simp,by first|(simp;done)|(simp;omega)⟩
end
end Go.Proofs.YtfflenbfapgilaaGreat
namespace Go.Proofs.YtfflenbfapgilaaGreat
open Go.Proofs.YtfflenbfapgilaaGreat.GRR
def VKn (g t b1:Nat) (n:Int) (s:ByteArray):Nat→Value→World→Prop
 | 0,v,_=>v= .agg #[.pointer (some ⟨g,0,none⟩),.pointer (some ⟨t,0,none⟩)]
 | 1,v,_=>v= .pointer (some ⟨b1,0,none⟩)
 | 2,v,_=>v= .pointer (some ⟨g,0,none⟩)
 | 3,v,_=>v= .int .u64 n
 | 4,v,_=>v= .string s
 | 5,v,_=>v= .string s
 |_,_,_=>True
def FKn (R3 R4:World→Prop):Nat→World→Prop
 | 3,X=>R3 X
 | 4,X=>R4 X
 |_,_=>True
def GKn (R0:World→Prop) (BX:World→Prop):Nat→World→Prop
 | 0,X=>BX X
 | 2,X=>BX X
 | 3,X=>R0 X
 |_,_=>True
def rowKn (g:Nat) (i:Nat):Option Nat:=match i with| 3=>some g| 4=>some g|_=>none
def kilKn (i:Nat):Nat:=if i=3 then 4 else 6
theorem Rd.calm {w0 W W':World} {S:Nat→Prop} {g t:Nat} {T:List ByteArray} {l:List Int} {a e:Int} (h:Rd w0 W S g t T l a e) (hg:W.grownBy W' none):Rd w0 W' S g t T l a e:=h.keep (below_none hg)
theorem kp_grown {W W':World} {g:Nat} (h:Kp W W' (fun k=>k=g)):W.grownBy W' (some g):=⟨h.os,h.tape,h.output,h.size,fun k hk hn=>h.block k hk (fun e=>hn (by rw[e]))⟩
def txR (T:List ByteArray) (l:List Int) (a e:Int):ByteArray×Int×Int:=(txF T (cuNum l a e).1,(cuNum l a e).2.1,txE T (cuNum l a e).1 (cuNum l a e).2.2)
theorem rknown_any {w0 W:World} {S:Nat→Prop} {g t:Nat} {T:List ByteArray} {l:List Int} {a e:Int} (h:Rd w0 W S g t T l a e) (hb: ∀x∈l,0≤x∧x<256) (hl:l.length≤1000000):
  Calls Tryz.prog 76 #[.agg #[.pointer (some ⟨g,0,none⟩),.pointer (some ⟨t,0,none⟩)]] W (RdPost w0 W S g t T l (.string (txR T l a e).1) (txR T l a e).2.1 (txR T l a e).2.2):=by
 obtain⟨w1,hw1⟩:=eX (W.alloc (.cells #[.pointer (some ⟨g,0,none⟩),.pointer (some ⟨t,0,none⟩)] 110))
 have hb1:Below W.heap.size W w1:=by rw[←hw1];exact(Below.refl _ _).alloc (Nat.le_refl _) _
 have hk1:w1.heap[W.heap.size]? =some (.cells #[.pointer (some ⟨g,0,none⟩),.pointer (some ⟨t,0,none⟩)] 110 (0,0)):=by rw[←hw1];exact heap_new _ _
 obtain⟨b1,hbb⟩:=eX (W.heap.size)
 rw[hbb]at hk1
 have h1:=h.keep hb1
 have hgb:b1≠g:=by obtain⟨_,_,hc,_⟩:=h.cu;have:=blk_lt hc;omega
 have HNU:=hQ (fun(X:World) (hr:Rd w0 X S g t T l a e)=>rnum_any hr hb hl)
 have HRG:=hQ (cuNum_rg (l:=l) (a:=a) (e:=e) hb)
 have HB1:=hQ hb1
 have HW1:=hQ hw1
 have H1:=hQ h1
 have HK1:=hQ hk1
 have HBB:=hQ hbb
 have HGB:=hQ hgb
 unfold txR
 clear h h1 hb1 hw1 hk1 hbb hb
 generalize cuNum l a e=F0 at*
 obtain⟨n,a1,e1⟩:=F0
 dsimp only at HNU HRG ⊢
 have HTX:=hQ (fun(X:World) (hr:Rd w0 X S g t T l a1 e1)=>rtext_any hr n HRG.out)
 generalize txF T n=s at*
 generalize txE T n e1=e2 at*
 go_enter Tryz.func76,Tryz.ntmps76
 go_wp2_with fail
 rw[HW1.out,HBB.out]
 obtain⟨BX,hBX⟩: ∃BX:World→Prop,BX=fun X=>X.heap[b1]? =some (.cells #[.pointer (some ⟨g,0,none⟩),.pointer (some ⟨t,0,none⟩)] 110 (0,0)):=⟨_,rfl⟩
 obtain⟨R0,hR0⟩: ∃R:World→Prop,R=fun X=>Rd w0 X S g t T l a e∧Kp w1 X (fun k=>k=g):=⟨_,rfl⟩
 obtain⟨R3,hR3⟩: ∃R:World→Prop,R=fun X=>Rd w0 X S g t T l a1 e1∧Kp w1 X (fun k=>k=g):=⟨_,rfl⟩
 obtain⟨R4,hR4⟩: ∃R:World→Prop,R=fun X=>Rd w0 X S g t T l a1 e2∧Kp w1 X (fun k=>k=g):=⟨_,rfl⟩
 refine wp_region_any (by kernel_rfl) ?_
 refine flowK_any kilKn (n:=6) (base:=w0.heap.size) (w0:=w0) (VKn g t b1 n s) (FKn R3 R4) (GKn R0 BX) (rowKn g) rfl (by kernel_rfl) (by kernel_rfl) ?hV ?hF ?hG ?hB0 ?hG0 (show AllLt 6 _ from ?hs) ?he
 case hV=>
  intro i j hi hj hij hw v X X' hB hg hv
  unfold VKn at hv ⊢
  split at hv<;>exact hv
 case hF=>
  intro i j hi hj hij hw hkl X X' hB hg hf
  have hi6:i=0∨i=1∨i=2∨i=3∨i=4∨i=5:=by omega
  unfold FKn at hf ⊢
  split at hf
  ·subst hR3
   rcases hi6 with rfl|rfl|rfl|rfl|rfl|rfl
   ·exact⟨hf.1.calm hg,hf.2.below (below_none hg)⟩
   ·exact⟨hf.1.calm hg,hf.2.below (below_none hg)⟩
   ·exact⟨hf.1.calm hg,hf.2.below (below_none hg)⟩
   ·exact absurd rfl hij
   ·exact absurd rfl hkl
   ·exact⟨hf.1.calm hg,hf.2.below (below_none hg)⟩
  ·subst hR4
   rcases hi6 with rfl|rfl|rfl|rfl|rfl|rfl
   ·exact⟨hf.1.calm hg,hf.2.below (below_none hg)⟩
   ·exact⟨hf.1.calm hg,hf.2.below (below_none hg)⟩
   ·exact⟨hf.1.calm hg,hf.2.below (below_none hg)⟩
   ·exact Bool.noConfusion (hw.symm.trans (c:=true) (by kernel_rfl))
   ·exact absurd rfl hij
   ·exact⟨hf.1.calm hg,hf.2.below (below_none hg)⟩
  ·trivial
 case hG=>
  intro i j hi hj hij hw X X' hB hg hf
  have hi6:i=0∨i=1∨i=2∨i=3∨i=4∨i=5:=by omega
  have hbx:BX X→BX X':=by
   subst hBX
   intro hk
   refine(hg.block b1 (blk_lt hk) (fun e=> ?_)).trans hk
   have hr:rowKn g i=none∨rowKn g i=some g:=by unfold rowKn;split<;>simp
   rcases hr with hr|hr
   ·rw[hr]at e;cases e
   ·rw[hr]at e;exact HGB.out (Option.some.inj e)
  unfold GKn at hf ⊢
  split at hf
  ·exact hbx hf
  ·exact hbx hf
  ·subst hR0
   rcases hi6 with rfl|rfl|rfl|rfl|rfl|rfl
   ·exact⟨hf.1.calm hg,hf.2.below (below_none hg)⟩
   ·exact⟨hf.1.calm hg,hf.2.below (below_none hg)⟩
   ·exact⟨hf.1.calm hg,hf.2.below (below_none hg)⟩
   ·exact absurd rfl hij
   ·exact Bool.noConfusion (hw.symm.trans (c:=true) (by kernel_rfl))
   ·exact⟨hf.1.calm hg,hf.2.below (below_none hg)⟩
  ·trivial
 case hB0=>exact H1.out.b.drew
 case hG0=>
  intro i hi
  unfold GKn
  split
  ·subst hBX;exact HK1.out
  ·subst hBX;exact HK1.out
  ·subst hR0;exact⟨H1.out.keep ((Below.refl _ _).drew),Kp.of_below ((Below.refl _ _).drew) _⟩
  ·trivial
 case hs=>
  refine allLt_succ (allLt_succ (allLt_succ (allLt_succ (allLt_succ (allLt_succ (allLt_zero _) ?s0) ?s1) ?s2) ?s3) ?s4) ?s5
  case s0=>
   refine StepFlowK.run rfl rfl fun a X hS2 hB hd hG=> ?_
   have e1_:a.tmps[1]? =some (.pointer (some ⟨b1,0,none⟩)):=hS2.get rfl rfl
   have hG':X.heap[b1]? =_:=hBX ▸ hG
   have c0:=(blk_cell hG' 0).trans rfl
   have c1:=(blk_cell hG' 1).trans rfl
   exact wpF (c:= .agg #[.pointer (some ⟨g,0,none⟩),.pointer (some ⟨t,0,none⟩)]) (W':=X) (by go_simp) rfl trivial (World.grownBy.refl _ _) hB
  case s1=>
   refine StepFlowK.run rfl rfl fun a X hS2 hB hd hG=> ?_
   have e1_:a.tmps[1]? =some (.pointer (some ⟨b1,0,none⟩)):=hS2.get rfl rfl
   exact wpF (c:= .pointer (some ⟨b1,0,none⟩)) (W':=X) (by go_simp) rfl trivial (World.grownBy.refl _ _) hB
  case s2=>
   refine StepFlowK.run rfl rfl fun a X hS2 hB hd hG=> ?_
   obtain⟨u,e4,hu⟩:=(hd 1 (by kernel_rfl)).1.get rfl rfl
   obtain rfl:u= .pointer (some ⟨b1,0,none⟩):=hu
   have hG':X.heap[b1]? =_:=hBX ▸ hG
   have c0:=(blk_cell hG' 0).trans rfl
   exact wpF (c:= .pointer (some ⟨g,0,none⟩)) (W':=X) (by go_simp) rfl trivial (World.grownBy.refl _ _) hB
  case s3=>
   refine StepFlowK.run rfl rfl fun a X hS2 hB hd hG=> ?_
   obtain⟨u,e5,hu⟩:=(hd 2 (by kernel_rfl)).1.get rfl rfl
   obtain rfl:u= .pointer (some ⟨g,0,none⟩):=hu
   have hr:R0 X:=hG
   subst hR0
   refine wpF_called Tryz.func79 (by kernel_rfl) rfl #[.pointer (some ⟨g,0,none⟩)] rfl (by simp[Act.eval, *]) ?_
   refine(HNU.out X hr.1).mono ?_
   rintro en w9 ⟨rfl,hw,hk⟩
   exact⟨_,rfl,fun _=>rfl,by show R3 w9;rw[hR3];exact⟨hw,hr.2.trans hk (fun _ h=> .inl h)⟩,kp_grown hk,hw.b⟩
  case s4=>
   refine StepFlowK.run rfl rfl fun a X hS2 hB hd hG=> ?_
   obtain⟨u,e3,hu⟩:=(hd 0 (by kernel_rfl)).1.get rfl rfl
   obtain rfl:u= .agg #[.pointer (some ⟨g,0,none⟩),.pointer (some ⟨t,0,none⟩)]:=hu
   obtain⟨u,e6,hu⟩:=(hd 3 (by kernel_rfl)).1.get rfl rfl
   obtain rfl:u= .int .u64 n:=hu
   have hr:R3 X:=(hd 3 (by kernel_rfl)).2 (.inl rfl)
   subst hR3
   refine wpF_called Tryz.func82 (by kernel_rfl) rfl #[.agg #[.pointer (some ⟨g,0,none⟩),.pointer (some ⟨t,0,none⟩)],.int .u64 n] rfl (by simp[Act.eval, *]) ?_
   refine(HTX.out X hr.1).mono ?_
   rintro en w9 ⟨rfl,hw,hk⟩
   exact⟨_,rfl,fun _=>rfl,by show R4 w9;rw[hR4];exact⟨hw,hr.2.trans hk (fun _ h=> .inl h)⟩,kp_grown hk,hw.b⟩
  case s5=>
   refine StepFlowK.run rfl rfl fun a X hS2 hB hd hG=> ?_
   obtain⟨u,e7,hu⟩:=(hd 4 (by kernel_rfl)).1.get rfl rfl
   obtain rfl:u= .string s:=hu
   exact wpF (c:= .string s) (W':=X) (by go_simp) rfl trivial (World.grownBy.refl _ _) hB
 case he=>
  intro a X hS2 hB hh
  obtain⟨u,e2_,hu⟩:=(hh 5 (by omega)).1.get rfl rfl
  obtain rfl:u= .string s:=hu
  have hr:R4 X:=(hh 4 (by omega)).2 (by decide)
  subst hR4
  go_wp2
  exact bodyPost_ret (v:= .string s) (by simp[results,Tryz.results76,e2_,go_sem]) hS2.2.1 ⟨rfl,hr.1,Kp.trans (Kp.of_below HB1.out _) hr.2 (fun _ h=> .inl h)⟩
theorem Rd.far {w0 W:World} {S:Nat→Prop} {g t:Nat} {T:List ByteArray} {l:List Int} {a e:Int} (h:Rd w0 W S g t T l a e) (b j:Nat) (u:Value) (hg:b≠g) (hS: ¬S b) (h0:w0.heap.size≤b):Rd w0 (W.setCell ⟨b,j,none⟩ u) S g t T l a e:=by
 obtain⟨A,c,h1,h2,h3,h4⟩:=h.cu
 exact⟨⟨A,c,(Below.heap_setCell _ ⟨b,j,none⟩ _ _ (fun e=>hg e.symm)).trans h1,h2,h3,h4⟩,h.b.setCell (p:=⟨b,j,none⟩) h0 u,h.tab.keep ((Kp.refl W (fun k=>k=b)).setCell (p:=⟨b,j,none⟩) (.inl rfl) u) (fun k hk e=>hS (e ▸ hk)),h.ne⟩
def textR (v:Int) (T:List ByteArray) (l:List Int) (a e:Int):ByteArray×Int×Int:=if v=1 then cuText l 64 a e else txR T l a e
def depR (v:Int) (T:List ByteArray) (l:List Int) (a e:Int):(ByteArray×Bool)×Int×Int:=
 if v<3 then(((textR v T l a e).1,false),(textR v T l a e).2)else((txF T ((cuNum l a e).1/2),decide ((cuNum l a e).1%2=1)),(cuNum l a e).2.1,txE T ((cuNum l a e).1/2) (cuNum l a e).2.2)
theorem rdep1_any {w0 W:World} {S:Nat→Prop} {g t:Nat} {T:List ByteArray} {l:List Int} {a e:Int} (h:Rd w0 W S g t T l a e) (hb: ∀x∈l,0≤x∧x<256) (hl:l.length≤1000000):
  Calls Tryz.prog 81 #[.agg #[.pointer (some ⟨g,0,none⟩),.pointer (some ⟨t,0,none⟩)],.int .i64 1,.func (.func 77) #[.agg #[.pointer (some ⟨g,0,none⟩),.pointer (some ⟨t,0,none⟩)]] #[]] W (RdPost w0 W S g t T l (.agg #[.string (depR 1 T l a e).1.1,.int .u64 0,.bool (depR 1 T l a e).1.2]) (depR 1 T l a e).2.1 (depR 1 T l a e).2.2):=by
 obtain⟨w1,hw1⟩:=eX ((W.alloc (.cells #[.pointer (some ⟨g,0,none⟩),.pointer (some ⟨t,0,none⟩)] 110)).alloc (.cells #[.string ⟨#[]⟩,.int .u64 0,.bool false] 129))
 have hb1:Below W.heap.size W w1:=by rw[←hw1];exact((Below.refl _ _).alloc (Nat.le_refl _) _).alloc (by rw[heap_size_alloc];omega) _
 have hk3:w1.heap[W.heap.size]? =some (.cells #[.pointer (some ⟨g,0,none⟩),.pointer (some ⟨t,0,none⟩)] 110 (0,0)):=by rw[←hw1];exact blk_alloc (heap_new _ _) _
 have hk6:w1.heap[W.heap.size+1]? =some (.cells #[.string ⟨#[]⟩,.int .u64 0,.bool false] 129 (0,0)):=by
  rw[←hw1]
  have:=heap_new (W.alloc (.cells #[.pointer (some ⟨g,0,none⟩),.pointer (some ⟨t,0,none⟩)] 110)) (.cells #[.string ⟨#[]⟩,.int .u64 0,.bool false] 129)
  rwa [heap_size_alloc]at this
 obtain⟨b3,hbb⟩:=eX (W.heap.size)
 have h1:=h.keep hb1
 have hgl:g<b3:=by obtain⟨_,_,hc,_⟩:=h.cu;have:=blk_lt hc;omega
 have hS6: ¬S (b3+1):=fun hs=>by have:=h.tab.lt _ hs;omega
 have h06:w0.heap.size≤b3+1:=by have:=h.b.size;omega
 rw[hbb]at hk3 hk6
 have HU:=hQ Tryz.underlying129
 have HT:=hQ (rblob_any h1 hb hl)
 rw[show depR 1 T l a e=(((cuText l 64 a e).1,false),(cuText l 64 a e).2) from rfl]
 dsimp only
 have HB1:=hQ hb1
 have HW1:=hQ hw1
 have H1:=hQ h1
 have HK6:=hQ hk6
 have HK3:=hQ hk3
 have HBB:=hQ hbb
 have HGL:=hQ hgl
 have HS6:=hQ hS6
 have H06:=hQ h06
 clear h h1 hb1 hw1 hk3 hk6 hbb hb hS6 h06
 generalize cuText l 64 a e=F at*
 obtain⟨s,a2,e2⟩:=F
 dsimp only at HT ⊢
 go_enter Tryz.func81,Tryz.ntmps81
 go_wp2_with fail
 rw[HW1.out,HBB.out]
 refine HT.out.mono ?_
 rintro en w2 ⟨rfl,hw,hk⟩
 have hk6:=hk.heap HK6.out (show b3+1≠g by omega)
 have p0:=(blk_cell hk6 0).trans rfl
 have f0:=blk_frozen hk6 0
 have hk7:(w2.setCell ⟨b3+1,0,none⟩ (.string s)).heap[b3+1]? =some (.cells #[.string s,.int .u64 0,.bool false] 129 (0,0)):=blk_put (cs':=#[.string s,.int .u64 0,.bool false]) hk6 0 (.string s) rfl
 have q0:(w2.setCell ⟨b3+1,0,none⟩ (.string s)).cell? ⟨b3+1,0,none⟩=some (.string s):=(blk_cell hk7 0).trans rfl
 have qf0:=blk_frozen hk7 0
 have q1:(w2.setCell ⟨b3+1,0,none⟩ (.string s)).cell? ⟨b3+1,1,none⟩=some (.int .u64 0):=(blk_cell hk7 1).trans rfl
 have qf1:=blk_frozen hk7 1
 have q2:(w2.setCell ⟨b3+1,0,none⟩ (.string s)).cell? ⟨b3+1,2,none⟩=some (.bool false):=(blk_cell hk7 2).trans rfl
 have qf2:=blk_frozen hk7 2
 have HK7:=hQ hk7
 have HR:=hQ ((((hw.far (b3+1) 0 (.string s) (by omega) HS6.out H06.out).far (b3+1) 0 (.string s) (by omega) HS6.out H06.out).far (b3+1) 1 (.int .u64 0) (by omega) HS6.out H06.out).far (b3+1) 2 (.bool false) (by omega) HS6.out H06.out)
 have HKP:=hQ (((((Kp.trans (Kp.of_below HB1.out (fun k=>k=g)) hk (fun _ h=> .inl h)).setCell (p:=⟨b3+1,0,none⟩) (.inr (by have:=HBB.out;show W.heap.size≤b3+1;omega)) (.string s)).setCell (p:=⟨b3+1,0,none⟩) (.inr (by have:=HBB.out;show W.heap.size≤b3+1;omega)) (.string s)).setCell (p:=⟨b3+1,1,none⟩) (.inr (by have:=HBB.out;show W.heap.size≤b3+1;omega)) (.int .u64 0)).setCell (p:=⟨b3+1,2,none⟩) (.inr (by have:=HBB.out;show W.heap.size≤b3+1;omega)) (.bool false))
 clear hw hk hk6 hk7
 go_wp2_with fail
 refine bodyPost_ret (results_single (v:= .agg #[.string s,.int .u64 0,.bool false]) rfl (.cell (b3+1) 129 #[.string s,.int .u64 0,.bool false] (0,0) _ rfl (blk_put (cs':=#[.string s,.int .u64 0,.bool false]) (blk_put (cs':=#[.string s,.int .u64 0,.bool false]) (blk_put (cs':=#[.string s,.int .u64 0,.bool false]) HK7.out 0 (.string s) rfl) 1 (.int .u64 0) rfl) 2 (.bool false) rfl) HU.out rfl (by kernel_rfl) .nil)) rfl ?_
 exact⟨rfl,HR.out,HKP.out⟩
theorem rdep2_any {w0 W:World} {S:Nat→Prop} {g t:Nat} {T:List ByteArray} {l:List Int} {a e:Int} (h:Rd w0 W S g t T l a e) (hb: ∀x∈l,0≤x∧x<256) (hl:l.length≤1000000):
  Calls Tryz.prog 81 #[.agg #[.pointer (some ⟨g,0,none⟩),.pointer (some ⟨t,0,none⟩)],.int .i64 2,.func (.func 76) #[.agg #[.pointer (some ⟨g,0,none⟩),.pointer (some ⟨t,0,none⟩)]] #[]] W (RdPost w0 W S g t T l (.agg #[.string (depR 2 T l a e).1.1,.int .u64 0,.bool (depR 2 T l a e).1.2]) (depR 2 T l a e).2.1 (depR 2 T l a e).2.2):=by
 obtain⟨w1,hw1⟩:=eX ((W.alloc (.cells #[.pointer (some ⟨g,0,none⟩),.pointer (some ⟨t,0,none⟩)] 110)).alloc (.cells #[.string ⟨#[]⟩,.int .u64 0,.bool false] 129))
 have hb1:Below W.heap.size W w1:=by rw[←hw1];exact((Below.refl _ _).alloc (Nat.le_refl _) _).alloc (by rw[heap_size_alloc];omega) _
 have hk3:w1.heap[W.heap.size]? =some (.cells #[.pointer (some ⟨g,0,none⟩),.pointer (some ⟨t,0,none⟩)] 110 (0,0)):=by rw[←hw1];exact blk_alloc (heap_new _ _) _
 have hk6:w1.heap[W.heap.size+1]? =some (.cells #[.string ⟨#[]⟩,.int .u64 0,.bool false] 129 (0,0)):=by
  rw[←hw1]
  have:=heap_new (W.alloc (.cells #[.pointer (some ⟨g,0,none⟩),.pointer (some ⟨t,0,none⟩)] 110)) (.cells #[.string ⟨#[]⟩,.int .u64 0,.bool false] 129)
  rwa [heap_size_alloc]at this
 obtain⟨b3,hbb⟩:=eX (W.heap.size)
 have h1:=h.keep hb1
 have hgl:g<b3:=by obtain⟨_,_,hc,_⟩:=h.cu;have:=blk_lt hc;omega
 have hS6: ¬S (b3+1):=fun hs=>by have:=h.tab.lt _ hs;omega
 have h06:w0.heap.size≤b3+1:=by have:=h.b.size;omega
 rw[hbb]at hk3 hk6
 have HU:=hQ Tryz.underlying129
 have HT:=hQ (rknown_any h1 hb hl)
 rw[show depR 2 T l a e=(((txR T l a e).1,false),(txR T l a e).2) from rfl]
 dsimp only
 have HB1:=hQ hb1
 have HW1:=hQ hw1
 have H1:=hQ h1
 have HK6:=hQ hk6
 have HK3:=hQ hk3
 have HBB:=hQ hbb
 have HGL:=hQ hgl
 have HS6:=hQ hS6
 have H06:=hQ h06
 clear h h1 hb1 hw1 hk3 hk6 hbb hb hS6 h06
 generalize txR T l a e=F at*
 obtain⟨s,a2,e2⟩:=F
 dsimp only at HT ⊢
 go_enter Tryz.func81,Tryz.ntmps81
 go_wp2_with fail
 rw[HW1.out,HBB.out]
 refine HT.out.mono ?_
 rintro en w2 ⟨rfl,hw,hk⟩
 have hk6:=hk.heap HK6.out (show b3+1≠g by omega)
 have p0:=(blk_cell hk6 0).trans rfl
 have f0:=blk_frozen hk6 0
 have hk7:(w2.setCell ⟨b3+1,0,none⟩ (.string s)).heap[b3+1]? =some (.cells #[.string s,.int .u64 0,.bool false] 129 (0,0)):=blk_put (cs':=#[.string s,.int .u64 0,.bool false]) hk6 0 (.string s) rfl
 have q0:(w2.setCell ⟨b3+1,0,none⟩ (.string s)).cell? ⟨b3+1,0,none⟩=some (.string s):=(blk_cell hk7 0).trans rfl
 have qf0:=blk_frozen hk7 0
 have q1:(w2.setCell ⟨b3+1,0,none⟩ (.string s)).cell? ⟨b3+1,1,none⟩=some (.int .u64 0):=(blk_cell hk7 1).trans rfl
 have qf1:=blk_frozen hk7 1
 have q2:(w2.setCell ⟨b3+1,0,none⟩ (.string s)).cell? ⟨b3+1,2,none⟩=some (.bool false):=(blk_cell hk7 2).trans rfl
 have qf2:=blk_frozen hk7 2
 have HK7:=hQ hk7
 have HR:=hQ ((((hw.far (b3+1) 0 (.string s) (by omega) HS6.out H06.out).far (b3+1) 0 (.string s) (by omega) HS6.out H06.out).far (b3+1) 1 (.int .u64 0) (by omega) HS6.out H06.out).far (b3+1) 2 (.bool false) (by omega) HS6.out H06.out)
 have HKP:=hQ (((((Kp.trans (Kp.of_below HB1.out (fun k=>k=g)) hk (fun _ h=> .inl h)).setCell (p:=⟨b3+1,0,none⟩) (.inr (by have:=HBB.out;show W.heap.size≤b3+1;omega)) (.string s)).setCell (p:=⟨b3+1,0,none⟩) (.inr (by have:=HBB.out;show W.heap.size≤b3+1;omega)) (.string s)).setCell (p:=⟨b3+1,1,none⟩) (.inr (by have:=HBB.out;show W.heap.size≤b3+1;omega)) (.int .u64 0)).setCell (p:=⟨b3+1,2,none⟩) (.inr (by have:=HBB.out;show W.heap.size≤b3+1;omega)) (.bool false))
 clear hw hk hk6 hk7
 go_wp2_with fail
 refine bodyPost_ret (results_single (v:= .agg #[.string s,.int .u64 0,.bool false]) rfl (.cell (b3+1) 129 #[.string s,.int .u64 0,.bool false] (0,0) _ rfl (blk_put (cs':=#[.string s,.int .u64 0,.bool false]) (blk_put (cs':=#[.string s,.int .u64 0,.bool false]) (blk_put (cs':=#[.string s,.int .u64 0,.bool false]) HK7.out 0 (.string s) rfl) 1 (.int .u64 0) rfl) 2 (.bool false) rfl) HU.out rfl (by kernel_rfl) .nil)) rfl ?_
 exact⟨rfl,HR.out,HKP.out⟩
theorem rdep3_any {w0 W:World} {S:Nat→Prop} {g t:Nat} {T:List ByteArray} {l:List Int} {a e:Int} (h:Rd w0 W S g t T l a e) (hb: ∀x∈l,0≤x∧x<256) (hl:l.length≤1000000) (fv:Value):
  Calls Tryz.prog 81 #[.agg #[.pointer (some ⟨g,0,none⟩),.pointer (some ⟨t,0,none⟩)],.int .i64 3,fv] W (RdPost w0 W S g t T l (.agg #[.string (depR 3 T l a e).1.1,.int .u64 0,.bool (depR 3 T l a e).1.2]) (depR 3 T l a e).2.1 (depR 3 T l a e).2.2):=by
 obtain⟨w1,hw1⟩:=eX ((W.alloc (.cells #[.pointer (some ⟨g,0,none⟩),.pointer (some ⟨t,0,none⟩)] 110)).alloc (.cells #[.string ⟨#[]⟩,.int .u64 0,.bool false] 129))
 have hb1:Below W.heap.size W w1:=by rw[←hw1];exact((Below.refl _ _).alloc (Nat.le_refl _) _).alloc (by rw[heap_size_alloc];omega) _
 have hk3:w1.heap[W.heap.size]? =some (.cells #[.pointer (some ⟨g,0,none⟩),.pointer (some ⟨t,0,none⟩)] 110 (0,0)):=by rw[←hw1];exact blk_alloc (heap_new _ _) _
 have hk6:w1.heap[W.heap.size+1]? =some (.cells #[.string ⟨#[]⟩,.int .u64 0,.bool false] 129 (0,0)):=by
  rw[←hw1]
  have:=heap_new (W.alloc (.cells #[.pointer (some ⟨g,0,none⟩),.pointer (some ⟨t,0,none⟩)] 110)) (.cells #[.string ⟨#[]⟩,.int .u64 0,.bool false] 129)
  rwa [heap_size_alloc]at this
 obtain⟨b3,hbb⟩:=eX (W.heap.size)
 have h1:=h.keep hb1
 have hgl:g<b3:=by obtain⟨_,_,hc,_⟩:=h.cu;have:=blk_lt hc;omega
 have hS6: ¬S (b3+1):=fun hs=>by have:=h.tab.lt _ hs;omega
 have h06:w0.heap.size≤b3+1:=by have:=h.b.size;omega
 rw[hbb]at hk3 hk6
 have HU:=hQ Tryz.underlying129
 have HB1:=hQ hb1
 have HW1:=hQ hw1
 have H1:=hQ h1
 have HK6:=hQ hk6
 have HK3:=hQ hk3
 have HBB:=hQ hbb
 have HGL:=hQ hgl
 have HS6:=hQ hS6
 have H06:=hQ h06
 have HNU:=hQ (rnum_any h1 hb hl)
 have HRG:=hQ (cuNum_rg (l:=l) (a:=a) (e:=e) hb)
 have hdR:depR 3 T l a e=((txF T ((cuNum l a e).1/2),decide ((cuNum l a e).1%2=1)),(cuNum l a e).2.1,txE T ((cuNum l a e).1/2) (cuNum l a e).2.2):=rfl
 rw[hdR]
 dsimp only
 clear h h1 hb1 hw1 hk3 hk6 hbb hb hS6 h06 hdR
 generalize cuNum l a e=F at*
 obtain⟨n,a2,e2⟩:=F
 dsimp only at HNU HRG ⊢
 have hn:=HRG.out
 have HTX:=hQ (fun(X:World) (hr:Rd w0 X S g t T l a2 e2)=>rtext_any hr (n/2) (by omega))
 obtain⟨m,rfl⟩:=Int.eq_ofNat_of_zero_le hn.1
 have hq1:Int.tdiv (m:Int) 2=(m:Int)/2:=rfl
 have hq2:Int.tmod (m:Int) 2=(m:Int)%2:=rfl
 have hq3:IntKind.u64.wrap ((m:Int)/2)=(m:Int)/2:=by rw[IntKind.wrap_u64];omega
 have hq4:IntKind.u64.wrap ((m:Int)%2)=(m:Int)%2:=by rw[IntKind.wrap_u64];omega
 generalize hs:txF T ((m:Int)/2)=s at*
 generalize he2:txE T ((m:Int)/2) e2=e3 at*
 have c30:=bcl HK3.out 0 rfl
 go_enter Tryz.func81,Tryz.ntmps81
 go_wp2_with fail
 rw[HW1.out,HBB.out]
 refine HNU.out.mono ?_
 rintro en w2 ⟨rfl,hw,hk⟩
 have HW2:=hQ hw
 have HKa:=hQ (Kp.trans (Kp.of_below HB1.out (fun k=>k=g)) hk (fun _ h=> .inl h))
 have HK6b:=hQ (hk.heap HK6.out (show b3+1≠g by omega))
 have hk3:=hk.heap HK3.out (show b3≠g by omega)
 have c0:=bcl hk3 0 rfl
 have c1:=bcl hk3 1 rfl
 clear hw hk hk3
 go_wp2_with fail
 refine(HTX.out w2 HW2.out).mono ?_
 rintro en w3 ⟨rfl,hw,hk⟩
 have hk6:=hk.heap HK6b.out (show b3+1≠g by omega)
 have q0:w3.cell? ⟨b3+1,0,none⟩=some (.string ⟨#[]⟩):=(blk_cell hk6 0).trans rfl
 have qf0:=blk_frozen hk6 0
 have q1:w3.cell? ⟨b3+1,1,none⟩=some (.int .u64 0):=(blk_cell hk6 1).trans rfl
 have qf1:=blk_frozen hk6 1
 have q2:w3.cell? ⟨b3+1,2,none⟩=some (.bool false):=(blk_cell hk6 2).trans rfl
 have qf2:=blk_frozen hk6 2
 have HKP:=hQ (HKa.out.trans hk (fun _ h=> .inl h))
 have HW3:=hQ hw
 have HK7:=hQ hk6
 clear hw hk hk6 c0 c1
 go_wp2_with fail
 rw[show((m:Int)%2==1)=decide ((m:Int)%2=1) from by rw[Bool.eq_iff_iff];simp]
 generalize decide ((m:Int)%2=1)=o
 refine bodyPost_ret (results_single (v:= .agg #[.string s,.int .u64 0,.bool o]) rfl (.cell (b3+1) 129 #[.string s,.int .u64 0,.bool o] (0,0) _ rfl (blk_put (cs':=#[.string s,.int .u64 0,.bool o]) (blk_put (cs':=#[.string s,.int .u64 0,.bool false]) (blk_put (cs':=#[.string s,.int .u64 0,.bool false]) HK7.out 0 (.string s) rfl) 1 (.int .u64 0) rfl) 2 (.bool o) rfl) HU.out rfl (by kernel_rfl) .nil)) rfl ?_
 exact⟨rfl,((HW3.out.far (b3+1) 0 (.string s) (by omega) HS6.out H06.out).far (b3+1) 1 (.int .u64 0) (by omega) HS6.out H06.out).far (b3+1) 2 (.bool o) (by omega) HS6.out H06.out,((HKP.out.setCell (p:=⟨b3+1,0,none⟩) (.inr (by have:=HBB.out;show W.heap.size≤b3+1;omega)) (.string s)).setCell (p:=⟨b3+1,1,none⟩) (.inr (by have:=HBB.out;show W.heap.size≤b3+1;omega)) (.int .u64 0)).setCell (p:=⟨b3+1,2,none⟩) (.inr (by have:=HBB.out;show W.heap.size≤b3+1;omega)) (.bool o)⟩
def depsL (v:Int) (T:List ByteArray) (l:List Int):Nat→Int→Int→Int→List S129→List S129×Int×Int
 | 0,_,a,e,acc=>(acc,a,e)
 |f+1,n,a,e,acc=>if 0<n∧e=0 then depsL v T l f (n-1) (cuNum l (depR v T l a e).2.1 (depR v T l a e).2.2).2.1 (cuNum l (depR v T l a e).2.1 (depR v T l a e).2.2).2.2 (acc++[⟨(depR v T l a e).1.1,(cuNum l (depR v T l a e).2.1 (depR v T l a e).2.2).1,(depR v T l a e).1.2⟩])else(acc,a,e)
theorem depsL_end {v:Int} {T:List ByteArray} {l:List Int} (f:Nat) {n a e:Int} {acc:List S129} (h: ¬(0<n∧e=0)):depsL v T l f n a e acc=(acc,a,e):=by
 cases f with
 |zero=>rfl
 |succ f=>rw[depsL,if_neg h]
theorem R_above {α:Type} {d:Kd α} {e:Nat} {W W':World} {B:Nat} {v:Value} {xs:List α} (h:d.R e W B (fun _=>True) v xs) (hk: ∀k,B≤k→k<W.heap.size→W'.heap[k]? =W.heap[k]?):d.R e W' B (fun _=>True) v xs:=
 Kd.R_mono (Kd.R_step (Kd.R_bound h) (fun k hk' hlt=>hk k hk'.2.1 hlt)) (fun _ _=>trivial)
structure LSt (w0 W X:World) (S:Nat→Prop) (g t:Nat) (T:List ByteArray) (l:List Int) (b:Nat) (k:Int) (s:ByteArray) (x2:Int) (dv:Value) (ds:List S129) (x4 x5:Int) (tag:ByteArray) (a e:Int):Prop where
 rd:Rd w0 X S g t T l a e
 bx2:X.heap[b]? =some (.cells #[.pointer (some ⟨g,0,none⟩),.pointer (some ⟨t,0,none⟩)] 110 (0,0))
 bx4:X.heap[b+1]? =some (.cells #[.int .i64 k,.string s,.int .u64 x2,dv,.int .u64 x4,.int .u64 x5,.string tag] 49 (0,0))
 row:Kd.R k129 129 X (b+2) (fun _=>True) dv ds
 kp:Kp W X (fun k=>k=g)
 bW:W.heap.size=b
 gb:g<b
 sb: ∀k,S k→k<b
 wb:w0.heap.size≤b
section
variable {w0 W X X':World} {S:Nat→Prop} {g t:Nat} {T:List ByteArray} {l:List Int} {b:Nat} {k:Int} {s:ByteArray} {x2:Int} {dv:Value} {ds:List S129} {x4 x5:Int} {tag:ByteArray} {a e a' e':Int}
theorem LSt.read {v:Value} {en:Ending} (h:LSt w0 W X S g t T l b k s x2 dv ds x4 x5 tag a e) (hp:RdPost w0 X S g t T l v a' e' en X'):LSt w0 W X' S g t T l b k s x2 dv ds x4 x5 tag a' e':=by
 obtain⟨_,hr,hk⟩:=hp
 have:=h.gb
 exact⟨hr,hk.heap h.bx2 (by omega),hk.heap h.bx4 (by omega),R_above h.row (fun q hq hlt=>hk.block q hlt (by omega)),h.kp.trans hk (fun _ h=> .inl h),h.bW,h.gb,h.sb,h.wb⟩
theorem LSt.below (h:LSt w0 W X S g t T l b k s x2 dv ds x4 x5 tag a e) (hb:Below X.heap.size X X'):LSt w0 W X' S g t T l b k s x2 dv ds x4 x5 tag a e:=
 ⟨h.rd.keep hb,blk_below h.bx2 hb,blk_below h.bx4 hb,Kd.R_below h.row hb,h.kp.below hb,h.bW,h.gb,h.sb,h.wb⟩
theorem LSt.grown {row:Option Nat} (h:LSt w0 W X S g t T l b k s x2 dv ds x4 x5 tag a e) (hg:X.grownBy X' row) (hr: ∀q,row=some q→b+2≤q) {dv':Value} {ds':List S129} (hR:Kd.R k129 129 X' (b+2) (fun _=>True) dv' ds'):
  Rd w0 X' S g t T l a e∧X'.heap[b]? =some (.cells #[.pointer (some ⟨g,0,none⟩),.pointer (some ⟨t,0,none⟩)] 110 (0,0))∧X'.heap[b+1]? =some (.cells #[.int .i64 k,.string s,.int .u64 x2,dv,.int .u64 x4,.int .u64 x5,.string tag] 49 (0,0))∧Kp W X' (fun k=>k=g):=by
 have hgb:=h.gb
 have hk:Kp X X' (fun q=>row=some q):=(Kp.refl X _).grown hg (fun q e=> .inl e)
 have hne: ∀q,q<b+2→row≠some q:=fun q hq e=>by have:=hr q e;omega
 refine⟨⟨h.rd.cu.grown hg (fun e=>hne g (by omega) e.symm),h.rd.b.grown hg h.rd.b.size (fun q e=>by have:=hr q e;have:=h.wb;omega),h.rd.tab.keep hk (fun q hs e=>hne q (by have:=h.sb q hs;omega) e),h.rd.ne⟩,hk.heap h.bx2 (hne b (by omega)),hk.heap h.bx4 (hne (b+1) (by omega)),h.kp.trans hk (fun q e=> .inr (by have:=hr q e;have:=h.bW;omega))⟩
theorem LSt.far (h:Rd w0 X S g t T l a e) (hgb:g<b) (hsb: ∀k,S k→k<b) (hwb:w0.heap.size≤b) (q j:Nat) (hq:b≤q) (u:Value):Rd w0 (X.setCell ⟨q,j,none⟩ u) S g t T l a e:=
 h.far q j u (by omega) (fun hs=>by have:=hsb q hs;omega) (by omega)
theorem LSt.put0 (h:LSt w0 W X S g t T l b k s x2 dv ds x4 x5 tag a e) (u:Int):LSt w0 W (X.setCell ⟨b+1,0,none⟩ (.int .i64 u)) S g t T l b u s x2 dv ds x4 x5 tag a e:=
 ⟨LSt.far h.rd h.gb h.sb h.wb (b+1) 0 (by omega) _,(Below.heap_setCell _ ⟨b+1,0,none⟩ _ _ (by show b≠b+1;omega)).trans h.bx2,blk_put (cs':=#[.int .i64 u,.string s,.int .u64 x2,dv,.int .u64 x4,.int .u64 x5,.string tag]) h.bx4 0 (.int .i64 u) rfl,R_above h.row (fun q hq _=>Below.heap_setCell _ ⟨b+1,0,none⟩ _ _ (by show q≠b+1;omega)),h.kp.setCell (p:=⟨b+1,0,none⟩) (.inr (by have:=h.bW;show W.heap.size≤b+1;omega)) _,h.bW,h.gb,h.sb,h.wb⟩
theorem LSt.put1 (h:LSt w0 W X S g t T l b k s x2 dv ds x4 x5 tag a e) (u:ByteArray):LSt w0 W (X.setCell ⟨b+1,1,none⟩ (.string u)) S g t T l b k u x2 dv ds x4 x5 tag a e:=
 ⟨LSt.far h.rd h.gb h.sb h.wb (b+1) 1 (by omega) _,(Below.heap_setCell _ ⟨b+1,1,none⟩ _ _ (by show b≠b+1;omega)).trans h.bx2,blk_put (cs':=#[.int .i64 k,.string u,.int .u64 x2,dv,.int .u64 x4,.int .u64 x5,.string tag]) h.bx4 1 (.string u) rfl,R_above h.row (fun q hq _=>Below.heap_setCell _ ⟨b+1,1,none⟩ _ _ (by show q≠b+1;omega)),h.kp.setCell (p:=⟨b+1,1,none⟩) (.inr (by have:=h.bW;show W.heap.size≤b+1;omega)) _,h.bW,h.gb,h.sb,h.wb⟩
theorem LSt.put2 (h:LSt w0 W X S g t T l b k s x2 dv ds x4 x5 tag a e) (u:Int):LSt w0 W (X.setCell ⟨b+1,2,none⟩ (.int .u64 u)) S g t T l b k s u dv ds x4 x5 tag a e:=
 ⟨LSt.far h.rd h.gb h.sb h.wb (b+1) 2 (by omega) _,(Below.heap_setCell _ ⟨b+1,2,none⟩ _ _ (by show b≠b+1;omega)).trans h.bx2,blk_put (cs':=#[.int .i64 k,.string s,.int .u64 u,dv,.int .u64 x4,.int .u64 x5,.string tag]) h.bx4 2 (.int .u64 u) rfl,R_above h.row (fun q hq _=>Below.heap_setCell _ ⟨b+1,2,none⟩ _ _ (by show q≠b+1;omega)),h.kp.setCell (p:=⟨b+1,2,none⟩) (.inr (by have:=h.bW;show W.heap.size≤b+1;omega)) _,h.bW,h.gb,h.sb,h.wb⟩
theorem LSt.put3 (h:LSt w0 W X S g t T l b k s x2 dv ds x4 x5 tag a e) (u:Value) {ds':List S129} (hR:Kd.R k129 129 X (b+2) (fun _=>True) u ds'):LSt w0 W (X.setCell ⟨b+1,3,none⟩ (u)) S g t T l b k s x2 u ds' x4 x5 tag a e:=
 ⟨LSt.far h.rd h.gb h.sb h.wb (b+1) 3 (by omega) _,(Below.heap_setCell _ ⟨b+1,3,none⟩ _ _ (by show b≠b+1;omega)).trans h.bx2,blk_put (cs':=#[.int .i64 k,.string s,.int .u64 x2,u,.int .u64 x4,.int .u64 x5,.string tag]) h.bx4 3 (u) rfl,R_above hR (fun q hq _=>Below.heap_setCell _ ⟨b+1,3,none⟩ _ _ (by show q≠b+1;omega)),h.kp.setCell (p:=⟨b+1,3,none⟩) (.inr (by have:=h.bW;show W.heap.size≤b+1;omega)) _,h.bW,h.gb,h.sb,h.wb⟩
theorem LSt.put4 (h:LSt w0 W X S g t T l b k s x2 dv ds x4 x5 tag a e) (u:Int):LSt w0 W (X.setCell ⟨b+1,4,none⟩ (.int .u64 u)) S g t T l b k s x2 dv ds u x5 tag a e:=
 ⟨LSt.far h.rd h.gb h.sb h.wb (b+1) 4 (by omega) _,(Below.heap_setCell _ ⟨b+1,4,none⟩ _ _ (by show b≠b+1;omega)).trans h.bx2,blk_put (cs':=#[.int .i64 k,.string s,.int .u64 x2,dv,.int .u64 u,.int .u64 x5,.string tag]) h.bx4 4 (.int .u64 u) rfl,R_above h.row (fun q hq _=>Below.heap_setCell _ ⟨b+1,4,none⟩ _ _ (by show q≠b+1;omega)),h.kp.setCell (p:=⟨b+1,4,none⟩) (.inr (by have:=h.bW;show W.heap.size≤b+1;omega)) _,h.bW,h.gb,h.sb,h.wb⟩
theorem LSt.put5 (h:LSt w0 W X S g t T l b k s x2 dv ds x4 x5 tag a e) (u:Int):LSt w0 W (X.setCell ⟨b+1,5,none⟩ (.int .u64 u)) S g t T l b k s x2 dv ds x4 u tag a e:=
 ⟨LSt.far h.rd h.gb h.sb h.wb (b+1) 5 (by omega) _,(Below.heap_setCell _ ⟨b+1,5,none⟩ _ _ (by show b≠b+1;omega)).trans h.bx2,blk_put (cs':=#[.int .i64 k,.string s,.int .u64 x2,dv,.int .u64 x4,.int .u64 u,.string tag]) h.bx4 5 (.int .u64 u) rfl,R_above h.row (fun q hq _=>Below.heap_setCell _ ⟨b+1,5,none⟩ _ _ (by show q≠b+1;omega)),h.kp.setCell (p:=⟨b+1,5,none⟩) (.inr (by have:=h.bW;show W.heap.size≤b+1;omega)) _,h.bW,h.gb,h.sb,h.wb⟩
theorem LSt.put6 (h:LSt w0 W X S g t T l b k s x2 dv ds x4 x5 tag a e) (u:ByteArray):LSt w0 W (X.setCell ⟨b+1,6,none⟩ (.string u)) S g t T l b k s x2 dv ds x4 x5 u a e:=
 ⟨LSt.far h.rd h.gb h.sb h.wb (b+1) 6 (by omega) _,(Below.heap_setCell _ ⟨b+1,6,none⟩ _ _ (by show b≠b+1;omega)).trans h.bx2,blk_put (cs':=#[.int .i64 k,.string s,.int .u64 x2,dv,.int .u64 x4,.int .u64 x5,.string u]) h.bx4 6 (.string u) rfl,R_above h.row (fun q hq _=>Below.heap_setCell _ ⟨b+1,6,none⟩ _ _ (by show q≠b+1;omega)),h.kp.setCell (p:=⟨b+1,6,none⟩) (.inr (by have:=h.bW;show W.heap.size≤b+1;omega)) _,h.bW,h.gb,h.sb,h.wb⟩
theorem LSt.putAll (h:LSt w0 W X S g t T l b k s x2 dv ds x4 x5 tag a e) (k':Int) (s':ByteArray) (x2':Int) (dv':Value) (x4' x5':Int) (tag':ByteArray) {ds':List S129} (hR:Kd.R k129 129 X (b+2) (fun _=>True) dv' ds'):
  LSt w0 W (((((((X.setCell ⟨b+1,0,none⟩ (.int .i64 k')).setCell ⟨b+1,1,none⟩ (.string s')).setCell ⟨b+1,2,none⟩ (.int .u64 x2')).setCell ⟨b+1,3,none⟩ dv').setCell ⟨b+1,4,none⟩ (.int .u64 x4')).setCell ⟨b+1,5,none⟩ (.int .u64 x5')).setCell ⟨b+1,6,none⟩ (.string tag')) S g t T l b k' s' x2' dv' ds' x4' x5' tag' a e:=by
 have hR3:Kd.R k129 129 (((X.setCell ⟨b+1,0,none⟩ (.int .i64 k')).setCell ⟨b+1,1,none⟩ (.string s')).setCell ⟨b+1,2,none⟩ (.int .u64 x2')) (b+2) (fun _=>True) dv' ds':=
  R_above (R_above (R_above hR (fun q hq _=>Below.heap_setCell _ ⟨b+1,0,none⟩ _ _ (by show q≠b+1;omega))) (fun q hq _=>Below.heap_setCell _ ⟨b+1,1,none⟩ _ _ (by show q≠b+1;omega))) (fun q hq _=>Below.heap_setCell _ ⟨b+1,2,none⟩ _ _ (by show q≠b+1;omega))
 exact((((((h.put0 k').put1 s').put2 x2').put3 dv' hR3).put4 x4').put5 x5').put6 tag'
theorem rbyte_any (h:Rd w0 X S g t T l a e) (hl:l.length≤1000000) (ha:0≤a∧a≤l.length):
  Calls Tryz.prog 78 #[.pointer (some ⟨g,0,none⟩)] X (RdPost w0 X S g t T l (.int .u8 (cuByte l a e).1) (cuByte l a e).2.1 (cuByte l a e).2.2):=
 (byte_any (hI:=h.cu) (hB:=h.b) (hl:=hl) (ha:=ha)).mono fun en w' hp=>⟨hp.1,(h.step hp).1,(h.step hp).2⟩
theorem rerr_any (h:Rd w0 X S g t T l a e):Calls Tryz.prog 80 #[.pointer (some ⟨g,0,none⟩)] X fun en w'=>en= .returned (.int .i64 e)∧X=w':=err_any (hI:=h.cu)
end
end Go.Proofs.YtfflenbfapgilaaGreat
namespace Go.Proofs.YtfflenbfapgilaaGreat
open Go.Proofs.YtfflenbfapgilaaGreat.GRR
abbrev Rec9:=Int×ByteArray×Int×List S129×Int×Int×ByteArray
def tailR (v:Int) (T:List ByteArray) (l:List Int) (k:Int) (s:ByteArray) (x2:Int) (ds:List S129) (x4 a e:Int):Rec9×Int×Int:=
 if v<2 then((k,s,x2,ds,x4,0,⟨#[]⟩),a,e)
 else if v<3 then((k,s,x2,ds,x4,(cuNum l a e).1,⟨#[]⟩),(cuNum l a e).2)
 else if 0<(cuNum l (cuNum l a e).2.1 (cuNum l a e).2.2).1 then((k,s,x2,ds,x4,(cuNum l a e).1,txF T ((cuNum l (cuNum l a e).2.1 (cuNum l a e).2.2).1-1)),(cuNum l (cuNum l a e).2.1 (cuNum l a e).2.2).2.1,txE T ((cuNum l (cuNum l a e).2.1 (cuNum l a e).2.2).1-1) (cuNum l (cuNum l a e).2.1 (cuNum l a e).2.2).2.2)
 else((k,s,x2,ds,x4,(cuNum l a e).1,⟨#[]⟩),(cuNum l (cuNum l a e).2.1 (cuNum l a e).2.2).2)
def traceR (v:Int) (T:List ByteArray) (l:List Int) (k:Int) (s:ByteArray) (a e:Int):Rec9×Int×Int:=
 tailR v T l k s (cuNum l a e).1 (depsL v T l (l.length+2) (cuNum l (cuNum l a e).2.1 (cuNum l a e).2.2).1 (cuNum l (cuNum l a e).2.1 (cuNum l a e).2.2).2.1 (cuNum l (cuNum l a e).2.1 (cuNum l a e).2.2).2.2 []).1
  (cuNum l (depsL v T l (l.length+2) (cuNum l (cuNum l a e).2.1 (cuNum l a e).2.2).1 (cuNum l (cuNum l a e).2.1 (cuNum l a e).2.2).2.1 (cuNum l (cuNum l a e).2.1 (cuNum l a e).2.2).2.2 []).2.1 (depsL v T l (l.length+2) (cuNum l (cuNum l a e).2.1 (cuNum l a e).2.2).1 (cuNum l (cuNum l a e).2.1 (cuNum l a e).2.2).2.1 (cuNum l (cuNum l a e).2.1 (cuNum l a e).2.2).2.2 []).2.2).1
  (cuNum l (depsL v T l (l.length+2) (cuNum l (cuNum l a e).2.1 (cuNum l a e).2.2).1 (cuNum l (cuNum l a e).2.1 (cuNum l a e).2.2).2.1 (cuNum l (cuNum l a e).2.1 (cuNum l a e).2.2).2.2 []).2.1 (depsL v T l (l.length+2) (cuNum l (cuNum l a e).2.1 (cuNum l a e).2.2).1 (cuNum l (cuNum l a e).2.1 (cuNum l a e).2.2).2.1 (cuNum l (cuNum l a e).2.1 (cuNum l a e).2.2).2.2 []).2.2).2.1
  (cuNum l (depsL v T l (l.length+2) (cuNum l (cuNum l a e).2.1 (cuNum l a e).2.2).1 (cuNum l (cuNum l a e).2.1 (cuNum l a e).2.2).2.1 (cuNum l (cuNum l a e).2.1 (cuNum l a e).2.2).2.2 []).2.1 (depsL v T l (l.length+2) (cuNum l (cuNum l a e).2.1 (cuNum l a e).2.2).1 (cuNum l (cuNum l a e).2.1 (cuNum l a e).2.2).2.1 (cuNum l (cuNum l a e).2.1 (cuNum l a e).2.2).2.2 []).2.2).2.2
def lastR (v:Int) (T:List ByteArray) (l:List Int):Rec9×Int×Int:=
 if (cuByte l 0 0).1=1 then traceR v T l (cuByte l 0 0).1 (textR v T l (cuByte l 0 0).2.1 (cuByte l 0 0).2.2).1 (textR v T l (cuByte l 0 0).2.1 (cuByte l 0 0).2.2).2.1 (textR v T l (cuByte l 0 0).2.1 (cuByte l 0 0).2.2).2.2
 else(((cuByte l 0 0).1,(textR v T l (cuByte l 0 0).2.1 (cuByte l 0 0).2.2).1,0,[],0,0,⟨#[]⟩),(textR v T l (cuByte l 0 0).2.1 (cuByte l 0 0).2.2).2)
def LastPost (W:World) (g:Nat) (r:Rec9) (en:Ending) (W':World):Prop:=
 ∃dv,en= .returned (.agg #[.int .i64 r.1,.string r.2.1,.int .u64 r.2.2.1,dv,.int .u64 r.2.2.2.2.1,.int .u64 r.2.2.2.2.2.1,.string r.2.2.2.2.2.2])∧Kd.R k129 129 W' W.heap.size (fun _=>True) dv r.2.2.2.1∧Kp W W' (fun k=>k=g)
theorem depR_place (v:Int) (T:List ByteArray) (l:List Int) (hb: ∀x∈l,0≤x∧x<256) (a e:Int) (ha:0≤a∧a≤l.length):a≤(depR v T l a e).2.1∧(depR v T l a e).2.1≤l.length:=by
 unfold depR textR txR
 split
 ·split
  ·exact⟨(cuText_step l hb 64 a e ha).2.1,(cuText_step l hb 64 a e ha).1⟩
  ·exact⟨(cuNum_step l hb a e ha).2.1,(cuNum_step l hb a e ha).1⟩
 ·exact⟨(cuNum_step l hb a e ha).2.1,(cuNum_step l hb a e ha).1⟩
theorem row_dep {w:World} {b:Nat} {s:ByteArray} {h:Int} {o:Bool} (hb:w.heap[b]? =some (.cells #[.string s,.int .u64 h,.bool o] 129 (0,0))):
  ReadsRow (fun y cs=>y=(⟨s,h,o⟩:S129)∧cs=[.string s,.int .u64 h,.bool o]) 3 w (some ⟨b,0,none⟩) 1 [⟨s,h,o⟩]:=by
 refine⟨rfl,by omega,fun _=>⟨_,rfl,fun j p hj=> ?_⟩⟩
 match j with
 | 0=>
  obtain rfl:(⟨s,h,o⟩:S129)=p:=by simpa using hj
  refine⟨_,rfl,⟨rfl,rfl⟩,fun i u hu=> ?_⟩
  rw[Nat.zero_mul,Nat.zero_add]
  have e:(⟨b,0,none⟩:Addr).add i=⟨b,i,none⟩:=add_plain b i
  rw[e,blk_cell hb i]
  simpa using hu
 |j+1=>simp at hj
theorem LSt.pushed {w0 W X X':World} {S:Nat→Prop} {g t:Nat} {T:List ByteArray} {l:List Int} {b:Nat} {k:Int} {s:ByteArray} {x2:Int} {dv dv':Value} {ds ds':List S129} {x4 x5:Int} {tag:ByteArray} {a e:Int}
  (h:LSt w0 W X S g t T l b k s x2 dv ds x4 x5 tag a e) (hg:X.grownBy X' dv.ownBlock) (hR:Kd.R k129 129 X' (b+2) (fun _=>True) dv' ds'):
  X'.heap[b+1]? =some (.cells #[.int .i64 k,.string s,.int .u64 x2,dv,.int .u64 x4,.int .u64 x5,.string tag] 49 (0,0))∧LSt w0 W (X'.setCell ⟨b+1,3,none⟩ dv') S g t T l b k s x2 dv' ds' x4 x5 tag a e:=by
 have hr: ∀q,dv.ownBlock=some q→b+2≤q:=fun q e=>by
  obtain⟨inner,ho⟩:=Kd.R_own h.row
  exact own_base ho q e
 obtain⟨g1,g2,g3,g4⟩:=h.grown hg hr hR
 exact⟨g3,LSt.far g1 h.gb h.sb h.wb (b+1) 3 (by omega) _,(Below.heap_setCell _ ⟨b+1,3,none⟩ _ _ (by show b≠b+1;omega)).trans g2,blk_put (cs':=#[.int .i64 k,.string s,.int .u64 x2,dv', .int .u64 x4,.int .u64 x5,.string tag]) g3 3 dv' rfl,R_above hR (fun q hq _=>Below.heap_setCell _ ⟨b+1,3,none⟩ _ _ (by show q≠b+1;omega)),g4.setCell (p:=⟨b+1,3,none⟩) (.inr (by have:=h.bW;show W.heap.size≤b+1;omega)) _,h.bW,h.gb,h.sb,h.wb⟩
theorem cuByte_rg (l:List Int) (hb: ∀x∈l,0≤x∧x<256):0≤(cuByte l 0 0).1∧(cuByte l 0 0).1<256:=by
 unfold cuByte
 rw[if_neg (by simp)]
 split
 ·exact⟨by simp,by simp⟩
 ·rename_i h
  have hp:0<l.length:=by rcases Nat.eq_zero_or_pos l.length with h0|h0<;>omega
  have e:rd l 0=l[0]:=by simp[rd,hp]
  have:=hb l[0] (List.getElem_mem _)
  dsimp only
  rw[e];exact this
theorem rlast1_any {w0 W:World} {S:Nat→Prop} {g t:Nat} {T:List ByteArray} {l:List Int} (h:Rd w0 W S g t T l 0 0) (hb: ∀x∈l,0≤x∧x<256) (hl:l.length≤1000000):
  Calls Tryz.prog 47 #[.agg #[.pointer (some ⟨g,0,none⟩),.pointer (some ⟨t,0,none⟩)],.int .i64 1] W (LastPost W g (lastR 1 T l).1):=by
 obtain⟨w1,hw1⟩:=eX ((W.alloc (.cells #[.pointer (some ⟨g,0,none⟩),.pointer (some ⟨t,0,none⟩)] 110)).alloc (.cells #[.int .i64 0,.string ⟨#[]⟩,.int .u64 0,.slice none 0 0,.int .u64 0,.int .u64 0,.string ⟨#[]⟩] 49))
 have hb1:Below W.heap.size W w1:=by rw[←hw1];exact((Below.refl _ _).alloc (Nat.le_refl _) _).alloc (by rw[heap_size_alloc];omega) _
 have hk2:w1.heap[W.heap.size]? =some (.cells #[.pointer (some ⟨g,0,none⟩),.pointer (some ⟨t,0,none⟩)] 110 (0,0)):=by rw[←hw1];exact blk_alloc (heap_new _ _) _
 have hk4:w1.heap[W.heap.size+1]? =some (.cells #[.int .i64 0,.string ⟨#[]⟩,.int .u64 0,.slice none 0 0,.int .u64 0,.int .u64 0,.string ⟨#[]⟩] 49 (0,0)):=by
  rw[←hw1]
  have:=heap_new (W.alloc (.cells #[.pointer (some ⟨g,0,none⟩),.pointer (some ⟨t,0,none⟩)] 110)) (.cells #[.int .i64 0,.string ⟨#[]⟩,.int .u64 0,.slice none 0 0,.int .u64 0,.int .u64 0,.string ⟨#[]⟩] 49)
  rwa [heap_size_alloc]at this
 obtain⟨b,hbb⟩:=eX (W.heap.size)
 have hgl:g<W.heap.size:=by obtain⟨_,_,hc,_⟩:=h.cu;exact blk_lt hc
 have hst:LSt w0 W w1 S g t T l W.heap.size 0 ⟨#[]⟩ 0 (.slice none 0 0) [] 0 0 ⟨#[]⟩ 0 0:=
  ⟨h.keep hb1,hk2,hk4,Kd.R_nil _ _ _ _ _,Kp.of_below hb1 _,rfl,hgl,h.tab.lt,h.b.size⟩
 rw[hbb]at hst
 have hr1:=rbyte_any hst.rd hl (by omega)
 have HBY:=hQ hr1
 have HST:=hQ hst
 have HW1:=hQ hw1
 have HBB:=hQ hbb
 have HU:=hQ Tryz.underlying49
 have hrg:=cuByte_rg l hb
 have hb1p:0≤(cuByte l 0 0).2.1∧(cuByte l 0 0).2.1≤(l.length:Int):=by unfold cuByte;rw[if_neg (by simp)];split<;>(dsimp only;constructor<;>omega)
 have HLR:Hid (lastR 1 T l=lastR 1 T l):=hQ rfl
 generalize hRR:lastR 1 T l=RR at HLR ⊢
 conv at HLR=>rw[←hRR]
 unfold lastR at hRR
 clear HLR h hb1 hw1 hk2 hk4 hbb hgl hst hr1
 generalize cuByte l 0 0=F1 at*
 obtain⟨kb,a1,e1⟩:=F1
 dsimp only at HBY hrg hRR hb1p
 rw[show textR 1 T l a1 e1=cuText l 64 a1 e1 from rfl]at hRR
 have HTX:=hQ (fun(X:World) (hr:Rd w0 X S g t T l a1 e1)=>rblob_any hr hb hl)
 have hpl:0≤(cuText l 64 a1 e1).2.1∧(cuText l 64 a1 e1).2.1≤(l.length:Int):=(by have:=cuText_step l hb 64 a1 e1 hb1p;exact⟨by omega,this.1⟩)
 generalize cuText l 64 a1 e1=F2 at*
 obtain⟨s,a2,e2⟩:=F2
 dsimp only at HTX hRR hpl
 have HPL:=hQ hpl
 clear hpl
 have HRR:=hQ hRR
 clear hRR
 have hcv:IntKind.i64.wrap kb=kb:=by rw[IntKind.wrap_i64];omega
 have p0:=bcl HST.out.bx2 0 rfl
 have p1:=bcl HST.out.bx2 1 rfl
 obtain⟨r0,f0,r1,f1,r2,f2,r3,f3,r4,f4,r5,f5,r6,f6⟩:=facts7f HST.out.bx4
 go_enter Tryz.func47,Tryz.ntmps47
 go_wp2_with fail
 rw[HW1.out,HBB.out]
 clear p0 p1 r0 f0 r1 f1 r2 f2 r3 f3 r4 f4 r5 f5 r6 f6
 refine HBY.out.mono ?_
 rintro en w2 hp
 have hs2:=HST.out.read hp
 obtain⟨rfl,_⟩:=hp
 have hs3:=hs2.putAll kb ⟨#[]⟩ 0 (.slice none 0 0) 0 0 ⟨#[]⟩ hs2.row
 have p0:=bcl hs2.bx2 0 rfl
 have p1:=bcl hs2.bx2 1 rfl
 obtain⟨r0,f0,r1,f1,r2,f2,r3,f3,r4,f4,r5,f5,r6,f6⟩:=facts7f hs2.bx4
 obtain⟨w3,hw3⟩:=eX ((((((((w2.setCell ⟨b+1,0,none⟩ (.int .i64 kb)).setCell ⟨b+1,1,none⟩ (.string ⟨#[]⟩)).setCell ⟨b+1,2,none⟩ (.int .u64 0)).setCell ⟨b+1,3,none⟩ (.slice none 0 0)).setCell ⟨b+1,4,none⟩ (.int .u64 0)).setCell ⟨b+1,5,none⟩ (.int .u64 0)).setCell ⟨b+1,6,none⟩ (.string ⟨#[]⟩)))
 rw[hw3]at hs3
 have HS3:=hQ hs3
 have HW3:=hQ hw3
 clear hs2 hs3 hw3 HST HBY
 go_wp2_with fail
 rw[HW3.out]
 clear p0 p1 r0 f0 r1 f1 r2 f2 r3 f3 r4 f4 r5 f5 r6 f6
 refine(HTX.out w3 HS3.out.rd).mono ?_
 rintro en w4 hp
 have hs4:=HS3.out.read hp
 obtain⟨rfl,_⟩:=hp
 have hs5:=hs4.put1 s
 have p0:=bcl hs4.bx2 0 rfl
 have p1:=bcl hs4.bx2 1 rfl
 obtain⟨r0,f0,r1,f1,r2,f2,r3,f3,r4,f4,r5,f5,r6,f6⟩:=facts7f hs4.bx4
 have yp0:((w4.setCell ⟨b+1,1,none⟩ (.string s))).cell? ⟨b,0,none⟩=some (.pointer (some ⟨g,0,none⟩)):=(blk_cell hs5.bx2 0).trans rfl
 have yp1:((w4.setCell ⟨b+1,1,none⟩ (.string s))).cell? ⟨b,1,none⟩=some (.pointer (some ⟨t,0,none⟩)):=(blk_cell hs5.bx2 1).trans rfl
 obtain⟨yr0,yf0,yr1,yf1,yr2,yf2,yr3,yf3,yr4,yf4,yr5,yf5,yr6,yf6⟩:=facts7f hs5.bx4
 obtain⟨w5,hw5⟩:=eX ((w4.setCell ⟨b+1,1,none⟩ (.string s)))
 have hs6:=hs5
 rw[hw5]at hs6
 have HS5:=hQ hs6
 have HS4:=hQ hs5
 have HW5:=hQ hw5
 clear hs4 hs5 hs6 hw5 HS3 HTX HW3
 by_cases hk1:kb=1
 ·subst hk1
  have hR2:=HRR.out
  rw[if_pos rfl]at hR2
  unfold traceR at hR2
  have HN2:=hQ (fun(X:World) (hr:Rd w0 X S g t T l a2 e2)=>rnum_any hr hb hl)
  have hs2:=cuNum_step l hb a2 e2 HPL.out
  generalize cuNum l a2 e2=N2 at*
  obtain⟨x2,a3,e3⟩:=N2
  dsimp only at HN2 hR2 hs2
  have HN3:=hQ (fun(X:World) (hr:Rd w0 X S g t T l a3 e3)=>rnum_any hr hb hl)
  have hs3:=cuNum_step l hb a3 e3 ⟨by have:=HPL.out;omega,hs2.1⟩
  generalize cuNum l a3 e3=N3 at*
  obtain⟨n,a4,e4⟩:=N3
  dsimp only at HN3 hR2 hs3
  have HP4:=hQ (show 0≤a4∧a4≤(l.length:Int)∧0≤n∧n<18446744073709551616 from⟨by have:=HPL.out;omega,hs3.1,hs3.2.2.2.1,hs3.2.2.2.2.1⟩)
  obtain⟨D,hD⟩:=eX (depsL 1 T l (l.length+2) n a4 e4 [])
  rw[hD]at hR2
  have HDD:=hQ hD
  clear hD hs2 hs3
  obtain⟨ds,a5,e5⟩:=D
  dsimp only at hR2
  have HN4:=hQ (fun(X:World) (hr:Rd w0 X S g t T l a5 e5)=>rnum_any hr hb hl)
  generalize cuNum l a5 e5=N4 at*
  obtain⟨x4,a6,e6⟩:=N4
  dsimp only at HN4 hR2
  unfold tailR at hR2
  rw[if_pos (by omega)]at hR2
  have HR2:=hQ hR2
  clear hR2 HRR
  go_wp2_with fail
  rw[HW5.out]
  clear p0 p1 r0 f0 r1 f1 r2 f2 r3 f3 r4 f4 r5 f5 r6 f6 yp0 yp1 yr0 yf0 yr1 yf1 yr2 yf2 yr3 yf3 yr4 yf4 yr5 yf5 yr6 yf6
  refine(HN2.out w5 HS5.out.rd).mono ?_
  rintro en w6 hp
  have HS6:=hQ (HS5.out.read hp)
  obtain⟨rfl,_⟩:=hp
  have HS7:=hQ (HS6.out.put2 x2)
  have p0:=bcl HS6.out.bx2 0 rfl
  have p1:=bcl HS6.out.bx2 1 rfl
  obtain⟨r0,f0,r1,f1,r2,f2,r3,f3,r4,f4,r5,f5,r6,f6⟩:=facts7f HS6.out.bx4
  have yp0:((w6.setCell ⟨b+1,2,none⟩ (.int .u64 x2))).cell? ⟨b,0,none⟩=some (.pointer (some ⟨g,0,none⟩)):=(blk_cell HS7.out.bx2 0).trans rfl
  have yp1:((w6.setCell ⟨b+1,2,none⟩ (.int .u64 x2))).cell? ⟨b,1,none⟩=some (.pointer (some ⟨t,0,none⟩)):=(blk_cell HS7.out.bx2 1).trans rfl
  obtain⟨yr0,yf0,yr1,yf1,yr2,yf2,yr3,yf3,yr4,yf4,yr5,yf5,yr6,yf6⟩:=facts7f HS7.out.bx4
  obtain⟨w7,hw7⟩:=eX ((w6.setCell ⟨b+1,2,none⟩ (.int .u64 x2)))
  have hs8:=HS7.out
  rw[hw7]at hs8
  have HS8:=hQ hs8
  have HW7:=hQ hw7
  clear hs8 hw7
  go_wp2_with fail
  rw[HW7.out]
  clear p0 p1 r0 f0 r1 f1 r2 f2 r3 f3 r4 f4 r5 f5 r6 f6 yp0 yp1 yr0 yf0 yr1 yf1 yr2 yf2 yr3 yf3 yr4 yf4 yr5 yf5 yr6 yf6
  refine(HN3.out w7 HS8.out.rd).mono ?_
  rintro en w8 hp
  have HS9:=hQ (HS8.out.read hp)
  obtain⟨rfl,_⟩:=hp
  clear HS8 HS7 HS6 HS5 HS4 HW5 HW7 HN2 HN3
  go_wp2_with fail
  go_loopg [6] (l.length+2) (fun kq u6 wr=>∃(n a e:Int) (dv:Value) (dl:List S129),u6= .int .u64 n∧0≤n∧n<18446744073709551616∧0≤a∧a≤(l.length:Int)∧Hid (LSt w0 W wr S g t T l b 1 s x2 dv dl 0 0 ⟨#[]⟩ a e)∧Hid (depsL 1 T l kq n a e dl=(ds,a5,e5))∧(e=0→(l.length:Int)-a+2≤(kq:Int))∧1≤kq∧dl.length+kq≤l.length+2)
  case atStart=>exact⟨n,a4,e4,.slice none 0 0,[],rfl,HP4.out.2.2.1,HP4.out.2.2.2,HP4.out.1,HP4.out.2.1,HS9,HDD,fun _=>by have:=HP4.out;omega,by omega,by simp⟩
  case round=>
   clear HDD HS9 HP4
   obtain⟨n,a,e,dv,dl,rfl,hn0,hn1,ha0,ha1,H,HDL,hf1,hf2,hf3⟩:=hrel
   by_cases hn:0<n
   ·have hnd:decide (0<n)=true:=decide_eq_true hn
    have p0:=bcl H.out.bx2 0 rfl
    have p1:=bcl H.out.bx2 1 rfl
    have HER:=hQ (rerr_any H.out.rd)
    by_cases he:e=0
    ·subst he
     cases gk with
     |zero=>omega
     | succ k1=>
      obtain⟨Ad,cd,rfl⟩:=Kd.R_slice H.out.row
      have hdl:=HDL.out
      rw[depsL,if_pos ⟨hn,rfl⟩]at hdl
      have hpd:=depR_place 1 T l hb a 0 ⟨ha0,ha1⟩
      have HDP:=hQ (rdep1_any H.out.rd hb hl)
      generalize depR 1 T l a 0=DR at*
      obtain⟨⟨sd,od⟩,a7,e7⟩:=DR
      dsimp only at hdl hpd HDP
      have hps:=cuNum_step l hb a7 e7 ⟨by omega,hpd.2⟩
      have HNH:=hQ (fun(X:World) (hr:Rd w0 X S g t T l a7 e7)=>rnum_any hr hb hl)
      generalize cuNum l a7 e7=NH at*
      obtain⟨hh,a8,e8⟩:=NH
      dsimp only at hdl hps HNH
      have hwn:IntKind.u64.wrap (n-1)=n-1:=by rw[IntKind.wrap_u64];omega
      have HDL2:=hQ hdl
      have HPS:=hQ (show a+0≤a8∧a8≤(l.length:Int)∧(e8=0→a+1≤a8) from⟨by omega,hps.1,fun h=>by have:=(hps.2.2.1 h).1;omega⟩)
      have hfz:=hf1 rfl
      clear hdl HDL hps hpd hf1
      go_wp2_with fail
      refine HER.out.mono ?_
      rintro en w9 ⟨rfl,rfl⟩
      go_wp2_with fail
      clear p0 p1 HER
      refine HDP.out.mono ?_
      rintro en w5 hp
      have HS5:=hQ (H.out.read hp)
      obtain⟨rfl,_⟩:=hp
      have HS6:=hQ (HS5.out.below ((Below.refl _ _).alloc (Nat.le_refl _) (.cells #[.string sd,.int .u64 0,.bool od] 129)))
      have p0:(w5.alloc (.cells #[.string sd,.int .u64 0,.bool od] 129)).cell? ⟨b,0,none⟩=some (.pointer (some ⟨g,0,none⟩)):=(blk_cell HS6.out.bx2 0).trans rfl
      have hkb:(w5.alloc (.cells #[.string sd,.int .u64 0,.bool od] 129)).heap[w5.heap.size]? =some (.cells #[.string sd,.int .u64 0,.bool od] 129 (0,0)):=heap_new _ _
      have hold: ∀k,k<w5.heap.size→(w5.alloc (.cells #[.string sd,.int .u64 0,.bool od] 129)).heap[k]? =w5.heap[k]? :=fun k hk=>heap_new_old _ _ _ hk
      obtain⟨w6,hw6⟩:=eX (w5.alloc (.cells #[.string sd,.int .u64 0,.bool od] 129))
      have HW6:=hQ hw6
      have hsz6:w6.heap.size=w5.heap.size+1:=by rw[←hw6,heap_size_alloc]
      have hs6:=HS6.out
      rw[hw6]at hs6 hkb hold
      replace HS6:=hQ hs6
      have HKB:=hQ hkb
      have HOLD:=hQ hold
      have HSZ:=hQ hsz6
      clear hw6 hkb hold hs6 hsz6 HDP
      go_wp2_with fail
      rw[HW6.out]
      clear p0
      obtain⟨b7,hb7⟩:=eX (w5.heap.size)
      rw[hb7]at HKB ⊢
      refine(HNH.out w6 HS6.out.rd).mono ?_
      rintro en w7 hp
      have hs7:=HS6.out.read hp
      obtain⟨rfl,_,hkk⟩:=hp
      have hgb:=hs7.gb
      have hb7l:b+2≤b7:=by have:=blk_lt HS5.out.bx4;omega
      have hk7:=hkk.heap HKB.out (show b7≠g by omega)
      have hk8:(w7.setCell ⟨b7,1,none⟩ (.int .u64 hh)).heap[b7]? =some (.cells #[.string sd,.int .u64 hh,.bool od] 129 (0,0)):=blk_put (cs':=#[.string sd,.int .u64 hh,.bool od]) hk7 1 (.int .u64 hh) rfl
      have hR8:Kd.R k129 129 (w7.setCell ⟨b7,1,none⟩ (.int .u64 hh)) (b+2) (fun _=>True) (.slice Ad dl.length cd) dl:=by
       refine Kd.R_mono (Kd.R_step (Kd.R_bound HS5.out.row) (fun k hk hlt=> ?_)) (fun _ _=>trivial)
       have h1:=hk.2.1
       exact(Below.heap_setCell _ ⟨b7,1,none⟩ _ _ (by show k≠b7;omega)).trans ((hkk.block k (by have:=HSZ.out;omega) (by omega)).trans (HOLD.out k hlt))
      obtain⟨g1,g2,g3,g4⟩:=hs7.grown (X':=w7.setCell ⟨b7,1,none⟩ (.int .u64 hh)) (row:=some b7) (grownBy_setAt _ _ _ _) (fun q e=>by cases e;exact hb7l) hR8
      have HS8:Hid (LSt w0 W (w7.setCell ⟨b7,1,none⟩ (.int .u64 hh)) S g t T l b 1 s x2 (.slice Ad dl.length cd) dl 0 0 ⟨#[]⟩ a8 e8):=hQ ⟨g1,g2,g3,hR8,g4,hs7.bW,hs7.gb,hs7.sb,hs7.wb⟩
      have q0:=bcl hk7 0 rfl
      have q1:=bcl hk7 1 rfl
      have qf1:=blk_frozen hk7 1
      have y0:(w7.setCell ⟨b7,1,none⟩ (.int .u64 hh)).cell? ⟨b7,0,none⟩=some (.string sd):=(blk_cell hk8 0).trans rfl
      have y1:(w7.setCell ⟨b7,1,none⟩ (.int .u64 hh)).cell? ⟨b7,1,none⟩=some (.int .u64 hh):=(blk_cell hk8 1).trans rfl
      have y2:(w7.setCell ⟨b7,1,none⟩ (.int .u64 hh)).cell? ⟨b7,2,none⟩=some (.bool od):=(blk_cell hk8 2).trans rfl
      have z3:(w7.setCell ⟨b7,1,none⟩ (.int .u64 hh)).cell? ⟨b+1,3,none⟩=some (.slice Ad dl.length cd):=(blk_cell HS8.out.bx4 3).trans rfl
      clear hk7 hk8 hR8 g1 g2 g3 g4 hs7 hkk HS5 HS6 HOLD HKB HW6 HNH hb7
      go_wp2_with (at_builtin;refine Halt.mk ?_)
      refine Halt.of ?_
      clear q0 q1 qf1 y0 y1 y2 z3
      have hsz8:(w7.setCell ⟨b7,1,none⟩ (.int .u64 hh)).heap.size=w7.heap.size:=by simp
      generalize w7.setCell ⟨b7,1,none⟩ (.int .u64 hh)=w8 at*
      have hb9:Below w8.heap.size w8 (w8.alloc (.cells #[.string sd,.int .u64 hh,.bool od] 129)):=(Below.refl _ _).alloc (Nat.le_refl _) _
      have hk9:(w8.alloc (.cells #[.string sd,.int .u64 hh,.bool od] 129)).heap[w8.heap.size]? =some (.cells #[.string sd,.int .u64 hh,.bool od] 129 (0,0)):=heap_new _ _
      rw[hsz8]at hk9
      have hs9:=HS8.out.below hb9
      have hbz:b+2≤(w8.alloc (.cells #[.string sd,.int .u64 hh,.bool od] 129)).heap.size:=by have:=blk_lt hs9.bx4;omega
      refine Kd.R_append_rows k129 (w0:=w8.alloc (.cells #[.string sd,.int .u64 hh,.bool od] 129)) (b+2) rfl (.tmp 53) (.tmp 55) 47 129 (.agg #[.string ⟨#[]⟩,.int .u64 0,.bool false]) 32 rfl Tryz.underlying47 info_dep rfl (by decide) (by omega) _ dl [⟨sd,hh,od⟩] _ _ _ (fun _=>True) (fun _=>False) rfl rfl hs9.row (row_dep hk9) ?_ (fun _ h=>h.elim) (fun _ _=>trivial) (Below.refl _ _) hbz (by omega) ?_
      ·rintro _ _ ⟨rfl,rfl⟩
       exact k129_mkM _ _ _ (⟨sd,hh,od⟩:S129)
      intro v12 w12 hR12 _ hg12 _
      obtain⟨dl2,hdl2⟩:=eX (dl++[(⟨sd,hh,od⟩:S129)])
      have hln:dl2.length=dl.length+1:=by rw[←hdl2,List.length_append];rfl
      have hdq:=HDL2.out
      rw[hdl2]at hR12 hdq
      obtain⟨A12,c12,rfl⟩:=Kd.R_slice hR12
      have hpu:=hs9.pushed hg12 hR12
      have r3:w12.cell? ⟨b+1,3,none⟩=some (.slice Ad dl.length cd):=(blk_cell hpu.1 3).trans rfl
      have f3:=blk_frozen hpu.1 3
      have HPU:=hQ hpu.2
      have HDQ:=hQ hdq
      have HLN:=hQ hln
      clear hpu hdq hR12 hg12 hs9 hk9 hb9 hbz HS8 HDL2 hdl2 hln
      go_wp2_with fail
      go_roundg k1
      case measure=>omega
      case rel=>
       have hps:=HPS.out
       have hln:=HLN.out
       exact⟨n-1,a8,e8,_,dl2,rfl,by omega,by omega,by omega,by omega,HPU,HDQ,fun h8=>by have:=hps.2.2 h8;omega,by omega,by omega⟩
    ·have hed:decide (e=0)=false:=decide_eq_false he
     go_wp2_with fail
     refine HER.out.mono ?_
     rintro en w9 ⟨rfl,rfl⟩
     have hdl:=HDL.out
     rw[depsL_end _ (by omega)]at hdl
     obtain⟨rfl,rfl,rfl⟩:dl=ds∧a=a5∧e=e5:=by injection hdl with h1 h2;injection h2 with h2 h3;exact⟨h1,h2,h3⟩
     clear p0 p1 HER HDL hdl
     obtain⟨Ad,cd,rfl⟩:=Kd.R_slice H.out.row
     have p0:=bcl H.out.bx2 0 rfl
     have p1:=bcl H.out.bx2 1 rfl
     obtain⟨r0,f0,r1,f1,r2,f2,r3,f3,r4,f4,r5,f5,r6,f6⟩:=facts7f H.out.bx4
     go_wp2_with fail
     clear p0 p1 r0 f0 r1 f1 r2 f2 r3 f3 r4 f4 r5 f5 r6 f6
     refine(HN4.out wr H.out.rd).mono ?_
     rintro en wa hp
     have HA:=hQ (H.out.read hp)
     obtain⟨rfl,_⟩:=hp
     have HB9:=hQ (HA.out.put4 x4)
     have p0:=bcl HA.out.bx2 0 rfl
     have p1:=bcl HA.out.bx2 1 rfl
     obtain⟨r0,f0,r1,f1,r2,f2,r3,f3,r4,f4,r5,f5,r6,f6⟩:=facts7f HA.out.bx4
     have yp0:((wa.setCell ⟨b+1,4,none⟩ (.int .u64 x4))).cell? ⟨b,0,none⟩=some (.pointer (some ⟨g,0,none⟩)):=(blk_cell HB9.out.bx2 0).trans rfl
     have yp1:((wa.setCell ⟨b+1,4,none⟩ (.int .u64 x4))).cell? ⟨b,1,none⟩=some (.pointer (some ⟨t,0,none⟩)):=(blk_cell HB9.out.bx2 1).trans rfl
     obtain⟨yr0,yf0,yr1,yf1,yr2,yf2,yr3,yf3,yr4,yf4,yr5,yf5,yr6,yf6⟩:=facts7f HB9.out.bx4
     have HEND:=hQ (HB9.out.putAll 1 s x2 (.slice Ad dl.length cd) x4 0 ⟨#[]⟩ HB9.out.row)
     go_wp2_with fail
     refine bodyPost_ret (results_single (v:= .agg #[.int .i64 1,.string s,.int .u64 x2,.slice Ad dl.length cd,.int .u64 x4,.int .u64 0,.string ⟨#[]⟩]) rfl (.cell (b+1) 49 #[.int .i64 1,.string s,.int .u64 x2,.slice Ad dl.length cd,.int .u64 x4,.int .u64 0,.string ⟨#[]⟩] (0,0) _ rfl HEND.out.bx4 HU.out rfl (by kernel_rfl) .nil)) rfl ?_
     rw[←HR2.out]
     exact⟨_,rfl,Kd.R_lower HEND.out.row (by have:=HBB.out;omega),HEND.out.kp⟩
   ·have hnd:decide (0<n)=false:=decide_eq_false hn
    have hdl:=HDL.out
    rw[depsL_end _ (by omega)]at hdl
    obtain⟨rfl,rfl,rfl⟩:dl=ds∧a=a5∧e=e5:=by injection hdl with h1 h2;injection h2 with h2 h3;exact⟨h1,h2,h3⟩
    clear HDL hdl
    obtain⟨Ad,cd,rfl⟩:=Kd.R_slice H.out.row
    have p0:=bcl H.out.bx2 0 rfl
    have p1:=bcl H.out.bx2 1 rfl
    obtain⟨r0,f0,r1,f1,r2,f2,r3,f3,r4,f4,r5,f5,r6,f6⟩:=facts7f H.out.bx4
    go_wp2_with fail
    clear p0 p1 r0 f0 r1 f1 r2 f2 r3 f3 r4 f4 r5 f5 r6 f6
    refine(HN4.out wr H.out.rd).mono ?_
    rintro en wa hp
    have HA:=hQ (H.out.read hp)
    obtain⟨rfl,_⟩:=hp
    have HB9:=hQ (HA.out.put4 x4)
    have p0:=bcl HA.out.bx2 0 rfl
    have p1:=bcl HA.out.bx2 1 rfl
    obtain⟨r0,f0,r1,f1,r2,f2,r3,f3,r4,f4,r5,f5,r6,f6⟩:=facts7f HA.out.bx4
    have yp0:((wa.setCell ⟨b+1,4,none⟩ (.int .u64 x4))).cell? ⟨b,0,none⟩=some (.pointer (some ⟨g,0,none⟩)):=(blk_cell HB9.out.bx2 0).trans rfl
    have yp1:((wa.setCell ⟨b+1,4,none⟩ (.int .u64 x4))).cell? ⟨b,1,none⟩=some (.pointer (some ⟨t,0,none⟩)):=(blk_cell HB9.out.bx2 1).trans rfl
    obtain⟨yr0,yf0,yr1,yf1,yr2,yf2,yr3,yf3,yr4,yf4,yr5,yf5,yr6,yf6⟩:=facts7f HB9.out.bx4
    have HEND:=hQ (HB9.out.putAll 1 s x2 (.slice Ad dl.length cd) x4 0 ⟨#[]⟩ HB9.out.row)
    go_wp2_with fail
    refine bodyPost_ret (results_single (v:= .agg #[.int .i64 1,.string s,.int .u64 x2,.slice Ad dl.length cd,.int .u64 x4,.int .u64 0,.string ⟨#[]⟩]) rfl (.cell (b+1) 49 #[.int .i64 1,.string s,.int .u64 x2,.slice Ad dl.length cd,.int .u64 x4,.int .u64 0,.string ⟨#[]⟩] (0,0) _ rfl HEND.out.bx4 HU.out rfl (by kernel_rfl) .nil)) rfl ?_
    rw[←HR2.out]
    exact⟨_,rfl,Kd.R_lower HEND.out.row (by have:=HBB.out;omega),HEND.out.kp⟩
 ·have hkd:decide (kb=1)=false:=decide_eq_false hk1
  have HEND:=hQ (HS4.out.putAll kb s 0 (.slice none 0 0) 0 0 ⟨#[]⟩ HS4.out.row)
  have hR2:=HRR.out
  rw[if_neg hk1]at hR2
  have HR2:=hQ hR2
  clear hR2 HRR
  go_wp2_with fail
  refine bodyPost_ret (results_single (v:= .agg #[.int .i64 kb,.string s,.int .u64 0,.slice none 0 0,.int .u64 0,.int .u64 0,.string ⟨#[]⟩]) rfl (.cell (b+1) 49 #[.int .i64 kb,.string s,.int .u64 0,.slice none 0 0,.int .u64 0,.int .u64 0,.string ⟨#[]⟩] (0,0) _ rfl HEND.out.bx4 HU.out rfl (by kernel_rfl) .nil)) rfl ?_
  rw[←HR2.out]
  exact⟨_,rfl,Kd.R_lower HEND.out.row (by have:=HBB.out;omega),HEND.out.kp⟩
theorem rlast2_any {w0 W:World} {S:Nat→Prop} {g t:Nat} {T:List ByteArray} {l:List Int} (h:Rd w0 W S g t T l 0 0) (hb: ∀x∈l,0≤x∧x<256) (hl:l.length≤1000000):
  Calls Tryz.prog 47 #[.agg #[.pointer (some ⟨g,0,none⟩),.pointer (some ⟨t,0,none⟩)],.int .i64 2] W (LastPost W g (lastR 2 T l).1):=by
 obtain⟨w1,hw1⟩:=eX ((W.alloc (.cells #[.pointer (some ⟨g,0,none⟩),.pointer (some ⟨t,0,none⟩)] 110)).alloc (.cells #[.int .i64 0,.string ⟨#[]⟩,.int .u64 0,.slice none 0 0,.int .u64 0,.int .u64 0,.string ⟨#[]⟩] 49))
 have hb1:Below W.heap.size W w1:=by rw[←hw1];exact((Below.refl _ _).alloc (Nat.le_refl _) _).alloc (by rw[heap_size_alloc];omega) _
 have hk2:w1.heap[W.heap.size]? =some (.cells #[.pointer (some ⟨g,0,none⟩),.pointer (some ⟨t,0,none⟩)] 110 (0,0)):=by rw[←hw1];exact blk_alloc (heap_new _ _) _
 have hk4:w1.heap[W.heap.size+1]? =some (.cells #[.int .i64 0,.string ⟨#[]⟩,.int .u64 0,.slice none 0 0,.int .u64 0,.int .u64 0,.string ⟨#[]⟩] 49 (0,0)):=by
  rw[←hw1]
  have:=heap_new (W.alloc (.cells #[.pointer (some ⟨g,0,none⟩),.pointer (some ⟨t,0,none⟩)] 110)) (.cells #[.int .i64 0,.string ⟨#[]⟩,.int .u64 0,.slice none 0 0,.int .u64 0,.int .u64 0,.string ⟨#[]⟩] 49)
  rwa [heap_size_alloc]at this
 obtain⟨b,hbb⟩:=eX (W.heap.size)
 have hgl:g<W.heap.size:=by obtain⟨_,_,hc,_⟩:=h.cu;exact blk_lt hc
 have hst:LSt w0 W w1 S g t T l W.heap.size 0 ⟨#[]⟩ 0 (.slice none 0 0) [] 0 0 ⟨#[]⟩ 0 0:=
  ⟨h.keep hb1,hk2,hk4,Kd.R_nil _ _ _ _ _,Kp.of_below hb1 _,rfl,hgl,h.tab.lt,h.b.size⟩
 rw[hbb]at hst
 have hr1:=rbyte_any hst.rd hl (by omega)
 have HBY:=hQ hr1
 have HST:=hQ hst
 have HW1:=hQ hw1
 have HBB:=hQ hbb
 have HU:=hQ Tryz.underlying49
 have hrg:=cuByte_rg l hb
 have hb1p:0≤(cuByte l 0 0).2.1∧(cuByte l 0 0).2.1≤(l.length:Int):=by unfold cuByte;rw[if_neg (by simp)];split<;>(dsimp only;constructor<;>omega)
 have HLR:Hid (lastR 2 T l=lastR 2 T l):=hQ rfl
 generalize hRR:lastR 2 T l=RR at HLR ⊢
 conv at HLR=>rw[←hRR]
 unfold lastR at hRR
 clear HLR h hb1 hw1 hk2 hk4 hbb hgl hst hr1
 generalize cuByte l 0 0=F1 at*
 obtain⟨kb,a1,e1⟩:=F1
 dsimp only at HBY hrg hRR hb1p
 rw[show textR 2 T l a1 e1=txR T l a1 e1 from rfl]at hRR
 have HTX:=hQ (fun(X:World) (hr:Rd w0 X S g t T l a1 e1)=>rknown_any hr hb hl)
 have hpl:0≤(txR T l a1 e1).2.1∧(txR T l a1 e1).2.1≤(l.length:Int):=(by have:=cuNum_step l hb a1 e1 hb1p;exact⟨by show 0≤(cuNum l a1 e1).2.1;omega,this.1⟩)
 generalize txR T l a1 e1=F2 at*
 obtain⟨s,a2,e2⟩:=F2
 dsimp only at HTX hRR hpl
 have HPL:=hQ hpl
 clear hpl
 have HRR:=hQ hRR
 clear hRR
 have hcv:IntKind.i64.wrap kb=kb:=by rw[IntKind.wrap_i64];omega
 have p0:=bcl HST.out.bx2 0 rfl
 have p1:=bcl HST.out.bx2 1 rfl
 obtain⟨r0,f0,r1,f1,r2,f2,r3,f3,r4,f4,r5,f5,r6,f6⟩:=facts7f HST.out.bx4
 go_enter Tryz.func47,Tryz.ntmps47
 go_wp2_with fail
 rw[HW1.out,HBB.out]
 clear p0 p1 r0 f0 r1 f1 r2 f2 r3 f3 r4 f4 r5 f5 r6 f6
 refine HBY.out.mono ?_
 rintro en w2 hp
 have hs2:=HST.out.read hp
 obtain⟨rfl,_⟩:=hp
 have hs3:=hs2.putAll kb ⟨#[]⟩ 0 (.slice none 0 0) 0 0 ⟨#[]⟩ hs2.row
 have p0:=bcl hs2.bx2 0 rfl
 have p1:=bcl hs2.bx2 1 rfl
 obtain⟨r0,f0,r1,f1,r2,f2,r3,f3,r4,f4,r5,f5,r6,f6⟩:=facts7f hs2.bx4
 obtain⟨w3,hw3⟩:=eX ((((((((w2.setCell ⟨b+1,0,none⟩ (.int .i64 kb)).setCell ⟨b+1,1,none⟩ (.string ⟨#[]⟩)).setCell ⟨b+1,2,none⟩ (.int .u64 0)).setCell ⟨b+1,3,none⟩ (.slice none 0 0)).setCell ⟨b+1,4,none⟩ (.int .u64 0)).setCell ⟨b+1,5,none⟩ (.int .u64 0)).setCell ⟨b+1,6,none⟩ (.string ⟨#[]⟩)))
 rw[hw3]at hs3
 have HS3:=hQ hs3
 have HW3:=hQ hw3
 clear hs2 hs3 hw3 HST HBY
 go_wp2_with fail
 rw[HW3.out]
 clear p0 p1 r0 f0 r1 f1 r2 f2 r3 f3 r4 f4 r5 f5 r6 f6
 refine(HTX.out w3 HS3.out.rd).mono ?_
 rintro en w4 hp
 have hs4:=HS3.out.read hp
 obtain⟨rfl,_⟩:=hp
 have hs5:=hs4.put1 s
 have p0:=bcl hs4.bx2 0 rfl
 have p1:=bcl hs4.bx2 1 rfl
 obtain⟨r0,f0,r1,f1,r2,f2,r3,f3,r4,f4,r5,f5,r6,f6⟩:=facts7f hs4.bx4
 have yp0:((w4.setCell ⟨b+1,1,none⟩ (.string s))).cell? ⟨b,0,none⟩=some (.pointer (some ⟨g,0,none⟩)):=(blk_cell hs5.bx2 0).trans rfl
 have yp1:((w4.setCell ⟨b+1,1,none⟩ (.string s))).cell? ⟨b,1,none⟩=some (.pointer (some ⟨t,0,none⟩)):=(blk_cell hs5.bx2 1).trans rfl
 obtain⟨yr0,yf0,yr1,yf1,yr2,yf2,yr3,yf3,yr4,yf4,yr5,yf5,yr6,yf6⟩:=facts7f hs5.bx4
 obtain⟨w5,hw5⟩:=eX ((w4.setCell ⟨b+1,1,none⟩ (.string s)))
 have hs6:=hs5
 rw[hw5]at hs6
 have HS5:=hQ hs6
 have HS4:=hQ hs5
 have HW5:=hQ hw5
 clear hs4 hs5 hs6 hw5 HS3 HTX HW3
 by_cases hk1:kb=1
 ·subst hk1
  have hR2:=HRR.out
  rw[if_pos rfl]at hR2
  unfold traceR at hR2
  have HN2:=hQ (fun(X:World) (hr:Rd w0 X S g t T l a2 e2)=>rnum_any hr hb hl)
  have hs2:=cuNum_step l hb a2 e2 HPL.out
  generalize cuNum l a2 e2=N2 at*
  obtain⟨x2,a3,e3⟩:=N2
  dsimp only at HN2 hR2 hs2
  have HN3:=hQ (fun(X:World) (hr:Rd w0 X S g t T l a3 e3)=>rnum_any hr hb hl)
  have hs3:=cuNum_step l hb a3 e3 ⟨by have:=HPL.out;omega,hs2.1⟩
  generalize cuNum l a3 e3=N3 at*
  obtain⟨n,a4,e4⟩:=N3
  dsimp only at HN3 hR2 hs3
  have HP4:=hQ (show 0≤a4∧a4≤(l.length:Int)∧0≤n∧n<18446744073709551616 from⟨by have:=HPL.out;omega,hs3.1,hs3.2.2.2.1,hs3.2.2.2.2.1⟩)
  obtain⟨D,hD⟩:=eX (depsL 2 T l (l.length+2) n a4 e4 [])
  rw[hD]at hR2
  have HDD:=hQ hD
  clear hD hs2 hs3
  obtain⟨ds,a5,e5⟩:=D
  dsimp only at hR2
  have HN4:=hQ (fun(X:World) (hr:Rd w0 X S g t T l a5 e5)=>rnum_any hr hb hl)
  generalize cuNum l a5 e5=N4 at*
  obtain⟨x4,a6,e6⟩:=N4
  dsimp only at HN4 hR2
  unfold tailR at hR2
  rw[if_neg (by omega)]at hR2
  have HN5:=hQ (fun(X:World) (hr:Rd w0 X S g t T l a6 e6)=>rnum_any hr hb hl)
  generalize cuNum l a6 e6=N5 at*
  obtain⟨x5,a7,e7_⟩:=N5
  dsimp only at HN5 hR2
  rw[if_pos (by omega)]at hR2
  have HR2:=hQ hR2
  clear hR2 HRR
  go_wp2_with fail
  rw[HW5.out]
  clear p0 p1 r0 f0 r1 f1 r2 f2 r3 f3 r4 f4 r5 f5 r6 f6 yp0 yp1 yr0 yf0 yr1 yf1 yr2 yf2 yr3 yf3 yr4 yf4 yr5 yf5 yr6 yf6
  refine(HN2.out w5 HS5.out.rd).mono ?_
  rintro en w6 hp
  have HS6:=hQ (HS5.out.read hp)
  obtain⟨rfl,_⟩:=hp
  have HS7:=hQ (HS6.out.put2 x2)
  have p0:=bcl HS6.out.bx2 0 rfl
  have p1:=bcl HS6.out.bx2 1 rfl
  obtain⟨r0,f0,r1,f1,r2,f2,r3,f3,r4,f4,r5,f5,r6,f6⟩:=facts7f HS6.out.bx4
  have yp0:((w6.setCell ⟨b+1,2,none⟩ (.int .u64 x2))).cell? ⟨b,0,none⟩=some (.pointer (some ⟨g,0,none⟩)):=(blk_cell HS7.out.bx2 0).trans rfl
  have yp1:((w6.setCell ⟨b+1,2,none⟩ (.int .u64 x2))).cell? ⟨b,1,none⟩=some (.pointer (some ⟨t,0,none⟩)):=(blk_cell HS7.out.bx2 1).trans rfl
  obtain⟨yr0,yf0,yr1,yf1,yr2,yf2,yr3,yf3,yr4,yf4,yr5,yf5,yr6,yf6⟩:=facts7f HS7.out.bx4
  obtain⟨w7,hw7⟩:=eX ((w6.setCell ⟨b+1,2,none⟩ (.int .u64 x2)))
  have hs8:=HS7.out
  rw[hw7]at hs8
  have HS8:=hQ hs8
  have HW7:=hQ hw7
  clear hs8 hw7
  go_wp2_with fail
  rw[HW7.out]
  clear p0 p1 r0 f0 r1 f1 r2 f2 r3 f3 r4 f4 r5 f5 r6 f6 yp0 yp1 yr0 yf0 yr1 yf1 yr2 yf2 yr3 yf3 yr4 yf4 yr5 yf5 yr6 yf6
  refine(HN3.out w7 HS8.out.rd).mono ?_
  rintro en w8 hp
  have HS9:=hQ (HS8.out.read hp)
  obtain⟨rfl,_⟩:=hp
  clear HS8 HS7 HS6 HS5 HS4 HW5 HW7 HN2 HN3
  go_wp2_with fail
  go_loopg [6] (l.length+2) (fun kq u6 wr=>∃(n a e:Int) (dv:Value) (dl:List S129),u6= .int .u64 n∧0≤n∧n<18446744073709551616∧0≤a∧a≤(l.length:Int)∧Hid (LSt w0 W wr S g t T l b 1 s x2 dv dl 0 0 ⟨#[]⟩ a e)∧Hid (depsL 2 T l kq n a e dl=(ds,a5,e5))∧(e=0→(l.length:Int)-a+2≤(kq:Int))∧1≤kq∧dl.length+kq≤l.length+2)
  case atStart=>exact⟨n,a4,e4,.slice none 0 0,[],rfl,HP4.out.2.2.1,HP4.out.2.2.2,HP4.out.1,HP4.out.2.1,HS9,HDD,fun _=>by have:=HP4.out;omega,by omega,by simp⟩
  case round=>
   clear HDD HS9 HP4
   obtain⟨n,a,e,dv,dl,rfl,hn0,hn1,ha0,ha1,H,HDL,hf1,hf2,hf3⟩:=hrel
   by_cases hn:0<n
   ·have hnd:decide (0<n)=true:=decide_eq_true hn
    have p0:=bcl H.out.bx2 0 rfl
    have p1:=bcl H.out.bx2 1 rfl
    have HER:=hQ (rerr_any H.out.rd)
    by_cases he:e=0
    ·subst he
     cases gk with
     |zero=>omega
     | succ k1=>
      obtain⟨Ad,cd,rfl⟩:=Kd.R_slice H.out.row
      have hdl:=HDL.out
      rw[depsL,if_pos ⟨hn,rfl⟩]at hdl
      have hpd:=depR_place 2 T l hb a 0 ⟨ha0,ha1⟩
      have HDP:=hQ (rdep2_any H.out.rd hb hl)
      generalize depR 2 T l a 0=DR at*
      obtain⟨⟨sd,od⟩,a7,e7⟩:=DR
      dsimp only at hdl hpd HDP
      have hps:=cuNum_step l hb a7 e7 ⟨by omega,hpd.2⟩
      have HNH:=hQ (fun(X:World) (hr:Rd w0 X S g t T l a7 e7)=>rnum_any hr hb hl)
      generalize cuNum l a7 e7=NH at*
      obtain⟨hh,a8,e8⟩:=NH
      dsimp only at hdl hps HNH
      have hwn:IntKind.u64.wrap (n-1)=n-1:=by rw[IntKind.wrap_u64];omega
      have HDL2:=hQ hdl
      have HPS:=hQ (show a+0≤a8∧a8≤(l.length:Int)∧(e8=0→a+1≤a8) from⟨by omega,hps.1,fun h=>by have:=(hps.2.2.1 h).1;omega⟩)
      have hfz:=hf1 rfl
      clear hdl HDL hps hpd hf1
      go_wp2_with fail
      refine HER.out.mono ?_
      rintro en w9 ⟨rfl,rfl⟩
      go_wp2_with fail
      clear p0 p1 HER
      refine HDP.out.mono ?_
      rintro en w5 hp
      have HS5:=hQ (H.out.read hp)
      obtain⟨rfl,_⟩:=hp
      have HS6:=hQ (HS5.out.below ((Below.refl _ _).alloc (Nat.le_refl _) (.cells #[.string sd,.int .u64 0,.bool od] 129)))
      have p0:(w5.alloc (.cells #[.string sd,.int .u64 0,.bool od] 129)).cell? ⟨b,0,none⟩=some (.pointer (some ⟨g,0,none⟩)):=(blk_cell HS6.out.bx2 0).trans rfl
      have hkb:(w5.alloc (.cells #[.string sd,.int .u64 0,.bool od] 129)).heap[w5.heap.size]? =some (.cells #[.string sd,.int .u64 0,.bool od] 129 (0,0)):=heap_new _ _
      have hold: ∀k,k<w5.heap.size→(w5.alloc (.cells #[.string sd,.int .u64 0,.bool od] 129)).heap[k]? =w5.heap[k]? :=fun k hk=>heap_new_old _ _ _ hk
      obtain⟨w6,hw6⟩:=eX (w5.alloc (.cells #[.string sd,.int .u64 0,.bool od] 129))
      have HW6:=hQ hw6
      have hsz6:w6.heap.size=w5.heap.size+1:=by rw[←hw6,heap_size_alloc]
      have hs6:=HS6.out
      rw[hw6]at hs6 hkb hold
      replace HS6:=hQ hs6
      have HKB:=hQ hkb
      have HOLD:=hQ hold
      have HSZ:=hQ hsz6
      clear hw6 hkb hold hs6 hsz6 HDP
      go_wp2_with fail
      rw[HW6.out]
      clear p0
      obtain⟨b7,hb7⟩:=eX (w5.heap.size)
      rw[hb7]at HKB ⊢
      refine(HNH.out w6 HS6.out.rd).mono ?_
      rintro en w7 hp
      have hs7:=HS6.out.read hp
      obtain⟨rfl,_,hkk⟩:=hp
      have hgb:=hs7.gb
      have hb7l:b+2≤b7:=by have:=blk_lt HS5.out.bx4;omega
      have hk7:=hkk.heap HKB.out (show b7≠g by omega)
      have hk8:(w7.setCell ⟨b7,1,none⟩ (.int .u64 hh)).heap[b7]? =some (.cells #[.string sd,.int .u64 hh,.bool od] 129 (0,0)):=blk_put (cs':=#[.string sd,.int .u64 hh,.bool od]) hk7 1 (.int .u64 hh) rfl
      have hR8:Kd.R k129 129 (w7.setCell ⟨b7,1,none⟩ (.int .u64 hh)) (b+2) (fun _=>True) (.slice Ad dl.length cd) dl:=by
       refine Kd.R_mono (Kd.R_step (Kd.R_bound HS5.out.row) (fun k hk hlt=> ?_)) (fun _ _=>trivial)
       have h1:=hk.2.1
       exact(Below.heap_setCell _ ⟨b7,1,none⟩ _ _ (by show k≠b7;omega)).trans ((hkk.block k (by have:=HSZ.out;omega) (by omega)).trans (HOLD.out k hlt))
      obtain⟨g1,g2,g3,g4⟩:=hs7.grown (X':=w7.setCell ⟨b7,1,none⟩ (.int .u64 hh)) (row:=some b7) (grownBy_setAt _ _ _ _) (fun q e=>by cases e;exact hb7l) hR8
      have HS8:Hid (LSt w0 W (w7.setCell ⟨b7,1,none⟩ (.int .u64 hh)) S g t T l b 1 s x2 (.slice Ad dl.length cd) dl 0 0 ⟨#[]⟩ a8 e8):=hQ ⟨g1,g2,g3,hR8,g4,hs7.bW,hs7.gb,hs7.sb,hs7.wb⟩
      have q0:=bcl hk7 0 rfl
      have q1:=bcl hk7 1 rfl
      have qf1:=blk_frozen hk7 1
      have y0:(w7.setCell ⟨b7,1,none⟩ (.int .u64 hh)).cell? ⟨b7,0,none⟩=some (.string sd):=(blk_cell hk8 0).trans rfl
      have y1:(w7.setCell ⟨b7,1,none⟩ (.int .u64 hh)).cell? ⟨b7,1,none⟩=some (.int .u64 hh):=(blk_cell hk8 1).trans rfl
      have y2:(w7.setCell ⟨b7,1,none⟩ (.int .u64 hh)).cell? ⟨b7,2,none⟩=some (.bool od):=(blk_cell hk8 2).trans rfl
      have z3:(w7.setCell ⟨b7,1,none⟩ (.int .u64 hh)).cell? ⟨b+1,3,none⟩=some (.slice Ad dl.length cd):=(blk_cell HS8.out.bx4 3).trans rfl
      clear hk7 hk8 hR8 g1 g2 g3 g4 hs7 hkk HS5 HS6 HOLD HKB HW6 HNH hb7
      go_wp2_with (at_builtin;refine Halt.mk ?_)
      refine Halt.of ?_
      clear q0 q1 qf1 y0 y1 y2 z3
      have hsz8:(w7.setCell ⟨b7,1,none⟩ (.int .u64 hh)).heap.size=w7.heap.size:=by simp
      generalize w7.setCell ⟨b7,1,none⟩ (.int .u64 hh)=w8 at*
      have hb9:Below w8.heap.size w8 (w8.alloc (.cells #[.string sd,.int .u64 hh,.bool od] 129)):=(Below.refl _ _).alloc (Nat.le_refl _) _
      have hk9:(w8.alloc (.cells #[.string sd,.int .u64 hh,.bool od] 129)).heap[w8.heap.size]? =some (.cells #[.string sd,.int .u64 hh,.bool od] 129 (0,0)):=heap_new _ _
      rw[hsz8]at hk9
      have hs9:=HS8.out.below hb9
      have hbz:b+2≤(w8.alloc (.cells #[.string sd,.int .u64 hh,.bool od] 129)).heap.size:=by have:=blk_lt hs9.bx4;omega
      refine Kd.R_append_rows k129 (w0:=w8.alloc (.cells #[.string sd,.int .u64 hh,.bool od] 129)) (b+2) rfl (.tmp 53) (.tmp 55) 47 129 (.agg #[.string ⟨#[]⟩,.int .u64 0,.bool false]) 32 rfl Tryz.underlying47 info_dep rfl (by decide) (by omega) _ dl [⟨sd,hh,od⟩] _ _ _ (fun _=>True) (fun _=>False) rfl rfl hs9.row (row_dep hk9) ?_ (fun _ h=>h.elim) (fun _ _=>trivial) (Below.refl _ _) hbz (by omega) ?_
      ·rintro _ _ ⟨rfl,rfl⟩
       exact k129_mkM _ _ _ (⟨sd,hh,od⟩:S129)
      intro v12 w12 hR12 _ hg12 _
      obtain⟨dl2,hdl2⟩:=eX (dl++[(⟨sd,hh,od⟩:S129)])
      have hln:dl2.length=dl.length+1:=by rw[←hdl2,List.length_append];rfl
      have hdq:=HDL2.out
      rw[hdl2]at hR12 hdq
      obtain⟨A12,c12,rfl⟩:=Kd.R_slice hR12
      have hpu:=hs9.pushed hg12 hR12
      have r3:w12.cell? ⟨b+1,3,none⟩=some (.slice Ad dl.length cd):=(blk_cell hpu.1 3).trans rfl
      have f3:=blk_frozen hpu.1 3
      have HPU:=hQ hpu.2
      have HDQ:=hQ hdq
      have HLN:=hQ hln
      clear hpu hdq hR12 hg12 hs9 hk9 hb9 hbz HS8 HDL2 hdl2 hln
      go_wp2_with fail
      go_roundg k1
      case measure=>omega
      case rel=>
       have hps:=HPS.out
       have hln:=HLN.out
       exact⟨n-1,a8,e8,_,dl2,rfl,by omega,by omega,by omega,by omega,HPU,HDQ,fun h8=>by have:=hps.2.2 h8;omega,by omega,by omega⟩
    ·have hed:decide (e=0)=false:=decide_eq_false he
     go_wp2_with fail
     refine HER.out.mono ?_
     rintro en w9 ⟨rfl,rfl⟩
     have hdl:=HDL.out
     rw[depsL_end _ (by omega)]at hdl
     obtain⟨rfl,rfl,rfl⟩:dl=ds∧a=a5∧e=e5:=by injection hdl with h1 h2;injection h2 with h2 h3;exact⟨h1,h2,h3⟩
     clear p0 p1 HER HDL hdl
     obtain⟨Ad,cd,rfl⟩:=Kd.R_slice H.out.row
     have p0:=bcl H.out.bx2 0 rfl
     have p1:=bcl H.out.bx2 1 rfl
     obtain⟨r0,f0,r1,f1,r2,f2,r3,f3,r4,f4,r5,f5,r6,f6⟩:=facts7f H.out.bx4
     go_wp2_with fail
     clear p0 p1 r0 f0 r1 f1 r2 f2 r3 f3 r4 f4 r5 f5 r6 f6
     refine(HN4.out wr H.out.rd).mono ?_
     rintro en wa hp
     have HA:=hQ (H.out.read hp)
     obtain⟨rfl,_⟩:=hp
     have HB9:=hQ (HA.out.put4 x4)
     have p0:=bcl HA.out.bx2 0 rfl
     have p1:=bcl HA.out.bx2 1 rfl
     obtain⟨r0,f0,r1,f1,r2,f2,r3,f3,r4,f4,r5,f5,r6,f6⟩:=facts7f HA.out.bx4
     have yp0:((wa.setCell ⟨b+1,4,none⟩ (.int .u64 x4))).cell? ⟨b,0,none⟩=some (.pointer (some ⟨g,0,none⟩)):=(blk_cell HB9.out.bx2 0).trans rfl
     have yp1:((wa.setCell ⟨b+1,4,none⟩ (.int .u64 x4))).cell? ⟨b,1,none⟩=some (.pointer (some ⟨t,0,none⟩)):=(blk_cell HB9.out.bx2 1).trans rfl
     obtain⟨yr0,yf0,yr1,yf1,yr2,yf2,yr3,yf3,yr4,yf4,yr5,yf5,yr6,yf6⟩:=facts7f HB9.out.bx4
     obtain⟨wb,hwb⟩:=eX ((wa.setCell ⟨b+1,4,none⟩ (.int .u64 x4)))
     have HWB:=hQ hwb
     have hB9:=HB9.out
     rw[hwb]at hB9
     have HB:=hQ hB9
     clear hwb hB9
     go_wp2_with fail
     rw[HWB.out]
     clear p0 p1 r0 f0 r1 f1 r2 f2 r3 f3 r4 f4 r5 f5 r6 f6 yp0 yp1 yr0 yf0 yr1 yf1 yr2 yf2 yr3 yf3 yr4 yf4 yr5 yf5 yr6 yf6
     refine(HN5.out wb HB.out.rd).mono ?_
     rintro en wc hp
     have HC:=hQ (HB.out.read hp)
     obtain⟨rfl,_⟩:=hp
     have HC9:=hQ (HC.out.put5 x5)
     have p0:=bcl HC.out.bx2 0 rfl
     have p1:=bcl HC.out.bx2 1 rfl
     obtain⟨r0,f0,r1,f1,r2,f2,r3,f3,r4,f4,r5,f5,r6,f6⟩:=facts7f HC.out.bx4
     have yp0:((wc.setCell ⟨b+1,5,none⟩ (.int .u64 x5))).cell? ⟨b,0,none⟩=some (.pointer (some ⟨g,0,none⟩)):=(blk_cell HC9.out.bx2 0).trans rfl
     have yp1:((wc.setCell ⟨b+1,5,none⟩ (.int .u64 x5))).cell? ⟨b,1,none⟩=some (.pointer (some ⟨t,0,none⟩)):=(blk_cell HC9.out.bx2 1).trans rfl
     obtain⟨yr0,yf0,yr1,yf1,yr2,yf2,yr3,yf3,yr4,yf4,yr5,yf5,yr6,yf6⟩:=facts7f HC9.out.bx4
     have HEND:=hQ (HC9.out.putAll 1 s x2 (.slice Ad dl.length cd) x4 x5 ⟨#[]⟩ HC9.out.row)
     go_wp2_with fail
     refine bodyPost_ret (results_single (v:= .agg #[.int .i64 1,.string s,.int .u64 x2,.slice Ad dl.length cd,.int .u64 x4,.int .u64 x5,.string ⟨#[]⟩]) rfl (.cell (b+1) 49 #[.int .i64 1,.string s,.int .u64 x2,.slice Ad dl.length cd,.int .u64 x4,.int .u64 x5,.string ⟨#[]⟩] (0,0) _ rfl HEND.out.bx4 HU.out rfl (by kernel_rfl) .nil)) rfl ?_
     rw[←HR2.out]
     exact⟨_,rfl,Kd.R_lower HEND.out.row (by have:=HBB.out;omega),HEND.out.kp⟩
   ·have hnd:decide (0<n)=false:=decide_eq_false hn
    have hdl:=HDL.out
    rw[depsL_end _ (by omega)]at hdl
    obtain⟨rfl,rfl,rfl⟩:dl=ds∧a=a5∧e=e5:=by injection hdl with h1 h2;injection h2 with h2 h3;exact⟨h1,h2,h3⟩
    clear HDL hdl
    obtain⟨Ad,cd,rfl⟩:=Kd.R_slice H.out.row
    have p0:=bcl H.out.bx2 0 rfl
    have p1:=bcl H.out.bx2 1 rfl
    obtain⟨r0,f0,r1,f1,r2,f2,r3,f3,r4,f4,r5,f5,r6,f6⟩:=facts7f H.out.bx4
    go_wp2_with fail
    clear p0 p1 r0 f0 r1 f1 r2 f2 r3 f3 r4 f4 r5 f5 r6 f6
    refine(HN4.out wr H.out.rd).mono ?_
    rintro en wa hp
    have HA:=hQ (H.out.read hp)
    obtain⟨rfl,_⟩:=hp
    have HB9:=hQ (HA.out.put4 x4)
    have p0:=bcl HA.out.bx2 0 rfl
    have p1:=bcl HA.out.bx2 1 rfl
    obtain⟨r0,f0,r1,f1,r2,f2,r3,f3,r4,f4,r5,f5,r6,f6⟩:=facts7f HA.out.bx4
    have yp0:((wa.setCell ⟨b+1,4,none⟩ (.int .u64 x4))).cell? ⟨b,0,none⟩=some (.pointer (some ⟨g,0,none⟩)):=(blk_cell HB9.out.bx2 0).trans rfl
    have yp1:((wa.setCell ⟨b+1,4,none⟩ (.int .u64 x4))).cell? ⟨b,1,none⟩=some (.pointer (some ⟨t,0,none⟩)):=(blk_cell HB9.out.bx2 1).trans rfl
    obtain⟨yr0,yf0,yr1,yf1,yr2,yf2,yr3,yf3,yr4,yf4,yr5,yf5,yr6,yf6⟩:=facts7f HB9.out.bx4
    obtain⟨wb,hwb⟩:=eX ((wa.setCell ⟨b+1,4,none⟩ (.int .u64 x4)))
    have HWB:=hQ hwb
    have hB9:=HB9.out
    rw[hwb]at hB9
    have HB:=hQ hB9
    clear hwb hB9
    go_wp2_with fail
    rw[HWB.out]
    clear p0 p1 r0 f0 r1 f1 r2 f2 r3 f3 r4 f4 r5 f5 r6 f6 yp0 yp1 yr0 yf0 yr1 yf1 yr2 yf2 yr3 yf3 yr4 yf4 yr5 yf5 yr6 yf6
    refine(HN5.out wb HB.out.rd).mono ?_
    rintro en wc hp
    have HC:=hQ (HB.out.read hp)
    obtain⟨rfl,_⟩:=hp
    have HC9:=hQ (HC.out.put5 x5)
    have p0:=bcl HC.out.bx2 0 rfl
    have p1:=bcl HC.out.bx2 1 rfl
    obtain⟨r0,f0,r1,f1,r2,f2,r3,f3,r4,f4,r5,f5,r6,f6⟩:=facts7f HC.out.bx4
    have yp0:((wc.setCell ⟨b+1,5,none⟩ (.int .u64 x5))).cell? ⟨b,0,none⟩=some (.pointer (some ⟨g,0,none⟩)):=(blk_cell HC9.out.bx2 0).trans rfl
    have yp1:((wc.setCell ⟨b+1,5,none⟩ (.int .u64 x5))).cell? ⟨b,1,none⟩=some (.pointer (some ⟨t,0,none⟩)):=(blk_cell HC9.out.bx2 1).trans rfl
    obtain⟨yr0,yf0,yr1,yf1,yr2,yf2,yr3,yf3,yr4,yf4,yr5,yf5,yr6,yf6⟩:=facts7f HC9.out.bx4
    have HEND:=hQ (HC9.out.putAll 1 s x2 (.slice Ad dl.length cd) x4 x5 ⟨#[]⟩ HC9.out.row)
    go_wp2_with fail
    refine bodyPost_ret (results_single (v:= .agg #[.int .i64 1,.string s,.int .u64 x2,.slice Ad dl.length cd,.int .u64 x4,.int .u64 x5,.string ⟨#[]⟩]) rfl (.cell (b+1) 49 #[.int .i64 1,.string s,.int .u64 x2,.slice Ad dl.length cd,.int .u64 x4,.int .u64 x5,.string ⟨#[]⟩] (0,0) _ rfl HEND.out.bx4 HU.out rfl (by kernel_rfl) .nil)) rfl ?_
    rw[←HR2.out]
    exact⟨_,rfl,Kd.R_lower HEND.out.row (by have:=HBB.out;omega),HEND.out.kp⟩
 ·have hkd:decide (kb=1)=false:=decide_eq_false hk1
  have HEND:=hQ (HS4.out.putAll kb s 0 (.slice none 0 0) 0 0 ⟨#[]⟩ HS4.out.row)
  have hR2:=HRR.out
  rw[if_neg hk1]at hR2
  have HR2:=hQ hR2
  clear hR2 HRR
  go_wp2_with fail
  refine bodyPost_ret (results_single (v:= .agg #[.int .i64 kb,.string s,.int .u64 0,.slice none 0 0,.int .u64 0,.int .u64 0,.string ⟨#[]⟩]) rfl (.cell (b+1) 49 #[.int .i64 kb,.string s,.int .u64 0,.slice none 0 0,.int .u64 0,.int .u64 0,.string ⟨#[]⟩] (0,0) _ rfl HEND.out.bx4 HU.out rfl (by kernel_rfl) .nil)) rfl ?_
  rw[←HR2.out]
  exact⟨_,rfl,Kd.R_lower HEND.out.row (by have:=HBB.out;omega),HEND.out.kp⟩
theorem rlast3_any {w0 W:World} {S:Nat→Prop} {g t:Nat} {T:List ByteArray} {l:List Int} (h:Rd w0 W S g t T l 0 0) (hb: ∀x∈l,0≤x∧x<256) (hl:l.length≤1000000):
  Calls Tryz.prog 47 #[.agg #[.pointer (some ⟨g,0,none⟩),.pointer (some ⟨t,0,none⟩)],.int .i64 3] W (LastPost W g (lastR 3 T l).1):=by
 obtain⟨w1,hw1⟩:=eX ((W.alloc (.cells #[.pointer (some ⟨g,0,none⟩),.pointer (some ⟨t,0,none⟩)] 110)).alloc (.cells #[.int .i64 0,.string ⟨#[]⟩,.int .u64 0,.slice none 0 0,.int .u64 0,.int .u64 0,.string ⟨#[]⟩] 49))
 have hb1:Below W.heap.size W w1:=by rw[←hw1];exact((Below.refl _ _).alloc (Nat.le_refl _) _).alloc (by rw[heap_size_alloc];omega) _
 have hk2:w1.heap[W.heap.size]? =some (.cells #[.pointer (some ⟨g,0,none⟩),.pointer (some ⟨t,0,none⟩)] 110 (0,0)):=by rw[←hw1];exact blk_alloc (heap_new _ _) _
 have hk4:w1.heap[W.heap.size+1]? =some (.cells #[.int .i64 0,.string ⟨#[]⟩,.int .u64 0,.slice none 0 0,.int .u64 0,.int .u64 0,.string ⟨#[]⟩] 49 (0,0)):=by
  rw[←hw1]
  have:=heap_new (W.alloc (.cells #[.pointer (some ⟨g,0,none⟩),.pointer (some ⟨t,0,none⟩)] 110)) (.cells #[.int .i64 0,.string ⟨#[]⟩,.int .u64 0,.slice none 0 0,.int .u64 0,.int .u64 0,.string ⟨#[]⟩] 49)
  rwa [heap_size_alloc]at this
 obtain⟨b,hbb⟩:=eX (W.heap.size)
 have hgl:g<W.heap.size:=by obtain⟨_,_,hc,_⟩:=h.cu;exact blk_lt hc
 have hst:LSt w0 W w1 S g t T l W.heap.size 0 ⟨#[]⟩ 0 (.slice none 0 0) [] 0 0 ⟨#[]⟩ 0 0:=
  ⟨h.keep hb1,hk2,hk4,Kd.R_nil _ _ _ _ _,Kp.of_below hb1 _,rfl,hgl,h.tab.lt,h.b.size⟩
 rw[hbb]at hst
 have hr1:=rbyte_any hst.rd hl (by omega)
 have HBY:=hQ hr1
 have HST:=hQ hst
 have HW1:=hQ hw1
 have HBB:=hQ hbb
 have HU:=hQ Tryz.underlying49
 have hrg:=cuByte_rg l hb
 have hb1p:0≤(cuByte l 0 0).2.1∧(cuByte l 0 0).2.1≤(l.length:Int):=by unfold cuByte;rw[if_neg (by simp)];split<;>(dsimp only;constructor<;>omega)
 have HLR:Hid (lastR 3 T l=lastR 3 T l):=hQ rfl
 generalize hRR:lastR 3 T l=RR at HLR ⊢
 conv at HLR=>rw[←hRR]
 unfold lastR at hRR
 clear HLR h hb1 hw1 hk2 hk4 hbb hgl hst hr1
 generalize cuByte l 0 0=F1 at*
 obtain⟨kb,a1,e1⟩:=F1
 dsimp only at HBY hrg hRR hb1p
 rw[show textR 3 T l a1 e1=txR T l a1 e1 from rfl]at hRR
 have HTX:=hQ (fun(X:World) (hr:Rd w0 X S g t T l a1 e1)=>rknown_any hr hb hl)
 have hpl:0≤(txR T l a1 e1).2.1∧(txR T l a1 e1).2.1≤(l.length:Int):=(by have:=cuNum_step l hb a1 e1 hb1p;exact⟨by show 0≤(cuNum l a1 e1).2.1;omega,this.1⟩)
 generalize txR T l a1 e1=F2 at*
 obtain⟨s,a2,e2⟩:=F2
 dsimp only at HTX hRR hpl
 have HPL:=hQ hpl
 clear hpl
 have HRR:=hQ hRR
 clear hRR
 have hcv:IntKind.i64.wrap kb=kb:=by rw[IntKind.wrap_i64];omega
 have p0:=bcl HST.out.bx2 0 rfl
 have p1:=bcl HST.out.bx2 1 rfl
 obtain⟨r0,f0,r1,f1,r2,f2,r3,f3,r4,f4,r5,f5,r6,f6⟩:=facts7f HST.out.bx4
 go_enter Tryz.func47,Tryz.ntmps47
 go_wp2_with fail
 rw[HW1.out,HBB.out]
 clear p0 p1 r0 f0 r1 f1 r2 f2 r3 f3 r4 f4 r5 f5 r6 f6
 refine HBY.out.mono ?_
 rintro en w2 hp
 have hs2:=HST.out.read hp
 obtain⟨rfl,_⟩:=hp
 have hs3:=hs2.putAll kb ⟨#[]⟩ 0 (.slice none 0 0) 0 0 ⟨#[]⟩ hs2.row
 have p0:=bcl hs2.bx2 0 rfl
 have p1:=bcl hs2.bx2 1 rfl
 obtain⟨r0,f0,r1,f1,r2,f2,r3,f3,r4,f4,r5,f5,r6,f6⟩:=facts7f hs2.bx4
 obtain⟨w3,hw3⟩:=eX ((((((((w2.setCell ⟨b+1,0,none⟩ (.int .i64 kb)).setCell ⟨b+1,1,none⟩ (.string ⟨#[]⟩)).setCell ⟨b+1,2,none⟩ (.int .u64 0)).setCell ⟨b+1,3,none⟩ (.slice none 0 0)).setCell ⟨b+1,4,none⟩ (.int .u64 0)).setCell ⟨b+1,5,none⟩ (.int .u64 0)).setCell ⟨b+1,6,none⟩ (.string ⟨#[]⟩)))
 rw[hw3]at hs3
 have HS3:=hQ hs3
 have HW3:=hQ hw3
 clear hs2 hs3 hw3 HST HBY
 go_wp2_with fail
 rw[HW3.out]
 clear p0 p1 r0 f0 r1 f1 r2 f2 r3 f3 r4 f4 r5 f5 r6 f6
 refine(HTX.out w3 HS3.out.rd).mono ?_
 rintro en w4 hp
 have hs4:=HS3.out.read hp
 obtain⟨rfl,_⟩:=hp
 have hs5:=hs4.put1 s
 have p0:=bcl hs4.bx2 0 rfl
 have p1:=bcl hs4.bx2 1 rfl
 obtain⟨r0,f0,r1,f1,r2,f2,r3,f3,r4,f4,r5,f5,r6,f6⟩:=facts7f hs4.bx4
 have yp0:((w4.setCell ⟨b+1,1,none⟩ (.string s))).cell? ⟨b,0,none⟩=some (.pointer (some ⟨g,0,none⟩)):=(blk_cell hs5.bx2 0).trans rfl
 have yp1:((w4.setCell ⟨b+1,1,none⟩ (.string s))).cell? ⟨b,1,none⟩=some (.pointer (some ⟨t,0,none⟩)):=(blk_cell hs5.bx2 1).trans rfl
 obtain⟨yr0,yf0,yr1,yf1,yr2,yf2,yr3,yf3,yr4,yf4,yr5,yf5,yr6,yf6⟩:=facts7f hs5.bx4
 obtain⟨w5,hw5⟩:=eX ((w4.setCell ⟨b+1,1,none⟩ (.string s)))
 have hs6:=hs5
 rw[hw5]at hs6
 have HS5:=hQ hs6
 have HS4:=hQ hs5
 have HW5:=hQ hw5
 clear hs4 hs5 hs6 hw5 HS3 HTX HW3
 by_cases hk1:kb=1
 ·subst hk1
  have hR2:=HRR.out
  rw[if_pos rfl]at hR2
  unfold traceR at hR2
  have HN2:=hQ (fun(X:World) (hr:Rd w0 X S g t T l a2 e2)=>rnum_any hr hb hl)
  have hs2:=cuNum_step l hb a2 e2 HPL.out
  generalize cuNum l a2 e2=N2 at*
  obtain⟨x2,a3,e3⟩:=N2
  dsimp only at HN2 hR2 hs2
  have HN3:=hQ (fun(X:World) (hr:Rd w0 X S g t T l a3 e3)=>rnum_any hr hb hl)
  have hs3:=cuNum_step l hb a3 e3 ⟨by have:=HPL.out;omega,hs2.1⟩
  generalize cuNum l a3 e3=N3 at*
  obtain⟨n,a4,e4⟩:=N3
  dsimp only at HN3 hR2 hs3
  have HP4:=hQ (show 0≤a4∧a4≤(l.length:Int)∧0≤n∧n<18446744073709551616 from⟨by have:=HPL.out;omega,hs3.1,hs3.2.2.2.1,hs3.2.2.2.2.1⟩)
  obtain⟨D,hD⟩:=eX (depsL 3 T l (l.length+2) n a4 e4 [])
  rw[hD]at hR2
  have HDD:=hQ hD
  clear hD hs2 hs3
  obtain⟨ds,a5,e5⟩:=D
  dsimp only at hR2
  have HN4:=hQ (fun(X:World) (hr:Rd w0 X S g t T l a5 e5)=>rnum_any hr hb hl)
  generalize cuNum l a5 e5=N4 at*
  obtain⟨x4,a6,e6⟩:=N4
  dsimp only at HN4 hR2
  unfold tailR at hR2
  rw[if_neg (by omega)]at hR2
  have HN5:=hQ (fun(X:World) (hr:Rd w0 X S g t T l a6 e6)=>rnum_any hr hb hl)
  generalize cuNum l a6 e6=N5 at*
  obtain⟨x5,a7,e7_⟩:=N5
  dsimp only at HN5 hR2
  rw[if_neg (by omega)]at hR2
  have HN6:=hQ (fun(X:World) (hr:Rd w0 X S g t T l a7 e7_)=>rnum_any hr hb hl)
  have hm6:=cuNum_rg (l:=l) (a:=a7) (e:=e7_) hb
  generalize cuNum l a7 e7_=N6 at*
  obtain⟨m,a8,e7⟩:=N6
  dsimp only at HN6 hR2 hm6
  have HM6:=hQ hm6
  clear hm6
  have HR2:=hQ hR2
  clear hR2 HRR
  go_wp2_with fail
  rw[HW5.out]
  clear p0 p1 r0 f0 r1 f1 r2 f2 r3 f3 r4 f4 r5 f5 r6 f6 yp0 yp1 yr0 yf0 yr1 yf1 yr2 yf2 yr3 yf3 yr4 yf4 yr5 yf5 yr6 yf6
  refine(HN2.out w5 HS5.out.rd).mono ?_
  rintro en w6 hp
  have HS6:=hQ (HS5.out.read hp)
  obtain⟨rfl,_⟩:=hp
  have HS7:=hQ (HS6.out.put2 x2)
  have p0:=bcl HS6.out.bx2 0 rfl
  have p1:=bcl HS6.out.bx2 1 rfl
  obtain⟨r0,f0,r1,f1,r2,f2,r3,f3,r4,f4,r5,f5,r6,f6⟩:=facts7f HS6.out.bx4
  have yp0:((w6.setCell ⟨b+1,2,none⟩ (.int .u64 x2))).cell? ⟨b,0,none⟩=some (.pointer (some ⟨g,0,none⟩)):=(blk_cell HS7.out.bx2 0).trans rfl
  have yp1:((w6.setCell ⟨b+1,2,none⟩ (.int .u64 x2))).cell? ⟨b,1,none⟩=some (.pointer (some ⟨t,0,none⟩)):=(blk_cell HS7.out.bx2 1).trans rfl
  obtain⟨yr0,yf0,yr1,yf1,yr2,yf2,yr3,yf3,yr4,yf4,yr5,yf5,yr6,yf6⟩:=facts7f HS7.out.bx4
  obtain⟨w7,hw7⟩:=eX ((w6.setCell ⟨b+1,2,none⟩ (.int .u64 x2)))
  have hs8:=HS7.out
  rw[hw7]at hs8
  have HS8:=hQ hs8
  have HW7:=hQ hw7
  clear hs8 hw7
  go_wp2_with fail
  rw[HW7.out]
  clear p0 p1 r0 f0 r1 f1 r2 f2 r3 f3 r4 f4 r5 f5 r6 f6 yp0 yp1 yr0 yf0 yr1 yf1 yr2 yf2 yr3 yf3 yr4 yf4 yr5 yf5 yr6 yf6
  refine(HN3.out w7 HS8.out.rd).mono ?_
  rintro en w8 hp
  have HS9:=hQ (HS8.out.read hp)
  obtain⟨rfl,_⟩:=hp
  clear HS8 HS7 HS6 HS5 HS4 HW5 HW7 HN2 HN3
  go_wp2_with fail
  go_loopg [6] (l.length+2) (fun kq u6 wr=>∃(n a e:Int) (dv:Value) (dl:List S129),u6= .int .u64 n∧0≤n∧n<18446744073709551616∧0≤a∧a≤(l.length:Int)∧Hid (LSt w0 W wr S g t T l b 1 s x2 dv dl 0 0 ⟨#[]⟩ a e)∧Hid (depsL 3 T l kq n a e dl=(ds,a5,e5))∧(e=0→(l.length:Int)-a+2≤(kq:Int))∧1≤kq∧dl.length+kq≤l.length+2)
  case atStart=>exact⟨n,a4,e4,.slice none 0 0,[],rfl,HP4.out.2.2.1,HP4.out.2.2.2,HP4.out.1,HP4.out.2.1,HS9,HDD,fun _=>by have:=HP4.out;omega,by omega,by simp⟩
  case round=>
   clear HDD HS9 HP4
   obtain⟨n,a,e,dv,dl,rfl,hn0,hn1,ha0,ha1,H,HDL,hf1,hf2,hf3⟩:=hrel
   by_cases hn:0<n
   ·have hnd:decide (0<n)=true:=decide_eq_true hn
    have p0:=bcl H.out.bx2 0 rfl
    have p1:=bcl H.out.bx2 1 rfl
    have HER:=hQ (rerr_any H.out.rd)
    by_cases he:e=0
    ·subst he
     cases gk with
     |zero=>omega
     | succ k1=>
      obtain⟨Ad,cd,rfl⟩:=Kd.R_slice H.out.row
      have hdl:=HDL.out
      rw[depsL,if_pos ⟨hn,rfl⟩]at hdl
      have hpd:=depR_place 3 T l hb a 0 ⟨ha0,ha1⟩
      have HDP:=hQ (rdep3_any H.out.rd hb hl (.func (.func 76) #[.agg #[.pointer (some ⟨g,0,none⟩),.pointer (some ⟨t,0,none⟩)]] #[]))
      generalize depR 3 T l a 0=DR at*
      obtain⟨⟨sd,od⟩,a7,e7⟩:=DR
      dsimp only at hdl hpd HDP
      have hps:=cuNum_step l hb a7 e7 ⟨by omega,hpd.2⟩
      have HNH:=hQ (fun(X:World) (hr:Rd w0 X S g t T l a7 e7)=>rnum_any hr hb hl)
      generalize cuNum l a7 e7=NH at*
      obtain⟨hh,a8,e8⟩:=NH
      dsimp only at hdl hps HNH
      have hwn:IntKind.u64.wrap (n-1)=n-1:=by rw[IntKind.wrap_u64];omega
      have HDL2:=hQ hdl
      have HPS:=hQ (show a+0≤a8∧a8≤(l.length:Int)∧(e8=0→a+1≤a8) from⟨by omega,hps.1,fun h=>by have:=(hps.2.2.1 h).1;omega⟩)
      have hfz:=hf1 rfl
      clear hdl HDL hps hpd hf1
      go_wp2_with fail
      refine HER.out.mono ?_
      rintro en w9 ⟨rfl,rfl⟩
      go_wp2_with fail
      clear p0 p1 HER
      refine HDP.out.mono ?_
      rintro en w5 hp
      have HS5:=hQ (H.out.read hp)
      obtain⟨rfl,_⟩:=hp
      have HS6:=hQ (HS5.out.below ((Below.refl _ _).alloc (Nat.le_refl _) (.cells #[.string sd,.int .u64 0,.bool od] 129)))
      have p0:(w5.alloc (.cells #[.string sd,.int .u64 0,.bool od] 129)).cell? ⟨b,0,none⟩=some (.pointer (some ⟨g,0,none⟩)):=(blk_cell HS6.out.bx2 0).trans rfl
      have hkb:(w5.alloc (.cells #[.string sd,.int .u64 0,.bool od] 129)).heap[w5.heap.size]? =some (.cells #[.string sd,.int .u64 0,.bool od] 129 (0,0)):=heap_new _ _
      have hold: ∀k,k<w5.heap.size→(w5.alloc (.cells #[.string sd,.int .u64 0,.bool od] 129)).heap[k]? =w5.heap[k]? :=fun k hk=>heap_new_old _ _ _ hk
      obtain⟨w6,hw6⟩:=eX (w5.alloc (.cells #[.string sd,.int .u64 0,.bool od] 129))
      have HW6:=hQ hw6
      have hsz6:w6.heap.size=w5.heap.size+1:=by rw[←hw6,heap_size_alloc]
      have hs6:=HS6.out
      rw[hw6]at hs6 hkb hold
      replace HS6:=hQ hs6
      have HKB:=hQ hkb
      have HOLD:=hQ hold
      have HSZ:=hQ hsz6
      clear hw6 hkb hold hs6 hsz6 HDP
      go_wp2_with fail
      rw[HW6.out]
      clear p0
      obtain⟨b7,hb7⟩:=eX (w5.heap.size)
      rw[hb7]at HKB ⊢
      refine(HNH.out w6 HS6.out.rd).mono ?_
      rintro en w7 hp
      have hs7:=HS6.out.read hp
      obtain⟨rfl,_,hkk⟩:=hp
      have hgb:=hs7.gb
      have hb7l:b+2≤b7:=by have:=blk_lt HS5.out.bx4;omega
      have hk7:=hkk.heap HKB.out (show b7≠g by omega)
      have hk8:(w7.setCell ⟨b7,1,none⟩ (.int .u64 hh)).heap[b7]? =some (.cells #[.string sd,.int .u64 hh,.bool od] 129 (0,0)):=blk_put (cs':=#[.string sd,.int .u64 hh,.bool od]) hk7 1 (.int .u64 hh) rfl
      have hR8:Kd.R k129 129 (w7.setCell ⟨b7,1,none⟩ (.int .u64 hh)) (b+2) (fun _=>True) (.slice Ad dl.length cd) dl:=by
       refine Kd.R_mono (Kd.R_step (Kd.R_bound HS5.out.row) (fun k hk hlt=> ?_)) (fun _ _=>trivial)
       have h1:=hk.2.1
       exact(Below.heap_setCell _ ⟨b7,1,none⟩ _ _ (by show k≠b7;omega)).trans ((hkk.block k (by have:=HSZ.out;omega) (by omega)).trans (HOLD.out k hlt))
      obtain⟨g1,g2,g3,g4⟩:=hs7.grown (X':=w7.setCell ⟨b7,1,none⟩ (.int .u64 hh)) (row:=some b7) (grownBy_setAt _ _ _ _) (fun q e=>by cases e;exact hb7l) hR8
      have HS8:Hid (LSt w0 W (w7.setCell ⟨b7,1,none⟩ (.int .u64 hh)) S g t T l b 1 s x2 (.slice Ad dl.length cd) dl 0 0 ⟨#[]⟩ a8 e8):=hQ ⟨g1,g2,g3,hR8,g4,hs7.bW,hs7.gb,hs7.sb,hs7.wb⟩
      have q0:=bcl hk7 0 rfl
      have q1:=bcl hk7 1 rfl
      have qf1:=blk_frozen hk7 1
      have y0:(w7.setCell ⟨b7,1,none⟩ (.int .u64 hh)).cell? ⟨b7,0,none⟩=some (.string sd):=(blk_cell hk8 0).trans rfl
      have y1:(w7.setCell ⟨b7,1,none⟩ (.int .u64 hh)).cell? ⟨b7,1,none⟩=some (.int .u64 hh):=(blk_cell hk8 1).trans rfl
      have y2:(w7.setCell ⟨b7,1,none⟩ (.int .u64 hh)).cell? ⟨b7,2,none⟩=some (.bool od):=(blk_cell hk8 2).trans rfl
      have z3:(w7.setCell ⟨b7,1,none⟩ (.int .u64 hh)).cell? ⟨b+1,3,none⟩=some (.slice Ad dl.length cd):=(blk_cell HS8.out.bx4 3).trans rfl
      clear hk7 hk8 hR8 g1 g2 g3 g4 hs7 hkk HS5 HS6 HOLD HKB HW6 HNH hb7
      go_wp2_with (at_builtin;refine Halt.mk ?_)
      refine Halt.of ?_
      clear q0 q1 qf1 y0 y1 y2 z3
      have hsz8:(w7.setCell ⟨b7,1,none⟩ (.int .u64 hh)).heap.size=w7.heap.size:=by simp
      generalize w7.setCell ⟨b7,1,none⟩ (.int .u64 hh)=w8 at*
      have hb9:Below w8.heap.size w8 (w8.alloc (.cells #[.string sd,.int .u64 hh,.bool od] 129)):=(Below.refl _ _).alloc (Nat.le_refl _) _
      have hk9:(w8.alloc (.cells #[.string sd,.int .u64 hh,.bool od] 129)).heap[w8.heap.size]? =some (.cells #[.string sd,.int .u64 hh,.bool od] 129 (0,0)):=heap_new _ _
      rw[hsz8]at hk9
      have hs9:=HS8.out.below hb9
      have hbz:b+2≤(w8.alloc (.cells #[.string sd,.int .u64 hh,.bool od] 129)).heap.size:=by have:=blk_lt hs9.bx4;omega
      refine Kd.R_append_rows k129 (w0:=w8.alloc (.cells #[.string sd,.int .u64 hh,.bool od] 129)) (b+2) rfl (.tmp 53) (.tmp 55) 47 129 (.agg #[.string ⟨#[]⟩,.int .u64 0,.bool false]) 32 rfl Tryz.underlying47 info_dep rfl (by decide) (by omega) _ dl [⟨sd,hh,od⟩] _ _ _ (fun _=>True) (fun _=>False) rfl rfl hs9.row (row_dep hk9) ?_ (fun _ h=>h.elim) (fun _ _=>trivial) (Below.refl _ _) hbz (by omega) ?_
      ·rintro _ _ ⟨rfl,rfl⟩
       exact k129_mkM _ _ _ (⟨sd,hh,od⟩:S129)
      intro v12 w12 hR12 _ hg12 _
      obtain⟨dl2,hdl2⟩:=eX (dl++[(⟨sd,hh,od⟩:S129)])
      have hln:dl2.length=dl.length+1:=by rw[←hdl2,List.length_append];rfl
      have hdq:=HDL2.out
      rw[hdl2]at hR12 hdq
      obtain⟨A12,c12,rfl⟩:=Kd.R_slice hR12
      have hpu:=hs9.pushed hg12 hR12
      have r3:w12.cell? ⟨b+1,3,none⟩=some (.slice Ad dl.length cd):=(blk_cell hpu.1 3).trans rfl
      have f3:=blk_frozen hpu.1 3
      have HPU:=hQ hpu.2
      have HDQ:=hQ hdq
      have HLN:=hQ hln
      clear hpu hdq hR12 hg12 hs9 hk9 hb9 hbz HS8 HDL2 hdl2 hln
      go_wp2_with fail
      go_roundg k1
      case measure=>omega
      case rel=>
       have hps:=HPS.out
       have hln:=HLN.out
       exact⟨n-1,a8,e8,_,dl2,rfl,by omega,by omega,by omega,by omega,HPU,HDQ,fun h8=>by have:=hps.2.2 h8;omega,by omega,by omega⟩
    ·have hed:decide (e=0)=false:=decide_eq_false he
     go_wp2_with fail
     refine HER.out.mono ?_
     rintro en w9 ⟨rfl,rfl⟩
     have hdl:=HDL.out
     rw[depsL_end _ (by omega)]at hdl
     obtain⟨rfl,rfl,rfl⟩:dl=ds∧a=a5∧e=e5:=by injection hdl with h1 h2;injection h2 with h2 h3;exact⟨h1,h2,h3⟩
     clear p0 p1 HER HDL hdl
     obtain⟨Ad,cd,rfl⟩:=Kd.R_slice H.out.row
     have p0:=bcl H.out.bx2 0 rfl
     have p1:=bcl H.out.bx2 1 rfl
     obtain⟨r0,f0,r1,f1,r2,f2,r3,f3,r4,f4,r5,f5,r6,f6⟩:=facts7f H.out.bx4
     go_wp2_with fail
     clear p0 p1 r0 f0 r1 f1 r2 f2 r3 f3 r4 f4 r5 f5 r6 f6
     refine(HN4.out wr H.out.rd).mono ?_
     rintro en wa hp
     have HA:=hQ (H.out.read hp)
     obtain⟨rfl,_⟩:=hp
     have HB9:=hQ (HA.out.put4 x4)
     have p0:=bcl HA.out.bx2 0 rfl
     have p1:=bcl HA.out.bx2 1 rfl
     obtain⟨r0,f0,r1,f1,r2,f2,r3,f3,r4,f4,r5,f5,r6,f6⟩:=facts7f HA.out.bx4
     have yp0:((wa.setCell ⟨b+1,4,none⟩ (.int .u64 x4))).cell? ⟨b,0,none⟩=some (.pointer (some ⟨g,0,none⟩)):=(blk_cell HB9.out.bx2 0).trans rfl
     have yp1:((wa.setCell ⟨b+1,4,none⟩ (.int .u64 x4))).cell? ⟨b,1,none⟩=some (.pointer (some ⟨t,0,none⟩)):=(blk_cell HB9.out.bx2 1).trans rfl
     obtain⟨yr0,yf0,yr1,yf1,yr2,yf2,yr3,yf3,yr4,yf4,yr5,yf5,yr6,yf6⟩:=facts7f HB9.out.bx4
     obtain⟨wb,hwb⟩:=eX ((wa.setCell ⟨b+1,4,none⟩ (.int .u64 x4)))
     have HWB:=hQ hwb
     have hB9:=HB9.out
     rw[hwb]at hB9
     have HB:=hQ hB9
     clear hwb hB9
     go_wp2_with fail
     rw[HWB.out]
     clear p0 p1 r0 f0 r1 f1 r2 f2 r3 f3 r4 f4 r5 f5 r6 f6 yp0 yp1 yr0 yf0 yr1 yf1 yr2 yf2 yr3 yf3 yr4 yf4 yr5 yf5 yr6 yf6
     refine(HN5.out wb HB.out.rd).mono ?_
     rintro en wc hp
     have HC:=hQ (HB.out.read hp)
     obtain⟨rfl,_⟩:=hp
     have HC9:=hQ (HC.out.put5 x5)
     have p0:=bcl HC.out.bx2 0 rfl
     have p1:=bcl HC.out.bx2 1 rfl
     obtain⟨r0,f0,r1,f1,r2,f2,r3,f3,r4,f4,r5,f5,r6,f6⟩:=facts7f HC.out.bx4
     have yp0:((wc.setCell ⟨b+1,5,none⟩ (.int .u64 x5))).cell? ⟨b,0,none⟩=some (.pointer (some ⟨g,0,none⟩)):=(blk_cell HC9.out.bx2 0).trans rfl
     have yp1:((wc.setCell ⟨b+1,5,none⟩ (.int .u64 x5))).cell? ⟨b,1,none⟩=some (.pointer (some ⟨t,0,none⟩)):=(blk_cell HC9.out.bx2 1).trans rfl
     obtain⟨yr0,yf0,yr1,yf1,yr2,yf2,yr3,yf3,yr4,yf4,yr5,yf5,yr6,yf6⟩:=facts7f HC9.out.bx4
     obtain⟨wd,hwd⟩:=eX ((wc.setCell ⟨b+1,5,none⟩ (.int .u64 x5)))
     have HWD:=hQ hwd
     have hC9:=HC9.out
     rw[hwd]at hC9
     have HD:=hQ hC9
     clear hwd hC9
     go_wp2_with fail
     rw[HWD.out]
     clear p0 p1 r0 f0 r1 f1 r2 f2 r3 f3 r4 f4 r5 f5 r6 f6 yp0 yp1 yr0 yf0 yr1 yf1 yr2 yf2 yr3 yf3 yr4 yf4 yr5 yf5 yr6 yf6
     refine(HN6.out wd HD.out.rd).mono ?_
     rintro en we hp
     have HE:=hQ (HD.out.read hp)
     obtain⟨rfl,_⟩:=hp
     have p0:=bcl HE.out.bx2 0 rfl
     have p1:=bcl HE.out.bx2 1 rfl
     obtain⟨r0,f0,r1,f1,r2,f2,r3,f3,r4,f4,r5,f5,r6,f6⟩:=facts7f HE.out.bx4
     by_cases hm:0<m
     ·have hmd:decide (0<m)=true:=decide_eq_true hm
      have hwm:IntKind.u64.wrap (m-1)=m-1:=by have:=HM6.out;rw[IntKind.wrap_u64];omega
      have HTX6:=hQ (rtext_any HE.out.rd (m-1) (by have:=HM6.out;omega))
      have hR3:=HR2.out
      rw[if_pos hm]at hR3
      generalize txF T (m-1)=s6 at HTX6 hR3
      generalize txE T (m-1) e7=e8 at HTX6 hR3
      replace HR2:=hQ hR3
      clear hR3
      go_wp2_with fail
      clear p0 p1 r0 f0 r1 f1 r2 f2 r3 f3 r4 f4 r5 f5 r6 f6
      refine HTX6.out.mono ?_
      rintro en wf hp
      have HF:=hQ (HE.out.read hp)
      obtain⟨rfl,_⟩:=hp
      have HF9:=hQ (HF.out.put6 s6)
      have p0:=bcl HF.out.bx2 0 rfl
      have p1:=bcl HF.out.bx2 1 rfl
      obtain⟨r0,f0,r1,f1,r2,f2,r3,f3,r4,f4,r5,f5,r6,f6⟩:=facts7f HF.out.bx4
      have yp0:((wf.setCell ⟨b+1,6,none⟩ (.string s6))).cell? ⟨b,0,none⟩=some (.pointer (some ⟨g,0,none⟩)):=(blk_cell HF9.out.bx2 0).trans rfl
      have yp1:((wf.setCell ⟨b+1,6,none⟩ (.string s6))).cell? ⟨b,1,none⟩=some (.pointer (some ⟨t,0,none⟩)):=(blk_cell HF9.out.bx2 1).trans rfl
      obtain⟨yr0,yf0,yr1,yf1,yr2,yf2,yr3,yf3,yr4,yf4,yr5,yf5,yr6,yf6⟩:=facts7f HF9.out.bx4
      have HEND:=hQ (HF9.out.putAll 1 s x2 (.slice Ad dl.length cd) x4 x5 s6 HF9.out.row)
      go_wp2_with fail
      refine bodyPost_ret (results_single (v:= .agg #[.int .i64 1,.string s,.int .u64 x2,.slice Ad dl.length cd,.int .u64 x4,.int .u64 x5,.string s6]) rfl (.cell (b+1) 49 #[.int .i64 1,.string s,.int .u64 x2,.slice Ad dl.length cd,.int .u64 x4,.int .u64 x5,.string s6] (0,0) _ rfl HEND.out.bx4 HU.out rfl (by kernel_rfl) .nil)) rfl ?_
      rw[←HR2.out]
      exact⟨_,rfl,Kd.R_lower HEND.out.row (by have:=HBB.out;omega),HEND.out.kp⟩
     ·have hmd:decide (0<m)=false:=decide_eq_false hm
      have hR3:=HR2.out
      rw[if_neg hm]at hR3
      replace HR2:=hQ hR3
      clear hR3
      have HEND:=hQ (HE.out.putAll 1 s x2 (.slice Ad dl.length cd) x4 x5 ⟨#[]⟩ HE.out.row)
      go_wp2_with fail
      refine bodyPost_ret (results_single (v:= .agg #[.int .i64 1,.string s,.int .u64 x2,.slice Ad dl.length cd,.int .u64 x4,.int .u64 x5,.string ⟨#[]⟩]) rfl (.cell (b+1) 49 #[.int .i64 1,.string s,.int .u64 x2,.slice Ad dl.length cd,.int .u64 x4,.int .u64 x5,.string ⟨#[]⟩] (0,0) _ rfl HEND.out.bx4 HU.out rfl (by kernel_rfl) .nil)) rfl ?_
      rw[←HR2.out]
      exact⟨_,rfl,Kd.R_lower HEND.out.row (by have:=HBB.out;omega),HEND.out.kp⟩
   ·have hnd:decide (0<n)=false:=decide_eq_false hn
    have hdl:=HDL.out
    rw[depsL_end _ (by omega)]at hdl
    obtain⟨rfl,rfl,rfl⟩:dl=ds∧a=a5∧e=e5:=by injection hdl with h1 h2;injection h2 with h2 h3;exact⟨h1,h2,h3⟩
    clear HDL hdl
    obtain⟨Ad,cd,rfl⟩:=Kd.R_slice H.out.row
    have p0:=bcl H.out.bx2 0 rfl
    have p1:=bcl H.out.bx2 1 rfl
    obtain⟨r0,f0,r1,f1,r2,f2,r3,f3,r4,f4,r5,f5,r6,f6⟩:=facts7f H.out.bx4
    go_wp2_with fail
    clear p0 p1 r0 f0 r1 f1 r2 f2 r3 f3 r4 f4 r5 f5 r6 f6
    refine(HN4.out wr H.out.rd).mono ?_
    rintro en wa hp
    have HA:=hQ (H.out.read hp)
    obtain⟨rfl,_⟩:=hp
    have HB9:=hQ (HA.out.put4 x4)
    have p0:=bcl HA.out.bx2 0 rfl
    have p1:=bcl HA.out.bx2 1 rfl
    obtain⟨r0,f0,r1,f1,r2,f2,r3,f3,r4,f4,r5,f5,r6,f6⟩:=facts7f HA.out.bx4
    have yp0:((wa.setCell ⟨b+1,4,none⟩ (.int .u64 x4))).cell? ⟨b,0,none⟩=some (.pointer (some ⟨g,0,none⟩)):=(blk_cell HB9.out.bx2 0).trans rfl
    have yp1:((wa.setCell ⟨b+1,4,none⟩ (.int .u64 x4))).cell? ⟨b,1,none⟩=some (.pointer (some ⟨t,0,none⟩)):=(blk_cell HB9.out.bx2 1).trans rfl
    obtain⟨yr0,yf0,yr1,yf1,yr2,yf2,yr3,yf3,yr4,yf4,yr5,yf5,yr6,yf6⟩:=facts7f HB9.out.bx4
    obtain⟨wb,hwb⟩:=eX ((wa.setCell ⟨b+1,4,none⟩ (.int .u64 x4)))
    have HWB:=hQ hwb
    have hB9:=HB9.out
    rw[hwb]at hB9
    have HB:=hQ hB9
    clear hwb hB9
    go_wp2_with fail
    rw[HWB.out]
    clear p0 p1 r0 f0 r1 f1 r2 f2 r3 f3 r4 f4 r5 f5 r6 f6 yp0 yp1 yr0 yf0 yr1 yf1 yr2 yf2 yr3 yf3 yr4 yf4 yr5 yf5 yr6 yf6
    refine(HN5.out wb HB.out.rd).mono ?_
    rintro en wc hp
    have HC:=hQ (HB.out.read hp)
    obtain⟨rfl,_⟩:=hp
    have HC9:=hQ (HC.out.put5 x5)
    have p0:=bcl HC.out.bx2 0 rfl
    have p1:=bcl HC.out.bx2 1 rfl
    obtain⟨r0,f0,r1,f1,r2,f2,r3,f3,r4,f4,r5,f5,r6,f6⟩:=facts7f HC.out.bx4
    have yp0:((wc.setCell ⟨b+1,5,none⟩ (.int .u64 x5))).cell? ⟨b,0,none⟩=some (.pointer (some ⟨g,0,none⟩)):=(blk_cell HC9.out.bx2 0).trans rfl
    have yp1:((wc.setCell ⟨b+1,5,none⟩ (.int .u64 x5))).cell? ⟨b,1,none⟩=some (.pointer (some ⟨t,0,none⟩)):=(blk_cell HC9.out.bx2 1).trans rfl
    obtain⟨yr0,yf0,yr1,yf1,yr2,yf2,yr3,yf3,yr4,yf4,yr5,yf5,yr6,yf6⟩:=facts7f HC9.out.bx4
    obtain⟨wd,hwd⟩:=eX ((wc.setCell ⟨b+1,5,none⟩ (.int .u64 x5)))
    have HWD:=hQ hwd
    have hC9:=HC9.out
    rw[hwd]at hC9
    have HD:=hQ hC9
    clear hwd hC9
    go_wp2_with fail
    rw[HWD.out]
    clear p0 p1 r0 f0 r1 f1 r2 f2 r3 f3 r4 f4 r5 f5 r6 f6 yp0 yp1 yr0 yf0 yr1 yf1 yr2 yf2 yr3 yf3 yr4 yf4 yr5 yf5 yr6 yf6
    refine(HN6.out wd HD.out.rd).mono ?_
    rintro en we hp
    have HE:=hQ (HD.out.read hp)
    obtain⟨rfl,_⟩:=hp
    have p0:=bcl HE.out.bx2 0 rfl
    have p1:=bcl HE.out.bx2 1 rfl
    obtain⟨r0,f0,r1,f1,r2,f2,r3,f3,r4,f4,r5,f5,r6,f6⟩:=facts7f HE.out.bx4
    by_cases hm:0<m
    ·have hmd:decide (0<m)=true:=decide_eq_true hm
     have hwm:IntKind.u64.wrap (m-1)=m-1:=by have:=HM6.out;rw[IntKind.wrap_u64];omega
     have HTX6:=hQ (rtext_any HE.out.rd (m-1) (by have:=HM6.out;omega))
     have hR3:=HR2.out
     rw[if_pos hm]at hR3
     generalize txF T (m-1)=s6 at HTX6 hR3
     generalize txE T (m-1) e7=e8 at HTX6 hR3
     replace HR2:=hQ hR3
     clear hR3
     go_wp2_with fail
     clear p0 p1 r0 f0 r1 f1 r2 f2 r3 f3 r4 f4 r5 f5 r6 f6
     refine HTX6.out.mono ?_
     rintro en wf hp
     have HF:=hQ (HE.out.read hp)
     obtain⟨rfl,_⟩:=hp
     have HF9:=hQ (HF.out.put6 s6)
     have p0:=bcl HF.out.bx2 0 rfl
     have p1:=bcl HF.out.bx2 1 rfl
     obtain⟨r0,f0,r1,f1,r2,f2,r3,f3,r4,f4,r5,f5,r6,f6⟩:=facts7f HF.out.bx4
     have yp0:((wf.setCell ⟨b+1,6,none⟩ (.string s6))).cell? ⟨b,0,none⟩=some (.pointer (some ⟨g,0,none⟩)):=(blk_cell HF9.out.bx2 0).trans rfl
     have yp1:((wf.setCell ⟨b+1,6,none⟩ (.string s6))).cell? ⟨b,1,none⟩=some (.pointer (some ⟨t,0,none⟩)):=(blk_cell HF9.out.bx2 1).trans rfl
     obtain⟨yr0,yf0,yr1,yf1,yr2,yf2,yr3,yf3,yr4,yf4,yr5,yf5,yr6,yf6⟩:=facts7f HF9.out.bx4
     have HEND:=hQ (HF9.out.putAll 1 s x2 (.slice Ad dl.length cd) x4 x5 s6 HF9.out.row)
     go_wp2_with fail
     refine bodyPost_ret (results_single (v:= .agg #[.int .i64 1,.string s,.int .u64 x2,.slice Ad dl.length cd,.int .u64 x4,.int .u64 x5,.string s6]) rfl (.cell (b+1) 49 #[.int .i64 1,.string s,.int .u64 x2,.slice Ad dl.length cd,.int .u64 x4,.int .u64 x5,.string s6] (0,0) _ rfl HEND.out.bx4 HU.out rfl (by kernel_rfl) .nil)) rfl ?_
     rw[←HR2.out]
     exact⟨_,rfl,Kd.R_lower HEND.out.row (by have:=HBB.out;omega),HEND.out.kp⟩
    ·have hmd:decide (0<m)=false:=decide_eq_false hm
     have hR3:=HR2.out
     rw[if_neg hm]at hR3
     replace HR2:=hQ hR3
     clear hR3
     have HEND:=hQ (HE.out.putAll 1 s x2 (.slice Ad dl.length cd) x4 x5 ⟨#[]⟩ HE.out.row)
     go_wp2_with fail
     refine bodyPost_ret (results_single (v:= .agg #[.int .i64 1,.string s,.int .u64 x2,.slice Ad dl.length cd,.int .u64 x4,.int .u64 x5,.string ⟨#[]⟩]) rfl (.cell (b+1) 49 #[.int .i64 1,.string s,.int .u64 x2,.slice Ad dl.length cd,.int .u64 x4,.int .u64 x5,.string ⟨#[]⟩] (0,0) _ rfl HEND.out.bx4 HU.out rfl (by kernel_rfl) .nil)) rfl ?_
     rw[←HR2.out]
     exact⟨_,rfl,Kd.R_lower HEND.out.row (by have:=HBB.out;omega),HEND.out.kp⟩
 ·have hkd:decide (kb=1)=false:=decide_eq_false hk1
  have HEND:=hQ (HS4.out.putAll kb s 0 (.slice none 0 0) 0 0 ⟨#[]⟩ HS4.out.row)
  have hR2:=HRR.out
  rw[if_neg hk1]at hR2
  have HR2:=hQ hR2
  clear hR2 HRR
  go_wp2_with fail
  refine bodyPost_ret (results_single (v:= .agg #[.int .i64 kb,.string s,.int .u64 0,.slice none 0 0,.int .u64 0,.int .u64 0,.string ⟨#[]⟩]) rfl (.cell (b+1) 49 #[.int .i64 kb,.string s,.int .u64 0,.slice none 0 0,.int .u64 0,.int .u64 0,.string ⟨#[]⟩] (0,0) _ rfl HEND.out.bx4 HU.out rfl (by kernel_rfl) .nil)) rfl ?_
  rw[←HR2.out]
  exact⟨_,rfl,Kd.R_lower HEND.out.row (by have:=HBB.out;omega),HEND.out.kp⟩
theorem atI_in {T:List ByteArray} {s:ByteArray} (h:s∈T):atI T s=(posOf T s:Int):=by unfold atI;rw[isIn_iff.2 h];rfl
theorem txF_pos {T:List ByteArray} {s:ByteArray} (h:s∈T):txF T (posOf T s:Int)=s:=by
 have h1:=posOf_lt h
 have h2:=posOf_get h
 unfold txF
 rw[if_pos (by omega),Int.toNat_natCast]
 rw[List.getElem?_eq_getElem h1]at h2
 simpa [h1]using Option.some.inj h2
theorem txE_pos {T:List ByteArray} {s:ByteArray} (h:s∈T) (e:Int):txE T (posOf T s:Int) e=e:=by
 have h1:=posOf_lt h
 unfold txE
 rw[if_pos (by omega)]
theorem textR_rt (v:Int) (T:List ByteArray) (hT:T.length≤1000000) (p u:List Int) (s:ByteArray) (hs:s.size≤64) (hin:v≠1→s∈T):
  textR v T (p++(textE v T s++u)) (p.length:Int) 0=(s,(((p++textE v T s).length:Nat):Int),0):=by
 unfold textR textE
 by_cases hv:v=1
 ·rw[if_pos hv,if_pos hv]
  exact cuText_blob p s u 64 (by omega) (by omega)
 ·rw[if_neg hv,if_neg hv]
  have hi:=hin hv
  have hp:=posOf_lt hi
  have h:=cuNum_vb p (posOf T s:Int) u (by omega)
  unfold txR numE
  rw[atI_in hi,h]
  dsimp only
  rw[txF_pos hi,txE_pos hi]
theorem depR_rt (v:Int) (T:List ByteArray) (hT:T.length≤1000000) (p u:List Int) (d:S129) (hs:d.f0.size≤64) (hin:v≠1→d.f0∈T) (ho:d.f2=true→3≤v):
  depR v T (p++(depE v T d++u)) (p.length:Int) 0=((d.f0,d.f2),(((p++depE v T d).length:Nat):Int),0):=by
 unfold depR depE
 by_cases hv:v<3
 ·rw [if_pos hv,if_pos hv,textR_rt v T hT p u d.f0 hs hin]
  have:d.f2=false:=by
   cases h:d.f2 with
   |false=>rfl
   |true=>have:=ho h;omega
  rw[this]
 ·rw [if_neg hv,if_neg hv]
  have hi:=hin (by omega)
  have hp:=posOf_lt hi
  have h:=cuNum_vb p (2*atI T d.f0+(if d.f2=true then 1 else 0)) u (by rw[atI_in hi];split<;>omega)
  rw[h]
  dsimp only
  rw[atI_in hi]
  have e1:(2*(posOf T d.f0:Int)+(if d.f2=true then 1 else 0))/2=(posOf T d.f0:Int):=by split<;>omega
  have e2:decide ((2*(posOf T d.f0:Int)+(if d.f2=true then 1 else 0))%2=1)=d.f2:=by
   cases hf:d.f2 with
   |true=>exact decide_eq_true (by first|(simp;done)|(simp;omega))
   |false=>exact decide_eq_false (by simp)
  rw[e1,e2,txF_pos hi,txE_pos hi]
theorem depsL_rt (v:Int) (T:List ByteArray) (hT:T.length≤1000000) (u:List Int): ∀(ds:List S129) (p:List Int) (acc:List S129) (f:Nat),ds.length≤f→
  (∀d∈ds,d.f0.size≤64∧(v≠1→d.f0∈T)∧(d.f2=true→3≤v)∧0≤d.f1∧d.f1<18446744073709551616)→
  depsL v T (p++(depsE v T ds++u)) f (ds.length:Int) (p.length:Int) 0 acc=(acc++ds,(((p++depsE v T ds).length:Nat):Int),0):=by
 intro ds
 induction ds with
 |nil=>
  intro p acc f _ _
  rw[depsL_end f (by simp)]
  simp[depsE]
 |cons d r ih=>
  intro p acc f hf hd
  obtain⟨f,rfl⟩: ∃m,f=m+1:=⟨f-1,by simp only[List.length_cons]at hf;omega⟩
  obtain⟨h1,h2,h3,h4,h5⟩:=hd d List.mem_cons_self
  have e:depsE v T (d::r)=depE v T d++(ints (vb d.f1.toNat)++depsE v T r):=by simp[depsE]
  rw[e]
  have hR:=depR_rt v T hT p ((ints (vb d.f1.toNat)++depsE v T r)++u) d h1 h2 h3
  have hN:=cuNum_vb (p++depE v T d) d.f1 (depsE v T r++u) ⟨h4,h5⟩
  have e1:p++((depE v T d++(ints (vb d.f1.toNat)++depsE v T r))++u)=p++(depE v T d++((ints (vb d.f1.toNat)++depsE v T r)++u)):=by simp only[List.append_assoc]
  have e2:p++(depE v T d++((ints (vb d.f1.toNat)++depsE v T r)++u))=(p++depE v T d)++(ints (vb d.f1.toNat)++(depsE v T r++u)):=by simp only[List.append_assoc]
  rw[depsL,if_pos ⟨by simp only[List.length_cons];omega,rfl⟩,e1,hR]
  dsimp only
  rw[e2,hN]
  dsimp only
  have e3:(p++depE v T d)++(ints (vb d.f1.toNat)++(depsE v T r++u))=((p++depE v T d)++ints (vb d.f1.toNat))++(depsE v T r++u):=by simp only[List.append_assoc]
  have e4:((d::r).length:Int)-1=(r.length:Int):=by simp only[List.length_cons];omega
  rw[e3,e4,ih _ _ f (by simp only[List.length_cons]at hf;omega) (fun x hx=>hd x (List.mem_cons_of_mem _ hx))]
  simp only[List.append_assoc,List.singleton_append]
theorem depsE_ge (v:Int) (T:List ByteArray) (ds:List S129):ds.length≤(depsE v T ds).length:=by
 induction ds with
 |nil=>simp
 | cons d r ih=>
  have e:depsE v T (d::r)=depE v T d++(ints (vb d.f1.toNat)++depsE v T r):=by simp[depsE]
  have h:0<(ints (vb d.f1.toNat)).length:=by
   rw[show(ints (vb d.f1.toNat)).length=(vb d.f1.toNat).length by simp[ints]]
   exact List.length_pos_iff.2 (vb_ne _)
  rw[e,List.length_append,List.length_append,List.length_cons]
  omega
theorem cuNum_at {L p u:List Int} {n:Int} (hL:L=p++(ints (vb n.toNat)++u)) (hn:0≤n∧n<18446744073709551616):cuNum L (p.length:Int) 0=(n,(((p++ints (vb n.toNat)).length:Nat):Int),0):=by
 subst hL;exact cuNum_vb p n u hn
def endE (v:Int) (T:List ByteArray) (x5:Int) (x6:ByteArray):List Int:=(if 2≤v then ints (vb x5.toNat)else [])++(if 3≤v then tagE T x6 else [])
theorem tailR_rt (v:Int) (T:List ByteArray) (hT:T.length≤1000000) (k:Int) (s:ByteArray) (x2:Int) (ds:List S129) (x4 x5:Int) (x6:ByteArray) (L p:List Int) (hL:L=p++endE v T x5 x6) (hv:1≤v∧v≤3)
  (h5:0≤x5∧x5<18446744073709551616) (hw:v<2→x5=0) (ht:v<3→x6.size=0) (hin:3≤v→x6.size≠0→x6∈T):
  tailR v T L k s x2 ds x4 (p.length:Int) 0=((k,s,x2,ds,x4,x5,x6),(L.length:Int),0):=by
 have he: ∀y:ByteArray,y.size=0→y=⟨#[]⟩:=fun y hy=>ByteArray.ext (Array.eq_empty_of_size_eq_zero hy)
 unfold endE at hL
 unfold tailR
 have hv3:v=1∨v=2∨v=3:=by omega
 rcases hv3 with rfl|rfl|rfl
 ·rw[if_pos (by omega),hw (by omega),he x6 (ht (by omega)),hL]
  simp
 ·rw[if_neg (by omega),if_pos (by omega),he x6 (ht (by omega))]
  rw[if_pos (by omega),if_neg (by omega)]at hL
  rw[cuNum_at hL h5,hL]
  simp
 ·rw [if_neg (by omega),if_neg (by omega)]
  rw[if_pos (by omega),if_pos (by omega)]at hL
  rw[cuNum_at hL h5]
  dsimp only
  unfold tagE at hL
  by_cases h0:x6.size=0
  ·rw[if_pos h0]at hL
   have hL2:L=(p++ints (vb x5.toNat))++(ints (vb (0:Int).toNat)++[]):=by rw[hL];simp
   rw[cuNum_at hL2 (by omega)]
   dsimp only
   rw[if_neg (by omega),he x6 h0,hL2]
   simp
  ·rw[if_neg h0]at hL
   have hi:=hin (by omega) h0
   have hp:=posOf_lt hi
   rw[atI_in hi]at hL
   have hL2:L=(p++ints (vb x5.toNat))++(ints (vb ((posOf T x6:Int)+1).toNat)++[]):=by rw[hL];simp
   rw[cuNum_at hL2 (by omega)]
   dsimp only
   rw[if_pos (by omega),show(posOf T x6:Int)+1-1=(posOf T x6:Int)by omega,txF_pos hi,txE_pos hi,hL2]
   simp
theorem depsL_at {v:Int} {T:List ByteArray} (hT:T.length≤1000000) {L p u:List Int} {ds:List S129} (hL:L=p++(depsE v T ds++u)) (hd: ∀d∈ds,d.f0.size≤64∧(v≠1→d.f0∈T)∧(d.f2=true→3≤v)∧0≤d.f1∧d.f1<18446744073709551616):
  depsL v T L (L.length+2) (ds.length:Int) (p.length:Int) 0 []=(ds,(((p++depsE v T ds).length:Nat):Int),0):=by
 have hf:ds.length≤L.length+2:=by
  have:=depsE_ge v T ds
  rw[hL,List.length_append,List.length_append];omega
 generalize L.length+2=f at hf ⊢
 subst hL
 rw[depsL_rt v T hT u ds p [] f hf hd,List.nil_append]
theorem traceR_rt (v:Int) (T:List ByteArray) (hT:T.length≤1000000) (k:Int) (s:ByteArray) (x2:Int) (ds:List S129) (x4 x5:Int) (x6:ByteArray) (L p:List Int) (hL:L=p++bodyE v T x2 ds x4 x5 x6) (hv:1≤v∧v≤3)
  (h2:0≤x2∧x2<18446744073709551616) (h4:0≤x4∧x4<18446744073709551616) (h5:0≤x5∧x5<18446744073709551616) (hn:ds.length≤1000)
  (hd: ∀d∈ds,d.f0.size≤64∧(v≠1→d.f0∈T)∧(d.f2=true→3≤v)∧0≤d.f1∧d.f1<18446744073709551616)
  (hw:v<2→x5=0) (ht:v<3→x6.size=0) (hin:3≤v→x6.size≠0→x6∈T):
  traceR v T L k s (p.length:Int) 0=((k,s,x2,ds,x4,x5,x6),(L.length:Int),0):=by
 have hb:bodyE v T x2 ds x4 x5 x6=ints (vb x2.toNat)++(ints (vb ((ds.length:Int)).toNat)++(depsE v T ds++(ints (vb x4.toNat)++endE v T x5 x6))):=by
  unfold bodyE endE
  rw[Int.toNat_natCast]
  simp only[List.append_assoc]
 rw[hb]at hL
 have a1:=cuNum_at hL h2
 have hL2:L=(p++ints (vb x2.toNat))++(ints (vb ((ds.length:Int)).toNat)++(depsE v T ds++(ints (vb x4.toNat)++endE v T x5 x6))):=by rw[hL];simp only[List.append_assoc]
 have a2:=cuNum_at hL2 (by omega)
 have hL3:L=((p++ints (vb x2.toNat))++ints (vb ((ds.length:Int)).toNat))++(depsE v T ds++(ints (vb x4.toNat)++endE v T x5 x6)):=by rw[hL];simp only[List.append_assoc]
 have a3:=depsL_at hT hL3 hd
 have hL4:L=(((p++ints (vb x2.toNat))++ints (vb ((ds.length:Int)).toNat))++depsE v T ds)++(ints (vb x4.toNat)++endE v T x5 x6):=by rw[hL];simp only[List.append_assoc]
 have a4:=cuNum_at hL4 h4
 have hL5:L=((((p++ints (vb x2.toNat))++ints (vb ((ds.length:Int)).toNat))++depsE v T ds)++ints (vb x4.toNat))++endE v T x5 x6:=by rw[hL];simp only[List.append_assoc]
 have a5:=tailR_rt v T hT k s x2 ds x4 x5 x6 L _ hL5 hv h5 hw ht hin
 unfold traceR
 rw[a1]
 dsimp only
 rw[a2]
 dsimp only
 rw[a3]
 dsimp only
 rw[a4]
 dsimp only
 exact a5
theorem lastR_rt (v:Int) (T:List ByteArray) (hT:T.length≤1000000) (k0:Int) (x1:ByteArray) (x2:Int) (l:List S129) (x4 x5:Int) (x6:ByteArray) (hm:mayB v k0 x1 x2 l x4 x5 x6=true)
  (h2:0≤x2∧x2<18446744073709551616) (h4:0≤x4∧x4<18446744073709551616) (h5:0≤x5∧x5<18446744073709551616) (hdr: ∀d∈l,0≤d.f1∧d.f1<18446744073709551616)
  (hin:v≠1→∀s∈namesL x1 l x6,s∈T):
  lastR v T (lastE v T k0 x1 x2 l x4 x5 x6)=((k0,x1,x2,l,x4,x5,x6),((lastE v T k0 x1 x2 l x4 x5 x6).length:Int),0):=by
 have M:=may_facts hm
 have hn1:v≠1→x1∈T:=fun hv=>hin hv x1 (by unfold namesL;simp)
 have hnd: ∀d∈l,v≠1→d.f0∈T:=fun d hd hv=>hin hv d.f0 (by unfold namesL;rw[List.mem_append];exact .inl (List.mem_cons_of_mem _ (List.mem_map.2 ⟨d,hd,rfl⟩)))
 have hn6:3≤v→x6.size≠0→x6∈T:=fun hv h0=>hin (by omega) x6 (by unfold namesL;rw[if_neg (by rw[tl_nil];exact h0)];simp)
 have hB:cuByte (lastE v T k0 x1 x2 l x4 x5 x6) 0 0=(k0,1,0):=by
  unfold cuByte lastE
  rw[if_neg (by simp),if_neg (by simp only[List.length_append,List.length_cons];omega)]
  simp[rd]
 obtain⟨U,hU⟩:=eX ((if k0=2 then []else bodyE v T x2 l x4 x5 x6))
 have hE:lastE v T k0 x1 x2 l x4 x5 x6=[k0]++(textE v T x1++U):=by unfold lastE;rw[hU];simp only[List.append_assoc]
 have hX:=textR_rt v T hT [k0] U x1 M.t.2 hn1
 rw[←hE]at hX
 unfold lastR
 rw[hB]
 dsimp only
 rw[show(([k0]:List Int).length:Int)=1 from rfl]at hX
 rw[hX]
 dsimp only
 rcases M.k with hk|hk
 ·rw [if_pos hk]
  have hL:lastE v T k0 x1 x2 l x4 x5 x6=([k0]++textE v T x1)++bodyE v T x2 l x4 x5 x6:=by
   unfold lastE;rw[if_neg (by omega)]
  exact traceR_rt v T hT k0 x1 x2 l x4 x5 x6 _ _ hL M.ver h2 h4 h5 (by have:=M.n;omega) (fun d hd=>⟨(M.d d hd).2.1,hnd d hd,(M.d d hd).2.2,hdr d hd⟩) M.w M.tag.2 hn6
 ·obtain⟨g1,g2,g3,g4,g5⟩:=M.gone hk
  rw[if_neg (by omega)]
  have e6:x6=⟨#[]⟩:=ByteArray.ext (Array.eq_empty_of_size_eq_zero g5)
  have hL:lastE v T k0 x1 x2 l x4 x5 x6=[k0]++textE v T x1:=by unfold lastE;rw[if_pos hk];simp
  rw[hL,g1,g2,g3,g4,e6]
end Go.Proofs.YtfflenbfapgilaaGreat
namespace Go.Proofs.YtfflenbfapgilaaGreat
open Go.Proofs.YtfflenbfapgilaaGreat.GVB
theorem blk_put3 {w:World} {g:Nat} {t:TypeId} {a0 a1 a2:Value} (h:w.heap[g]? =some (.cells #[a0,a1,a2] t (0,0))) (v0 v1 v2:Value):
  (((w.setCell ⟨g,0,none⟩ v0).setCell ⟨g,1,none⟩ v1).setCell ⟨g,2,none⟩ v2).heap[g]? =some (.cells #[v0,v1,v2] t (0,0)):=by
 have h0:=blk_put (cs':=#[v0,a1,a2]) h 0 v0 rfl
 have h1:=blk_put (cs':=#[v0,v1,a2]) h0 1 v1 rfl
 exact blk_put (cs':=#[v0,v1,v2]) h1 2 v2 rfl
theorem below_put3 {B:Nat} {w0 w:World} {g:Nat} (h:Below B w0 w) (hg:B≤g) (v0 v1 v2:Value):
  Below B w0 (((w.setCell ⟨g,0,none⟩ v0).setCell ⟨g,1,none⟩ v1).setCell ⟨g,2,none⟩ v2):=
 ((h.setCell (p:=⟨g,0,none⟩) hg v0).setCell (p:=⟨g,1,none⟩) hg v1).setCell (p:=⟨g,2,none⟩) hg v2
theorem blk_grown' {W W':World} {b:Nat} {o:Obj} {row:Option Nat} (h:W.heap[b]? =some o) (hg:W.grownBy W' row) (hr:row≠some b):W'.heap[b]? =some o:=
 (hg.block b (Array.getElem?_eq_some_iff.1 h).1 (fun e=>hr e.symm)).trans h
def pl (a e:Int):Int:=if e=0 then a else -1
theorem wnum_walk (s:ByteArray) (p:Int) (A:Option Addr) (n c:Nat) (gn gp ge q:Int) (hq:q=if ge=0 then gp else -1) (hg:tephraref01_Get.f 30 s p=some (gn,gp,ge)) (w:World):
  Calls Tryz.prog 52 #[.agg #[.string s,.int .i64 p,.slice A n c]] w fun en w'=>en= .returned (.tuple #[.int .u64 gn,.agg #[.string s,.int .i64 q,.slice A n c]])∧Below w.heap.size w w':=by
 obtain⟨w1,hw1⟩:=eX ((w.alloc (.cells #[.string s,.int .i64 p,.slice A n c] 118)).alloc (.cells #[.string ⟨#[]⟩,.int .i64 0,.slice none 0 0] 118))
 have hb1:Below w.heap.size w w1:=by rw[←hw1];exact((Below.refl _ _).alloc (Nat.le_refl _) _).alloc (by rw[heap_size_alloc];omega) _
 have hk1:w1.heap[w.heap.size]? =some (.cells #[.string s,.int .i64 p,.slice A n c] 118 (0,0)):=by rw[←hw1];exact blk_alloc (heap_new _ _) _
 have hk3:w1.heap[w.heap.size+1]? =some (.cells #[.string ⟨#[]⟩,.int .i64 0,.slice none 0 0] 118 (0,0)):=by
  rw[←hw1]
  have:=heap_new (w.alloc (.cells #[.string s,.int .i64 p,.slice A n c] 118)) (.cells #[.string ⟨#[]⟩,.int .i64 0,.slice none 0 0] 118)
  rwa [heap_size_alloc]at this
 obtain⟨b1,hbb⟩:=eX (w.heap.size)
 rw[hbb]at hk1 hk3
 obtain⟨b3,hb3⟩:=eX (b1+1)
 rw[hb3]at hk3
 have c0:=(blk_cell hk1 0).trans rfl
 have c1:=(blk_cell hk1 1).trans rfl
 have HG:=hQ (tephraref01_Get.calls 30 s p gn gp ge w1 hg)
 have HB1:=hQ hb1
 have HW1:=hQ hw1
 have HK1:=hQ hk1
 have HK3:=hQ hk3
 have HBB:=hQ hbb
 have HB3:=hQ hb3
 have HU:=hQ Tryz.underlying118
 clear hb1 hk1 hk3 hbb hw1 hg hb3
 go_enter Tryz.func52,Tryz.ntmps52
 go_wp2_with fail
 rw[HW1.out,HBB.out]
 refine HG.out.mono ?_
 rintro e w2 ⟨rfl,hd2⟩
 have hb2:=hd2.below
 have hk1:=blk_below HK1.out hb2
 have hk3:=blk_below HK3.out hb2
 have HB2:=hQ (HB1.out.trans (hb2.mono HB1.out.size))
 have c1:=(blk_cell hk1 1).trans rfl
 have f1:=blk_frozen hk1 1
 clear hd2 hb2 c0 HK1 HK3
 rw[←HB3.out]at hk3
 have HQ:=hQ hq
 clear hq
 by_cases he:ge=0
 ·subst he
  have hq:=HQ.out
  rw[if_pos rfl]at hq
  subst hq
  obtain⟨wT,hwT⟩:=eX (w2.setCell ⟨b1,1,none⟩ (.int .i64 q))
  have kT1:wT.heap[b1]? =some (.cells #[.string s,.int .i64 q,.slice A n c] 118 (0,0)):=by
   rw[←hwT];exact blk_put hk1 1 (.int .i64 q) rfl
  have kT3:wT.heap[b1+1]? =some (.cells #[.string ⟨#[]⟩,.int .i64 0,.slice none 0 0] 118 (0,0)):=by
   rw[←hwT];exact(Below.heap_setCell _ _ _ _ (by show b1+1≠b1;omega)).trans hk3
  have hBT:Below w.heap.size w wT:=by rw[←hwT];exact HB2.out.setCell (p:=⟨b1,1,none⟩) (by have:=HBB.out;show w.heap.size≤b1;omega) _
  have hsz:=hBT.size
  have HT:=hQ hBT
  have HWT:=hQ hwT
  have hbb:=HBB.out
  clear hBT hwT hk1 hk3 HQ
  go_wp2_with fail
  rw[HWT.out]
  clear c1 f1
  refine region_one (n:=4) (base:=w.heap.size) (w0:=w) (b:=(b1+1)) (jw:=3) (byList [isV (.int .u64 gn),isV (.agg #[.string s,.int .i64 q,.slice A n c]),isV (.int .u64 gn),(fun _ _=>True)]) (fun W=>W.heap[b1]? =some (.cells #[.string s,.int .i64 q,.slice A n c] 118 (0,0))) (fun W=>W.heap[(b1+1)]? =some (.cells #[.string ⟨#[]⟩,.int .i64 0,.slice none 0 0] 118 (0,0))) (fun W=>W.heap[(b1+1)]? =some (.cells #[.string s,.int .i64 q,.slice A n c] 118 (0,0))) (by kernel_rfl) rfl (by omega) (byList_any ?_) (by kernel_rfl) (by kernel_rfl) (by omega) (fun W W' row hrow h hg=>blk_grown' h hg (by rcases hrow with rfl|rfl<;>simp)) (fun W W' h hg=>blk_below h (below_none hg)) (fun W W' h hg=>blk_below h (below_none hg)) HT.out (Nat.le_refl _) kT1 kT3 (show AllLt 4 _ from ?_) ?_
  ·intro p hp
   simp only[List.mem_cons,List.not_mem_nil,or_false]at hp
   rcases hp with rfl|rfl|rfl|rfl<;>exact fun _ _ _ h=>h
  ·refine allLt_succ (allLt_succ (allLt_succ (allLt_succ (allLt_zero _) ?_) ?_) ?_) ?_
   ·refine StepOkO.run (get_lit rfl) rfl (by omega) fun a W hS hB hd hR=> ?_
    have e4:=hS.get (t:=4) rfl rfl
    refine wp_value (c:= .int .u64 gn) ?_ rfl
    go_simp
   ·refine StepOkO.run (get_lit rfl) rfl (by omega) fun a W hS hB hd hR=> ?_
    have e1:=hS.get (t:=1) rfl rfl
    refine wp_value (c:= .agg #[.string s,.int .i64 q,.slice A n c]) ?_ rfl
    have c0:=bcl hR 0 rfl
    have c1:=bcl hR 1 rfl
    have c2:=bcl hR 2 rfl
    go_simp
   ·refine StepOkO.run (get_lit rfl) rfl (by omega) fun a W hS hB hd hR=> ?_
    have e20:=(hd 0 rfl).bool rfl rfl rfl
    refine wp_value (c:= .int .u64 gn) ?_ rfl
    go_simp
   ·refine StepOkO.write (get_lit rfl) rfl rfl rfl fun a W hS hB hd hR hP=> ?_
    have e3:=hS.get (t:=3) rfl rfl
    have e21:=(hd 1 rfl).bool rfl rfl rfl
    have z0:W.cell? ⟨(b1+1),0,none⟩=some (.string ⟨#[]⟩):=(blk_cell hP 0).trans rfl
    have zf0:=blk_frozen hP 0
    have z1:W.cell? ⟨(b1+1),1,none⟩=some (.int .i64 0):=(blk_cell hP 1).trans rfl
    have zf1:=blk_frozen hP 1
    have z2:W.cell? ⟨(b1+1),2,none⟩=some (.slice none 0 0):=(blk_cell hP 2).trans rfl
    have zf2:=blk_frozen hP 2
    refine⟨_, ?_,grown_put (grown_put (grown_put (World.grownBy.refl _ _) (.string s)) (.int .i64 q)) (.slice A n c),blk_put3 hP _ _ _⟩
    go_simp
  ·intro a W hS hB hh hRD hFD
   have e2:a.tmps[2]? =some (.int .u64 gn):=(hh 2 (by omega)).bool rfl rfl rfl
   have HBR:=hQ hB
   obtain⟨zz,hlit,hzz⟩:=same_litz hS
   clear hh hS hB
   simp only[List.filterMap_cons,List.filterMap_nil,List.foldl_cons,List.foldl_nil,List.setIfInBounds_toArray,List.set_cons_zero,List.set_cons_succ]at hlit
   rw[hzz 2 _ e2]at hlit
   clear e2
   clear hzz;subst hlit
   go_wp2_with fail
   refine bodyPost_ret (results_tc rfl _ _ (b1+1) 118 #[_,_,_] (0,0) _ rfl hFD HU.out rfl (by kernel_rfl)) rfl ?_
   exact⟨rfl,HBR.out⟩
 ·have hq:=HQ.out
  rw[if_neg he]at hq
  subst hq
  have hne:(ge !=0)=true:=by simpa using he
  obtain⟨wT,hwT⟩:=eX (w2.setCell ⟨b1,1,none⟩ (.int .i64 (-1)))
  have kT1:wT.heap[b1]? =some (.cells #[.string s,.int .i64 (-1),.slice A n c] 118 (0,0)):=by
   rw[←hwT];exact blk_put hk1 1 (.int .i64 (-1)) rfl
  have kT3:wT.heap[b1+1]? =some (.cells #[.string ⟨#[]⟩,.int .i64 0,.slice none 0 0] 118 (0,0)):=by
   rw[←hwT];exact(Below.heap_setCell _ _ _ _ (by show b1+1≠b1;omega)).trans hk3
  have hBT:Below w.heap.size w wT:=by rw[←hwT];exact HB2.out.setCell (p:=⟨b1,1,none⟩) (by have:=HBB.out;show w.heap.size≤b1;omega) _
  have hsz:=hBT.size
  have HT:=hQ hBT
  have HWT:=hQ hwT
  have hbb:=HBB.out
  clear hBT hwT hk1 hk3 HQ
  go_wp2_with fail
  rw[HWT.out]
  clear c1 f1
  refine region_one (n:=4) (base:=w.heap.size) (w0:=w) (b:=(b1+1)) (jw:=3) (byList [isV (.int .u64 gn),isV (.agg #[.string s,.int .i64 (-1),.slice A n c]),isV (.int .u64 gn),(fun _ _=>True)]) (fun W=>W.heap[b1]? =some (.cells #[.string s,.int .i64 (-1),.slice A n c] 118 (0,0))) (fun W=>W.heap[(b1+1)]? =some (.cells #[.string ⟨#[]⟩,.int .i64 0,.slice none 0 0] 118 (0,0))) (fun W=>W.heap[(b1+1)]? =some (.cells #[.string s,.int .i64 (-1),.slice A n c] 118 (0,0))) (by kernel_rfl) rfl (by omega) (byList_any ?_) (by kernel_rfl) (by kernel_rfl) (by omega) (fun W W' row hrow h hg=>blk_grown' h hg (by rcases hrow with rfl|rfl<;>simp)) (fun W W' h hg=>blk_below h (below_none hg)) (fun W W' h hg=>blk_below h (below_none hg)) HT.out (Nat.le_refl _) kT1 kT3 (show AllLt 4 _ from ?_) ?_
  ·intro p hp
   simp only[List.mem_cons,List.not_mem_nil,or_false]at hp
   rcases hp with rfl|rfl|rfl|rfl<;>exact fun _ _ _ h=>h
  ·refine allLt_succ (allLt_succ (allLt_succ (allLt_succ (allLt_zero _) ?_) ?_) ?_) ?_
   ·refine StepOkO.run (get_lit rfl) rfl (by omega) fun a W hS hB hd hR=> ?_
    have e4:=hS.get (t:=4) rfl rfl
    refine wp_value (c:= .int .u64 gn) ?_ rfl
    go_simp
   ·refine StepOkO.run (get_lit rfl) rfl (by omega) fun a W hS hB hd hR=> ?_
    have e1:=hS.get (t:=1) rfl rfl
    refine wp_value (c:= .agg #[.string s,.int .i64 (-1),.slice A n c]) ?_ rfl
    have c0:=bcl hR 0 rfl
    have c1:=bcl hR 1 rfl
    have c2:=bcl hR 2 rfl
    go_simp
   ·refine StepOkO.run (get_lit rfl) rfl (by omega) fun a W hS hB hd hR=> ?_
    have e20:=(hd 0 rfl).bool rfl rfl rfl
    refine wp_value (c:= .int .u64 gn) ?_ rfl
    go_simp
   ·refine StepOkO.write (get_lit rfl) rfl rfl rfl fun a W hS hB hd hR hP=> ?_
    have e3:=hS.get (t:=3) rfl rfl
    have e21:=(hd 1 rfl).bool rfl rfl rfl
    have z0:W.cell? ⟨(b1+1),0,none⟩=some (.string ⟨#[]⟩):=(blk_cell hP 0).trans rfl
    have zf0:=blk_frozen hP 0
    have z1:W.cell? ⟨(b1+1),1,none⟩=some (.int .i64 0):=(blk_cell hP 1).trans rfl
    have zf1:=blk_frozen hP 1
    have z2:W.cell? ⟨(b1+1),2,none⟩=some (.slice none 0 0):=(blk_cell hP 2).trans rfl
    have zf2:=blk_frozen hP 2
    refine⟨_, ?_,grown_put (grown_put (grown_put (World.grownBy.refl _ _) (.string s)) (.int .i64 (-1))) (.slice A n c),blk_put3 hP _ _ _⟩
    go_simp
  ·intro a W hS hB hh hRD hFD
   have e2:a.tmps[2]? =some (.int .u64 gn):=(hh 2 (by omega)).bool rfl rfl rfl
   have HBR:=hQ hB
   obtain⟨zz,hlit,hzz⟩:=same_litz hS
   clear hh hS hB
   simp only[List.filterMap_cons,List.filterMap_nil,List.foldl_cons,List.foldl_nil,List.setIfInBounds_toArray,List.set_cons_zero,List.set_cons_succ]at hlit
   rw[hzz 2 _ e2]at hlit
   clear e2
   clear hzz;subst hlit
   go_wp2_with fail
   refine bodyPost_ret (results_tc rfl _ _ (b1+1) 118 #[_,_,_] (0,0) _ rfl hFD HU.out rfl (by kernel_rfl)) rfl ?_
   exact⟨rfl,HBR.out⟩
theorem txt_at {w W:World} {A:Option Addr} {T:List ByteArray} (hC:Kd.C Kd.string w A T.length T) (hb:Below w.heap.size w W) (i:Nat) (hi:i<T.length): ∃ad:Addr,A=some ad∧W.cell? (ad.add i)=some (.string T[i]):=by
 obtain⟨ad,e,hc⟩:=(Kd.C_below hC hb).2.2 (by omega)
 obtain⟨cs,_,hcs,hcell⟩:=hc i T[i] (List.getElem?_eq_getElem hi)
 have hcs':cs=[.string T[i]]:=hcs
 have:=hcell 0 _ (by rw[hcs'];rfl)
 rw[show(Kd.string).sz=1 from rfl,Nat.mul_one,Nat.add_zero]at this
 exact⟨ad,e,this⟩
theorem wknown_walk (s:ByteArray) (p:Int) (A:Option Addr) (c:Nat) (T:List ByteArray) (hT:T.length≤1000000) (m:Int) (hm:0≤m∧m<18446744073709551616) (q:Int) (hq:q=if m<(T.length:Int)then p else -1) (w:World) (hC:Kd.C Kd.string w A T.length T):
  Calls Tryz.prog 55 #[.agg #[.string s,.int .i64 p,.slice A T.length c],.int .u64 m] w fun en w'=>en= .returned (.tuple #[.string (txF T m),.agg #[.string s,.int .i64 q,.slice A T.length c]])∧Below w.heap.size w w':=by
 obtain⟨w1,hw1⟩:=eX ((w.alloc (.cells #[.string s,.int .i64 p,.slice A T.length c] 118)).alloc (.cells #[.string ⟨#[]⟩,.int .i64 0,.slice none 0 0] 118))
 have hb1:Below w.heap.size w w1:=by rw[←hw1];exact((Below.refl _ _).alloc (Nat.le_refl _) _).alloc (by rw[heap_size_alloc];omega) _
 have kT1:w1.heap[w.heap.size]? =some (.cells #[.string s,.int .i64 p,.slice A T.length c] 118 (0,0)):=by rw[←hw1];exact blk_alloc (heap_new _ _) _
 have kT3:w1.heap[w.heap.size+1]? =some (.cells #[.string ⟨#[]⟩,.int .i64 0,.slice none 0 0] 118 (0,0)):=by
  rw[←hw1]
  have:=heap_new (w.alloc (.cells #[.string s,.int .i64 p,.slice A T.length c] 118)) (.cells #[.string ⟨#[]⟩,.int .i64 0,.slice none 0 0] 118)
  rwa [heap_size_alloc]at this
 have hsz:=hb1.size
 have HT:=hQ hb1
 have HW1:=hQ hw1
 have HC:=hQ hC
 obtain⟨b1,hbb⟩:=eX (w.heap.size)
 rw[hbb]at kT1 kT3
 have HBB:=hQ hbb
 have HU:=hQ Tryz.underlying118
 have hwl:IntKind.u64.wrap (T.length:Int)=(T.length:Int):=by rw[IntKind.wrap_u64];omega
 have HQ:=hQ hq
 have c2:=(blk_cell kT1 2).trans rfl
 clear hb1 hw1 hC hq
 by_cases hlt:m<(T.length:Int)
 ·have hq:=HQ.out
  rw[if_pos hlt]at hq
  subst hq
  have hge:decide (m≥(T.length:Int))=false:=decide_eq_false (by omega)
  have hle:decide ((T.length:Int)≤m)=false:=decide_eq_false (by omega)
  obtain⟨i,rfl⟩: ∃i:Nat,m=(i:Int):=⟨m.toNat,by omega⟩
  have htx:txF T (i:Int)=T[i]'(by omega):=by unfold txF;rw[if_pos hlt,Int.toNat_natCast];simp[show i<T.length by omega]
  rw[htx]
  obtain⟨ad,hA,hcell⟩:=txt_at HC.out (Below.refl _ _) i (by omega)
  subst hA
  generalize T[i]'(by omega)=tx at*
  have HCL:=hQ (fun(W:World) (h:Below w.heap.size w W)=>(cell_keep h hcell:W.cell? (ad.add i)=_))
  clear HQ htx hcell hm
  go_enter Tryz.func55,Tryz.ntmps55
  go_wp2_with fail
  rw[HW1.out]
  clear c2
  refine region_one (n:=8) (base:=w.heap.size) (w0:=w) (b:=(b1+1)) (jw:=7) (byList [isV (.pointer (some ⟨b1,2,none⟩)),isV (.slice (some ad) T.length c),isV (.int .u64 (i:Int)),isV (.pointer (some (ad.add i))),isV (.string tx),isV (.agg #[.string s,.int .i64 q,.slice (some ad) T.length c]),isV (.string tx),(fun _ _=>True)]) (fun W=>W.heap[b1]? =some (.cells #[.string s,.int .i64 q,.slice (some ad) T.length c] 118 (0,0))) (fun W=>W.heap[(b1+1)]? =some (.cells #[.string ⟨#[]⟩,.int .i64 0,.slice none 0 0] 118 (0,0))) (fun W=>W.heap[(b1+1)]? =some (.cells #[.string s,.int .i64 q,.slice (some ad) T.length c] 118 (0,0))) (by kernel_rfl) rfl (by omega) (byList_any ?_) (by kernel_rfl) (by kernel_rfl) (by omega) (fun W W' row hrow h hg=>blk_grown' h hg (by rcases hrow with rfl|rfl<;>simp)) (fun W W' h hg=>blk_below h (below_none hg)) (fun W W' h hg=>blk_below h (below_none hg)) HT.out (Nat.le_refl _) kT1 kT3 (show AllLt 8 _ from ?_) ?_
  ·intro p hp
   simp only[List.mem_cons,List.not_mem_nil,or_false]at hp
   rcases hp with rfl|rfl|rfl|rfl|rfl|rfl|rfl|rfl<;>exact fun _ _ _ h=>h
  ·refine allLt_succ (allLt_succ (allLt_succ (allLt_succ (allLt_succ (allLt_succ (allLt_succ (allLt_succ (allLt_zero _) ?_) ?_) ?_) ?_) ?_) ?_) ?_) ?_
   ·refine StepOkO.run (get_lit rfl) rfl (by omega) fun a W hS hB hd hR=> ?_
    have e2:=hS.get (t:=2) rfl rfl
    refine wp_value (c:= .pointer (some ⟨b1,2,none⟩)) ?_ rfl
    go_simp
   ·refine StepOkO.run (get_lit rfl) rfl (by omega) fun a W hS hB hd hR=> ?_
    have e14:=(hd 0 rfl).bool rfl rfl rfl
    refine wp_value (c:= .slice (some ad) T.length c) ?_ rfl
    have c0:=bcl hR 0 rfl
    have c1:=bcl hR 1 rfl
    have c2:=bcl hR 2 rfl
    go_simp
   ·refine StepOkO.run (get_lit rfl) rfl (by omega) fun a W hS hB hd hR=> ?_
    have e1:=hS.get (t:=1) rfl rfl
    refine wp_value (c:= .int .u64 (i:Int)) ?_ rfl
    go_simp
   ·refine StepOkO.run (get_lit rfl) rfl (by omega) fun a W hS hB hd hR=> ?_
    have e15:=(hd 1 rfl).bool rfl rfl rfl
    have e16:=(hd 2 rfl).bool rfl rfl rfl
    refine wp_value (c:= .pointer (some (ad.add i))) ?_ rfl
    go_simp
   ·refine StepOkO.run (get_lit rfl) rfl (by omega) fun a W hS hB hd hR=> ?_
    have e17:=(hd 3 rfl).bool rfl rfl rfl
    refine wp_value (c:= .string tx) ?_ rfl
    have hcW:W.cell? (ad.add i)=some (.string tx):=HCL.out W hB
    go_simp
   ·refine StepOkO.run (get_lit rfl) rfl (by omega) fun a W hS hB hd hR=> ?_
    have e2:=hS.get (t:=2) rfl rfl
    refine wp_value (c:= .agg #[.string s,.int .i64 q,.slice (some ad) T.length c]) ?_ rfl
    have c0:=bcl hR 0 rfl
    have c1:=bcl hR 1 rfl
    have c2:=bcl hR 2 rfl
    go_simp
   ·refine StepOkO.run (get_lit rfl) rfl (by omega) fun a W hS hB hd hR=> ?_
    have e18:=(hd 4 rfl).bool rfl rfl rfl
    refine wp_value (c:= .string tx) ?_ rfl
    go_simp
   ·refine StepOkO.write (get_lit rfl) rfl rfl rfl fun a W hS hB hd hR hP=> ?_
    have e5:=hS.get (t:=5) rfl rfl
    have e19:=(hd 5 rfl).bool rfl rfl rfl
    have z0:W.cell? ⟨(b1+1),0,none⟩=some (.string ⟨#[]⟩):=(blk_cell hP 0).trans rfl
    have zf0:=blk_frozen hP 0
    have z1:W.cell? ⟨(b1+1),1,none⟩=some (.int .i64 0):=(blk_cell hP 1).trans rfl
    have zf1:=blk_frozen hP 1
    have z2:W.cell? ⟨(b1+1),2,none⟩=some (.slice none 0 0):=(blk_cell hP 2).trans rfl
    have zf2:=blk_frozen hP 2
    refine⟨_, ?_,grown_put (grown_put (grown_put (World.grownBy.refl _ _) (.string s)) (.int .i64 q)) (.slice (some ad) T.length c),blk_put3 hP _ _ _⟩
    go_simp
  ·intro a W hS hB hh hRD hFD
   have e4:a.tmps[4]? =some (.string tx):=(hh 6 (by omega)).bool rfl rfl rfl
   have HBR:=hQ hB
   obtain⟨zz,hlit,hzz⟩:=same_litz hS
   clear hh hS hB
   simp only[List.filterMap_cons,List.filterMap_nil,List.foldl_cons,List.foldl_nil,List.setIfInBounds_toArray,List.set_cons_zero,List.set_cons_succ]at hlit
   rw[hzz 4 _ e4]at hlit
   clear e4
   clear hzz;subst hlit
   go_wp2_with fail
   refine bodyPost_ret (results_tc rfl _ _ (b1+1) 118 #[_,_,_] (0,0) _ rfl hFD HU.out rfl (by kernel_rfl)) rfl ?_
   exact⟨rfl,HBR.out⟩
 ·have hq:=HQ.out
  rw[if_neg hlt]at hq
  subst hq
  have hge:decide (m≥(T.length:Int))=true:=decide_eq_true (by omega)
  have hle:decide ((T.length:Int)≤m)=true:=decide_eq_true (by omega)
  have htx:txF T m=⟨#[]⟩:=by unfold txF;rw[if_neg hlt]
  rw[htx]
  clear kT1 kT3 HQ hsz htx HT HW1 c2
  obtain⟨wT,hwT⟩:=eX ((w.alloc (.cells #[.string s,.int .i64 (-1),.slice A T.length c] 118)).alloc (.cells #[.string ⟨#[]⟩,.int .i64 0,.slice none 0 0] 118))
  have hbT:Below w.heap.size w wT:=by rw[←hwT];exact((Below.refl _ _).alloc (Nat.le_refl _) _).alloc (by rw[heap_size_alloc];omega) _
  have kT1:wT.heap[w.heap.size]? =some (.cells #[.string s,.int .i64 (-1),.slice A T.length c] 118 (0,0)):=by rw[←hwT];exact blk_alloc (heap_new _ _) _
  have kT3:wT.heap[w.heap.size+1]? =some (.cells #[.string ⟨#[]⟩,.int .i64 0,.slice none 0 0] 118 (0,0)):=by
   rw[←hwT]
   have:=heap_new (w.alloc (.cells #[.string s,.int .i64 (-1),.slice A T.length c] 118)) (.cells #[.string ⟨#[]⟩,.int .i64 0,.slice none 0 0] 118)
   rwa [heap_size_alloc]at this
  rw[hbb]at kT1 kT3
  have hsz:=hbT.size
  have HT:=hQ hbT
  have HWT:=hQ hwT
  clear hbT hwT
  go_enter Tryz.func55,Tryz.ntmps55
  go_wp2_with fail
  rw[HWT.out]
  refine region_one (n:=3) (base:=w.heap.size) (w0:=w) (b:=(b1+1)) (jw:=2) (byList [isV (.agg #[.string s,.int .i64 (-1),.slice A T.length c]),isV (.string ⟨#[]⟩),(fun _ _=>True)]) (fun W=>W.heap[b1]? =some (.cells #[.string s,.int .i64 (-1),.slice A T.length c] 118 (0,0))) (fun W=>W.heap[(b1+1)]? =some (.cells #[.string ⟨#[]⟩,.int .i64 0,.slice none 0 0] 118 (0,0))) (fun W=>W.heap[(b1+1)]? =some (.cells #[.string s,.int .i64 (-1),.slice A T.length c] 118 (0,0))) (by kernel_rfl) rfl (by omega) (byList_any ?_) (by kernel_rfl) (by kernel_rfl) (by omega) (fun W W' row hrow h hg=>blk_grown' h hg (by rcases hrow with rfl|rfl<;>simp)) (fun W W' h hg=>blk_below h (below_none hg)) (fun W W' h hg=>blk_below h (below_none hg)) HT.out (Nat.le_refl _) kT1 kT3 (show AllLt 3 _ from ?_) ?_
  ·intro p hp
   simp only[List.mem_cons,List.not_mem_nil,or_false]at hp
   rcases hp with rfl|rfl|rfl<;>exact fun _ _ _ h=>h
  ·refine allLt_succ (allLt_succ (allLt_succ (allLt_zero _) ?_) ?_) ?_
   ·refine StepOkO.run (get_lit rfl) rfl (by omega) fun a W hS hB hd hR=> ?_
    have e2:=hS.get (t:=2) rfl rfl
    refine wp_value (c:= .agg #[.string s,.int .i64 (-1),.slice A T.length c]) ?_ rfl
    have c0:=bcl hR 0 rfl
    have c1:=bcl hR 1 rfl
    have c2:=bcl hR 2 rfl
    go_simp
   ·refine StepOkO.run (get_lit rfl) rfl (by omega) fun a W hS hB hd hR=> ?_
    refine wp_value (c:= .string ⟨#[]⟩) ?_ rfl
    go_simp
   ·refine StepOkO.write (get_lit rfl) rfl rfl rfl fun a W hS hB hd hR hP=> ?_
    have e5:=hS.get (t:=5) rfl rfl
    have e13:=(hd 0 rfl).bool rfl rfl rfl
    have z0:W.cell? ⟨(b1+1),0,none⟩=some (.string ⟨#[]⟩):=(blk_cell hP 0).trans rfl
    have zf0:=blk_frozen hP 0
    have z1:W.cell? ⟨(b1+1),1,none⟩=some (.int .i64 0):=(blk_cell hP 1).trans rfl
    have zf1:=blk_frozen hP 1
    have z2:W.cell? ⟨(b1+1),2,none⟩=some (.slice none 0 0):=(blk_cell hP 2).trans rfl
    have zf2:=blk_frozen hP 2
    refine⟨_, ?_,grown_put (grown_put (grown_put (World.grownBy.refl _ _) (.string s)) (.int .i64 (-1))) (.slice A T.length c),blk_put3 hP _ _ _⟩
    go_simp
  ·intro a W hS hB hh hRD hFD
   have e4:a.tmps[4]? =some (.string ⟨#[]⟩):=(hh 1 (by omega)).bool rfl rfl rfl
   have HBR:=hQ hB
   obtain⟨zz,hlit,hzz⟩:=same_litz hS
   clear hh hS hB
   simp only[List.filterMap_cons,List.filterMap_nil,List.foldl_cons,List.foldl_nil,List.setIfInBounds_toArray,List.set_cons_zero,List.set_cons_succ]at hlit
   rw[hzz 4 _ e4]at hlit
   clear e4
   clear hzz;subst hlit
   go_wp2_with fail
   refine bodyPost_ret (results_tc rfl _ _ (b1+1) 118 #[_,_,_] (0,0) _ rfl hFD HU.out rfl (by kernel_rfl)) rfl ?_
   exact⟨rfl,HBR.out⟩
end Go.Proofs.YtfflenbfapgilaaGreat
