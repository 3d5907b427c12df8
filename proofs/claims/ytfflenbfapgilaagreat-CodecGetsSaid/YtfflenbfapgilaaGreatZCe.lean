/- Texts laid as one by shake.py, cut to what the claim needs: Reg, VarC, VarM, RefP, Lit, Reg2. (Names that begin with W and the print's groups (G..x, G..z): laid by the kit's print, cut.) -/
import Derived.Test.YtfflenbfapgilaaGreatZCd
import Derived.Orders
set_option linter.unusedVariables false
set_option linter.unusedSimpArgs false
set_option maxHeartbeats 8000000
set_option maxRecDepth 100000
open Go.RowKit Go.Proofs.YtfflenbfapgilaaGreatW.PrintWords
namespace Go.Proofs.YtfflenbfapgilaaGreat
def unl (n:Nat) (l:Array Bool):Nat:=((List.range n).filter fun j=> !l.getD j true).length
theorem unl_set {n i:Nat} {l:Array Bool} (hi:i<n) (hl:l.size=n) (h:l.getD i true=false):unl n (l.setIfInBounds i true)+1=unl n l:=by
 unfold unl
 have key: ∀(m:List Nat),m.Nodup→i∈m→(m.filter fun j=> !(l.setIfInBounds i true).getD j true).length+1=(m.filter fun j=> !l.getD j true).length:=by
  intro m
  induction m with
  |nil=>intro _ h;cases h
  | cons x m ih=>
   intro hnd hm
   obtain⟨hx,hnd'⟩:=List.nodup_cons.1 hnd
   by_cases hxi:x=i
   ·subst hxi
    have hsame:(m.filter fun j=> !(l.setIfInBounds x true).getD j true)=m.filter fun j=> !l.getD j true:=by
     apply List.filter_congr
     intro j hj
     rw[getD_set_ne true (fun e=>hx (by subst e;exact hj))]
    have hg:(l.setIfInBounds x true).getD x true=true:=by
     simp[Array.getElem?_setIfInBounds,hl,hi]
    rw[List.filter_cons,List.filter_cons,hg,h,hsame]
    simp
   ·have hm':i∈m:=by
     rcases List.mem_cons.1 hm with e|e
     ·exact absurd e.symm hxi
     ·exact e
    have hg:(l.setIfInBounds i true).getD x true=l.getD x true:=getD_set_ne true (fun e=>hxi e.symm)
    have ih':=ih hnd' hm'
    rw[List.filter_cons,List.filter_cons,hg]
    cases l.getD x true
    ·simp only[Bool.not_false,if_true,List.length_cons];omega
    ·simp only[Bool.not_true,Bool.false_eq_true,if_false];exact ih'
 exact key _ List.nodup_range (List.mem_range.2 hi)
section
variable {P:Program} {ops:Array Oper} {Q:Exit→Act→World→Prop} {md:Region.Mode}
theorem ready_nil_of_all {n:Nat} {l:Array Bool} (hn:ops.size=n) (hl:l.size=n) (h:unl n l=0):Region.ready md ops l=[]:=by
 apply List.eq_nil_iff_forall_not_mem.2
 intro i hi
 obtain⟨h1,o,ho,_⟩:=mem_ready.1 hi
 have hlt:i<n:=by
  have:=(Array.getElem?_eq_some_iff.1 ho).1;omega
 have:i∈(List.range n).filter fun j=> !l.getD j true:=List.mem_filter.2 ⟨List.mem_range.2 hlt,by simp[h1]⟩
 unfold unl at h
 rw[List.eq_nil_of_length_eq_zero h]at this
 cases this
theorem wpAny_rel (n:Nat) (hn:ops.size=n) (I:Array Bool→Act→World→Prop)
  (hs: ∀l a w i,l.size=n→I l a w→i∈Region.ready md ops l→wpOp P ops Q i (fun a' w'=>I (l.setIfInBounds i true) a' w') a w)
  (he: ∀l a w,l.size=n→I l a w→Region.ready md ops l=[]→Q .normal a w):
  ∀(fuel:Nat) (l:Array Bool) (a:Act) (w:World),l.size=n→unl n l≤fuel→I l a w→wpAny P md ops Q fuel l a w:=by
 intro fuel
 induction fuel with
 |zero=>
  intro l a w hl hf hI
  have hr:=ready_nil_of_all (md:=md) hn hl (by omega)
  exact⟨hr,he l a w hl hI hr⟩
 |succ fuel ih=>
  intro l a w hl hf hI
  refine⟨he l a w hl hI,fun i hi=> ?_⟩
  refine wpOp_mono (fun a' w' hI'=> ?_) (hs l a w i hl hI hi)
  obtain⟨h1,o,ho,_⟩:=mem_ready.1 hi
  have hlt:i<n:=by have:=(Array.getElem?_eq_some_iff.1 ho).1;omega
  exact ih _ _ _ (by simpa using hl) (by have:=unl_set hlt hl h1;omega) hI'
end
def Lasts (V:Nat→Value→World→Prop):Prop:=∀i v W W',V i v W→Below W.heap.size W W'→V i v W'
def Same (ops:Array Oper) (a0 a:Act):Prop:=
 a.tmps.size=a0.tmps.size∧a.defers=a0.defers∧∀t,(ops.toList.all fun o=>o.dst !=some t)=true→a.tmps[t]? =a0.tmps[t]?
def Has (ops:Array Oper) (V:Nat→Value→World→Prop) (a:Act) (W:World) (j:Nat):Prop:=
 ∀oj d,ops[j]? =some oj→oj.dst=some d→∃v,a.tmps[d]? =some v∧V j v W
def dstsOk (ops:Array Oper) (m:Nat):Bool:=
 decide ((ops.toList.filterMap (·.dst)).Nodup)&&ops.all fun o=>match o.dst with|some d=>decide (d<m)|none=>true
theorem dst_inj {ops:Array Oper} {m i j d:Nat} {oi oj:Oper} (h:dstsOk ops m=true) (hi:ops[i]? =some oi) (hj:ops[j]? =some oj) (hdi:oi.dst=some d) (hdj:oj.dst=some d):i=j:=by
 simp only[dstsOk,Bool.and_eq_true,decide_eq_true_eq]at h
 have hnd:=h.1
 have key: ∀(l:List Oper),(l.filterMap (·.dst)).Nodup→∀(i j:Nat) (oi oj:Oper),l[i]? =some oi→l[j]? =some oj→oi.dst=some d→oj.dst=some d→i=j:=by
  intro l
  induction l with
  |nil=>intro _ i j oi oj h;simp at h
  | cons x l ih=>
   intro hnd i j oi oj hi hj hdi hdj
   have tail:(l.filterMap (·.dst)).Nodup:=by
    rw[List.filterMap_cons]at hnd
    split at hnd
    ·exact hnd
    ·exact(List.nodup_cons.1 hnd).2
   have notin:x.dst=some d→∀(k:Nat) (o:Oper),l[k]? =some o→o.dst=some d→False:=by
    intro hx k o hk ho
    rw[List.filterMap_cons,hx]at hnd
    exact(List.nodup_cons.1 hnd).1 (List.mem_filterMap.2 ⟨o,List.mem_of_getElem? hk,ho⟩)
   cases i with
   | zero=>
    cases j with
    |zero=>rfl
    |succ j=>
     simp at hi hj;subst hi
     exact(notin hdi j oj hj hdj).elim
   | succ i=>
    cases j with
    |zero=>
     simp at hi hj;subst hj
     exact(notin hdj i oi hi hdi).elim
    |succ j=>
     simp at hi hj
     rw[ih tail i j oi oj hi hj hdi hdj]
 exact key ops.toList hnd i j oi oj (by simpa using hi) (by simpa using hj) hdi hdj
theorem dst_lt {ops:Array Oper} {m i d:Nat} {oi:Oper} (h:dstsOk ops m=true) (hi:ops[i]? =some oi) (hd:oi.dst=some d):d<m:=by
 simp only[dstsOk,Bool.and_eq_true]at h
 have:=Array.all_eq_true'.1 h.2 oi (Array.mem_of_getElem? hi)
 rw[hd]at this
 simpa using this
def StepOk (P:Program) (ops:Array Oper) (Q:Exit→Act→World→Prop) (V:Nat→Value→World→Prop) (a0:Act) (w0:World) (i:Nat):Prop:=
 ∀oi a W,ops[i]? =some oi→Same ops a0 a→Below w0.heap.size w0 W→(∀e∈oi.after,Has ops V a W e.on)→
  if Region.wanted oi (yielded ops a.tmps)=true then oi.wp P a W (fun a' W'=>∃v,a'=a.put oi.dst v∧(oi.dst≠none→V i v W')∧Below W.heap.size W W') Q else(oi.dst≠none→V i undef W)
def backB (ops:Array Oper):Bool:=(List.range ops.size).all fun i=>match ops[i]? with|some o=>o.after.all fun e=>decide (e.on<i)|none=>true
theorem back_lt {ops:Array Oper} (h:backB ops=true) {i:Nat} {o:Oper} (ho:ops[i]? =some o) {e:Edge} (he:e∈o.after):e.on<i:=by
 have h1:=List.all_eq_true.1 h i (List.mem_range.2 (Array.getElem?_eq_some_iff.1 ho).1)
 rw[ho]at h1
 simpa using Array.all_eq_true'.1 h1 e he
theorem region_calm {P:Program} {id n:Nat} {ops:Array Oper} {Q:Exit→Act→World→Prop} {a0:Act} {w:World} (V:Nat→Value→World→Prop)
  (hm:P.follows .mixedOrders=true) (hn:ops.size=n) (hV:Lasts V) (hd:dstsOk ops a0.tmps.size=true)
  (hback:backB ops=true) (hbind:(ops.all fun o=>o.after.all fun e=>Region.binds .any e)=true)
  (hs: ∀i,i<n→StepOk P ops Q V a0 w i)
  (he: ∀a W,Same ops a0 a→Below w.heap.size w W→(∀j,j<n→Has ops V a W j)→Q .normal a W):
  (Code.region id ops true).wp P Q a0 w:=by
 refine wp_region_any hm ?_
 refine wpAny_rel n hn (fun l a W=>Same ops a0 a∧Below w.heap.size w W∧∀j,j<n→l.getD j true=true→Has ops V a W j) ?_ ?_ _ _ _ _ (by simp[hn]) ?_ ?_
 ·intro l a W i hl ⟨h1,h2,h3⟩ hi
  obtain⟨hu,oi,hoi,hall⟩:=mem_ready.1 hi
  have hlt:i<n:=by have:=(Array.getElem?_eq_some_iff.1 hoi).1;omega
  have hdeps: ∀e∈oi.after,Has ops V a W e.on:=by
   intro e hem oj d hj hdj
   have hb:Region.binds .any e=true:=by
    have:=Array.all_eq_true'.1 hbind oi (Array.mem_of_getElem? hoi)
    exact Array.all_eq_true'.1 this e hem
   have hle:=hall e hem hb
   have hje:e.on<n:=by have:=(Array.getElem?_eq_some_iff.1 hj).1;omega
   have hle':l.getD e.on true=true:=by
    have:e.on<l.size:=by omega
    simp only[Array.getD_eq_getD_getElem?,Array.getElem?_eq_getElem this,Option.getD_some]at hle ⊢
    exact hle
   exact h3 e.on hje hle' oj d hj hdj
  have hstep:=hs i hlt oi a W hoi h1 h2 hdeps
  have next: ∀a' W' v,a'=a.put oi.dst v→(oi.dst≠none→V i v W')→Below W.heap.size W W'→
    Same ops a0 a'∧Below w.heap.size w W'∧∀j,j<n→(l.setIfInBounds i true).getD j true=true→Has ops V a' W' j:=by
   intro a' W' v ha hv hb
   subst ha
   refine⟨?_,h2.trans (hb.mono h2.size), ?_⟩
   ·cases hod:oi.dst with
    |none=>exact h1
    | some d=>
     refine⟨by simp[Act.put,h1.1],h1.2.1,fun t ht=> ?_⟩
     have hne:d≠t:=by
      intro e
      have:=List.all_eq_true.1 ht oi (Array.mem_toList_iff.2 (Array.mem_of_getElem? hoi))
      rw[hod,e]at this;simp at this
     show(a.tmps.setIfInBounds d v)[t]? =_
     rw[Array.getElem?_setIfInBounds_ne hne]
     exact h1.2.2 t ht
   ·intro j hj hlj oj d hoj hdj
    by_cases hij:i=j
    ·subst hij
     obtain rfl:oi=oj:=by rw[hoi]at hoj;exact Option.some.inj hoj
     refine⟨v, ?_,hv (by simp[hdj])⟩
     rw[hdj]
     show(a.tmps.setIfInBounds d v)[d]? =_
     rw[Array.getElem?_setIfInBounds_self]
     have:=dst_lt hd hoi hdj
     rw[if_pos (by rw[h1.1];exact this)]
    ·rw [getD_set_ne true hij]at hlj
     obtain⟨u,hu1,hu2⟩:=h3 j hj hlj oj d hoj hdj
     refine⟨u, ?_,hV j u W W' hu2 hb⟩
     cases hod:oi.dst with
     |none=>exact hu1
     | some d'=>
      have hne:d'≠d:=by
       intro e;subst e
       exact hij (dst_inj hd hoi hoj hod hdj)
      show(a.tmps.setIfInBounds d' v)[d]? =_
      rw[Array.getElem?_setIfInBounds_ne hne]
      exact hu1
  unfold wpOp
  rw[hoi]
  dsimp only
  split
  ·rename_i hw
   rw[if_pos hw]at hstep
   refine .inl (Oper.wp_mono ?_ hstep)
   rintro a' W' ⟨v,ha,hv,hb⟩
   exact next a' W' v ha hv hb
  ·rename_i hw
   rw[if_neg hw]at hstep
   exact next _ W undef rfl hstep (Below.refl _ _)
 ·intro l a W hl ⟨h1,h2,h3⟩ hr
  refine he a W h1 h2 ?_
  have hall: ∀m,m≤n→∀j,j<m→l.getD j true=true:=by
   intro m
   induction m with
   |zero=>intro _ j hj;omega
   | succ m ih=>
    intro hm' j hj
    by_cases hjm:j<m
    ·exact ih (by omega) j hjm
    ·obtain rfl:j=m:=by omega
     cases hg:l.getD j true with
     |true=>rfl
     | false=>
      exfalso
      have hjs:j<ops.size:=by omega
      have hmem:j∈Region.ready .any ops l:=by
       refine mem_ready.2 ⟨hg,ops[j],Array.getElem?_eq_getElem hjs,fun e he _=> ?_⟩
       have hlt:=back_lt hback (Array.getElem?_eq_getElem hjs) he
       have:=ih (by omega) e.on hlt
       have hls:e.on<l.size:=by omega
       simp only[Array.getD_eq_getD_getElem?,Array.getElem?_eq_getElem hls,Option.getD_some]at this ⊢
       exact this
      rw[hr]at hmem;cases hmem
  exact fun j hj=>h3 j hj (hall n (Nat.le_refl _) j hj)
 ·unfold unl
  refine Nat.le_trans (List.length_filter_le _ _) ?_
  simp[hn]
 ·refine⟨⟨rfl,rfl,fun _ _=>rfl⟩,⟨rfl,rfl,rfl,Nat.le_refl _,fun _ _=>rfl⟩,fun j hj hl=> ?_⟩
  exfalso
  rw[hn]at hl
  simp[Array.getElem?_replicate,hj]at hl
def isV (c:Value):Value→World→Prop:=fun v _=>v=c
def byList (l:List (Value→World→Prop)):Nat→Value→World→Prop:=fun i v W=>match l[i]? with|some p=>p v W|none=>True
theorem byList_lasts {l:List (Value→World→Prop)} (h: ∀p∈l,∀v W W',p v W→Below W.heap.size W W'→p v W'):Lasts (byList l):=by
 intro i v W W' hp hb
 unfold byList at hp ⊢
 cases hl:l[i]? with
 |none=>trivial
 |some p=>rw[hl]at hp;exact h p (List.mem_of_getElem? hl) v W W' hp hb
theorem isV_lasts {c:Value}: ∀v W W',isV c v W→Below W.heap.size W W'→isV c v W':=fun _ _ _ h _=>h
def isC {α:Type} (d:Kd α) (xs:List α):Value→World→Prop:=fun v W=>∃A c,v= .slice A xs.length c∧xs.length≤c∧d.C W A xs.length xs
theorem isC_lasts {α:Type} {d:Kd α} {xs:List α}: ∀v W W',isC d xs v W→Below W.heap.size W W'→isC d xs v W':=fun _ _ _ ⟨A,c,h1,h2,h3⟩ hb=>⟨A,c,h1,h2,Kd.C_below h3 hb⟩
theorem Has.get {ops:Array Oper} {V:Nat→Value→World→Prop} {a:Act} {W:World} {j d:Nat} {oj:Oper} (h:Has ops V a W j) (ho:ops[j]? =some oj) (hd:oj.dst=some d): ∃v,a.tmps[d]? =some v∧V j v W:=h oj d ho hd
theorem wanted_none {o:Oper} {y:Nat→Option Bool} (h:o.guard=none):Region.wanted o y=true:=by unfold Region.wanted;rw[h]
theorem wanted_get {ops:Array Oper} {o og:Oper} {a:Act} {g:Nat} {t:Tmp} {u b:Bool} (h:o.guard=some (g,u)) (ho:ops[g]? =some og) (hd:og.dst=some t) (hv:a.tmps[t]? =some (.bool b)):Region.wanted o (yielded ops a.tmps)=(b==u):=by
 have hy:yielded ops a.tmps g=some b:=by
  unfold yielded
  rw[ho]
  simp only[Option.bind_some,hd,hv]
 unfold Region.wanted
 rw[h]
 dsimp only
 rw[hy]
 cases b<;>cases u<;>rfl
def waitsFor (o:Oper) (j:Nat):Bool:=o.after.toList.any fun e=>e.on==j
section
variable {P:Program} {ops:Array Oper} {Q:Exit→Act→World→Prop} {V:Nat→Value→World→Prop} {a0:Act} {w0:World} {i:Nat}
theorem deps_of {o:Oper} {a:Act} {W:World} (h: ∀e∈o.after,Has ops V a W e.on) (j:Nat) (hj:waitsFor o j=true):Has ops V a W j:=by
 obtain⟨e,he,hej⟩:=List.any_eq_true.1 hj
 have:=h e (Array.mem_toList_iff.1 he)
 rwa [show e.on=j by simpa using hej]at this
theorem Has.bool {a:Act} {W:World} {j d:Nat} {oj:Oper} {c:Value} (h:Has ops V a W j) (ho:ops[j]? =some oj) (hd:oj.dst=some d) (hV:V j=isV c):a.tmps[d]? =some c:=by
 obtain⟨v,h1,h2⟩:=h oj d ho hd
 rw[hV]at h2
 rw[h1];exact congrArg some h2
theorem Same.get {a:Act} {t:Nat} {c:Value} (h:Same ops a0 a) (ht:(ops.toList.all fun o=>o.dst !=some t)=true) (hc:a0.tmps[t]? =some c):a.tmps[t]? =some c:=by
 rw[h.2.2 t ht,hc]
theorem get_lit {α:Type} {l:List α} {i:Nat} {x:α} (h:l[i]? =some x):l.toArray[i]? =some x:=by simpa using h
theorem StepOk.run {o:Oper} (ho:ops[i]? =some o) (hg:o.guard=none)
  (h: ∀a W,Same ops a0 a→Below w0.heap.size w0 W→(∀j,waitsFor o j=true→Has ops V a W j)→o.wp P a W (fun a' W'=>∃v,a'=a.put o.dst v∧V i v W'∧Below W.heap.size W W') Q):StepOk P ops Q V a0 w0 i:=by
 intro oi a W hoi hS hB hd
 obtain rfl:o=oi:=by rw[ho]at hoi;exact Option.some.inj hoi
 rw[if_pos (wanted_none hg)]
 exact Oper.wp_mono (fun a' W' ⟨v,h1,h2,h3⟩=>⟨v,h1,fun _=>h2,h3⟩) (h a W hS hB (deps_of hd))
theorem StepOk.on {o og:Oper} {g:Nat} {t:Tmp} {u:Bool} (ho:ops[i]? =some o) (hg:o.guard=some (g,u)) (hog:ops[g]? =some og) (hdt:og.dst=some t) (hw:waitsFor o g=true) (hV:V g=isV (.bool u))
  (h: ∀a W,Same ops a0 a→Below w0.heap.size w0 W→(∀j,waitsFor o j=true→Has ops V a W j)→o.wp P a W (fun a' W'=>∃v,a'=a.put o.dst v∧V i v W'∧Below W.heap.size W W') Q):StepOk P ops Q V a0 w0 i:=by
 intro oi a W hoi hS hB hd
 obtain rfl:o=oi:=by rw[ho]at hoi;exact Option.some.inj hoi
 have hv:=(deps_of hd g hw).bool hog hdt hV
 rw[if_pos (by rw[wanted_get hg hog hdt hv];simp)]
 exact Oper.wp_mono (fun a' W' ⟨v,h1,h2,h3⟩=>⟨v,h1,fun _=>h2,h3⟩) (h a W hS hB (deps_of hd))
theorem StepOk.off {o og:Oper} {g:Nat} {t:Tmp} {u:Bool} (ho:ops[i]? =some o) (hg:o.guard=some (g,u)) (hog:ops[g]? =some og) (hdt:og.dst=some t) (hw:waitsFor o g=true) (hV:V g=isV (.bool (!u))) (hVi:V i=isV undef):StepOk P ops Q V a0 w0 i:=by
 intro oi a W hoi hS hB hd
 obtain rfl:o=oi:=by rw[ho]at hoi;exact Option.some.inj hoi
 have hv:=(deps_of hd g hw).bool hog hdt hV
 rw[if_neg (by rw[wanted_get hg hog hdt hv];cases u<;>decide)]
 intro _
 rw[hVi];rfl
theorem wp_called {o:Oper} {a:Act} {W:World} {f:FuncId} {fn:Func} {xs:Array Operand} {ts:Array TypeId} (hf:P.funcs[f]? =some fn) (hname:(fn.name== "runtime.NumGoroutine")=false) (hb:fn.body.isSome=true) (args:Array Value)
  (hop:o.op= .call { callee:= .value (.func f),args:=xs,argTypes:=ts }) (hargs:xs.map a.eval=args)
  (h:Calls P f args W fun e w'=>∃v,e= .returned v∧V i v w'∧Below W.heap.size W w'):o.wp P a W (fun a' W'=>∃v,a'=a.put o.dst v∧V i v W'∧Below W.heap.size W W') Q:=by
 have h1:fn.name≠ "runtime.NumGoroutine" :=by simpa using hname
 obtain⟨c,hc⟩:=Option.isSome_iff_exists.1 hb
 have he:(callFunc f args).run P W= .ok (.enter f args) W:=by simp[callFunc,hf,h1,hc]
 have hrun:(execOp a.eval o).run P W= .ok (.enter f args) W:=by
  unfold execOp
  simp[hop,resolve,Deferred.ofValue,invoke,Act.eval,hargs,he]
 unfold Oper.wp
 rw[hrun,Oper.upon_enter]
 refine h.mono fun e w'' hh=> ?_
 obtain⟨v,rfl,hk⟩:=hh
 exact⟨v,rfl,hk⟩
theorem wp_value {o:Oper} {a:Act} {W:World} {c:Value} (h:(execOp a.eval o).run P W= .ok (.value c) W) (hV:V i=isV c):o.wp P a W (fun a' W'=>∃v,a'=a.put o.dst v∧V i v W'∧Below W.heap.size W W') Q:=by
 unfold Oper.wp
 rw[h]
 exact⟨c,rfl,by rw[hV];rfl,Below.refl _ _⟩
end
def AllLt (n:Nat) (p:Nat→Prop):Prop:=∀i,i<n→p i
theorem allLt_zero (p:Nat→Prop):AllLt 0 p:=fun i h=>by omega
theorem allLt_succ {n:Nat} {p:Nat→Prop} (h:AllLt n p) (hn:p n):AllLt (n+1) p:=fun i hi=>by
 by_cases e:i<n
 ·exact h i e
 ·obtain rfl:i=n:=by omega
  exact hn
end Go.Proofs.YtfflenbfapgilaaGreat
namespace Go.Proofs.YtfflenbfapgilaaGreat
def vb (m:Nat):List Nat:=if m<128 then [m]else(m%128+128)::vb (m/128)
termination_by m
decreasing_by omega
theorem vb_small (m:Nat) (h:m<128):vb m=[m]:=by rw[vb,if_pos h]
theorem vb_great (m:Nat) (h: ¬m<128):vb m=(m%128+128)::vb (m/128):=by rw[vb,if_neg h]
theorem vb_ne (m:Nat):vb m≠[]:=by
 by_cases h:m<128
 ·rw[vb_small m h];simp
 ·rw[vb_great m h];simp
theorem vb_byte: ∀(k m:Nat),m<128^k→∀x∈vb m,x<256:=by
 intro k
 induction k with
 |zero=>
  intro m hm x hx;have:m=0:=by simpa using hm
  subst this;rw[vb_small 0 (by omega)]at hx;simp at hx;omega
 | succ k ih=>
  intro m hm x hx
  by_cases h:m<128
  ·rw[vb_small m h]at hx;simp at hx;omega
  ·rw[vb_great m h]at hx
   rcases List.mem_cons.1 hx with rfl|hx
   ·omega
   ·exact ih (m/128) (by rw[Nat.pow_succ]at hm;omega) x hx
theorem vb_len: ∀(k m:Nat),m<128^(k+1)→(vb m).length≤k+1:=by
 intro k
 induction k with
 |zero=>intro m hm;rw[vb_small m (by simpa using hm)];simp
 | succ k ih=>
  intro m hm
  by_cases h:m<128
  ·rw[vb_small m h];simp
  ·rw[vb_great m h]
   have:=ih (m/128) (by rw[Nat.pow_succ]at hm;omega)
   simp only[List.length_cons];omega
theorem vb_len10 (m:Nat) (h:m<18446744073709551616):(vb m).length≤10:=vb_len 9 m (by omega)
theorem vb_drop: ∀(i m:Nat),i<(vb m).length→(vb m).drop i=vb (m/128^i):=by
 intro i
 induction i with
 |zero=>intro m _;simp
 | succ i ih=>
  intro m hi
  by_cases h:m<128
  ·rw[vb_small m h]at hi;simp at hi
  ·rw[vb_great m h]at hi ⊢
   rw[List.drop_succ_cons,ih (m/128) (by simpa using hi),Nat.pow_succ,Nat.mul_comm,Nat.div_div_eq_div_mul]
def ints (l:List Nat):List Int:=l.map fun(x:Nat)=>(x:Int)
theorem clone_any (A:Option Addr) (c:Nat) (l:List Int) (w:World) (hr:Kd.C (Kd.int .u8) w A l.length l) (hc:l.length≤c) (hl:l.length≤140737488355328):
  Calls Tryz.prog 75 #[.slice A l.length c] w fun e w'=>∃v:Value,e= .returned v∧Kd.R (Kd.int .u8) 5 w' w.heap.size (fun _=>True) v l∧Below w.heap.size w w':=by
 have HC:=hQ hr
 clear hr
 have hnil:=fun wx=>Lib.run_eql_slice_nil (P:=Tryz.prog) (w:=wx)
 cases A with
 | none=>
  go_enter Tryz.func75,Tryz.ntmps75
  go_wp2_with (at_builtin;refine Halt.mk ?_)
  go_ret
  refine⟨_,rfl, ?_,Below.refl _ _⟩
  have:l=[]:=by
   cases l with
   |nil=>rfl
   |cons x l=>obtain⟨ad,h,_⟩:=HC.out.2.2 (by simp);cases h
  rw[this];exact Kd.R_nil ..
 |some ad=>
  go_enter Tryz.func75,Tryz.ntmps75
  go_wp2_with (at_builtin;refine Halt.mk ?_)
  have HO:=hQ (R_block .u8 (w.alloc (.cells #[] 5)) w.heap.size w.heap.size 5 [] (fun _=>True) (heap_new _ _) (Nat.le_refl _) (by simp) trivial)
  have hb3:=(Below.refl w.heap.size w).alloc (Nat.le_refl _) (.cells #[] 5)
  refine Halt.of ?_
  refine Kd.R_append_rows (Kd.int .u8) (w0:=w) w.heap.size rfl (.tmp 5) (.tmp 6) 22 5 (.int .u8 0) 1 rfl Tryz.underlying22 info_u8 rfl (by decide) (by omega) _ [] l _ _ _ (fun _=>True) (fun _=>False) rfl rfl HO.out (Kd.C_below HC.out hb3) (fun _ _ h=>h) (fun _ h=>h.elim) (fun _ _=>trivial) hb3 hb3.size (by simp;omega) ?_
  intro v1 w1 HO1 hb1 _ _
  go_wp2
  go_ret
  exact⟨_,rfl,HO1,hb1⟩
end Go.Proofs.YtfflenbfapgilaaGreat
namespace Go.Proofs.YtfflenbfapgilaaGreat
def dec:Nat→Nat→Nat→List Nat→Nat×Nat×Nat
  | 0,_,_,_=>(0,0,3)
  |_+1,_,_,[]=>(0,0,2)
  |f+1,i,acc,x::r=>if (i=9∧1<x)∨(0<i∧x=0)then(0,0,3)else if x<128 then(acc+x*128^i,i+1,0)else dec f (i+1) (acc+(x%128)*128^i) r
theorem step_le (m i:Nat):m/128*128^(i+1)≤m*128^i:=by
  rw[Nat.pow_succ,Nat.mul_comm (128^i) 128,←Nat.mul_assoc]
  exact Nat.mul_le_mul_right _ (by omega)
theorem dec_vb: ∀(f i acc m:Nat) (r:List Nat),f+i=10→m*128^i<2^64→(i=9→m≤1)→(0<i→0<m)→m<128^f→
    dec f i acc (vb m++r)=(acc+m*128^i,i+(vb m).length,0):=by
  intro f
  induction f with
  | zero=>
    intro i acc m r _ _ _ _ hm;have:m=0:=by simpa using hm
    omega
  | succ f ih=>
    intro i acc m r hfi h1 h9 h0 hm
    by_cases h:m<128
    · rw[vb_small m h]
      simp only[List.cons_append,List.nil_append,dec]
      rw[if_neg (by omega),if_pos h]
      rfl
    · rw [vb_great m h]
      simp only[List.cons_append,dec]
      have hi9:i≠9:=by intro e;have:=h9 e;omega
      rw[if_neg (by omega),if_neg (by omega),show(m%128+128)%128=m%128 by omega]
      have hp:0<128^i:=Nat.pow_pos (by omega)
      rw[ih (i+1) _ (m/128) r (by omega) ?_ ?_ (by intro _;omega) (by rw[Nat.pow_succ]at hm;omega)]
      · rw[Nat.pow_succ]
        congr 1
        · have:m=m%128+128*(m/128):=by omega
          conv=>rhs;rw[this,Nat.add_mul]
          rw[Nat.add_assoc];congr 1;congr 1
          rw[Nat.mul_comm (128^i) 128,←Nat.mul_assoc,Nat.mul_comm (m/128) 128]
        · simp only[List.length_cons];congr 1;omega
      · exact Nat.lt_of_le_of_lt (step_le m i) h1
      · intro e
        have e8:i=8:=by omega
        subst e8
        have:(2:Nat)^64/128^8+1=257:=by decide
        omega
theorem dec_vb0 (m : Nat) (r : List Nat) (h : m < 2 ^ 64) : dec 10 0 0 (vb m++r)=(m,(vb m).length,0):=by
  have := dec_vb 10 0 0 m r rfl (by simp; omega) (by omega) (by omega) (by have:(2:Nat)^64<128^10:=by decide
                                                                           omega)
  simpa using this
theorem vb_of_dec: ∀(f i acc:Nat) (l:List Nat) (n c:Nat),f+i=10→acc<128^i→(∀x∈l,x<256)→dec f i acc l=(n,c,0)→
    ∃m,n=acc+m*128^i∧i<c∧l.take (c-i)=vb m∧c-i≤l.length∧(0<i→0<m)∧(i=9→m≤1)∧m<128^f:=by
  intro f
  induction f with
  |zero=>intro i acc l n c _ _ _ h;simp[dec]at h
  | succ f ih=>
    intro i acc l n c hfi hacc hb h
    cases l with
    |nil=>simp[dec]at h
    | cons x r=>
      simp only[dec]at h
      split at h
      · simp at h
      · rename_i hno
        split at h
        · rename_i hx
          simp only[Prod.mk.injEq]at h
          obtain⟨rfl,rfl,_⟩:=h
          refine⟨x,rfl,by omega, ?_,by simp,by omega,by omega, ?_⟩
          · rw[show i+1-i=1 by omega,vb_small x hx];rfl
          · exact Nat.lt_of_lt_of_le hx (by rw[Nat.pow_succ];exact Nat.le_mul_of_pos_left _ (Nat.pow_pos (by omega)))
        · rename_i hx
          have hxb:=hb x (by simp)
          have hp:0<128^i:=Nat.pow_pos (by omega)
          obtain ⟨m,hn,hc,ht,hl,hm0,hm9,hmf⟩:=ih (i+1) _ r n c (by omega) (by
            rw[Nat.pow_succ]
            have:x%128*128^i≤127*128^i:=Nat.mul_le_mul_right _ (by omega)
            omega) (fun y hy=>hb y (by simp[hy])) h
          refine⟨x%128+128*m, ?_,by omega, ?_,by simp;omega,by omega, ?_, ?_⟩
          · rw[hn,Nat.pow_succ,Nat.add_mul,Nat.add_assoc]
            congr 2
            rw[Nat.mul_comm (128^i) 128,←Nat.mul_assoc,Nat.mul_comm m 128]
          · have hm:0<m:=hm0 (by omega)
            rw[vb_great _ (by omega),show(x%128+128*m)%128+128=x by omega,show(x%128+128*m)/128=m by omega,←ht]
            rw[show c-i=(c-(i+1))+1 by omega];rfl
          · intro e;omega
          · rw[Nat.pow_succ];omega
theorem vb_of_dec0 (l:List Nat) (n c:Nat) (hb: ∀x∈l,x<256) (h:dec 10 0 0 l=(n,c,0)):l.take c=vb n∧c≤l.length∧0<c:=by
  obtain⟨m,hn,hc,ht,hl,_⟩:=vb_of_dec 10 0 0 l n c rfl (by simp) hb h
  obtain rfl:n=m:=by simpa using hn
  exact⟨by simpa using ht,by simpa using hl,hc⟩
theorem dec_lt: ∀(f i acc:Nat) (l:List Nat) (n c:Nat),f+i=10→acc<128^i→(∀x∈l,x<256)→dec f i acc l=(n,c,0)→n<2^64:=by
  intro f
  induction f with
  |zero=>intro i acc l n c _ _ _ h;simp[dec]at h
  | succ f ih=>
    intro i acc l n c hfi hacc hb h
    cases l with
    |nil=>simp[dec]at h
    | cons x r=>
      simp only[dec]at h
      split at h
      · simp at h
      · rename_i hno
        have hp:0<128^i:=Nat.pow_pos (by omega)
        split at h
        · rename_i hx
          simp only[Prod.mk.injEq]at h
          obtain⟨rfl,rfl,_⟩:=h
          by_cases h9:i=9
          · subst h9
            have:x≤1:=by omega
            have e:(128:Nat)^9=2^63:=by decide
            rw[e]at hacc ⊢
            have:x*2^63≤1*2^63:=Nat.mul_le_mul_right _ this
            omega
          · have h8:i≤8:=by omega
            have hle:128^(i+1)≤128^9:=Nat.pow_le_pow_right (by omega) (by omega)
            have e:(128:Nat)^9=2^63:=by decide
            have:x*128^i≤127*128^i:=Nat.mul_le_mul_right _ (by omega)
            rw[Nat.pow_succ]at hle
            omega
        · exact ih (i+1) _ r n c (by omega) (by
            rw[Nat.pow_succ]
            have:x%128*128^i≤127*128^i:=Nat.mul_le_mul_right _ (by omega)
            omega) (fun y hy=>hb y (by simp[hy])) h
end Go.Proofs.YtfflenbfapgilaaGreat
namespace Go.Proofs.YtfflenbfapgilaaGreat
theorem wp_made {P:Program} {Q:Exit→Act→World→Prop} {V:Nat→Value→World→Prop} {i:Nat} {o:Oper} {a:Act} {W W':World} {c:Value} (h:(execOp a.eval o).run P W= .ok (.value c) W') (hV:V i c W') (hb:Below W.heap.size W W'):
  o.wp P a W (fun a' W'=>∃v,a'=a.put o.dst v∧V i v W'∧Below W.heap.size W W') Q:=by
 unfold Oper.wp
 rw[h]
 exact⟨c,rfl,hV,hb⟩
theorem tmod128 (m:Nat):Int.tmod (m:Int) 128=(m:Int)%128:=rfl
theorem wrapu_div (m:Nat) (h:m<18446744073709551616):IntKind.u64.wrap ((m:Int)/128)=(m:Int)/128:=by rw[IntKind.wrap_u64];omega
theorem strOfNums_app (a b:List Int):strOfNums (a++b)=strOfNums a++strOfNums b:=by
 apply ByteArray.ext
 apply Array.ext'
 simp[strOfNums]
theorem vb_put (m:Nat) (h: ¬m<128):strOfNums (ints (vb m))=strOfNums [(m:Int)%128+128]++strOfNums (ints (vb (m/128))):=by
 rw[vb_great m h,←strOfNums_app]
 simp[ints]
theorem vb_size (m:Nat) (h:m<18446744073709551616) (x:Int):(strOfNums [x]).size+(strOfNums (ints (vb (m/128)))).size≤9223372036854775807:=by
 have:=vb_len10 (m/128) (by omega)
 simp[strOfNums,ByteArray.size,ints];omega
theorem refput_any (m:Nat):m<18446744073709551616→∀(w:World),
  Calls Tryz.prog 58 #[.int .u64 m] w fun e w'=>e= .returned (.string (strOfNums (ints (vb m))))∧Below w.heap.size w w':=by
 induction m using Nat.strongRecOn with
 |_ m ih=>
 intro hm w
 by_cases h:m<128
 ·have b:decide ((m:Int)<128)=true:=decide_eq_true (by omega)
  have HC:=hQ (C_block .u8 (w.alloc (.cells #[.int .u8 (m:Int)] 5)) w.heap.size 5 (0,0) [(m:Int)] (heap_new _ _) (by simp))
  have hcv:=Kd.C_string (P:=Tryz.prog) (A:=some ⟨w.heap.size,0,none⟩) (c:=1) Tryz.underlying22 Tryz.underlying5 Tryz.underlying9 HC.out
  simp only[List.length_cons,List.length_nil,Nat.zero_add]at hcv
  have hw8:IntKind.u8.wrap (m:Int)=(m:Int):=by rw[IntKind.wrap_u8];omega
  go_enter Tryz.func58,Tryz.ntmps58
  go_wp2_with fail
  go_ret
  exact⟨by rw[vb_small m h];rfl,(Below.refl w.heap.size w).alloc (Nat.le_refl _) _⟩
 ·have b:decide ((m:Int)<128)=false:=decide_eq_false (by omega)
  go_enter Tryz.func58,Tryz.ntmps58
  go_wp2_with fail
  refine region_calm (n:=11) (byList [isV (.int .u64 (m:Int)),isV (.int .u64 ((m:Int)%128)),isV (.int .u8 ((m:Int)%128)),isV (.int .u8 ((m:Int)%128+128)),(isC (Kd.int .u8) [((m:Int)%128+128)]),isV (.string (strOfNums [((m:Int)%128+128)])),isV (.int .u64 (m:Int)),isV (.int .u64 ((m:Int)/128)),isV (.string (strOfNums (ints (vb (m/128))))),isV (.string (strOfNums (ints (vb m)))),isV (.string (strOfNums (ints (vb m))))]) (by kernel_rfl) rfl (byList_lasts ?_) (by kernel_rfl) (by kernel_rfl) (by kernel_rfl) (show AllLt 11 _ from ?_) ?_
  ·intro p hp
   simp only[List.mem_cons,List.not_mem_nil,or_false]at hp
   rcases hp with rfl|rfl|rfl|rfl|rfl|rfl|rfl|rfl|rfl|rfl|rfl<;>first|exact isV_lasts|exact isC_lasts
  ·refine allLt_succ (allLt_succ (allLt_succ (allLt_succ (allLt_succ (allLt_succ (allLt_succ (allLt_succ (allLt_succ (allLt_succ (allLt_succ (allLt_zero _) ?_) ?_) ?_) ?_) ?_) ?_) ?_) ?_) ?_) ?_) ?_
   ·refine StepOk.run (get_lit rfl) rfl fun a W hS hB hd=> ?_
    have e0:=hS.get (t:=0) rfl rfl
    refine wp_value (c:= .int .u64 (m:Int)) ?_ rfl
    go_simp
   ·refine StepOk.run (get_lit rfl) rfl fun a W hS hB hd=> ?_
    have e9:=(hd 0 rfl).bool rfl rfl rfl
    refine wp_value (c:= .int .u64 ((m:Int)%128)) ?_ rfl
    go_simp
    exact tmod128 m
   ·refine StepOk.run (get_lit rfl) rfl fun a W hS hB hd=> ?_
    have e10:=(hd 1 rfl).bool rfl rfl rfl
    refine wp_value (c:= .int .u8 ((m:Int)%128)) ?_ rfl
    go_simp
    rw[IntKind.wrap_u8];omega
   ·refine StepOk.run (get_lit rfl) rfl fun a W hS hB hd=> ?_
    have e11:=(hd 2 rfl).bool rfl rfl rfl
    refine wp_value (c:= .int .u8 ((m:Int)%128+128)) ?_ rfl
    go_simp
    rw[IntKind.wrap_u8];omega
   ·refine StepOk.run (get_lit rfl) rfl fun a W hS hB hd=> ?_
    have e12:=(hd 3 rfl).bool rfl rfl rfl
    refine wp_made (c:= .slice (some ⟨W.heap.size,0,none⟩) 1 1) (W':=W.alloc (.cells #[.int .u8 ((m:Int)%128+128)] 5)) ?_ ⟨_,_,rfl,Nat.le_refl _,C_block .u8 _ W.heap.size 5 (0,0) [((m:Int)%128+128)] (heap_new _ _) (by simp)⟩ ((Below.refl W.heap.size W).alloc (Nat.le_refl _) _)
    go_simp
   ·refine StepOk.run (get_lit rfl) rfl fun a W hS hB hd=> ?_
    obtain⟨u13,e13,p13⟩:=(hd 4 rfl).get rfl rfl
    replace p13:(isC (Kd.int .u8) [((m:Int)%128+128)]) u13 W:=p13
    obtain⟨A13,c13,rfl,hl13,hC13⟩:=p13
    refine wp_value (c:= .string (strOfNums [((m:Int)%128+128)])) ?_ rfl
    have hcv:=Kd.C_string (P:=Tryz.prog) (A:=A13) (c:=c13) Tryz.underlying22 Tryz.underlying5 Tryz.underlying9 hC13
    simp only[List.length_cons,List.length_nil,Nat.zero_add]at hcv
    go_simp
   ·refine StepOk.run (get_lit rfl) rfl fun a W hS hB hd=> ?_
    have e0:=hS.get (t:=0) rfl rfl
    refine wp_value (c:= .int .u64 (m:Int)) ?_ rfl
    go_simp
   ·refine StepOk.run (get_lit rfl) rfl fun a W hS hB hd=> ?_
    have e15:=(hd 6 rfl).bool rfl rfl rfl
    refine wp_value (c:= .int .u64 ((m:Int)/128)) ?_ rfl
    go_simp
    rw[wrapu_div m hm]
   ·refine StepOk.run (get_lit rfl) rfl fun a W hS hB hd=> ?_
    have e16:=(hd 7 rfl).bool rfl rfl rfl
    refine wp_called Tryz.func58 (by kernel_rfl) rfl #[.int .u64 ((m/128:Nat):Int)] rfl (by simp[Act.eval, *]) ?_
    refine(ih (m/128) (by omega) (by omega) W).mono ?_
    rintro e w9 ⟨rfl,hb9⟩
    exact⟨_,rfl,rfl,hb9⟩
   ·refine StepOk.run (get_lit rfl) rfl fun a W hS hB hd=> ?_
    have e14:=(hd 5 rfl).bool rfl rfl rfl
    have e17:=(hd 8 rfl).bool rfl rfl rfl
    refine wp_value (c:= .string (strOfNums (ints (vb m)))) ?_ rfl
    have hsz:=vb_size m hm ((m:Int)%128+128)
    rw[vb_put m h]
    go_simp
   ·refine StepOk.run (get_lit rfl) rfl fun a W hS hB hd=> ?_
    have e18:=(hd 9 rfl).bool rfl rfl rfl
    refine wp_value (c:= .string (strOfNums (ints (vb m)))) ?_ rfl
    go_simp
  ·intro a W hS hB hh
   go_wp2
   have hr:=(hh 10 (by omega)).bool rfl rfl rfl
   exact bodyPost_ret (v:= .string (strOfNums (ints (vb m)))) (by simp[results,Tryz.results58,hr,go_sem]) hS.2.1 ⟨rfl,hB⟩
theorem foldl_set_get (v:Nat→Value): ∀(ds:List Nat) (T:Array Value) (t:Nat),(ds.foldl (fun T d=>T.setIfInBounds d (v d)) T)[t]? =if t∈ds∧t<T.size then some (v t)else T[t]? :=by
 intro ds
 induction ds with
 |nil=>intro T t;simp
 | cons d ds ih=>
  intro T t
  rw[List.foldl_cons,ih,Array.size_setIfInBounds,Array.getElem?_setIfInBounds]
  by_cases hd:t=d
  ·subst hd
   by_cases hs:t<T.size
   ·simp[hs]
   ·simp[hs]
  ·have: ¬d=t:=fun e=>hd e.symm
   simp[hd,this]
theorem same_lit {ops:Array Oper} {a0 a:Act} (h:Same ops a0 a):a={ a0 with tmps:=(ops.toList.filterMap (·.dst)).foldl (fun T d=>T.setIfInBounds d (a.tmps.getD d undef)) a0.tmps }:=by
 have ht:a.tmps=(ops.toList.filterMap (·.dst)).foldl (fun T d=>T.setIfInBounds d (a.tmps.getD d undef)) a0.tmps:=by
  apply Array.ext_getElem?
  intro t
  rw[foldl_set_get]
  split
  ·rename_i hh
   have:t<a.tmps.size:=by rw[h.1];exact hh.2
   simp[Array.getD,this]
  ·rename_i hh
   by_cases hm:t∈ops.toList.filterMap (·.dst)
   ·have hs: ¬t<a0.tmps.size:=fun e=>hh ⟨hm,e⟩
    rw[Array.getElem?_eq_none (by rw[h.1];omega),Array.getElem?_eq_none (by omega)]
   ·apply h.2.2
    rw[List.all_eq_true]
    intro o ho
    simp only[bne_iff_ne,ne_eq]
    intro e
    exact hm (List.mem_filterMap.2 ⟨o,ho,e⟩)
 cases a
 cases a0
 simp only[Act.mk.injEq]
 have hd:=h.2.1
 simp only at hd ht
 subst hd
 refine⟨ht, ?_⟩
 first|rfl|(constructor<;>rfl)
theorem same_litz {ops:Array Oper} {a0 a:Act} (h:Same ops a0 a): ∃z:Nat→Value,a={ a0 with tmps:=(ops.toList.filterMap (·.dst)).foldl (fun T d=>T.setIfInBounds d (z d)) a0.tmps }∧∀t c,a.tmps[t]? =some c→z t=c:=
 ⟨fun d=>a.tmps.getD d undef,same_lit h,fun t c e=>by simp[Array.getD_eq_getD_getElem?,e]⟩
def Early (ops:Array Oper) (a0 a:Act) (i:Nat):Prop:=∀(j:Nat) (oj:Oper) (d:Nat),ops[j]? =some oj→waitsFor oj i=true→oj.dst=some d→a.tmps[d]? =a0.tmps[d]?
theorem Early.get {ops:Array Oper} {a0 a:Act} {i j d:Nat} {oj:Oper} {c:Value} (h:Early ops a0 a i) (hoj:ops[j]? =some oj) (hw:waitsFor oj i=true) (hd:oj.dst=some d) (hc:a0.tmps[d]? =some c):a.tmps[d]? =some c:=by
  rw[h j oj d hoj hw hd,hc]
def StepOk2 (P:Program) (ops:Array Oper) (Q:Exit→Act→World→Prop) (V:Nat→Value→World→Prop) (a0:Act) (w0:World) (i:Nat):Prop:=
  ∀ oi a W,ops[i]? =some oi→Same ops a0 a→Below w0.heap.size w0 W→(∀e∈oi.after,Has ops V a W e.on)→Early ops a0 a i→
    if Region.wanted oi (yielded ops a.tmps)=true then oi.wp P a W (fun a' W'=>∃v,a'=a.put oi.dst v∧(oi.dst≠none→V i v W')∧Below W.heap.size W W') Q else(oi.dst≠none→V i undef W)
theorem StepOk2.of {P:Program} {ops:Array Oper} {Q:Exit→Act→World→Prop} {V:Nat→Value→World→Prop} {a0:Act} {w0:World} {i:Nat} (h:StepOk P ops Q V a0 w0 i):StepOk2 P ops Q V a0 w0 i:=fun oi a W h1 h2 h3 h4 _=>h oi a W h1 h2 h3 h4
theorem StepOk2.run {P:Program} {ops:Array Oper} {Q:Exit→Act→World→Prop} {V:Nat→Value→World→Prop} {a0:Act} {w0:World} {i:Nat} {o:Oper} (ho:ops[i]? =some o) (hg:o.guard=none)
    (h: ∀a W,Same ops a0 a→Below w0.heap.size w0 W→(∀j,waitsFor o j=true→Has ops V a W j)→Early ops a0 a i→o.wp P a W (fun a' W'=>∃v,a'=a.put o.dst v∧V i v W'∧Below W.heap.size W W') Q):StepOk2 P ops Q V a0 w0 i:=by
  intro oi a W hoi hS hB hd hE
  obtain rfl:o=oi:=by rw[ho]at hoi;exact Option.some.inj hoi
  rw[if_pos (wanted_none hg)]
  exact Oper.wp_mono (fun a' W' ⟨v,h1,h2,h3⟩=>⟨v,h1,fun _=>h2,h3⟩) (h a W hS hB (deps_of hd) hE)
theorem region_calm2 {P:Program} {id n:Nat} {ops:Array Oper} {Q:Exit→Act→World→Prop} {a0:Act} {w:World} (V:Nat→Value→World→Prop)
    (hm:P.follows .mixedOrders=true) (hn:ops.size=n) (hV:Lasts V) (hd:dstsOk ops a0.tmps.size=true)
    (hback:backB ops=true) (hbind:(ops.all fun o=>o.after.all fun e=>Region.binds .any e)=true)
    (hs: ∀i,i<n→StepOk2 P ops Q V a0 w i)
    (he: ∀a W,Same ops a0 a→Below w.heap.size w W→(∀j,j<n→Has ops V a W j)→Q .normal a W):
    (Code.region id ops true).wp P Q a0 w:=by
  refine wp_region_any hm ?_
  refine wpAny_rel n hn (fun l a W=>(Same ops a0 a∧Below w.heap.size w W∧∀j,j<n→l.getD j true=true→Has ops V a W j)∧(∀j,j<n→l.getD j true=false→∀oj d,ops[j]? =some oj→oj.dst=some d→a.tmps[d]? =a0.tmps[d]?)∧(∀j,j<n→l.getD j true=true→∀oj,ops[j]? =some oj→∀e∈oj.after,l.getD e.on true=true)) ?_ ?_ _ _ _ _ (by simp[hn]) ?_ ?_
  · intro l a W i hl ⟨⟨h1,h2,h3⟩,h4,h5⟩ hi
    obtain⟨hu,oi,hoi,hall⟩:=mem_ready.1 hi
    have hlt:i<n:=by have:=(Array.getElem?_eq_some_iff.1 hoi).1;omega
    have hdeps: ∀e∈oi.after,Has ops V a W e.on:=by
      intro e hem oj d hj hdj
      have hb:Region.binds .any e=true:=by
        have:=Array.all_eq_true'.1 hbind oi (Array.mem_of_getElem? hoi)
        exact Array.all_eq_true'.1 this e hem
      have hle:=hall e hem hb
      have hje:e.on<n:=by have:=(Array.getElem?_eq_some_iff.1 hj).1;omega
      have hle':l.getD e.on true=true:=by
        have:e.on<l.size:=by omega
        simp only[Array.getD_eq_getD_getElem?,Array.getElem?_eq_getElem this,Option.getD_some]at hle ⊢
        exact hle
      exact h3 e.on hje hle' oj d hj hdj
    have hui:l.getD i true=false:=hu
    have hearly:Early ops a0 a i:=by
      intro j oj d hoj hw hdj
      have hj:j<n:=by have:=(Array.getElem?_eq_some_iff.1 hoj).1;omega
      cases hlj:l.getD j true with
      |false=>exact h4 j hj hlj oj d hoj hdj
      | true=>
        exfalso
        obtain⟨e,he',hej⟩:=List.any_eq_true.1 hw
        have:=h5 j hj hlj oj hoj e (Array.mem_toList_iff.1 he')
        rw[show e.on=i by simpa using hej,hui]at this
        cases this
    have hafter: ∀e∈oi.after,l.getD e.on true=true:=by
      intro e hem
      have hb:Region.binds .any e=true:=by
        have:=Array.all_eq_true'.1 hbind oi (Array.mem_of_getElem? hoi)
        exact Array.all_eq_true'.1 this e hem
      have hle:=hall e hem hb
      have hje:=back_lt hback hoi hem
      have:e.on<l.size:=by omega
      simp only[Array.getD_eq_getD_getElem?,Array.getElem?_eq_getElem this,Option.getD_some]at hle ⊢
      exact hle
    have hstep:=hs i hlt oi a W hoi h1 h2 hdeps hearly
    have next : ∀a' W' v,a'=a.put oi.dst v→(oi.dst≠none→V i v W')→Below W.heap.size W W'→
        (Same ops a0 a'∧Below w.heap.size w W'∧∀j,j<n→(l.setIfInBounds i true).getD j true=true→Has ops V a' W' j)∧(∀j,j<n→(l.setIfInBounds i true).getD j true=false→∀oj d,ops[j]? =some oj→oj.dst=some d→a'.tmps[d]? =a0.tmps[d]?)∧(∀j,j<n→(l.setIfInBounds i true).getD j true=true→∀oj,ops[j]? =some oj→∀e∈oj.after,(l.setIfInBounds i true).getD e.on true=true):=by
      intro a' W' v ha hv hb
      subst ha
      refine⟨?_, ?_, ?_⟩
      rotate_left
      · intro j hj hlj oj d hoj hdj
        have hij:i≠j:=by
          intro e
          subst e
          simp[Array.getElem?_setIfInBounds,hl,hlt]at hlj
        rw[getD_set_ne true hij]at hlj
        rw[←h4 j hj hlj oj d hoj hdj]
        cases hod:oi.dst with
        |none=>rfl
        | some d'=>
          have hne:d'≠d:=by
            intro e;subst e
            exact hij (dst_inj hd hoi hoj hod hdj)
          show(a.tmps.setIfInBounds d' v)[d]? =_
          rw[Array.getElem?_setIfInBounds_ne hne]
      · intro j hj hlj oj hoj e hem
        by_cases hie:i=e.on
        · rw[←hie];simp[Array.getElem?_setIfInBounds,hl,hlt]
        · rw[getD_set_ne true hie]
          by_cases hij:i=j
          · subst hij
            obtain rfl:oi=oj:=by rw[hoi]at hoj;exact Option.some.inj hoj
            exact hafter e hem
          · rw[getD_set_ne true hij]at hlj
            exact h5 j hj hlj oj hoj e hem
      refine⟨?_,h2.trans (hb.mono h2.size), ?_⟩
      · cases hod:oi.dst with
        |none=>exact h1
        | some d=>
          refine⟨by simp[Act.put,h1.1],h1.2.1,fun t ht=> ?_⟩
          have hne:d≠t:=by
            intro e
            have:=List.all_eq_true.1 ht oi (Array.mem_toList_iff.2 (Array.mem_of_getElem? hoi))
            rw[hod,e]at this;simp at this
          show(a.tmps.setIfInBounds d v)[t]? =_
          rw[Array.getElem?_setIfInBounds_ne hne]
          exact h1.2.2 t ht
      · intro j hj hlj oj d hoj hdj
        by_cases hij:i=j
        · subst hij
          obtain rfl:oi=oj:=by rw[hoi]at hoj;exact Option.some.inj hoj
          refine⟨v, ?_,hv (by simp[hdj])⟩
          rw[hdj]
          show(a.tmps.setIfInBounds d v)[d]? =_
          rw[Array.getElem?_setIfInBounds_self]
          have:=dst_lt hd hoi hdj
          rw[if_pos (by rw[h1.1];exact this)]
        · rw [getD_set_ne true hij]at hlj
          obtain⟨u,hu1,hu2⟩:=h3 j hj hlj oj d hoj hdj
          refine⟨u, ?_,hV j u W W' hu2 hb⟩
          cases hod:oi.dst with
          |none=>exact hu1
          | some d'=>
            have hne:d'≠d:=by
              intro e;subst e
              exact hij (dst_inj hd hoi hoj hod hdj)
            show(a.tmps.setIfInBounds d' v)[d]? =_
            rw[Array.getElem?_setIfInBounds_ne hne]
            exact hu1
    unfold wpOp
    rw[hoi]
    dsimp only
    split
    · rename_i hw
      rw[if_pos hw]at hstep
      refine .inl (Oper.wp_mono ?_ hstep)
      rintro a' W' ⟨v,ha,hv,hb⟩
      exact next a' W' v ha hv hb
    · rename_i hw
      rw[if_neg hw]at hstep
      exact next _ W undef rfl hstep (Below.refl _ _)
  · intro l a W hl ⟨⟨h1,h2,h3⟩,h4,h5⟩ hr
    refine he a W h1 h2 ?_
    have hall : ∀m,m≤n→∀j,j<m→l.getD j true=true:=by
      intro m
      induction m with
      |zero=>intro _ j hj;omega
      | succ m ih=>
        intro hm' j hj
        by_cases hjm:j<m
        · exact ih (by omega) j hjm
        · obtain rfl:j=m:=by omega
          cases hg:l.getD j true with
          |true=>rfl
          | false=>
            exfalso
            have hjs:j<ops.size:=by omega
            have hmem:j∈Region.ready .any ops l:=by
              refine mem_ready.2 ⟨hg,ops[j],Array.getElem?_eq_getElem hjs,fun e he _=> ?_⟩
              have hlt:=back_lt hback (Array.getElem?_eq_getElem hjs) he
              have:=ih (by omega) e.on hlt
              have hls:e.on<l.size:=by omega
              simp only[Array.getD_eq_getD_getElem?,Array.getElem?_eq_getElem hls,Option.getD_some]at this ⊢
              exact this
            rw[hr]at hmem;cases hmem
    exact fun j hj=>h3 j hj (hall n (Nat.le_refl _) j hj)
  · unfold unl
    refine Nat.le_trans (List.length_filter_le _ _) ?_
    simp[hn]
  · refine ⟨⟨⟨rfl,rfl,fun _ _=>rfl⟩,⟨rfl,rfl,rfl,Nat.le_refl _,fun _ _=>rfl⟩,fun j hj hl=> ?_⟩,fun _ _ _ _ _ _ _=>rfl,fun j hj hl=> ?_⟩<;>
   · skip
     exfalso
     rw[hn]at hl
     simp[Array.getElem?_replicate,hj]at hl
end Go.Proofs.YtfflenbfapgilaaGreat
