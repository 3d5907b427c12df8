/- Texts laid as one by shake.py, cut to what the claim needs: Flow, RegA, FlowK, Flow2. (Names that begin with W and the print's groups (G..x, G..z): laid by the kit's print, cut.) -/
import Derived.Test.YtfflenbfapgilaaGreatZCe
import Derived.OrdersIn
import Derived.OwnWalkIn
import Derived.RangeFuncCalls
import Derived.Maps.AppendAt
import Derived.Deep.AppendLies
import Derived.RangeFuncBox
import Derived.OwnWalk
import Derived.Test.YtfflenbfapgilaaGreatZCd
set_option linter.unusedVariables false
set_option linter.unusedSimpArgs false
open Go.RowKit Go.Proofs.YtfflenbfapgilaaGreatW.PrintWords
namespace Go.Proofs.YtfflenbfapgilaaGreat
theorem cell_keep {W W':World} {a:Addr} {v:Value} (hb:Below W.heap.size W W') (hc:W.cell? a=some v):W'.cell? a=some v:=by
 have hlt:a.block<W.heap.size:=by
  unfold World.cell? at hc
  cases h:W.heap[a.block]? with
  |none=>rw[h]at hc;cases hc
  |some o=>exact(Array.getElem?_eq_some_iff.1 h).1
 rw[hb.cell hlt];exact hc
def waits (ops:Array Oper) (j i:Nat):Bool:=match ops[j]? with|some o=>o.after.toList.any fun e=>Region.binds .any e&&e.on==i|none=>false
def HasF (ops:Array Oper) (V:Nat→Value→World→Prop) (F:Nat→World→Prop) (a:Act) (W:World) (j:Nat):Prop:=Has ops V a W j∧F j W
def StepFlow (P:Program) (ops:Array Oper) (Q:Exit→Act→World→Prop) (V:Nat→Value→World→Prop) (F G:Nat→World→Prop) (row:Nat→Option Nat) (a0:Act) (base:Nat) (w0:World) (i:Nat):Prop:=
 ∀oi a W,ops[i]? =some oi→Same ops a0 a→Below base w0 W→(∀j,waits ops i j=true→HasF ops V F a W j)→G i W→
  if Region.wanted oi (yielded ops a.tmps)=true then oi.wp P a W (fun a' W'=>∃v,a'=a.put oi.dst v∧(oi.dst≠none→V i v W')∧F i W'∧W.grownBy W' (row i)∧Below base w0 W') Q
  else(oi.dst≠none→V i undef W)∧F i W
def backA (ops:Array Oper):Bool:=(List.range ops.size).all fun i=>match ops[i]? with|some o=>o.after.all fun e=> !Region.binds .any e||decide (e.on<i)|none=>true
theorem backA_lt {ops:Array Oper} (h:backA ops=true) {i:Nat} {o:Oper} (ho:ops[i]? =some o) {e:Edge} (he:e∈o.after) (hb:Region.binds .any e=true):e.on<i:=by
 have h1:=List.all_eq_true.1 h i (List.mem_range.2 (Array.getElem?_eq_some_iff.1 ho).1)
 rw[ho]at h1
 have:=Array.all_eq_true'.1 h1 e he
 rw[hb]at this
 simpa using this
theorem flow_any {P:Program} {n base:Nat} {ops:Array Oper} {Q:Exit→Act→World→Prop} {a0:Act} {w0 w1:World} (V:Nat→Value→World→Prop) (F G:Nat→World→Prop) (row:Nat→Option Nat)
  (hn:ops.size=n) (hd:dstsOk ops a0.tmps.size=true) (hback:backA ops=true)
  (hV: ∀i j,i<n→j<n→i≠j→waits ops j i=false→∀v W W',Below base w0 W→W.grownBy W' (row i)→V j v W→V j v W')
  (hF: ∀i j,i<n→j<n→i≠j→waits ops j i=false→∀W W',Below base w0 W→W.grownBy W' (row i)→F j W→F j W')
  (hG: ∀i j,i<n→j<n→i≠j→waits ops i j=false→∀W W',Below base w0 W→W.grownBy W' (row i)→G j W→G j W')
  (hB0:Below base w0 w1) (hG0: ∀i,i<n→G i w1)
  (hs: ∀i,i<n→StepFlow P ops Q V F G row a0 base w0 i)
  (he: ∀a W,Same ops a0 a→Below base w0 W→(∀j,j<n→HasF ops V F a W j)→Q .normal a W):
  wpAny P .any ops Q n (Array.replicate n false) a0 w1:=by
 refine wpAny_rel n hn (fun l a W=>Same ops a0 a∧Below base w0 W∧(∀j,j<n→l.getD j true=true→HasF ops V F a W j)∧(∀j,j<n→l.getD j true=false→G j W)∧(∀i j,i<n→j<n→l.getD j true=true→waits ops j i=true→l.getD i true=true)) ?_ ?_ _ _ _ _ (by simp) ?_ ?_
 ·intro l a W i hl ⟨h1,h2,h3,h4,h5⟩ hi
  obtain⟨hu,oi,hoi,hall⟩:=mem_ready.1 hi
  have hlt:i<n:=by have:=(Array.getElem?_eq_some_iff.1 hoi).1;omega
  have hdep: ∀j,waits ops i j=true→l.getD j true=true∧j<n:=by
   intro j hj
   unfold waits at hj
   rw[hoi]at hj
   obtain⟨e,hem,hej⟩:=List.any_eq_true.1 hj
   rw[Bool.and_eq_true]at hej
   have hej2:e.on=j:=by simpa using hej.2
   have hle:=hall e (Array.mem_toList_iff.1 hem) hej.1
   rw[hej2]at hle
   have hjl:=backA_lt hback hoi (Array.mem_toList_iff.1 hem) hej.1
   have:j<l.size:=by omega
   refine⟨?_,by omega⟩
   simp only[Array.getD_eq_getD_getElem?,Array.getElem?_eq_getElem this,Option.getD_some]at hle ⊢
   exact hle
  have hstep:=hs i hlt oi a W hoi h1 h2 (fun j hj=>h3 j (hdep j hj).2 (hdep j hj).1) (h4 i hlt hu)
  have next: ∀a' W' v,a'=a.put oi.dst v→(oi.dst≠none→V i v W')→F i W'→W.grownBy W' (row i)→Below base w0 W'→
    Same ops a0 a'∧Below base w0 W'∧(∀j,j<n→(l.setIfInBounds i true).getD j true=true→HasF ops V F a' W' j)∧(∀j,j<n→(l.setIfInBounds i true).getD j true=false→G j W')∧(∀p q,p<n→q<n→(l.setIfInBounds i true).getD q true=true→waits ops q p=true→(l.setIfInBounds i true).getD p true=true):=by
   intro a' W' v ha hv hf hg hb
   subst ha
   refine⟨?_,hb, ?_, ?_, ?_⟩
   ·cases hod:oi.dst with
    |none=>exact h1
    | some d=>
     refine⟨by simp[Act.put,h1.1],h1.2.1,fun t ht=> ?_⟩
     have hne:d≠t:=by
      intro e
      have:=List.all_eq_true.1 ht oi (Array.mem_toList_iff.2 (Array.mem_of_getElem? hoi))
      rw[hod,e]at this;simp at this
     show(a.tmps.setIfInBounds d v)[t]? =_
     rw[Array.getElem?_setIfInBounds_ne hne]
     exact h1.2.2 t ht
   ·intro j hj hlj
    by_cases hij:i=j
    ·subst hij
     refine⟨fun oj d hoj hdj=> ?_,hf⟩
     obtain rfl:oi=oj:=by rw[hoi]at hoj;exact Option.some.inj hoj
     refine⟨v, ?_,hv (by simp[hdj])⟩
     rw[hdj]
     show(a.tmps.setIfInBounds d v)[d]? =_
     rw[Array.getElem?_setIfInBounds_self]
     have:=dst_lt hd hoi hdj
     rw[if_pos (by rw[h1.1];exact this)]
    ·rw [getD_set_ne true hij]at hlj
     have hw:waits ops j i=false:=by
      cases hw:waits ops j i with
      |false=>rfl
      |true=>have:=h5 i j hlt hj hlj hw;rw[hu]at this;cases this
     refine⟨fun oj d hoj hdj=> ?_,hF i j hlt hj hij hw W W' h2 hg (h3 j hj hlj).2⟩
     obtain⟨u,hu1,hu2⟩:=(h3 j hj hlj).1 oj d hoj hdj
     refine⟨u, ?_,hV i j hlt hj hij hw u W W' h2 hg hu2⟩
     cases hod:oi.dst with
     |none=>exact hu1
     | some d'=>
      have hne:d'≠d:=by
       intro e;subst e
       exact hij (dst_inj hd hoi hoj hod hdj)
      show(a.tmps.setIfInBounds d' v)[d]? =_
      rw[Array.getElem?_setIfInBounds_ne hne]
      exact hu1
   ·intro j hj hlj
    have hij:i≠j:=by
     rintro rfl
     rw[Array.getD_eq_getD_getElem?,Array.getElem?_setIfInBounds_self,if_pos (by omega)]at hlj
     cases hlj
    rw[getD_set_ne true hij]at hlj
    have hw:waits ops i j=false:=by
     cases hw:waits ops i j with
     |false=>rfl
     |true=>have:=(hdep j hw).1;rw[hlj]at this;cases this
    exact hG i j hlt hj hij hw W W' h2 hg (h4 j hj hlj)
   ·intro p q hp hq hlq hw
    by_cases hip:i=p
    ·subst hip
     rw[Array.getD_eq_getD_getElem?,Array.getElem?_setIfInBounds_self,if_pos (by omega)];rfl
    ·rw[getD_set_ne true hip]
     by_cases hiq:i=q
     ·subst hiq;exact(hdep p hw).1
     ·rw[getD_set_ne true hiq]at hlq;exact h5 p q hp hq hlq hw
  unfold wpOp
  rw[hoi]
  dsimp only
  split
  ·rename_i hw
   rw[if_pos hw]at hstep
   refine .inl (Oper.wp_mono ?_ hstep)
   rintro a' W' ⟨v,ha,hv,hf,hg,hb⟩
   exact next a' W' v ha hv hf hg hb
  ·rename_i hw
   rw[if_neg hw]at hstep
   exact next _ W undef rfl hstep.1 hstep.2 (World.grownBy.refl _ _) h2
 ·intro l a W hl ⟨h1,h2,h3,h4,h5⟩ hr
  refine he a W h1 h2 ?_
  have hall: ∀m,m≤n→∀j,j<m→l.getD j true=true:=by
   intro m
   induction m with
   |zero=>intro _ j hj;omega
   | succ m ih=>
    intro hm' j hj
    by_cases hjm:j<m
    ·exact ih (by omega) j hjm
    ·obtain rfl:j=m:=by omega
     cases hg:l.getD j true with
     |true=>rfl
     | false=>
      exfalso
      have hjs:j<ops.size:=by omega
      have hmem:j∈Region.ready .any ops l:=by
       refine mem_ready.2 ⟨hg,ops[j],Array.getElem?_eq_getElem hjs,fun e he heb=> ?_⟩
       have hlt:=backA_lt hback (Array.getElem?_eq_getElem hjs) he heb
       have:=ih (by omega) e.on hlt
       have hls:e.on<l.size:=by omega
       simp only[Array.getD_eq_getD_getElem?,Array.getElem?_eq_getElem hls,Option.getD_some]at this ⊢
       exact this
      rw[hr]at hmem;cases hmem
  exact fun j hj=>h3 j hj (hall n (Nat.le_refl _) j hj)
 ·unfold unl
  refine Nat.le_trans (List.length_filter_le _ _) ?_
  simp
 ·have hrep: ∀j,j<n→(Array.replicate n false).getD j true=false:=fun j hj=>by simp[Array.getElem?_replicate,hj]
  refine⟨⟨rfl,rfl,fun _ _=>rfl⟩,hB0,fun j hj hl=> ?_,fun j hj _=>hG0 j hj,fun i j hi hj hl=> ?_⟩
  ·rw[hrep j hj]at hl;cases hl
  ·rw[hrep j hj]at hl;cases hl
section
variable {P:Program} {ops:Array Oper} {Q:Exit→Act→World→Prop} {V:Nat→Value→World→Prop} {F G:Nat→World→Prop} {row:Nat→Option Nat} {a0:Act} {base:Nat} {w0:World} {i:Nat}
theorem StepFlow.run {o:Oper} (ho:ops[i]? =some o) (hg:o.guard=none)
  (h: ∀a W,Same ops a0 a→Below base w0 W→(∀j,waits ops i j=true→HasF ops V F a W j)→G i W→
   o.wp P a W (fun a' W'=>∃v,a'=a.put o.dst v∧(o.dst≠none→V i v W')∧F i W'∧W.grownBy W' (row i)∧Below base w0 W') Q):StepFlow P ops Q V F G row a0 base w0 i:=by
 intro oi a W hoi hS hB hd hG
 obtain rfl:o=oi:=by rw[ho]at hoi;exact Option.some.inj hoi
 rw[if_pos (wanted_none hg)]
 exact h a W hS hB hd hG
theorem wpF {o:Oper} {a:Act} {W W':World} {c:Value} (h:(execOp a.eval o).run P W= .ok (.value c) W') (hV:V i c W') (hF:F i W') (hg:W.grownBy W' (row i)) (hB:Below base w0 W'):
  o.wp P a W (fun a' W'=>∃v,a'=a.put o.dst v∧(o.dst≠none→V i v W')∧F i W'∧W.grownBy W' (row i)∧Below base w0 W') Q:=by
 unfold Oper.wp
 rw[h]
 exact⟨c,rfl,fun _=>hV,hF,hg,hB⟩
theorem wpF_skip {o:Oper} {a:Act} {W W':World} (h:(execOp a.eval o).run P W= .ok .skip W') (hd:o.dst=none) (hF:F i W') (hg:W.grownBy W' (row i)) (hB:Below base w0 W'):
  o.wp P a W (fun a' W'=>∃v,a'=a.put o.dst v∧(o.dst≠none→V i v W')∧F i W'∧W.grownBy W' (row i)∧Below base w0 W') Q:=by
 unfold Oper.wp
 rw[h]
 exact⟨undef,rfl,fun hn=>absurd hd hn,hF,hg,hB⟩
end
theorem append_run {α:Type} {P:Program} {o:Oper} {a:Act} {W:World} (d:Kd α) (base:Nat) (s x:Operand) (t e:TypeId) (z:Value) (bytes:Nat)
  (ho:o.op= .call { callee:= .builtin .append,args:=#[s,x],argTypes:=#[t,t] })
  (ht:P.underlying t=some (.slice e)) (hinfo:(P.info? e).map (fun i=>(i.zero,i.size,i.bytes))=some (some z,d.sz,bytes)) (hz:z.cells.size=d.sz) (hs0:0<d.sz) (hb0:0<bytes)
  (v:Value) (xs:List α) (p:α) (cs:List Value) (b:Nat) (fr:Nat×Nat) (ok okp:Nat→Prop) (hs:a.eval s=v) (hx:a.eval x= .slice (some ⟨b,0,none⟩) 1 1) (hbx:W.heap[b]? =some (.cells cs.toArray e fr)) (hp:d.M W base okp p cs) (hokp: ∀k,okp k→ok k∧some k≠v.ownBlock) (hfresh: ∀k,W.heap.size≤k→ok k)
  (HO:d.R e W base ok v xs) (hbase:base≤W.heap.size) (hl:(xs.length+1)*bytes≤140737488355328):
  ∃v1 w1,(execOp a.eval o).run P W= .ok (.value v1) w1∧d.R e w1 base ok v1 (xs++[p])∧W.grownBy w1 v.ownBlock∧(v1.ownBlock=v.ownBlock∨∃b,v1.ownBlock=some b∧W.heap.size≤b):=by
 obtain⟨h0,inner,hown,hr⟩:=HO
 obtain⟨i0,hi,hzz⟩:=Option.map_eq_some_iff.1 hinfo
 simp only[Prod.mk.injEq]at hzz
 obtain⟨hz0,hz1,hz2⟩:=hzz
 have hlen:xs.length+1≤140737488355328:=Nat.le_trans (Nat.le_mul_of_pos_right _ hb0) hl
 have hys:cs.length=d.sz:=d.K_len (d.K_of_M hp)
 obtain ⟨v1,w1,hrun,h2,hg,_,hat⟩:=run_append_own_at (P:=P) (w:=W) base t o.type e i0 z d.sz bytes ht hi hz0 hz1 hz2 hz hs0 v xs.length inner hown ⟨b,0,none⟩ 1 1 cs (by rw[hys];simp)
  (by simpa using World.news_of_block hbx) (d.K_one (d.K_of_M hp)) (by simp only[maxLen];omega) hl hbase
 have hat':v1.ownBlock=v.ownBlock∨∃b,v1.ownBlock=some b∧W.heap.size≤b:=by
  rcases hat with hat|hat
  ·exact .inl hat
  ·exact .inr ⟨_,hat,Nat.le_refl _⟩
 refine⟨v1,w1, ?_,Kd.R_appended h0 hr hp hokp hfresh h2 hg hat',hg,hat'⟩
 simp[execOp,ho,resolve,invoke,builtin,hs,hx,hrun,Result.andThen]
theorem wpF_append {P:Program} {ops:Array Oper} {Q:Exit→Act→World→Prop} {V:Nat→Value→World→Prop} {F:Nat→World→Prop} {row:Nat→Option Nat} {base0:Nat} {w0:World} {i:Nat} {α:Type} {o:Oper} {a:Act} {W:World} (d:Kd α) (base:Nat) (s x:Operand) (t e:TypeId) (z:Value) (bytes:Nat)
  (ho:o.op= .call { callee:= .builtin .append,args:=#[s,x],argTypes:=#[t,t] })
  (ht:P.underlying t=some (.slice e)) (hinfo:(P.info? e).map (fun i=>(i.zero,i.size,i.bytes))=some (some z,d.sz,bytes)) (hz:z.cells.size=d.sz) (hs0:0<d.sz) (hb0:0<bytes)
  (v:Value) (xs:List α) (p:α) (cs:List Value) (b:Nat) (fr:Nat×Nat) (ok okp:Nat→Prop) (hs:a.eval s=v) (hx:a.eval x= .slice (some ⟨b,0,none⟩) 1 1) (hbx:W.heap[b]? =some (.cells cs.toArray e fr)) (hp:d.M W base okp p cs) (hokp: ∀k,okp k→ok k∧some k≠v.ownBlock) (hfresh: ∀k,W.heap.size≤k→ok k)
  (HO:d.R e W base ok v xs) (hbase:base≤W.heap.size) (hl:(xs.length+1)*bytes≤140737488355328) (hB:Below base0 w0 W) (hb0:base0≤base) (hrow:row i=v.ownBlock)
  (hV: ∀v1 w1,d.R e w1 base ok v1 (xs++[p])→W.grownBy w1 v.ownBlock→V i v1 w1∧F i w1):
  o.wp P a W (fun a' W'=>∃v,a'=a.put o.dst v∧(o.dst≠none→V i v W')∧F i W'∧W.grownBy W' (row i)∧Below base0 w0 W') Q:=by
 obtain⟨v1,w1,h1,h2,h3,h4⟩:=append_run d base s x t e z bytes ho ht hinfo hz hs0 (by assumption) v xs p cs b fr ok okp hs hx hbx hp hokp hfresh HO hbase hl
 have h5:=hV v1 w1 h2 h3
 exact wpF h1 h5.1 h5.2 (hrow ▸ h3) (hB.grown h3 (by omega) (fun k hk=>by have:=Kd.R_base HO k hk;omega))
def valK:Kd {v:Value //v.oneCell'=true}:=Kd.scalar (fun x=>x.1) (fun x=>x.2)
theorem wpIn_of_wp {o:Oper} {P:Program} {a:Act} {w:World} {K:Act→World→Prop} {Q:Exit→Act→World→Prop} {l m:Nat} (hnd: ∀c,o.op≠ .defer c) (h:o.wp P a w K Q):o.wpIn (Fence.wide.inRound l) m P a w K Q:=by
 unfold Oper.wp at h
 unfold Oper.wpIn
 refine⟨fun _ _=>trivial, ?_⟩
 rw[Oper.semAt_plain _ _ _ hnd]
 generalize (execOp a.eval o).run P w=r at h
 cases r with
 | ok x w'=>
  cases x with
  |value v=>exact h
  |skip=>exact h
  |defer d=>exact h
  |enter f xs=>
   refine⟨fun e=>(by cases e),CallsIn.inRound l ((callsIn_wide.2 h).mono ?_)⟩
   intro e w'' he
   cases e<;>exact he
  |row r xs=>
   refine⟨fun e=>(by cases e),fun c cs _=> ?_⟩
   obtain⟨v,w2,h1,h2⟩:=h c cs
   exact⟨v,w2,h1,stepsIn_wide.2 h2⟩
  |_=>exact h.elim
 |halt x w'=>cases x<;>exact h
theorem wpAnyIn_of {P:Program} {ops:Array Oper} {Q:Exit→Act→World→Prop} {md:Region.Mode} {l m:Nat} (hnd:(ops.all fun o=>match o.op with| .defer _=>false|_=>true)=true):
  ∀(fuel:Nat) (li:Array Bool) (a:Act) (w:World),wpAny P md ops Q fuel li a w→¬LetsOut Q→wpAnyIn (Fence.wide.inRound l) m P md ops Q fuel li a w:=by
 intro fuel
 induction fuel with
 |zero=>intro li a w h _;exact h
 | succ fuel ih=>
  intro li a w h hq
  refine⟨h.1,fun i hi=> ?_⟩
  have h2:=h.2 i hi
  unfold wpOp at h2
  unfold wpOpIn
  cases ho:ops[i]? with
  |none=>rw[ho]at h2;exact ih _ _ _ h2 hq
  | some o=>
   rw[ho]at h2
   dsimp only at h2 ⊢
   split
   ·rename_i hw
    rw[if_pos hw]at h2
    rcases h2 with h2|h2
    ·refine Oper.wpIn_mono (fun a w h=>ih _ a w h hq) (wpIn_of_wp ?_ h2)
     intro c hc
     have:=Array.all_eq_true'.1 hnd o (Array.mem_of_getElem? ho)
     rw[hc]at this
     cases this
    ·exact absurd h2.2 hq
   ·rename_i hw
    rw[if_neg hw]at h2
    exact⟨fun _ _=>trivial,ih _ _ _ h2 hq⟩
theorem region_in {P:Program} {id:Nat} {ops:Array Oper} {Q:Exit→Act→World→Prop} {l m:Nat} {a:Act} {w:World} (hm:P.follows .mixedOrders=true) (hnd:(ops.all fun o=>match o.op with| .defer _=>false|_=>true)=true) (hq: ¬LetsOut Q)
  (h:wpAny P .any ops Q ops.size (Array.replicate ops.size false) a { w with drawn:=w.drawn+1 }):(Code.region id ops true).wpIn (Fence.wide.inRound l) m P Q a w:=
 wpIn_region_any hm (wpAnyIn_of hnd _ _ _ _ h hq)
theorem own_typed_R {α:Type} {d:Kd α} {e base:Nat} {ok:Nat→Prop} {W:World} {v:Value} {xs:List α} (h:d.R e W base ok v xs): ∀k,v.ownBlock=some k→base≤k∧k<W.heap.size∧∃C,W.heap[k]? =some (.cells C e (0,0)):=by
 intro k hk
 obtain⟨inner,ho⟩:=Kd.R_own h
 exact⟨own_base ho k hk,own_lt ho k hk,own_typed ho k hk⟩
end Go.Proofs.YtfflenbfapgilaaGreat
namespace Go.Proofs.YtfflenbfapgilaaGreat
def waitsA (o:Oper) (j:Nat):Bool:=o.after.toList.any fun e=>Region.binds .any e&&e.on==j
def StepOkA (P:Program) (ops:Array Oper) (Q:Exit→Act→World→Prop) (V:Nat→Value→World→Prop) (a0:Act) (w0:World) (i:Nat):Prop:=
 ∀oi a W,ops[i]? =some oi→Same ops a0 a→Below w0.heap.size w0 W→(∀j,waitsA oi j=true→Has ops V a W j)→
  if Region.wanted oi (yielded ops a.tmps)=true then oi.wp P a W (fun a' W'=>∃v,a'=a.put oi.dst v∧(oi.dst≠none→V i v W')∧Below W.heap.size W W') Q else(oi.dst≠none→V i undef W)
theorem waits_is {ops:Array Oper} {i j:Nat} {o:Oper} (h:ops[i]? =some o):waits ops i j=waitsA o j:=by unfold waits waitsA;rw[h]
theorem grownBy_none {w w':World} (h:Below w.heap.size w w'):w.grownBy w' none:=⟨h.os,h.tape,h.output,h.size,fun k hk _=>h.block k hk⟩
theorem below_none {w w':World} (h:w.grownBy w' none):Below w.heap.size w w':=⟨h.os,h.tape,h.output,h.size,fun k hk=>h.block k hk (by simp)⟩
theorem calmA_any {P:Program} {n:Nat} {ops:Array Oper} {Q:Exit→Act→World→Prop} {a0:Act} {w w1:World} (V:Nat→Value→World→Prop)
  (hn:ops.size=n) (hV:Lasts V) (hd:dstsOk ops a0.tmps.size=true) (hback:backA ops=true) (hw:Below w.heap.size w w1)
  (hs: ∀i,i<n→StepOkA P ops Q V a0 w i)
  (he: ∀a W,Same ops a0 a→Below w.heap.size w W→(∀j,j<n→Has ops V a W j)→Q .normal a W):
  wpAny P .any ops Q n (Array.replicate n false) a0 w1:=by
 refine flow_any (base:=w.heap.size) (w0:=w) V (fun _ _=>True) (fun _ _=>True) (fun _=>none) hn hd hback (fun i j _ _ _ _ v W W' _ hg hv=>hV j v W W' hv (below_none hg)) (fun _ _ _ _ _ _ _ _ _ _ _=>trivial) (fun _ _ _ _ _ _ _ _ _ _ _=>trivial) hw (fun _ _=>trivial) ?_ (fun a W hS hB hh=>he a W hS hB (fun j hj=>(hh j hj).1))
 intro i hi oi a W hoi hS hB hdp _
 have h:=hs i hi oi a W hoi hS hB (fun j hj=>(hdp j (by rw[waits_is hoi];exact hj)).1)
 split
 ·rename_i hw
  rw[if_pos hw]at h
  exact Oper.wp_mono (fun a' W' ⟨v,h1,h2,h3⟩=>⟨v,h1,h2,trivial,grownBy_none h3,hB.trans (h3.mono hB.size)⟩) h
 ·rename_i hw
  rw[if_neg hw]at h
  exact⟨h,trivial⟩
theorem region_calmA {P:Program} {id n:Nat} {ops:Array Oper} {Q:Exit→Act→World→Prop} {a0:Act} {w:World} (V:Nat→Value→World→Prop)
  (hm:P.follows .mixedOrders=true) (hn:ops.size=n) (hV:Lasts V) (hd:dstsOk ops a0.tmps.size=true) (hback:backA ops=true)
  (hs: ∀i,i<n→StepOkA P ops Q V a0 w i)
  (he: ∀a W,Same ops a0 a→Below w.heap.size w W→(∀j,j<n→Has ops V a W j)→Q .normal a W):
  (Code.region id ops true).wp P Q a0 w:=by
 refine wp_region_any hm ?_
 have:=calmA_any (P:=P) (Q:=Q) (w:=w) (w1:={ w with drawn:=w.drawn+1 }) V hn hV hd hback ⟨rfl,rfl,rfl,Nat.le_refl _,fun _ _=>rfl⟩ hs he
 rw[hn];exact this
section
variable {P:Program} {ops:Array Oper} {Q:Exit→Act→World→Prop} {V:Nat→Value→World→Prop} {a0:Act} {w0:World} {i:Nat}
theorem StepOkA.run {o:Oper} (ho:ops[i]? =some o) (hg:o.guard=none)
  (h: ∀a W,Same ops a0 a→Below w0.heap.size w0 W→(∀j,waitsA o j=true→Has ops V a W j)→o.wp P a W (fun a' W'=>∃v,a'=a.put o.dst v∧V i v W'∧Below W.heap.size W W') Q):StepOkA P ops Q V a0 w0 i:=by
 intro oi a W hoi hS hB hd
 obtain rfl:o=oi:=by rw[ho]at hoi;exact Option.some.inj hoi
 rw[if_pos (wanted_none hg)]
 exact Oper.wp_mono (fun a' W' ⟨v,h1,h2,h3⟩=>⟨v,h1,fun _=>h2,h3⟩) (h a W hS hB hd)
theorem StepOkA.on {o og:Oper} {g:Nat} {t:Tmp} {u:Bool} (ho:ops[i]? =some o) (hg:o.guard=some (g,u)) (hog:ops[g]? =some og) (hdt:og.dst=some t) (hw:waitsA o g=true) (hV:V g=isV (.bool u))
  (h: ∀a W,Same ops a0 a→Below w0.heap.size w0 W→(∀j,waitsA o j=true→Has ops V a W j)→o.wp P a W (fun a' W'=>∃v,a'=a.put o.dst v∧V i v W'∧Below W.heap.size W W') Q):StepOkA P ops Q V a0 w0 i:=by
 intro oi a W hoi hS hB hd
 obtain rfl:o=oi:=by rw[ho]at hoi;exact Option.some.inj hoi
 have hv:=(hd g hw).bool hog hdt hV
 rw[if_pos (by rw[wanted_get hg hog hdt hv];simp)]
 exact Oper.wp_mono (fun a' W' ⟨v,h1,h2,h3⟩=>⟨v,h1,fun _=>h2,h3⟩) (h a W hS hB hd)
theorem StepOkA.off {o og:Oper} {g:Nat} {t:Tmp} {u:Bool} (ho:ops[i]? =some o) (hg:o.guard=some (g,u)) (hog:ops[g]? =some og) (hdt:og.dst=some t) (hw:waitsA o g=true) (hV:V g=isV (.bool (!u))) (hVi:V i=isV undef):StepOkA P ops Q V a0 w0 i:=by
 intro oi a W hoi hS hB hd
 obtain rfl:o=oi:=by rw[ho]at hoi;exact Option.some.inj hoi
 have hv:=(hd g hw).bool hog hdt hV
 rw[if_neg (by rw[wanted_get hg hog hdt hv];cases u<;>decide)]
 intro _
 rw[hVi];rfl
theorem wp_called_fn {o:Oper} {a:Act} {W:World} {f:FuncId} {fn:Func} {x:Operand} {xs:Array Operand} {ts:Array TypeId} {pre post:Array Value} (hf:P.funcs[f]? =some fn) (hname:(fn.name== "runtime.NumGoroutine")=false) (hb:fn.body.isSome=true) (args:Array Value)
  (hop:o.op= .call { callee:= .value x,args:=xs,argTypes:=ts }) (hx:a.eval x= .func (.func f) pre post) (hargs:pre++xs.map a.eval++post=args)
  (h:Calls P f args W fun e w'=>∃v,e= .returned v∧V i v w'∧Below W.heap.size W w'):o.wp P a W (fun a' W'=>∃v,a'=a.put o.dst v∧V i v W'∧Below W.heap.size W W') Q:=by
 have h1:fn.name≠ "runtime.NumGoroutine" :=by simpa using hname
 obtain⟨c,hc⟩:=Option.isSome_iff_exists.1 hb
 have he:(callFunc f args).run P W= .ok (.enter f args) W:=by simp[callFunc,hf,h1,hc]
 have hrun:(execOp a.eval o).run P W= .ok (.enter f args) W:=by
  unfold execOp
  simp[hop,resolve,hx,Deferred.ofValue,invoke,hargs,he]
 unfold Oper.wp
 rw[hrun,Oper.upon_enter]
 refine h.mono fun e w'' hh=> ?_
 obtain⟨v,rfl,hk⟩:=hh
 exact⟨v,rfl,hk⟩
end
end Go.Proofs.YtfflenbfapgilaaGreat
namespace Go.Proofs.YtfflenbfapgilaaGreat
def HasK (ops:Array Oper) (V:Nat→Value→World→Prop) (F:Nat→World→Prop) (c:Prop) (a:Act) (W:World) (j:Nat):Prop:=Has ops V a W j∧(c→F j W)
def StepFlowK (killer:Nat→Nat) (n:Nat) (P:Program) (ops:Array Oper) (Q:Exit→Act→World→Prop) (V:Nat→Value→World→Prop) (F G:Nat→World→Prop) (row:Nat→Option Nat) (a0:Act) (base:Nat) (w0:World) (i:Nat):Prop:=
 ∀oi a W,ops[i]? =some oi→Same ops a0 a→Below base w0 W→(∀j,waits ops i j=true→HasK ops V F (killer j=i∨n≤killer j) a W j)→G i W→
  if Region.wanted oi (yielded ops a.tmps)=true then oi.wp P a W (fun a' W'=>∃v,a'=a.put oi.dst v∧(oi.dst≠none→V i v W')∧F i W'∧W.grownBy W' (row i)∧Below base w0 W') Q
  else(oi.dst≠none→V i undef W)∧F i W
theorem killer_ne {l:Array Bool} {i k n:Nat} (hl:l.size=n) (hi:i<n) (hn:True) (h:(l.setIfInBounds i true).getD k true=false∨n≤k):k≠i:=by
 rintro rfl
 rcases h with h|h
 ·simp[Array.getD_eq_getD_getElem?,Array.getElem?_setIfInBounds_self,hl,hi]at h
 ·omega
theorem killer_un {l:Array Bool} {i k n:Nat} (hl:l.size=n) (hi:i<n) (hn:True) (h:(l.setIfInBounds i true).getD k true=false∨n≤k):l.getD k true=false∨n≤k:=by
 rcases h with h|h
 ·have hne:=killer_ne (k:=k) hl hi trivial (.inl h)
  rw[getD_set_ne true (fun e=>hne e.symm)]at h
  exact .inl h
 ·exact .inr h
theorem flowK_any (killer:Nat→Nat) {P:Program} {n base:Nat} {ops:Array Oper} {Q:Exit→Act→World→Prop} {a0:Act} {w0 w1:World} (V:Nat→Value→World→Prop) (F G:Nat→World→Prop) (row:Nat→Option Nat)
  (hn:ops.size=n) (hd:dstsOk ops a0.tmps.size=true) (hback:backA ops=true)
  (hV: ∀i j,i<n→j<n→i≠j→waits ops j i=false→∀v W W',Below base w0 W→W.grownBy W' (row i)→V j v W→V j v W')
  (hF: ∀i j,i<n→j<n→i≠j→waits ops j i=false→killer j≠i→∀W W',Below base w0 W→W.grownBy W' (row i)→F j W→F j W')
  (hG: ∀i j,i<n→j<n→i≠j→waits ops i j=false→∀W W',Below base w0 W→W.grownBy W' (row i)→G j W→G j W')
  (hB0:Below base w0 w1) (hG0: ∀i,i<n→G i w1)
  (hs: ∀i,i<n→StepFlowK killer n P ops Q V F G row a0 base w0 i)
  (he: ∀a W,Same ops a0 a→Below base w0 W→(∀j,j<n→HasK ops V F (n≤killer j) a W j)→Q .normal a W):
  wpAny P .any ops Q n (Array.replicate n false) a0 w1:=by
 refine wpAny_rel n hn (fun l a W=>Same ops a0 a∧Below base w0 W∧(∀j,j<n→l.getD j true=true→HasK ops V F (l.getD (killer j) true=false∨n≤killer j) a W j)∧(∀j,j<n→l.getD j true=false→G j W)∧(∀i j,i<n→j<n→l.getD j true=true→waits ops j i=true→l.getD i true=true)) ?_ ?_ _ _ _ _ (by simp) ?_ ?_
 ·intro l a W i hl ⟨h1,h2,h3,h4,h5⟩ hi
  obtain⟨hu,oi,hoi,hall⟩:=mem_ready.1 hi
  have hlt:i<n:=by have:=(Array.getElem?_eq_some_iff.1 hoi).1;omega
  have hdep: ∀j,waits ops i j=true→l.getD j true=true∧j<n:=by
   intro j hj
   unfold waits at hj
   rw[hoi]at hj
   obtain⟨e,hem,hej⟩:=List.any_eq_true.1 hj
   rw[Bool.and_eq_true]at hej
   have hej2:e.on=j:=by simpa using hej.2
   have hle:=hall e (Array.mem_toList_iff.1 hem) hej.1
   rw[hej2]at hle
   have hjl:=backA_lt hback hoi (Array.mem_toList_iff.1 hem) hej.1
   have:j<l.size:=by omega
   refine⟨?_,by omega⟩
   simp only[Array.getD_eq_getD_getElem?,Array.getElem?_eq_getElem this,Option.getD_some]at hle ⊢
   exact hle
  have hstep:=hs i hlt oi a W hoi h1 h2 (fun j hj=>⟨(h3 j (hdep j hj).2 (hdep j hj).1).1,fun hk=>(h3 j (hdep j hj).2 (hdep j hj).1).2 (hk.imp (fun e=>by rw[e];exact hu) (fun e=>e))⟩) (h4 i hlt hu)
  have next: ∀a' W' v,a'=a.put oi.dst v→(oi.dst≠none→V i v W')→F i W'→W.grownBy W' (row i)→Below base w0 W'→
    Same ops a0 a'∧Below base w0 W'∧(∀j,j<n→(l.setIfInBounds i true).getD j true=true→HasK ops V F ((l.setIfInBounds i true).getD (killer j) true=false∨n≤killer j) a' W' j)∧(∀j,j<n→(l.setIfInBounds i true).getD j true=false→G j W')∧(∀p q,p<n→q<n→(l.setIfInBounds i true).getD q true=true→waits ops q p=true→(l.setIfInBounds i true).getD p true=true):=by
   intro a' W' v ha hv hf hg hb
   subst ha
   refine⟨?_,hb, ?_, ?_, ?_⟩
   ·cases hod:oi.dst with
    |none=>exact h1
    | some d=>
     refine⟨by simp[Act.put,h1.1],h1.2.1,fun t ht=> ?_⟩
     have hne:d≠t:=by
      intro e
      have:=List.all_eq_true.1 ht oi (Array.mem_toList_iff.2 (Array.mem_of_getElem? hoi))
      rw[hod,e]at this;simp at this
     show(a.tmps.setIfInBounds d v)[t]? =_
     rw[Array.getElem?_setIfInBounds_ne hne]
     exact h1.2.2 t ht
   ·intro j hj hlj
    by_cases hij:i=j
    ·subst hij
     refine⟨fun oj d hoj hdj=> ?_,fun _=>hf⟩
     obtain rfl:oi=oj:=by rw[hoi]at hoj;exact Option.some.inj hoj
     refine⟨v, ?_,hv (by simp[hdj])⟩
     rw[hdj]
     show(a.tmps.setIfInBounds d v)[d]? =_
     rw[Array.getElem?_setIfInBounds_self]
     have:=dst_lt hd hoi hdj
     rw[if_pos (by rw[h1.1];exact this)]
    ·rw [getD_set_ne true hij]at hlj
     have hw:waits ops j i=false:=by
      cases hw:waits ops j i with
      |false=>rfl
      |true=>have:=h5 i j hlt hj hlj hw;rw[hu]at this;cases this
     refine⟨fun oj d hoj hdj=> ?_,fun hk=>hF i j hlt hj hij hw (killer_ne hl hlt trivial hk) W W' h2 hg ((h3 j hj hlj).2 (killer_un hl hlt trivial hk))⟩
     obtain⟨u,hu1,hu2⟩:=(h3 j hj hlj).1 oj d hoj hdj
     refine⟨u, ?_,hV i j hlt hj hij hw u W W' h2 hg hu2⟩
     cases hod:oi.dst with
     |none=>exact hu1
     | some d'=>
      have hne:d'≠d:=by
       intro e;subst e
       exact hij (dst_inj hd hoi hoj hod hdj)
      show(a.tmps.setIfInBounds d' v)[d]? =_
      rw[Array.getElem?_setIfInBounds_ne hne]
      exact hu1
   ·intro j hj hlj
    have hij:i≠j:=by
     rintro rfl
     rw[Array.getD_eq_getD_getElem?,Array.getElem?_setIfInBounds_self,if_pos (by omega)]at hlj
     cases hlj
    rw[getD_set_ne true hij]at hlj
    have hw:waits ops i j=false:=by
     cases hw:waits ops i j with
     |false=>rfl
     |true=>have:=(hdep j hw).1;rw[hlj]at this;cases this
    exact hG i j hlt hj hij hw W W' h2 hg (h4 j hj hlj)
   ·intro p q hp hq hlq hw
    by_cases hip:i=p
    ·subst hip
     rw[Array.getD_eq_getD_getElem?,Array.getElem?_setIfInBounds_self,if_pos (by omega)];rfl
    ·rw[getD_set_ne true hip]
     by_cases hiq:i=q
     ·subst hiq;exact(hdep p hw).1
     ·rw[getD_set_ne true hiq]at hlq;exact h5 p q hp hq hlq hw
  unfold wpOp
  rw[hoi]
  dsimp only
  split
  ·rename_i hw
   rw[if_pos hw]at hstep
   refine .inl (Oper.wp_mono ?_ hstep)
   rintro a' W' ⟨v,ha,hv,hf,hg,hb⟩
   exact next a' W' v ha hv hf hg hb
  ·rename_i hw
   rw[if_neg hw]at hstep
   exact next _ W undef rfl hstep.1 hstep.2 (World.grownBy.refl _ _) h2
 ·intro l a W hl ⟨h1,h2,h3,h4,h5⟩ hr
  refine he a W h1 h2 ?_
  have hall: ∀m,m≤n→∀j,j<m→l.getD j true=true:=by
   intro m
   induction m with
   |zero=>intro _ j hj;omega
   | succ m ih=>
    intro hm' j hj
    by_cases hjm:j<m
    ·exact ih (by omega) j hjm
    ·obtain rfl:j=m:=by omega
     cases hg:l.getD j true with
     |true=>rfl
     | false=>
      exfalso
      have hjs:j<ops.size:=by omega
      have hmem:j∈Region.ready .any ops l:=by
       refine mem_ready.2 ⟨hg,ops[j],Array.getElem?_eq_getElem hjs,fun e he heb=> ?_⟩
       have hlt:=backA_lt hback (Array.getElem?_eq_getElem hjs) he heb
       have:=ih (by omega) e.on hlt
       have hls:e.on<l.size:=by omega
       simp only[Array.getD_eq_getD_getElem?,Array.getElem?_eq_getElem hls,Option.getD_some]at this ⊢
       exact this
      rw[hr]at hmem;cases hmem
  exact fun j hj=>⟨(h3 j hj (hall n (Nat.le_refl _) j hj)).1,fun h=>(h3 j hj (hall n (Nat.le_refl _) j hj)).2 (.inr h)⟩
 ·unfold unl
  refine Nat.le_trans (List.length_filter_le _ _) ?_
  simp
 ·have hrep: ∀j,j<n→(Array.replicate n false).getD j true=false:=fun j hj=>by simp[Array.getElem?_replicate,hj]
  refine⟨⟨rfl,rfl,fun _ _=>rfl⟩,hB0,fun j hj hl=> ?_,fun j hj _=>hG0 j hj,fun i j hi hj hl=> ?_⟩
  ·rw[hrep j hj]at hl;cases hl
  ·rw[hrep j hj]at hl;cases hl
section
variable {P:Program} {ops:Array Oper} {Q:Exit→Act→World→Prop} {V:Nat→Value→World→Prop} {F G:Nat→World→Prop} {row:Nat→Option Nat} {a0:Act} {base n i:Nat} {w0:World} {killer:Nat→Nat}
theorem StepFlowK.run {o:Oper} (ho:ops[i]? =some o) (hg:o.guard=none)
  (h: ∀a W,Same ops a0 a→Below base w0 W→(∀j,waits ops i j=true→HasK ops V F (killer j=i∨n≤killer j) a W j)→G i W→
   o.wp P a W (fun a' W'=>∃v,a'=a.put o.dst v∧(o.dst≠none→V i v W')∧F i W'∧W.grownBy W' (row i)∧Below base w0 W') Q):StepFlowK killer n P ops Q V F G row a0 base w0 i:=by
 intro oi a W hoi hS hB hd hG
 obtain rfl:o=oi:=by rw[ho]at hoi;exact Option.some.inj hoi
 rw[if_pos (wanted_none hg)]
 exact h a W hS hB hd hG
theorem wpF_called {o:Oper} {a:Act} {W:World} {f:FuncId} {fn:Func} {xs:Array Operand} {ts:Array TypeId} (hf:P.funcs[f]? =some fn) (hname:(fn.name== "runtime.NumGoroutine")=false) (hb:fn.body.isSome=true) (args:Array Value)
  (hop:o.op= .call { callee:= .value (.func f),args:=xs,argTypes:=ts }) (hargs:xs.map a.eval=args)
  (h:Calls P f args W fun e w'=>∃v,e= .returned v∧(o.dst≠none→V i v w')∧F i w'∧W.grownBy w' (row i)∧Below base w0 w'):
  o.wp P a W (fun a' W'=>∃v,a'=a.put o.dst v∧(o.dst≠none→V i v W')∧F i W'∧W.grownBy W' (row i)∧Below base w0 W') Q:=by
 have h1:fn.name≠ "runtime.NumGoroutine" :=by simpa using hname
 obtain⟨c,hc⟩:=Option.isSome_iff_exists.1 hb
 have he:(callFunc f args).run P W= .ok (.enter f args) W:=by simp[callFunc,hf,h1,hc]
 have hrun:(execOp a.eval o).run P W= .ok (.enter f args) W:=by
  unfold execOp
  simp[hop,resolve,Deferred.ofValue,invoke,Act.eval,hargs,he]
 unfold Oper.wp
 rw[hrun,Oper.upon_enter]
 refine h.mono fun e w'' hh=> ?_
 obtain⟨v,rfl,hk⟩:=hh
 exact⟨v,rfl,hk⟩
end
end Go.Proofs.YtfflenbfapgilaaGreat
namespace Go.Proofs.YtfflenbfapgilaaGreat
def EarlyF (ops:Array Oper) (a0 a:Act) (i:Nat):Prop:=∀(j:Nat) (oj:Oper) (d:Nat),ops[j]? =some oj→waits ops j i=true→oj.dst=some d→a.tmps[d]? =a0.tmps[d]?
theorem EarlyF.get {ops:Array Oper} {a0 a:Act} {i:Nat} (j:Nat) {d:Nat} {oj:Oper} {c:Value} (h:EarlyF ops a0 a i) (hoj:ops[j]? =some oj) (hw:waits ops j i=true) (hd:oj.dst=some d) (hc:a0.tmps[d]? =some c):a.tmps[d]? =some c:=by
 rw[h j oj d hoj hw hd,hc]
def StepFlow2 (P:Program) (ops:Array Oper) (Q:Exit→Act→World→Prop) (V:Nat→Value→World→Prop) (F G:Nat→World→Prop) (row:Nat→Option Nat) (a0:Act) (base:Nat) (w0:World) (i:Nat):Prop:=
 ∀oi a W,ops[i]? =some oi→Same ops a0 a→Below base w0 W→(∀j,waits ops i j=true→HasF ops V F a W j)→G i W→EarlyF ops a0 a i→
  if Region.wanted oi (yielded ops a.tmps)=true then oi.wp P a W (fun a' W'=>∃v,a'=a.put oi.dst v∧(oi.dst≠none→V i v W')∧F i W'∧W.grownBy W' (row i)∧Below base w0 W') Q
  else(oi.dst≠none→V i undef W)∧F i W
section
variable {P:Program} {ops:Array Oper} {Q:Exit→Act→World→Prop} {V:Nat→Value→World→Prop} {F G:Nat→World→Prop} {row:Nat→Option Nat} {a0:Act} {base:Nat} {w0:World} {i:Nat}
theorem StepFlow2.run {o:Oper} (ho:ops[i]? =some o) (hg:o.guard=none)
  (h: ∀a W,Same ops a0 a→Below base w0 W→(∀j,waits ops i j=true→HasF ops V F a W j)→G i W→EarlyF ops a0 a i→
   o.wp P a W (fun a' W'=>∃v,a'=a.put o.dst v∧(o.dst≠none→V i v W')∧F i W'∧W.grownBy W' (row i)∧Below base w0 W') Q):StepFlow2 P ops Q V F G row a0 base w0 i:=by
 intro oi a W hoi hS hB hd hG hE
 obtain rfl:o=oi:=by rw[ho]at hoi;exact Option.some.inj hoi
 rw[if_pos (wanted_none hg)]
 exact h a W hS hB hd hG hE
end
end Go.Proofs.YtfflenbfapgilaaGreat
