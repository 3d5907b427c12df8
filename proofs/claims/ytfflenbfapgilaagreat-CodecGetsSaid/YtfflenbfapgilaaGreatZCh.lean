/- Texts laid as one by shake.py, cut to what the claim needs: Range. (Names that begin with W and the print's groups (G..x, G..z): laid by the kit's print, cut.) -/
import Derived.Test.YtfflenbfapgilaaGreatZCd
import Derived.RangeFuncWrites
import Derived.RangeFuncCalls
import Derived.RangeFuncLeaves
import Derived.RangeFuncRecord
import Derived.TacticsIn
import Derived.TacticsInMore
import Derived.OwnWalkIn
import Derived.LoopNIn
import Derived.LoopIn
import Derived.BigFrameIn
import Derived.Maps.AppendAt
set_option linter.unusedVariables false
set_option linter.unusedSimpArgs false
namespace Go.Proofs.YtfflenbfapgilaaGreat
open Go.RowKit Go.Proofs.YtfflenbfapgilaaGreatW.PrintWords
variable {F:Fence} {n:Nat} {P:Program}
def Ready (l D:Nat) (r:Loop) (W:World):Prop:=W.heap[l]? =some (.loop r)∧W.heap[D]? =some (.deferred (some []))
def Round (F:Fence) (n:Nat) (P:Program) (l D:Nat) (r:Loop) (args:Array Value) (W:World) (J:World→Prop):Prop:=
 YieldAt F n P l args W fun e W'=>e= .returned (.bool true)∧J W'∧Ready l D r W'
def bodyEnd (l D:Nat) (W:World) (J:World→Prop):Exit→Act→World→Prop
 | .normal,_,W'=>J W'∧W'.heap[l]? =W.heap[l]? ∧W'.heap[D]? =W.heap[D]?
 |_,_,_=>False
theorem range_all {α:Type} {g:Operand} {ps:Array Tmp} {assign body:Code} {Q:Exit→Act→World→Prop} {a:Act} {w:World}
  (hro:F.round=none) (h1:F.depth.isSome=true→1≤n) {gf:Nat} {lb:Array Value} (hg:a.eval g= .func (.func gf) #[] lb) (hFg:F.fn gf) (eg: ∀args w,(callFunc gf args).run P w= .ok (.enter gf args) w)
  (encs:α→Array Value) (xs:List α) (hps: ∀x,(encs x).size=ps.size)
  (J Mid:Nat→World→Prop)
  (hJ0: ∀r,J 0 ((w.alloc (.deferred (some []))).alloc (.loop r)))
  (hJp: ∀i W l r o,w.heap.size≤l→W.heap[l]? =some (.loop r)→J i W→J i (W.putObj l o))
  (hMp: ∀i W l r o,w.heap.size≤l→W.heap[l]? =some (.loop r)→Mid i W→Mid i (W.putObj l o))
  (a₁:α→Act)
  (hassign: ∀(l:Nat) (x:α) (W:World) (K:Act→World→Prop),K (a₁ x) W→
   assign.wpIn (F.inRound l) (n-1-1) P (Exit.then K (fun _ _ _=>False)) { tmps:=(ps.zip (encs x)).foldl (fun t (p,v)=>t.setIfInBounds p v) a.tmps,defers:=[] } W)
  (hbody: ∀(l D i:Nat) (x:α) (W:World),w.heap.size≤D→w.heap.size≤l→l≠D→l<W.heap.size→(∃r,W.heap[l]? =some (.loop r))→W.heap[D]? =some (.deferred (some []))→xs[i]? =some x→Mid i W→body.wpIn (F.inRound l) (n-1-1) P (bodyEnd l D W (J (i+1))) (a₁ x) W)
  (hiter: ∀(l D:Nat) (r:Loop) (W:World),w.heap.size≤D→w.heap.size≤l→l≠D→J 0 W→Ready l D r W→
   (∀i x W1,xs[i]? =some x→Mid i W1→Ready l D r W1→Round F (n-1-1) P l D r (encs x) W1 (J (i+1)))→
   CallsIn F (n-1) P gf (#[.func (.yield l) #[] #[]]++lb) W fun e W'=>(∃v,e= .returned v)∧J xs.length W'∧Ready l D r W')
  (hdone: ∀(D:Nat) (W:World),w.heap.size≤D→J xs.length W→W.heap[D]? =some (.deferred (some []))→Q .normal { a with defers:={ target:= .collected D,args:=#[] }::a.defers } W):
  (Code.rangeFunc g ps assign body).wpIn F n P Q a w:=by
 refine wpIn_rangeFunc ?_
 intro fn hfn
 rw[hro]
 obtain⟨rec,hrec⟩: ∃rec:LoopState→Option Code→Loop,rec=fun st pe=>{ state:=st,pending:=pe,fn,tmps:=a.tmps,params:=ps,assign,body,defers:=w.heap.size }:=⟨_,rfl⟩
 obtain⟨W1,hW1⟩:=eX ((w.alloc (.deferred (some []))).alloc (.loop (rec .ready none)))
 have hL1:W1.heap[w.heap.size+1]? =some (.loop (rec .ready none)):=by
  rw[←hW1];have:=World.alloc_heap_new (w.alloc (.deferred (some []))) (.loop (rec .ready none));rwa [World.size_alloc]at this
 have hK1:W1.heap[w.heap.size]? =some (.deferred (some [])):=by
  rw[←hW1];exact(Below.heap_alloc _ _ _ (by simp)).trans (World.alloc_heap_new w _)
 have hI1:J 0 W1:=by rw[←hW1];exact hJ0 _
 refine ⟨w.heap.size+1,[{ target:= .collected w.heap.size,args:=#[] }],W1,{ target:= .fn (.func gf) lb,args:=#[.func (.yield (w.heap.size+1)) #[] #[]] },W1,gf,
  #[.func (.yield (w.heap.size+1)) #[] #[]]++lb,W1, ?_, ?_, ?_, ?_,h1, ?_⟩
 ·rw[←hW1,hrec];exact run_enterLoop_outer _ _ _ _ _
 ·simp only[resolve,hg]
  simp[go_sem]
 ·intro f' hf';simp[Target.leads]at hf';subst hf';exact hFg
 ·simp[invoke,go_sem,eg]
 ·refine (hiter (w.heap.size+1) w.heap.size (rec .ready none) W1 (Nat.le_refl _) (by omega) (by omega) hI1 ⟨hL1,hK1⟩ ?_).mono ?_
  ·rintro i x W hx hi ⟨hl,hk⟩
   have hlt:w.heap.size+1<W.heap.size:=(Array.getElem?_eq_some_iff.1 hl).1
   have hy:=run_yield (P:=P) (args:=encs x) hl (by rw[hrec];exact hps x)
   rw[hrec]at hy
   refine⟨fn,_,assign,body,hy,roundIn_of_wpIn hfn (hassign _ x W _ ⟨_,run_beginRound hl (by rw[hrec]), ?_⟩)⟩
   have hl2:(W.putObj (w.heap.size+1) (.loop { rec .ready none with state:= .busy })).heap[w.heap.size+1]? =some (.loop { rec .ready none with state:= .busy }):=World.putObj_heap_same hlt
   have hk2:(W.putObj (w.heap.size+1) (.loop { rec .ready none with state:= .busy })).heap[w.heap.size]? =some (.deferred (some [])):=(World.putObj_heap_other (by omega)).trans hk
   refine wpIn_mono (hbody (w.heap.size+1) w.heap.size i x _ (Nat.le_refl _) (by omega) (by omega) (by rw[World.putObj_size];exact hlt) ⟨_,hl2⟩ hk2 hx (hMp i W _ _ _ (by omega) hl hi)) ?_
   rintro e a3 W3 hp
   cases e with
   |normal=>
    obtain⟨hi3,hl3',hk3'⟩:=hp
    have hl3:=hl3'.trans hl2
    have hk3:=hk3'.trans hk2
    have hr:=run_endRound (P:=P) none hl3
    refine⟨_,_,hr,rfl,hJp _ _ _ _ _ (by omega) hl3 hi3, ?_,(World.putObj_heap_other (by omega)).trans hk3⟩
    rw[World.putObj_heap_same (Array.getElem?_eq_some_iff.1 hl3).1]
    rw[hrec];rfl
   |ret=>exact hp.elim
   |exit id=>exact hp.elim
   |goto t=>exact hp.elim
   |panic ch=>exact hp.elim
   |outgrown=>exact hp.elim
  ·rintro e W2 ⟨⟨v,rfl⟩,hi,hl,hk⟩
   exact⟨none,_,by have:=run_endLoop (P:=P) hl (by rw[hrec];simp);rw[hrec]at this;exact this,hdone _ _ (Nat.le_refl _) (hJp _ _ _ _ _ (by omega) hl hi) ((World.putObj_heap_other (by omega)).trans hk)⟩
theorem R_append_in {α:Type} {F:Fence} {n:Nat} {P:Program} {ops:Array Oper} {rest:List Oper} {o:Oper} {a:Act} {Q:Exit→Act→World→Prop} (d:Kd α) {w0 W:World} (base:Nat) (hgd:o.guard=none) (s x:Operand) (t e:TypeId) (z:Value) (bytes:Nat)
  (ho:o.op= .call { callee:= .builtin .append,args:=#[s,x],argTypes:=#[t,t] })
  (ht:P.underlying t=some (.slice e)) (hinfo:(P.info? e).map (fun i=>(i.zero,i.size,i.bytes))=some (some z,d.sz,bytes)) (hz:z.cells.size=d.sz) (hs0:0<d.sz) (hb0:0<bytes)
  (v:Value) (xs:List α) (p:α) (cs:List Value) (ok okp:Nat→Prop) (hs:a.eval s=v) (hx:a.eval x= .slice (some ⟨W.heap.size,0,none⟩) 1 1) (hp:d.M W base okp p cs) (hokp: ∀k,okp k→ok k∧some k≠v.ownBlock) (hfresh: ∀k,W.heap.size≤k→ok k)
  (HO:d.R e W base ok v xs) (HB:Below base w0 W) (hbase:base≤W.heap.size) (hl:(xs.length+1)*bytes≤140737488355328)
  (h: ∀v1 w1,d.R e w1 base ok v1 (xs++[p])→Below base w0 w1→W.grownBy w1 v.ownBlock→(v1.ownBlock=v.ownBlock∨∃b,v1.ownBlock=some b∧W.heap.size≤b)→wpListIn F n P ops Q rest (a.put o.dst v1) w1):
  wpListIn F n P ops Q (o::rest) a (W.alloc (.cells cs.toArray e)):=by
 obtain⟨h0,inner,hown,hr⟩:=HO
 obtain⟨i0,hi,hzz⟩:=Option.map_eq_some_iff.1 hinfo
 simp only[Prod.mk.injEq]at hzz
 obtain⟨hz0,hz1,hz2⟩:=hzz
 have hlen:xs.length+1≤140737488355328:=Nat.le_trans (Nat.le_mul_of_pos_right _ hb0) hl
 have hys:cs.length=d.sz:=d.K_len (d.K_of_M hp)
 refine wpListIn_plain hgd fun K hK=> ?_
 obtain ⟨v1,w1,hrun,h2,hg,_,hat⟩:=run_append_own_at (P:=P) (w:=W.alloc (.cells cs.toArray e)) base t o.type e i0 z d.sz bytes ht hi hz0 hz1 hz2 hz hs0 v xs.length inner (hown.alloc _) ⟨W.heap.size,0,none⟩ 1 1 cs (by rw[hys];simp)
  (by simpa using World.news_of_block (cs:=cs.toArray) (t:=e) (fr:=(0,0)) (heap_alloc_new W (.cells cs.toArray e))) (d.K_one (d.K_of_M hp)) (by simp only[maxLen];omega) hl (by simp;omega)
 have hgW:=World.grownBy.trans (World.grownBy_alloc W _ _) hg
 have hat':v1.ownBlock=v.ownBlock∨∃b,v1.ownBlock=some b∧W.heap.size≤b:=by
  rcases hat with hat|hat
  ·exact .inl hat
  ·exact .inr ⟨_,hat,by simp⟩
 unfold Oper.wpIn
 refine⟨?_, ?_⟩
 ·simp[Oper.about,ho,resolve,Target.leads,Sem.run_pure]
 ·rw[Oper.semAt_plain F _ _ (by rw[ho];intro c hc';cases hc')]
  simp[execOp,ho,resolve,invoke,builtin,hs,hx,hrun,Result.andThen]
  exact hK _ _ (h v1 w1 (Kd.R_appended h0 hr hp hokp hfresh h2 hgW hat') ((HB.alloc hbase _).grown hg (by simp;omega) (own_base hown)) hgW hat')
theorem R_putObj {α:Type} {d:Kd α} {e base:Nat} {ok:Nat→Prop} {W:World} {v:Value} {xs:List α} {l:Nat} {r:Loop} (o:Obj) (h:d.R e W base ok v xs) (hl:W.heap[l]? =some (.loop r)):d.R e (W.putObj l o) base ok v xs:=
 Kd.R_mono (Kd.R_move (Kd.R_bound h) (fun k hk=>World.putObj_heap_other (by
  rintro rfl
  obtain⟨_,_,_,q,_,cells,hc⟩:=hk
  rw[hl]at hc;cases hc))) (fun _ hk=>hk.1)
theorem grown_keep {α:Type} {d:Kd α} {e base:Nat} {ok:Nat→Prop} {W w1:World} {v:Value} {xs:List α} (h:d.R e W base ok v xs) (hg:W.grownBy w1 v.ownBlock) {j:Nat} (hj: ∀cells,W.heap[j]? ≠some (.cells cells e (0,0))) (hlt:j<W.heap.size):w1.heap[j]? =W.heap[j]? :=
 hg.block j hlt (fun eq=>by
  obtain⟨inner,ho⟩:=Kd.R_own h
  obtain⟨cells,hc⟩:=own_typed ho j eq.symm
  exact hj cells hc)
theorem heap_putObj {W:World} {k l:Nat} {r:Loop} {c:Array Value} {e:TypeId} {f:Nat×Nat} (o:Obj) (h:W.heap[k]? =some (.cells c e f)) (hl:W.heap[l]? =some (.loop r)):(W.putObj l o).heap[k]? =some (.cells c e f):=
 (World.putObj_heap_other (by rintro rfl;rw[hl]at h;cases h)).trans h
theorem R_putDef {α:Type} {d:Kd α} {e base:Nat} {ok:Nat→Prop} {W:World} {v:Value} {xs:List α} {l:Nat} {r:Option (List Deferred)} (o:Obj) (h:d.R e W base ok v xs) (hl:W.heap[l]? =some (.deferred r)):d.R e (W.putObj l o) base ok v xs:=
 Kd.R_mono (Kd.R_move (Kd.R_bound h) (fun k hk=>World.putObj_heap_other (by
  rintro rfl
  obtain⟨_,_,_,q,_,cells,hc⟩:=hk
  rw[hl]at hc;cases hc))) (fun _ hk=>hk.1)
theorem below_putObj {B l:Nat} {w W:World} (o:Obj) (h:Below B w W) (hl:B≤l):Below B w (W.putObj l o):=
 ⟨h.os,h.tape,h.output,by rw[World.putObj_size];exact h.size,fun k hk=>(World.putObj_heap_other (by omega)).trans (h.block k hk)⟩
end Go.Proofs.YtfflenbfapgilaaGreat
