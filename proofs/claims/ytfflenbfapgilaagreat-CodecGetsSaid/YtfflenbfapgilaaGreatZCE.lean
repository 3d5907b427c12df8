/- Texts laid as one by shake.py, cut to what the claim needs: CoJ, CoF, CoH, CoL, CoS, CoM, CgP, CgR, CoI, WCodecGets. (Names that begin with W and the print's groups (G..x, G..z): laid by the kit's print, cut.) -/
import Derived.Test.YtfflenbfapgilaaGreatZCv
import Derived.Test.YtfflenbfapgilaaGreatZCD
import Derived.Test.YtfflenbfapgilaaGreatZCC
import Derived.Test.YtfflenbfapgilaaGreatZCk
import Derived.Test.YtfflenbfapgilaaGreatZCe
import Derived.Test.YtfflenbfapgilaaGreatZCG
import Derived.Test.YtfflenbfapgilaaGreatZCH
set_option linter.unusedVariables false
set_option linter.unusedSimpArgs false
set_option maxHeartbeats 8000000
set_option maxRecDepth 100000
open Go.RowKit Go.Proofs.YtfflenbfapgilaaGreatW.PrintWords
namespace Go.Proofs.YtfflenbfapgilaaGreat
open Go.Proofs.YtfflenbfapgilaaGreat.GRR
def stF (v:Int) (ps:List (List Int)):Nat→List ByteArray×Int→List ByteArray×Int
 | 0,s=>s
 |i+1,s=>stF v ps i ((getF v s.1 ps s.2).2.2.1,(getF v s.1 ps s.2).2.1)
theorem stF_succ (v:Int) (ps:List (List Int)): ∀(i:Nat) (s:List ByteArray×Int),stF v ps (i+1) s=((getF v (stF v ps i s).1 ps (stF v ps i s).2).2.2.1,(getF v (stF v ps i s).1 ps (stF v ps i s).2).2.1):=by
 intro i
 induction i with
 |zero=>intro s;rfl
 |succ i ih=>intro s;rw[stF,ih];rfl
theorem recsL_at (v:Int) (ps:List (List Int)): ∀(f:Nat) (T:List ByteArray) (a:Int),(ps.length:Int)-a<f→1≤f→∀i,i≤(recsL v ps f T a).length→
  (∀x,(recsL v ps f T a)[i]? =some x→(getF v (stF v ps i (T,a)).1 ps (stF v ps i (T,a)).2).2.2.2=0∧x=((getF v (stF v ps i (T,a)).1 ps (stF v ps i (T,a)).2).1,(getF v (stF v ps i (T,a)).1 ps (stF v ps i (T,a)).2).2.1))∧
  ((recsL v ps f T a)[i]? =none→(getF v (stF v ps i (T,a)).1 ps (stF v ps i (T,a)).2).2.2.2≠0):=by
 intro f
 induction f with
 |zero=>intro T a _ h;omega
 | succ f ih=>
  intro T a hf _ i hi
  by_cases h:(getF v T ps a).2.2.2=0
  ·obtain ⟨n,hn,h1,h2,_,h3⟩:=getF_next h
   have e:recsL v ps (f+1) T a=((getF v T ps a).1,(getF v T ps a).2.1)::recsL v ps f (getF v T ps a).2.2.1 (getF v T ps a).2.1:=by rw[recsL,if_pos h]
   rw[e]at hi ⊢
   match i with
   | 0=>exact⟨fun x hx=>⟨h,by simpa [stF]using hx.symm⟩,fun hx=>by simp at hx⟩
   |i+1=>
    have hi':i≤(recsL v ps f (getF v T ps a).2.2.1 (getF v T ps a).2.1).length:=by simpa using hi
    have:=ih (getF v T ps a).2.2.1 (getF v T ps a).2.1 (by omega) (by omega) i hi'
    rw[List.getElem?_cons_succ,stF]
    exact this
  ·have e:recsL v ps (f+1) T a=[]:=by rw[recsL,if_neg h]
   rw[e]at hi ⊢
   have:i=0:=by simpa using hi
   subst this
   exact⟨fun x hx=>by simp at hx,fun _=>h⟩
theorem stF_bd (v:Int) (ps:List (List Int)) (f:Nat) (T:List ByteArray) (a:Int) (hf:(ps.length:Int)-a<f) (h1:1≤f) (ha:0≤a∧a≤ps.length): ∀i,i≤(recsL v ps f T a).length→
  (stF v ps i (T,a)).1.length≤T.length+18*i∧a+i≤(stF v ps i (T,a)).2∧(stF v ps i (T,a)).2≤ps.length:=by
 intro i
 induction i with
 |zero=>intro _;exact⟨by simp[stF],by simp[stF],by simp[stF];omega⟩
 |succ i ih=>
  intro hi
  have h:=ih (by omega)
  obtain⟨y,hy⟩: ∃y,(recsL v ps f T a)[i]? =some y:=⟨_,List.getElem?_eq_getElem (by omega)⟩
  have he:=((recsL_at v ps f T a hf h1 i (by omega)).1 y hy).1
  obtain⟨n,hn,h3,h4,h5,_⟩:=getF_next he
  rw[stF_succ]
  dsimp only
  rw[hn]
  omega
theorem recsL_few (v:Int) (ps:List (List Int)) (f:Nat) (T:List ByteArray) (a:Int) (hf:(ps.length:Int)-a<f) (h1:1≤f) (ha:0≤a∧a≤ps.length):(recsL v ps f T a).length≤ps.length:=by
 have:=stF_bd v ps f T a hf h1 ha _ (Nat.le_refl _)
 omega
variable {F:Fence} {n:Nat} {P:Program}
theorem range_rel2 {g:Operand} {ps:Array Tmp} {assign body:Code} {Q:Exit→Act→World→Prop} {a:Act} {w:World}
  (hro:F.round=none) (h1:F.depth.isSome=true→1≤n) {gf:Nat} {lb:Array Value} (hg:a.eval g= .func (.func gf) #[] lb) (hFg:F.fn gf) (eg: ∀args w,(callFunc gf args).run P w= .ok (.enter gf args) w)
  (N:Nat) (J0:World→Prop) (J:Nat→World→Prop) (Mid:Nat→Array Value→World→Prop) (Mid2:Nat→Act→World→Prop) (hps: ∀i x W,Mid i x W→x.size=ps.size)
  (hJ0: ∀r,J0 ((w.alloc (.deferred (some []))).alloc (.loop r)))
  (hJp: ∀i W r o,W.heap[w.heap.size+1]? =some (.loop r)→J i W→J i (W.putObj (w.heap.size+1) o))
  (hMp: ∀i a1 W r o,W.heap[w.heap.size+1]? =some (.loop r)→Mid2 i a1 W→Mid2 i a1 (W.putObj (w.heap.size+1) o))
  (hassign: ∀(i:Nat) (x:Array Value) (W:World) (K:Act→World→Prop),w.heap.size+1<W.heap.size→i<N→Mid i x W→(∀a1 W1,Mid2 i a1 W1→W1.heap[w.heap.size+1]? =W.heap[w.heap.size+1]? →W1.heap[w.heap.size]? =W.heap[w.heap.size]? →K a1 W1)→
   assign.wpIn (F.inRound (w.heap.size+1)) (n-1-1) P (Exit.then K (fun _ _ _=>False)) { tmps:=(ps.zip x).foldl (fun t (p,v)=>t.setIfInBounds p v) a.tmps,defers:=[] } W)
  (hbody: ∀(i:Nat) (a1:Act) (W:World),w.heap.size+1<W.heap.size→(∃r,W.heap[w.heap.size+1]? =some (.loop r))→W.heap[w.heap.size]? =some (.deferred (some []))→i<N→Mid2 i a1 W→body.wpIn (F.inRound (w.heap.size+1)) (n-1-1) P (bodyEnd (w.heap.size+1) w.heap.size W (J (i+1))) a1 W)
  (hiter: ∀(r:Loop) (W:World),J0 W→Ready (w.heap.size+1) w.heap.size r W→
   (∀i x W1,i<N→Mid i x W1→Ready (w.heap.size+1) w.heap.size r W1→Round F (n-1-1) P (w.heap.size+1) w.heap.size r x W1 (J (i+1)))→
   CallsIn F (n-1) P gf (#[.func (.yield (w.heap.size+1)) #[] #[]]++lb) W fun e W'=>(∃v,e= .returned v)∧J N W'∧Ready (w.heap.size+1) w.heap.size r W')
  (hdone: ∀(W:World),J N W→W.heap[w.heap.size]? =some (.deferred (some []))→Q .normal { a with defers:={ target:= .collected w.heap.size,args:=#[] }::a.defers } W):
  (Code.rangeFunc g ps assign body).wpIn F n P Q a w:=by
 refine wpIn_rangeFunc ?_
 intro fn hfn
 rw[hro]
 obtain⟨rec,hrec⟩: ∃rec:LoopState→Option Code→Loop,rec=fun st pe=>{ state:=st,pending:=pe,fn,tmps:=a.tmps,params:=ps,assign,body,defers:=w.heap.size }:=⟨_,rfl⟩
 obtain⟨W1,hW1⟩:=eX ((w.alloc (.deferred (some []))).alloc (.loop (rec .ready none)))
 have hL1:W1.heap[w.heap.size+1]? =some (.loop (rec .ready none)):=by
  rw[←hW1];have:=World.alloc_heap_new (w.alloc (.deferred (some []))) (.loop (rec .ready none));rwa [World.size_alloc]at this
 have hK1:W1.heap[w.heap.size]? =some (.deferred (some [])):=by
  rw[←hW1];exact(Below.heap_alloc _ _ _ (by simp)).trans (World.alloc_heap_new w _)
 have hI1:J0 W1:=by rw[←hW1];exact hJ0 _
 refine ⟨w.heap.size+1,[{ target:= .collected w.heap.size,args:=#[] }],W1,{ target:= .fn (.func gf) lb,args:=#[.func (.yield (w.heap.size+1)) #[] #[]] },W1,gf,
  #[.func (.yield (w.heap.size+1)) #[] #[]]++lb,W1, ?_, ?_, ?_, ?_,h1, ?_⟩
 ·rw[←hW1,hrec];exact run_enterLoop_outer _ _ _ _ _
 ·simp only[resolve,hg]
  simp[go_sem]
 ·intro f' hf';simp[Target.leads]at hf';subst hf';exact hFg
 ·simp[invoke,go_sem,eg]
 ·refine (hiter (rec .ready none) W1 hI1 ⟨hL1,hK1⟩ ?_).mono ?_
  ·rintro i x W hx hi ⟨hl,hk⟩
   have hlt:w.heap.size+1<W.heap.size:=(Array.getElem?_eq_some_iff.1 hl).1
   have hkt:w.heap.size<W.heap.size:=(Array.getElem?_eq_some_iff.1 hk).1
   have hy:=run_yield (P:=P) (args:=x) hl (by rw[hrec];exact hps i x W hi)
   rw[hrec]at hy
   refine⟨fn,_,assign,body,hy,roundIn_of_wpIn hfn (hassign i x W _ hlt hx hi fun a1 W1 hm hl1 hk1=>⟨_,run_beginRound (hl1.trans hl) (by rw[hrec]), ?_⟩)⟩
   have hlt1:w.heap.size+1<W1.heap.size:=(Array.getElem?_eq_some_iff.1 (hl1.trans hl)).1
   have hl2:(W1.putObj (w.heap.size+1) (.loop { rec .ready none with state:= .busy })).heap[w.heap.size+1]? =some (.loop { rec .ready none with state:= .busy }):=World.putObj_heap_same hlt1
   have hk2:(W1.putObj (w.heap.size+1) (.loop { rec .ready none with state:= .busy })).heap[w.heap.size]? =some (.deferred (some [])):=(World.putObj_heap_other (by omega)).trans (hk1.trans hk)
   refine wpIn_mono (hbody i a1 _ (by rw[World.putObj_size];exact hlt1) ⟨_,hl2⟩ hk2 hx (hMp i a1 W1 _ _ (hl1.trans hl) hm)) ?_
   rintro e a3 W3 hp
   cases e with
   |normal=>
    obtain⟨hi3,hl3',hk3'⟩:=hp
    have hl3:=hl3'.trans hl2
    have hk3:=hk3'.trans hk2
    have hr:=run_endRound (P:=P) none hl3
    refine⟨_,_,hr,rfl,hJp _ _ _ _ hl3 hi3, ?_,(World.putObj_heap_other (by omega)).trans hk3⟩
    rw[World.putObj_heap_same (Array.getElem?_eq_some_iff.1 hl3).1]
    rw[hrec];rfl
   |ret=>exact hp.elim
   |exit id=>exact hp.elim
   |goto t=>exact hp.elim
   |panic ch=>exact hp.elim
   |outgrown=>exact hp.elim
  ·rintro e W2 ⟨⟨v,rfl⟩,hi,hl,hk⟩
   exact⟨none,_,by have:=run_endLoop (P:=P) hl (by rw[hrec];simp);rw[hrec]at this;exact this,hdone _ (hJp _ _ _ _ hl hi) ((World.putObj_heap_other (by omega)).trans hk)⟩
end Go.Proofs.YtfflenbfapgilaaGreat
namespace Go.Proofs.YtfflenbfapgilaaGreat
open Go.Proofs.YtfflenbfapgilaaGreat.GVB
def PayC (p:List Int):Prop:=1≤p.length∧p.length≤2048∧∀x∈p,0≤x∧x<256
theorem frs_is (ps:List (List Int)):frs ps=framesL ps:=List.flatMap_def ..
theorem frameC_le (p:List Int) (h:PayC p):6≤(frameL p).length∧(frameL p).length≤2062:=by
 have h1:=frameS_le (strOfNums p) (by rw[strOfNums_size];have:=h.2.1;omega)
 have h2:=frameS_len (strOfNums p)
 have h3:=blob_len (strOfNums p)
 have h4:=List.length_pos_iff.2 (vb_ne (strOfNums p).size)
 rw[strOfNums_size]at h1 h3 h4
 rw[frameL_is]
 have:=h.1
 have:=h.2.1
 omega
theorem frsC_le (ps:List (List Int)) (h: ∀p∈ps,PayC p):6*ps.length≤(frs ps).length∧(frs ps).length≤2062*ps.length:=by
 induction ps with
 |nil=>simp[frs]
 |cons p ps ih=>
  have h1:=frameC_le p (h p (by simp))
  have h2:=ih (fun q hq=>h q (by simp[hq]))
  rw[frs_cons,List.length_append,List.length_cons];omega
def fileG (v:Int) (its:List (ByteArray×Int)):List Rec9×List Int×Int:=
 let rs:=recsL v (its.map fun y=>bytesOf y.1) (its.length+1) [] 0
 let es:=rs.map fun x=>(its.getD (x.2.toNat-1) (⟨#[]⟩,0)).2
 (rs.map (·.1),es,es.getLast?.getD 8)
def recEnds (v:Int) (l:List Rec9):List Int:=(List.range l.length).map fun i=>((8+(frs (layF v (l.take (i+1))).1).length:Nat):Int)
theorem items_map (ps:List (List Int)) (h: ∀p∈ps,PayC p): ∀o,(items o ps).map (fun y=>bytesOf y.1)=ps:=by
 induction ps with
 |nil=>intro o;rfl
 |cons p ps ih=>
  intro o
  rw[items,List.map_cons,ih (fun q hq=>h q (List.mem_cons_of_mem _ hq))]
  dsimp only
  rw[bytesOf_str p (h p List.mem_cons_self).2.2]
end Go.Proofs.YtfflenbfapgilaaGreat
namespace Go.Proofs.YtfflenbfapgilaaGreat
open Go.Proofs.YtfflenbfapgilaaGreat.GRR
theorem grownBy_cell (w:World) (g i:Nat) (v:Value):w.grownBy (w.setCell ⟨g,i,none⟩ v) (some g):=
 ⟨rfl,rfl,rfl,by simp[World.setCell],fun k hk hne=>Below.heap_setCell _ _ _ _ (by rintro rfl;exact hne rfl)⟩
abbrev cells9v (r:Rec9) (dv:Value):List Value:=[.int .i64 r.1,.string r.2.1,.int .u64 r.2.2.1,dv,.int .u64 r.2.2.2.2.1,.int .u64 r.2.2.2.2.2.1,.string r.2.2.2.2.2.2]
theorem kdRec_M {w:World} {base:Nat} {ok:Nat→Prop} (r:Rec9) {dv:Value} (h:Kd.R k129 129 w base ok dv r.2.2.2.1):kdRec.M w base ok r (cells9v r dv):=
 ⟨[_],_,rfl,rfl,[_],_,rfl,rfl,[_],_,rfl,rfl,[_],_,rfl,⟨dv,rfl,h⟩,[_],_,rfl,rfl,[_],_,rfl,rfl,rfl⟩
theorem E_rec:(49:Nat)::kdRec.E=[49,129]:=rfl
theorem E_dep:(129:Nat)::Kd.E k129=[129]:=rfl
theorem E_rec_int: ∀q,q∈(49:Nat)::kdRec.E→q≠3:=by rw[E_rec];decide
theorem E_dep_int: ∀q,q∈(129:Nat)::Kd.E k129→q≠3:=by rw[E_dep];decide
theorem E_dep_rec: ∀q,q∈(129:Nat)::Kd.E k129→q≠49:=by rw[E_dep];decide
theorem E_int_rec: ∀q,q∈(3:Nat)::(Kd.int .i64).E→q≠49:=by
 intro q hq
 rw[show(3:Nat)::(Kd.int .i64).E=[3] from rfl]at hq
 revert q;decide
theorem rows_fresh {B:Nat} {W:World} {A:Option Addr} {n:Nat} {vs:List {v:Value //v.oneCell'=true}} {its:List (ByteArray×Int)} (h:Kd.C valK W A n vs) (hl:vs.length=its.length)
  (hf: ∀(k:Nat) (x: {v:Value //v.oneCell'=true}) (y:ByteArray×Int),vs[k]? =some x→its[k]? =some y→Fresh B W x.1 (bytesOf y.1)):Kd.C kRows W A its.length (its.map fun y=>bytesOf y.1):=by
 have hn:its.length=n:=hl ▸ h.1
 refine⟨by simp,by have:=h.2.1;omega,fun hp=> ?_⟩
 obtain⟨ad,e,hc⟩:=h.2.2 (by omega)
 refine⟨ad,e,fun j p hj=> ?_⟩
 rw[List.getElem?_map]at hj
 obtain⟨y,hy,rfl⟩:=Option.map_eq_some_iff.1 hj
 have hjl:j<vs.length:=by have:=(List.getElem?_eq_some_iff.1 hy).1;omega
 obtain⟨cs,h1,h2,h3⟩:=hc j vs[j] (List.getElem?_eq_getElem hjl)
 obtain⟨b,c',C,fr,f1,f2,f3,f4,f5,f6⟩:=hf j vs[j] y (List.getElem?_eq_getElem hjl) hy
 have h2':cs=[vs[j].1]:=h2
 exact⟨cs,h1,⟨_,_,by rw[h2',f1],f2,f6⟩,h3⟩
structure GoC (W0 X:World) (fb:Nat) (S:Nat→Prop) (v:Int) (rs:List Rec9) (es:List Int) (good:Int):Prop where
 kp:Kp W0 X (fun k=>k=fb)
 sb: ∀k,S k→W0.heap.size+2≤k
 fl: ∃vr ve,X.heap[fb]? =some (.cells #[.int .i64 v,vr,ve,.int .i64 good] 27 (0,0))∧Kd.R kdRec 49 X W0.heap.size (fun k=>¬S k) vr rs∧Kd.R (Kd.int .i64) 3 X W0.heap.size (fun k=>¬S k) ve es
section
variable {W0 X X':World} {fb:Nat} {S S':Nat→Prop} {v:Int} {rs:List Rec9} {es:List Int} {good:Int}
theorem GoC.below (h:GoC W0 X fb S v rs es good) (hb:Below X.heap.size X X'):GoC W0 X' fb S v rs es good:=by
 obtain⟨vr,ve,h1,h2,h3⟩:=h.fl
 exact⟨h.kp.below hb,h.sb,vr,ve,blk_below h1 hb,Kd.R_below h2 hb,Kd.R_below h3 hb⟩
theorem GoC.wrote (h:GoC W0 X fb S v rs es good) (hfb:fb<W0.heap.size) (hs: ∀k,S' k→S k∨X.heap.size≤k) (hk:Kp X X' S) (hsz:W0.heap.size+2≤X.heap.size):GoC W0 X' fb S' v rs es good:=by
 obtain⟨vr,ve,h1,h2,h3⟩:=h.fl
 exact⟨h.kp.trans hk (fun k hk=> .inr (by have:=h.sb k hk;omega)),fun k hk=>(hs k hk).elim (h.sb k) (fun h3=>by omega),vr,ve,hk.heap h1 (fun h4=>by have:=h.sb _ h4;omega),R_wrote h2 hk hs,R_wrote h3 hk hs⟩
theorem GoC.putObj (h:GoC W0 X fb S v rs es good) {k:Nat} {r:Loop} (o:Obj) (hk:W0.heap.size≤k) (hl:X.heap[k]? =some (.loop r)):GoC W0 (X.putObj k o) fb S v rs es good:=by
 obtain⟨vr,ve,h1,h2,h3⟩:=h.fl
 exact⟨h.kp.grown (grownBy_putObj' X k o) (fun q e=> .inr (by cases e;exact hk)),h.sb,vr,ve,heap_putObj o h1 hl,R_putObj o h2 hl,R_putObj o h3 hl⟩
theorem Tab.putObj {g:Nat} {T:List ByteArray} (h:Tab X S g T) {k:Nat} (o:Obj) (hk: ¬S k):Tab (X.putObj k o) S g T:=
 h.keep ((Kp.refl X (fun q=>q=k)).grown (grownBy_putObj' X k o) (fun q e=> .inl (by cases e;rfl))) (fun q hs e=>hk (e ▸ hs))
theorem GoC.less (h:GoC W0 X fb S v rs es good) (hs: ∀k,S' k→S k):GoC W0 X fb S' v rs es good:=by
 obtain⟨vr,ve,h1,h2,h3⟩:=h.fl
 exact⟨h.kp,fun k hk=>h.sb k (hs k hk),vr,ve,h1,Kd.R_mono h2 (fun k hk h=>hk (hs k h)),Kd.R_mono h3 (fun k hk h=>hk (hs k h))⟩
theorem GoC.fresh (h:GoC W0 X fb S v rs es good) (m:Nat) (hm:X.heap.size≤m) (hm2:W0.heap.size+2≤m):GoC W0 X fb (fun k=>S k∨k=m) v rs es good:=by
 obtain⟨vr,ve,h1,h2,h3⟩:=h.fl
 refine⟨h.kp,fun k hk=>hk.elim (h.sb k) (fun e=>e ▸ hm2),vr,ve,h1,Kd.R_mono (Kd.R_bound h2) (fun k hk h=> ?_),Kd.R_mono (Kd.R_bound h3) (fun k hk h=> ?_)⟩
 ·rcases h with h|h
  ·exact hk.1 h
  ·have:=hk.2.2.1;omega
 ·rcases h with h|h
  ·exact hk.1 h
  ·have:=hk.2.2.1;omega
theorem GoC.setGood (h:GoC W0 X fb S v rs es good) (hfb:fb<W0.heap.size) (z:Int):GoC W0 (X.setCell ⟨fb,3,none⟩ (.int .i64 z)) fb S v rs es z:=by
 obtain⟨vr,ve,h1,h2,h3⟩:=h.fl
 have hm: ∀q,q≠fb→(X.setCell ⟨fb,3,none⟩ (.int .i64 z)).heap[q]? =X.heap[q]? :=fun q hq=>Below.heap_setCell _ _ _ _ hq
 refine⟨h.kp.setCell (.inl rfl) _,h.sb,vr,ve, ?_, ?_, ?_⟩
 ·have:=blk_set h1 3 (.int .i64 z)
  simpa using this
 ·exact Kd.R_mono (Kd.R_step (Kd.R_bound h2) (fun k hk _=>hm k (by have:=hk.2.1;omega))) (fun k hk=>hk.1)
 ·exact Kd.R_mono (Kd.R_step (Kd.R_bound h3) (fun k hk _=>hm k (by have:=hk.2.1;omega))) (fun k hk=>hk.1)
end
def rowG (r4 r10:Option Nat) (fb:Nat) (i:Nat):Option Nat:=match i with| 4=>r4| 10=>r10| 12=>some fb| 14=>some fb|_=>none
theorem rowG_ne {r4 r10:Option Nat} {fb:Nat} (i k:Nat) (h4:i≠4∨some k≠r4) (h10:i≠10∨some k≠r10) (hf:(i≠12∧i≠14)∨k≠fb):some k≠rowG r4 r10 fb i:=by
 unfold rowG
 split
 ·exact h4.resolve_left (by omega)
 ·exact h10.resolve_left (by omega)
 ·intro e;cases e;exact(hf.resolve_left (by omega)) rfl
 ·intro e;cases e;exact(hf.resolve_left (by omega)) rfl
 ·intro e;cases e
theorem rowG_lt {r4 r10:Option Nat} {fb m:Nat} (h4: ∀k,r4=some k→k<m) (h10: ∀k,r10=some k→k<m) (hf:fb<m) (i k:Nat) (h:rowG r4 r10 fb i=some k):k<m:=by
 unfold rowG at h
 split at h
 ·exact h4 k h
 ·exact h10 k h
 ·cases h;exact hf
 ·cases h;exact hf
 ·cases h
section
variable (Sz B fb rb:Nat) (v z:Int) (vr ve dv:Value) (r:Rec9) (rs:List Rec9) (es:List Int) (okR okE okD:Nat→Prop) (Rest:World→Prop)
def VG:Nat→Value→World→Prop
 | 0,u,_=>u= .pointer (some ⟨fb,1,none⟩)
 | 1,u,_=>u=vr
 | 2,u,_=>u= .agg (cells9v r dv).toArray
 | 3,u,X=>∃b,u= .slice (some ⟨b,0,none⟩) 1 1∧Sz≤b∧X.heap[b]? =some (.cells (cells9v r dv).toArray 49 (0,0))
 | 4,u,X=>Kd.R kdRec 49 X B okR u (rs++[r])
 | 5,u,_=>u= .pointer (some ⟨fb,2,none⟩)
 | 6,u,_=>u=ve
 | 7,u,_=>u= .pointer (some ⟨fb,3,none⟩)
 | 8,u,_=>u= .int .i64 z
 | 9,u,X=>∃b,u= .slice (some ⟨b,0,none⟩) 1 1∧Sz≤b∧X.heap[b]? =some (.cells #[.int .i64 z] 3 (0,0))
 | 10,u,X=>Kd.R (Kd.int .i64) 3 X B okE u (es++[z])
 | 11,u,_=>u= .pointer (some ⟨fb,1,none⟩)
 | 13,u,_=>u= .pointer (some ⟨fb,2,none⟩)
 |_,_,_=>True
def BoxG (X:World):Prop:=X.heap[fb]? =some (.cells #[.int .i64 v,vr,ve,.int .i64 z] 27 (0,0))
def FG:Nat→World→Prop
 | 12,X=>∃vr',X.heap[fb]? =some (.cells #[.int .i64 v,vr',ve,.int .i64 z] 27 (0,0))∧Kd.R kdRec 49 X B okR vr' (rs++[r])
 | 14,X=>(∃vr' ve',X.heap[fb]? =some (.cells #[.int .i64 v,vr',ve', .int .i64 z] 27 (0,0))∧Kd.R kdRec 49 X B okR vr' (rs++[r])∧Kd.R (Kd.int .i64) 3 X B okE ve' (es++[z]))∧Rest X
 |_,_=>True
def GG:Nat→World→Prop
 | 1,X=>BoxG fb v z vr ve X
 | 6,X=>BoxG fb v z vr ve X
 | 8,X=>BoxG fb v z vr ve X
 | 12,X=>BoxG fb v z vr ve X
 | 2,X=>X.heap[rb]? =some (.cells (cells9v r dv).toArray 49 (0,0))
 | 4,X=>Kd.R kdRec 49 X B okR vr rs∧Kd.R k129 129 X B okD dv r.2.2.2.1
 | 10,X=>Kd.R (Kd.int .i64) 3 X B okE ve es
 | 14,X=>Rest X
 |_,_=>True
end
def kilG (i:Nat):Nat:=if i=12 then 14 else 15
theorem GoC.region {W0 X X':World} {fb:Nat} {S S1:Nat→Prop} (hS1: ∀k,S1 k→S k) {g:Nat} {T:List ByteArray} {v:Int} {rs rs':List Rec9} {es es':List Int} {good:Int} {vr ve vr' ve':Value} (h:GoC W0 X fb S v rs es good) (hfb:fb<W0.heap.size) (ht:Tab X S1 g T)
  (hR:Kd.R kdRec 49 X W0.heap.size (fun k=>¬S k) vr rs) (hE:Kd.R (Kd.int .i64) 3 X W0.heap.size (fun k=>¬S k) ve es)
  (hB:Below fb X X') (hrest:RestOf (rowG vr.ownBlock ve.ownBlock fb) X X')
  (hf:X'.heap[fb]? =some (.cells #[.int .i64 v,vr',ve', .int .i64 good] 27 (0,0))) (hR':Kd.R kdRec 49 X' W0.heap.size (fun k=>¬S k) vr' rs') (hE':Kd.R (Kd.int .i64) 3 X' W0.heap.size (fun k=>¬S k) ve' es'):
  GoC W0 X' fb S v rs' es' good∧Tab X' S1 g T∧∀(q:Nat) (o:Obj),X.heap[q]? =some o→(∀C e fr,o≠Obj.cells C e fr)→X'.heap[q]? =some o:=by
 have t4:=own_typed_R hR
 have t10:=own_typed_R hE
 have hk:Kp X X' (fun k=>k=fb∨vr.ownBlock=some k∨ve.ownBlock=some k):=⟨hB.os,hB.tape,hB.output,hB.size,fun k hk hn=>hrest k hk (fun i e=>by
  unfold rowG at e
  split at e
  ·exact hn (.inr (.inl e))
  ·exact hn (.inr (.inr e))
  ·exact hn (.inl (by injection e with e;exact e.symm))
  ·exact hn (.inl (by injection e with e;exact e.symm))
  ·cases e)⟩
 refine⟨⟨h.kp.trans hk (fun k hk=> ?_),h.sb,vr',ve',hf,hR',hE'⟩,ht.keep hk (fun k hs1 hk=> ?_),fun q o hq ho=>hk.heap hq (fun hk=> ?_)⟩
 ·rcases hk with hk|hk|hk
  ·exact .inl hk
  ·exact .inr (t4 k hk).1
  ·exact .inr (t10 k hk).1
 ·have hs:=hS1 k hs1
  rcases hk with hk|hk|hk
  ·have:=h.sb k hs;omega
  ·exact hR.1 k hk hs
  ·exact hE.1 k hk hs
 ·rcases hk with hk|hk|hk
  ·obtain⟨_,_,h1,_⟩:=h.fl
   rw[hk,h1]at hq;cases hq;exact ho _ _ _ rfl
  ·obtain⟨_,_,C,hC⟩:=t4 q hk
   rw[hC]at hq;cases hq;exact ho _ _ _ rfl
  ·obtain⟨_,_,C,hC⟩:=t10 q hk
   rw[hC]at hq;cases hq;exact ho _ _ _ rfl
theorem records_any (v:Int) (A:Option Addr) (n c:Nat) (w:World):
  Calls Tryz.prog 11 #[.int .i64 v,.slice A n c] w fun e w'=>e= .returned (.func (.func 23) #[] #[.pointer (some ⟨w.heap.size,0,none⟩),.pointer (some ⟨w.heap.size+1,0,none⟩)])∧(w.alloc (.cells #[.int .i64 v] 3)).alloc (.cells #[.slice A n c] 40)=w':=by
 go_enter Tryz.func11,Tryz.ntmps11
 go_wp2
 go_ret
 exact⟨rfl,rfl⟩
def codG (l:List Int):(Int×List Rec9×List Int×Int)×Int:=if (versF l).2≠0 then((0,[],[],0),(versF l).2)else(((versF l).1,fileG (versF l).1 (runs l 8)),0)
def CGetPost (W:World) (F:(Int×List Rec9×List Int×Int)×Int) (e:Ending) (W':World):Prop:=
 ∃vr ve,e= .returned (.tuple #[.agg #[.int .i64 F.1.1,vr,ve,.int .i64 F.1.2.2.2],.int .i64 F.2])∧Kd.R kdRec 49 W' W.heap.size (fun _=>True) vr F.1.2.1∧Kd.R (Kd.int .i64) 3 W' W.heap.size (fun _=>True) ve F.1.2.2.1∧Below W.heap.size W W'
end Go.Proofs.YtfflenbfapgilaaGreat
namespace Go.Proofs.YtfflenbfapgilaaGreat
open Go.Proofs.YtfflenbfapgilaaGreat.GRR
theorem fixed10_any (w:World):Calls Tryz.prog 4 #[] w fun e w'=>e= .returned (.bool true)∧Below w.heap.size w w':=by
 have hp:=codput_any 2 none 0 [] w (Kd.C_nil _ _) (Nat.le_refl _) (by simp) (by simp) (by simp)
 have e:codF 2 []=(headL 2,0):=by unfold codF;rw[if_pos (by omega)];rfl
 rw[e]at hp
 have HP:=hQ hp
 clear hp e
 go_enter Tryz.func4,Tryz.ntmps4
 go_wp2_with fail
 refine HP.out.mono ?_
 rintro e w1 ⟨vb,rfl,hR,hB⟩
 obtain⟨A1,c1,rfl⟩:=Kd.R_slice hR
 dsimp only
 rw[headL_len]
 have HB:=hQ hB
 clear hR hB
 go_wp2_with fail
 go_ret
 exact⟨rfl,HB.out⟩
theorem all8_any (A1 A2:Option Addr) (c1 c2:Nat) (l:List Rec9) (w:World) (hC1:Kd.C kdRec w A1 l.length l) (hC2:Kd.C kdRec w A2 l.length l) (hf: ∀r∈l,r.2.2.2.1.length≤1000):
  Calls Tryz.prog 15 #[.slice A1 l.length c1,.slice A2 l.length c2] w fun e w'=>e= .returned (.bool true)∧Below w.heap.size w w':=by
 have hm:=hC1.2.1
 have HC1:=hQ hC1
 have HC2:=hQ hC2
 have HF:=hQ hf
 clear hC1 hC2 hf
 go_enter Tryz.func15,Tryz.ntmps15
 go_wp2_with fail
 go_loopw [5] (fun u wr=>∃(i:Nat),i≤l.length∧u= .int .i64 (i:Int)∧Hid (Below w.heap.size w wr)) (fun u _=>l.length-(intOf u).toNat)
 case atStart=>exact⟨0,by omega,rfl,hQ (Below.refl _ _)⟩
 case round=>
  obtain⟨i,hi,rfl,HB⟩:=hrel
  by_cases hlt:i<l.length
  ·have hdl:decide ((i:Int)<(l.length:Int))=true:=decide_eq_true (by omega)
   obtain⟨r,hr⟩:=eX (l[i])
   obtain⟨ad1,A3,c3,hA1,g0,g1,g2,g3,g4,g5,g6,hle3,hrow3⟩:=at_row9 (w:=w) (W:=w) rfl (fun _ _ h=>h) HC1.out i hlt r hr
   obtain⟨ad2,A4,c4,hA2,q0,q1,q2,q3,q4,q5,q6,hle4,hrow4⟩:=at_row9 (w:=w) (W:=w) rfl (fun _ _ h=>h) HC2.out i hlt r hr
   subst hA1 hA2
   have hfr:=HF.out r (hr ▸ List.getElem_mem _)
   obtain⟨k0,x1,x2,ds,x4,x5,x6⟩:=r
   dsimp only at g0 g1 g2 g3 g4 g5 g6 q0 q1 q2 q3 q4 q5 q6 hle3 hrow3 hle4 hrow4 hfr
   have hbl:=HB.out
   have HQ:=hQ (fun(W:World) (h:Below wr.heap.size wr W)=>(let hb:=hbl.trans (h.mono hbl.size)
    And.intro (pw_cell_below hb g0) (And.intro (pw_cell_below hb g1) (And.intro (pw_cell_below hb g2) (And.intro (pw_cell_below hb g3) (And.intro (pw_cell_below hb g4) (And.intro (pw_cell_below hb g5) (pw_cell_below hb g6))))))))
   have HQ2:=hQ (fun(W:World) (h:Below wr.heap.size wr W)=>(let hb:=hbl.trans (h.mono hbl.size)
    And.intro (pw_cell_below hb q0) (And.intro (pw_cell_below hb q1) (And.intro (pw_cell_below hb q2) (And.intro (pw_cell_below hb q3) (And.intro (pw_cell_below hb q4) (And.intro (pw_cell_below hb q5) (pw_cell_below hb q6))))))))
   have HS:=hQ (fun(W:World) (h:Below wr.heap.size wr W)=>rsame_any k0 x1 x2 ds x4 x5 x6 A3 A4 c3 c4 W (Kd.C_below hrow3 (hbl.trans (h.mono hbl.size))) (Kd.C_below hrow4 (hbl.trans (h.mono hbl.size))))
   clear hr g0 g1 g2 g3 g4 g5 g6 q0 q1 q2 q3 q4 q5 q6 hle3 hrow3 hle4 hrow4 hfr hbl
   go_wp2_with fail
   refine region_calm (n:=10) (byList [isV (.slice (some ad1) l.length c1),isV (.int .i64 (i:Int)),isV (.pointer (some (ad1.add (i*7)))),isV (.agg #[.int .i64 k0,.string x1,.int .u64 x2,.slice A3 ds.length c3,.int .u64 x4,.int .u64 x5,.string x6]),isV (.slice (some ad2) l.length c2),isV (.int .i64 (i:Int)),isV (.pointer (some (ad2.add (i*7)))),isV (.agg #[.int .i64 k0,.string x1,.int .u64 x2,.slice A4 ds.length c4,.int .u64 x4,.int .u64 x5,.string x6]),isV (.bool true),isV (.bool false)]) (by kernel_rfl) rfl (byList_lasts ?_) (by kernel_rfl) (by kernel_rfl) (by kernel_rfl) (show AllLt 10 _ from ?_) ?_
   ·intro p hp
    simp only[List.mem_cons,List.not_mem_nil,or_false]at hp
    rcases hp with rfl|rfl|rfl|rfl|rfl|rfl|rfl|rfl|rfl|rfl<;>first|exact isV_lasts|exact isC_lasts
   ·refine allLt_succ (allLt_succ (allLt_succ (allLt_succ (allLt_succ (allLt_succ (allLt_succ (allLt_succ (allLt_succ (allLt_succ (allLt_zero _) ?_) ?_) ?_) ?_) ?_) ?_) ?_) ?_) ?_) ?_
    ·refine StepOk.run (get_lit rfl) rfl fun a W hS hB hd=> ?_
     have e0:=hS.get (t:=0) rfl rfl
     refine wp_value (c:= .slice (some ad1) l.length c1) ?_ rfl
     go_simp
    ·refine StepOk.run (get_lit rfl) rfl fun a W hS hB hd=> ?_
     have e5:=hS.get (t:=5) rfl rfl
     refine wp_value (c:= .int .i64 (i:Int)) ?_ rfl
     go_simp
    ·refine StepOk.run (get_lit rfl) rfl fun a W hS hB hd=> ?_
     have e17:=(hd 0 rfl).bool rfl rfl rfl
     have e18:=(hd 1 rfl).bool rfl rfl rfl
     refine wp_value (c:= .pointer (some (ad1.add (i*7)))) ?_ rfl
     go_simp
    ·refine StepOk.run (get_lit rfl) rfl fun a W hS hB hd=> ?_
     have e19:=(hd 2 rfl).bool rfl rfl rfl
     refine wp_value (c:= .agg #[.int .i64 k0,.string x1,.int .u64 x2,.slice A3 ds.length c3,.int .u64 x4,.int .u64 x5,.string x6]) ?_ rfl
     obtain⟨z0,z1,z2,z3,z4,z5,z6⟩:=HQ.out W hB
     go_simp
    ·refine StepOk.run (get_lit rfl) rfl fun a W hS hB hd=> ?_
     have e1:=hS.get (t:=1) rfl rfl
     refine wp_value (c:= .slice (some ad2) l.length c2) ?_ rfl
     go_simp
    ·refine StepOk.run (get_lit rfl) rfl fun a W hS hB hd=> ?_
     have e5:=hS.get (t:=5) rfl rfl
     refine wp_value (c:= .int .i64 (i:Int)) ?_ rfl
     go_simp
    ·refine StepOk.run (get_lit rfl) rfl fun a W hS hB hd=> ?_
     have e21:=(hd 4 rfl).bool rfl rfl rfl
     have e22:=(hd 5 rfl).bool rfl rfl rfl
     refine wp_value (c:= .pointer (some (ad2.add (i*7)))) ?_ rfl
     go_simp
    ·refine StepOk.run (get_lit rfl) rfl fun a W hS hB hd=> ?_
     have e23:=(hd 6 rfl).bool rfl rfl rfl
     refine wp_value (c:= .agg #[.int .i64 k0,.string x1,.int .u64 x2,.slice A4 ds.length c4,.int .u64 x4,.int .u64 x5,.string x6]) ?_ rfl
     obtain⟨z0,z1,z2,z3,z4,z5,z6⟩:=HQ2.out W hB
     go_simp
    ·refine StepOk.run (get_lit rfl) rfl fun a W hS hB hd=> ?_
     have e20:=(hd 3 rfl).bool rfl rfl rfl
     have e24:=(hd 7 rfl).bool rfl rfl rfl
     refine wp_called Tryz.func31 (by kernel_rfl) rfl #[.agg #[.int .i64 k0,.string x1,.int .u64 x2,.slice A3 ds.length c3,.int .u64 x4,.int .u64 x5,.string x6],.agg #[.int .i64 k0,.string x1,.int .u64 x2,.slice A4 ds.length c4,.int .u64 x4,.int .u64 x5,.string x6]] rfl (by simp[Act.eval, *]) ?_
     refine(HS.out W hB).mono ?_
     rintro e9 w9 ⟨rfl,hb9⟩
     exact⟨_,rfl,rfl,hb9⟩
    ·refine StepOk.run (get_lit rfl) rfl fun a W hS hB hd=> ?_
     have e25:=(hd 8 rfl).bool rfl rfl rfl
     refine wp_value (c:= .bool false) ?_ rfl
     go_simp
   ·intro a W hS hB hh
    have e26:a.tmps[26]? =some (.bool false):=(hh 9 (by omega)).bool rfl rfl rfl
    have HBR:=hQ hB
    obtain⟨zz,hlit,hzz⟩:=same_litz hS
    clear hh hS hB
    simp only[List.filterMap_cons,List.filterMap_nil,List.foldl_cons,List.foldl_nil,List.setIfInBounds_toArray,List.set_cons_zero,List.set_cons_succ]at hlit
    rw[hzz 26 _ e26]at hlit
    clear e26
    clear hzz;subst hlit
    have HB2:=hQ (HB.out.trans (HBR.out.mono HB.out.size))
    go_wp2_with fail
    go_roundw
    case rel=>exact⟨i+1,by omega,by go_num,HB2⟩
    case measure=>simp[intOf];omega
  ·obtain rfl:i=l.length:=by omega
   go_wp2_with fail
   go_ret
   exact⟨rfl,HB.out⟩
theorem same10_any (v g:Int) (A1 A2 B1 B2:Option Addr) (c1 c2 d1 d2:Nat) (l:List Rec9) (es:List Int) (w:World) (hC1:Kd.C kdRec w A1 l.length l) (hC2:Kd.C kdRec w B1 l.length l) (hE1:Kd.C (Kd.int .i64) w A2 es.length es) (hE2:Kd.C (Kd.int .i64) w B2 es.length es) (hf: ∀r∈l,r.2.2.2.1.length≤1000):
  Calls Tryz.prog 7 #[.agg #[.int .i64 v,.slice A1 l.length c1,.slice A2 es.length c2,.int .i64 g],.agg #[.int .i64 v,.slice B1 l.length d1,.slice B2 es.length d2,.int .i64 g]] w fun e w'=>e= .returned (.bool true)∧Below w.heap.size w w':=by
 have hm:=hE1.2.1
 obtain⟨w1,hw1⟩:=eX ((w.alloc (.cells #[.int .i64 v,.slice A1 l.length c1,.slice A2 es.length c2,.int .i64 g] 27)).alloc (.cells #[.int .i64 v,.slice B1 l.length d1,.slice B2 es.length d2,.int .i64 g] 31))
 have hb1:Below w.heap.size w w1:=by rw[←hw1];exact((Below.refl _ _).alloc (Nat.le_refl _) _).alloc (by rw[heap_size_alloc];omega) _
 have k2:w1.heap[w.heap.size]? =some (.cells #[.int .i64 v,.slice A1 l.length c1,.slice A2 es.length c2,.int .i64 g] 27 (0,0)):=by rw[←hw1];exact blk_alloc (heap_new _ _) _
 have k3:w1.heap[w.heap.size+1]? =some (.cells #[.int .i64 v,.slice B1 l.length d1,.slice B2 es.length d2,.int .i64 g] 31 (0,0)):=by
  rw[←hw1]
  have:=heap_new (w.alloc (.cells #[.int .i64 v,.slice A1 l.length c1,.slice A2 es.length c2,.int .i64 g] 27)) (.cells #[.int .i64 v,.slice B1 l.length d1,.slice B2 es.length d2,.int .i64 g] 31)
  rwa [heap_size_alloc]at this
 have HALL:=hQ (all8_any A1 B1 c1 d1 l w1 (Kd.C_below hC1 hb1) (Kd.C_below hC2 hb1) hf)
 have HE1:=hQ hE1
 have HE2:=hQ hE2
 have HB1:=hQ hb1
 have HW1:=hQ hw1
 have HK2:=hQ k2
 have HK3:=hQ k3
 clear hC1 hC2 hE1 hE2 hf hb1 hw1 k2 k3
 go_enter Tryz.func7,Tryz.ntmps7
 go_wp2_with fail
 rw[HW1.out]
 refine HALL.out.mono ?_
 rintro e w2 ⟨rfl,hb2⟩
 obtain⟨b2,hbb⟩:=eX (w.heap.size)
 have hk2:=blk_below HK2.out hb2
 have hk3:=blk_below HK3.out hb2
 rw[hbb]at hk2 hk3 ⊢
 have q2:=bcl hk2 2 rfl
 have q3:w2.cell? ⟨b2+1,2,none⟩=some (.slice B2 es.length d2):=(blk_cell hk3 2).trans rfl
 have HB2:=hQ (HB1.out.trans (hb2.mono HB1.out.size))
 have HK22:=hQ hk2
 have HK32:=hQ hk3
 clear hb2 hk2 hk3 HALL HK2 HK3 hbb
 go_wp2_with fail
 clear q2 q3
 go_loopw [38] (fun u wr=>∃(i:Nat),i≤es.length∧u= .int .i64 (i:Int)∧Hid (Below w2.heap.size w2 wr)) (fun u _=>es.length-(intOf u).toNat)
 case atStart=>exact⟨0,by omega,rfl,hQ (Below.refl _ _)⟩
 case round=>
  obtain⟨i,hi,rfl,HB⟩:=hrel
  by_cases hlt:i<es.length
  ·have hdl:decide ((i:Int)<(es.length:Int))=true:=decide_eq_true (by omega)
   obtain⟨ad1,hA1,hc1⟩:=Kd.at_int HE1.out (i:Int) (by omega) (by omega)
   obtain⟨ad2,hA2,hc2⟩:=Kd.at_int HE2.out (i:Int) (by omega) (by omega)
   subst hA1 hA2
   rw[Int.toNat_natCast]at hc1 hc2
   generalize rd es (i:Int)=z at hc1 hc2
   have HC:=hQ (fun(W:World) (h:Below wr.heap.size wr W)=>(let hb:=(HB2.out.trans (HB.out.mono HB2.out.size)).trans (h.mono (Nat.le_trans HB2.out.size HB.out.size))
    And.intro (pw_cell_below hb hc1) (pw_cell_below hb hc2)))
   have HK:=hQ (And.intro (blk_below HK22.out HB.out) (blk_below HK32.out HB.out))
   clear hc1 hc2
   go_wp2_with fail
   refine region_calm (n:=11) (byList [isV (.pointer (some ⟨b2,2,none⟩)),isV (.slice (some ad1) es.length c2),isV (.int .i64 (i:Int)),isV (.pointer (some (ad1.add i))),isV (.int .i64 z),isV (.pointer (some ⟨b2+1,2,none⟩)),isV (.slice (some ad2) es.length d2),isV (.int .i64 (i:Int)),isV (.pointer (some (ad2.add i))),isV (.int .i64 z),isV (.bool false)]) (by kernel_rfl) rfl (byList_lasts ?_) (by kernel_rfl) (by kernel_rfl) (by kernel_rfl) (show AllLt 11 _ from ?_) ?_
   ·intro p hp
    simp only[List.mem_cons,List.not_mem_nil,or_false]at hp
    rcases hp with rfl|rfl|rfl|rfl|rfl|rfl|rfl|rfl|rfl|rfl|rfl<;>first|exact isV_lasts|exact isC_lasts
   ·refine allLt_succ (allLt_succ (allLt_succ (allLt_succ (allLt_succ (allLt_succ (allLt_succ (allLt_succ (allLt_succ (allLt_succ (allLt_succ (allLt_zero _) ?_) ?_) ?_) ?_) ?_) ?_) ?_) ?_) ?_) ?_) ?_
    ·refine StepOk.run (get_lit rfl) rfl fun a W hS hB hd=> ?_
     have e2:=hS.get (t:=2) rfl rfl
     refine wp_value (c:= .pointer (some ⟨b2,2,none⟩)) ?_ rfl
     go_simp
    ·refine StepOk.run (get_lit rfl) rfl fun a W hS hB hd=> ?_
     have e41:=(hd 0 rfl).bool rfl rfl rfl
     refine wp_value (c:= .slice (some ad1) es.length c2) ?_ rfl
     have hkW:=blk_below HK.out.1 hB
     have s2:=bcl hkW 2 rfl
     go_simp
    ·refine StepOk.run (get_lit rfl) rfl fun a W hS hB hd=> ?_
     have e5:=hS.get (t:=5) rfl rfl
     refine wp_value (c:= .int .i64 (i:Int)) ?_ rfl
     go_simp
    ·refine StepOk.run (get_lit rfl) rfl fun a W hS hB hd=> ?_
     have e42:=(hd 1 rfl).bool rfl rfl rfl
     have e43:=(hd 2 rfl).bool rfl rfl rfl
     refine wp_value (c:= .pointer (some (ad1.add i))) ?_ rfl
     go_simp
    ·refine StepOk.run (get_lit rfl) rfl fun a W hS hB hd=> ?_
     have e44:=(hd 3 rfl).bool rfl rfl rfl
     refine wp_value (c:= .int .i64 z) ?_ rfl
     have hcW:=(HC.out W hB).1
     go_simp
    ·refine StepOk.run (get_lit rfl) rfl fun a W hS hB hd=> ?_
     have e3:=hS.get (t:=3) rfl rfl
     refine wp_value (c:= .pointer (some ⟨b2+1,2,none⟩)) ?_ rfl
     go_simp
    ·refine StepOk.run (get_lit rfl) rfl fun a W hS hB hd=> ?_
     have e46:=(hd 5 rfl).bool rfl rfl rfl
     refine wp_value (c:= .slice (some ad2) es.length d2) ?_ rfl
     have hkW:=blk_below HK.out.2 hB
     have s2:W.cell? ⟨b2+1,2,none⟩=some (.slice (some ad2) es.length d2):=(blk_cell hkW 2).trans rfl
     go_simp
    ·refine StepOk.run (get_lit rfl) rfl fun a W hS hB hd=> ?_
     have e5:=hS.get (t:=5) rfl rfl
     refine wp_value (c:= .int .i64 (i:Int)) ?_ rfl
     go_simp
    ·refine StepOk.run (get_lit rfl) rfl fun a W hS hB hd=> ?_
     have e47:=(hd 6 rfl).bool rfl rfl rfl
     have e48:=(hd 7 rfl).bool rfl rfl rfl
     refine wp_value (c:= .pointer (some (ad2.add i))) ?_ rfl
     go_simp
    ·refine StepOk.run (get_lit rfl) rfl fun a W hS hB hd=> ?_
     have e49:=(hd 8 rfl).bool rfl rfl rfl
     refine wp_value (c:= .int .i64 z) ?_ rfl
     have hcW:=(HC.out W hB).2
     go_simp
    ·refine StepOk.run (get_lit rfl) rfl fun a W hS hB hd=> ?_
     have e45:=(hd 4 rfl).bool rfl rfl rfl
     have e50:=(hd 9 rfl).bool rfl rfl rfl
     refine wp_value (c:= .bool false) ?_ rfl
     go_simp
   ·intro a W hS hB hh
    have e51:a.tmps[51]? =some (.bool false):=(hh 10 (by omega)).bool rfl rfl rfl
    have HBR:=hQ hB
    obtain⟨zz,hlit,hzz⟩:=same_litz hS
    clear hh hS hB
    simp only[List.filterMap_cons,List.filterMap_nil,List.foldl_cons,List.foldl_nil,List.setIfInBounds_toArray,List.set_cons_zero,List.set_cons_succ]at hlit
    rw[hzz 51 _ e51]at hlit
    clear e51
    clear hzz;subst hlit
    have HBN:=hQ (HB.out.trans (HBR.out.mono HB.out.size))
    go_wp2_with fail
    go_roundw
    case rel=>exact⟨i+1,by omega,by go_num,HBN⟩
    case measure=>simp[intOf];omega
  ·obtain rfl:i=es.length:=by omega
   go_wp2_with fail
   go_ret
   exact⟨rfl,HB2.out.trans (HB.out.mono HB2.out.size)⟩
structure CodFile (v:Int) (l:List Rec9) (f:List Int):Prop where
 ver:1≤v∧v≤3
 good: ∀r∈l,GoodR v r
 n0:8≤f.length
 n1:f.length≤120008
 b: ∀x∈f,0≤x∧x<256
 few: ∀k,(runs (f.take k) 8).length≤2700
 all:codG f=((v,l,recEnds v l,(f.length:Int)),0)
 short: ∀k,k<8→codG (f.take k)=((0,[],[],0),2)
 cut: ∀k,8≤k→∃m,m≤l.length∧codG (f.take k)=((v,l.take m,(recEnds v l).take m,((recEnds v l).take m).getLast?.getD 8),0)∧∀(i:Nat) (z:Int),(recEnds v l)[i]? =some z→(z≤(k:Int)↔i<m)
section
open Go.Proofs.YtfflenbfapgilaaGreat.GVB
theorem fget_just (l:List Int) (hb: ∀x∈l,0≤x∧x<256) (a:Int) (h:(fgetS l a).2.2=0):
  ∃lo n:Nat,a=(lo:Int)∧(fgetS l a).2.1=(n:Int)∧lo≤n∧n≤l.length∧PayC (bytesOf (fgetS l a).1)∧l.take n=l.take lo++frameL (bytesOf (fgetS l a).1):=by
 unfold fgetS at h ⊢
 by_cases h0:a=(l.length:Int)
 ·rw[if_pos h0]at h;exact absurd h (by decide)
 rw[if_neg h0]at h ⊢
 rcases getS_cases l hb a with⟨e,h1,h2⟩|⟨lo,n,p,rfl,h1,h2,h3,h4,h5⟩
 ·have hg:bgetS l a 2048=(⟨#[]⟩,0,e):=by unfold bgetS;rw[h1,if_pos (by show e≠0;omega)]
  rw[hg,if_pos (by show e≠0;omega)]at h
  dsimp only at h;omega
 ·by_cases c5:(2048:Int)<(n:Int)
  ·have hg:bgetS l lo 2048=(⟨#[]⟩,0,5):=by unfold bgetS;rw[h1,if_neg (by simp),if_pos (by dsimp only;omega)]
   rw[hg,if_pos (by decide)]at h
   exact absurd h (by decide)
  by_cases c2:(l.length:Int)-(p:Int)<(n:Int)
  ·have hg:bgetS l lo 2048=(⟨#[]⟩,0,2):=by unfold bgetS;rw[h1,if_neg (by simp),if_neg (by dsimp only;omega),if_pos c2]
   rw[hg,if_pos (by decide)]at h
   exact absurd h (by decide)
  have hg:bgetS l lo 2048=(strOfNums ((l.take (p+n)).drop p),((p+n:Nat):Int),0):=by
   unfold bgetS;rw[h1,if_neg (by simp),if_neg (by dsimp only;omega),if_neg c2];simp
  rw[hg,if_neg (by simp)]at h ⊢
  dsimp only at h ⊢
  have hq:((l.take (p+n)).drop p).length=n:=by rw[List.length_drop,List.length_take];omega
  have hqb: ∀x∈(l.take (p+n)).drop p,0≤x∧x<256:=fun x hx=>hb x (List.mem_of_mem_take (List.mem_of_mem_drop hx))
  have hsz:(strOfNums ((l.take (p+n)).drop p)).size=n:=by rw[strOfNums_size,hq]
  rw[hsz]at h ⊢
  by_cases c1:n=0
  ·rw[if_pos c1]at h;exact absurd h (by decide)
  rw[if_neg c1]at h ⊢
  by_cases c3:(l.length:Int)-((p+n:Nat):Int)<4
  ·rw[if_pos c3]at h;exact absurd h (by decide)
  rw[if_neg c3,Int.toNat_natCast]at h ⊢
  obtain⟨m,hm⟩: ∃m:Nat,lo+m=p+n:=⟨p+n-lo,by omega⟩
  rw[show((p+n:Nat):Int)-(lo:Int)=(m:Int)by omega]at h ⊢
  cases hw:wholeB (l.drop lo) (m:Int)with
  |false=>rw[hw,if_pos rfl]at h;exact absurd h (by decide)
  | true=>
   rw[if_neg (by simp)]
   dsimp only
   have hdb: ∀x∈l.drop lo,0≤x∧x<256:=fun x hx=>hb x (List.mem_of_mem_drop hx)
   have hi:=(wholeB_iff (l.drop lo) hdb m (by rw[List.length_drop];omega)).1 hw
   rw[bytesOf_str _ hqb]
   refine⟨lo,p+n+4,rfl,by omega,by omega,by omega,⟨by omega,by omega,hqb⟩, ?_⟩
   have hbl:blob (strOfNums ((l.take (p+n)).drop p))=(l.drop lo).take m:=by
    unfold blob
    rw[hsz,bytesOf_str _ hqb,←h5]
    have e1:(l.take p).drop lo=((l.drop lo).take m).take (p-lo):=by rw[List.take_take,Nat.min_eq_left (by omega),List.drop_take]
    have e2:(l.take (p+n)).drop p=((l.drop lo).take m).drop (p-lo):=by
     rw[show(l.drop lo).take m=(l.take (p+n)).drop lo by rw[List.drop_take];congr 1;omega,List.drop_drop]
     congr 1;omega
    rw[e1,e2,List.take_append_drop]
   unfold frameL
   rw[hbl,hi]
   have e3:(l.drop lo).take m++((l.drop lo).take (m+4)).drop m=(l.drop lo).take (m+4):=by
    conv=>rhs;rw[←List.take_append_drop m ((l.drop lo).take (m+4)),List.take_take,Nat.min_eq_left (by omega)]
   rw[e3]
   have e4:(l.drop lo).take (m+4)=(l.take (p+n+4)).drop lo:=by rw[List.drop_take];congr 1;omega
   rw[e4]
   conv=>lhs;rw[←List.take_append_drop lo (l.take (p+n+4)),List.take_take,Nat.min_eq_left (by omega)]
end
theorem frunS_items (l:List Int) (hb: ∀x∈l,0≤x∧x<256): ∀(k a:Nat),a≤l.length→∃ps:List (List Int),(∀p∈ps,PayC p)∧frunS k l (a:Int)=items a ps∧a+(frs ps).length≤l.length∧l.take (a+(frs ps).length)=l.take a++frs ps:=by
 intro k
 induction k with
 |zero=>intro a ha;exact⟨[],by simp,rfl,by simpa [frs]using ha,by simp[frs]⟩
 | succ k ih=>
  intro a ha
  rw[frunS]
  split
  ·rename_i h
   obtain⟨lo,n,hlo,hn,h1,h2,h3,h4⟩:=fget_just l hb a h
   obtain rfl:a=lo:=by omega
   obtain⟨ps,q1,q2,q3,q4⟩:=ih n h2
   have hs:n=a+(frameL (bytesOf (fgetS l (a:Int)).1)).length:=by
    have:=congrArg List.length h4
    rw[List.length_append,List.length_take,List.length_take]at this
    omega
   refine⟨bytesOf (fgetS l (a:Int)).1::ps,fun p hp=> ?_, ?_, ?_, ?_⟩
   ·rcases List.mem_cons.1 hp with rfl|hp
    ·exact h3
    ·exact q1 p hp
   ·rw[hn,items,q2,←hs,bytes_str]
   ·rw[frs_cons,List.length_append];omega
   ·rw[frs_cons,List.length_append,←Nat.add_assoc,←hs,q4,h4,List.append_assoc]
  ·exact⟨[],by simp,rfl,by simpa [frs]using ha,by simp[frs]⟩
theorem vers_back (l:List Int) (hb: ∀x∈l,0≤x∧x<256) (h:(versF l).2=0):8≤l.length∧(1≤(versF l).1∧(versF l).1≤3)∧l.take 8=headL (versF l).1:=by
 unfold versF at h ⊢
 by_cases h8:l.length<8
 ·rw[if_pos h8]at h;exact absurd h (by decide)
 rw[if_neg h8]at h ⊢
 cases ht:tphB l with
 |false=>rw[ht,if_pos rfl]at h;exact absurd h (by decide)
 | true=>
  rw[ht,if_neg (by simp)]at h
  rw[if_neg (by simp)]
  cases hw:wholeB l 4 with
  |false=>rw[hw,if_pos rfl]at h;exact absurd h (by decide)
  | true=>
   rw[hw,if_neg (by simp)]at h
   rw[if_neg (by simp)]
   by_cases hv:1≤rd l 3∧rd l 3≤3
   ·rw [if_neg (by simp[hv])]
    dsimp only
    refine⟨by omega,hv, ?_⟩
    have hi:=(wholeB_iff l hb 4 (by omega)).1 hw
    have h4:l.take 4=[84,80,72,rd l 3]:=by
     match l,h8,hb,ht with
     |a::b::c::d::m,_,hb,ht=>
      unfold tphB at ht
      simp only[strOfNums,List.take_succ_cons,List.take_zero,List.map_cons,List.map_nil,beq_iff_eq]at ht
      have ha:=hb a (by simp)
      have hb':=hb b (by simp)
      have hc:=hb c (by simp)
      have e:=congrArg (List.map UInt8.toNat) (show [UInt8.ofNat a.toNat,UInt8.ofNat b.toNat,UInt8.ofNat c.toNat]=[84,80,72] from by simpa using ht)
      simp at e
      simp[rd]
      omega
    have e8:l.take 8=l.take 4++(l.take (4+4)).drop 4:=by
     conv=>lhs;rw[←List.take_append_drop 4 (l.take 8),List.take_take,Nat.min_eq_left (by omega)]
    rw[e8,←hi,h4]
    rfl
   ·rw[if_pos (by simp[hv])]at h;exact absurd h (by decide)
theorem recsL_cod (v:Int) (ps:List (List Int)) (hps: ∀p∈ps,PayC p) (hn:ps.length≤2000): ∀(f:Nat) (T:List ByteArray) (a:Nat) (b:List Int),a≤ps.length→T.Nodup→(∀s∈T,s.size≤maxLen)→T.length≤18*a→
  ∃m:Nat,a≤m∧m≤ps.length∧(∀x∈recsL v ps f T (a:Int),GoodR v x.1∧∃n:Nat,x.2=(n:Int)∧a<n∧n≤m)∧(((recsL v ps f T (a:Int)).getLast?.map (·.2)).getD (a:Int)=(m:Int))∧codL v ((recsL v ps f T (a:Int)).map (·.1)) b T=(b++frs ((ps.take m).drop a),0):=by
 intro f
 induction f with
 |zero=>intro T a b ha _ _ _;exact⟨a,Nat.le_refl _,ha,by simp[recsL],by simp[recsL],by simp[recsL,codL,frs]⟩
 | succ f ih=>
  intro T a b ha hd hs hT
  rw[recsL]
  by_cases h:(getF v T ps a).2.2.2=0
  ·rw [if_pos h]
   have hfa:=getF_facts (v:=v) (T:=T) (ps:=ps) (at0:=(a:Int)) (by omega) hd hs (fun p hp=>⟨by have:=(hps p hp).2.1;omega,(hps p hp).2.2⟩)
   obtain⟨a',n,ha',hn',h1,h2,hput,hgood⟩:=hfa.2 h
   obtain rfl:a=a':=by omega
   obtain⟨n2,hn2,hlt,hle,hlen,_⟩:=getF_next h
   obtain rfl:n=n2:=by omega
   have hfit:=put_fit (v:=v) (T:=T) (r:=(getF v T ps (a:Int)).1) (by omega) hd hgood
   rw[hput]at hfit
   have hz: ∀s∈(getF v T ps (a:Int)).2.2.1,s.size≤maxLen:=fun s hsm=>by
    rcases hfit.z s hsm with h|h
    ·exact hs s h
    ·simp only[maxLen];omega
   rw[hn']
   obtain⟨m,q1,q2,q3,q4,q5⟩:=ih (getF v T ps (a:Int)).2.2.1 n (b++framesL ((ps.take n).drop a)) h2 hfit.nd hz (by have:=hfit.t;dsimp only at this;omega)
   refine⟨m,by omega,q2,fun x hx=> ?_, ?_, ?_⟩
   ·rcases List.mem_cons.1 hx with rfl|hx
    ·exact⟨hgood,n,rfl,by omega,q1⟩
    ·obtain⟨g1,k,g2,g3,g4⟩:=q3 x hx
     exact⟨g1,k,g2,by omega,g4⟩
   ·rw[List.getLast?_cons]
    cases hgl:(recsL v ps f (getF v T ps (a:Int)).2.2.1 (n:Int)).getLast? with
    |none=>rw[hgl]at q4;simpa using q4
    |some y=>rw[hgl]at q4;simpa using q4
   ·rw [List.map_cons,codL,hput,if_pos rfl,q5,List.append_assoc,←frs_is,←frs_append]
    congr 3
    have e:(ps.take m).drop a=((ps.take m).take n).drop a++(ps.take m).drop n:=by
     conv=>lhs;rw[←List.take_append_drop n (ps.take m)]
     rw[List.drop_append,List.length_take,List.length_take,show a-min n (min m ps.length)=0 by omega,List.drop_zero]
    rw[e,List.take_take,Nat.min_eq_left q1]
  ·rw[if_neg h]
   exact⟨a,Nat.le_refl _,ha,by simp,by simp,by simp[codL,frs]⟩
structure CodAny (l:List Int) (v:Int) (rs:List Rec9) (es:List Int) (g:Int):Prop where
 ver:1≤v∧v≤3
 good: ∀r∈rs,GoodR v r
 few:rs.length≤600
 n: ∃m:Nat,g=(m:Int)∧8≤m∧m≤l.length∧codF v rs=(l.take m,0)
theorem cod_any (l:List Int) (hb: ∀x∈l,0≤x∧x<256) (hl:l.length≤3000) (h:(codG l).2=0):CodAny l (codG l).1.1 (codG l).1.2.1 (codG l).1.2.2.1 (codG l).1.2.2.2:=by
 unfold codG at h ⊢
 by_cases hv:(versF l).2≠0
 ·rw[if_pos hv]at h;exact absurd h hv
 rw[if_neg hv]
 obtain⟨h8,hver,hh⟩:=vers_back l hb (by simpa using hv)
 obtain⟨v,hvv⟩:=eX ((versF l).1)
 rw[hvv]at hver hh ⊢
 obtain⟨ps,hp,hi,hle,hbytes⟩:=frunS_items l hb (l.length+1) 8 h8
 have hr8:runs l 8=items 8 ps:=hi
 have hfl:=(frsC_le ps hp).1
 rw[hr8]
 unfold fileG
 rw[items_map _ hp,items_len]
 dsimp only
 obtain⟨m,_,hm,hgood,hlast,hcod⟩:=recsL_cod v ps hp (by omega) (ps.length+1) [] 0 (headL v) (by omega) List.nodup_nil (by simp) (by simp)
 have hrl:(recsL v ps (ps.length+1) [] 0).length≤ps.length:=recsL_few v ps (ps.length+1) [] 0 (by omega) (by omega) ⟨by omega,by omega⟩
 have h0:((0:Nat):Int)=0:=rfl
 rw[h0]at hgood hlast hcod
 obtain⟨rs,hrs⟩:=eX (recsL v ps (ps.length+1) [] 0)
 rw[hrs]at hgood hlast hcod hrl ⊢
 rw[List.drop_zero]at hcod
 have hpm:(frs (ps.take m)).length≤(frs ps).length:=by
  conv=>rhs;rw[←List.take_append_drop m ps,frs_append,List.length_append]
  omega
 have htake:l.take (8+(frs (ps.take m)).length)=headL v++frs (ps.take m):=by
  have e:l.take (8+(frs (ps.take m)).length)=(l.take (8+(frs ps).length)).take (8+(frs (ps.take m)).length):=by rw[List.take_take,Nat.min_eq_left (by omega)]
  rw[e,hbytes,hh]
  have hl8:(headL v).length=8:=headL_len v
  rw[List.take_append,hl8,List.take_of_length_le (by omega),show 8+(frs (ps.take m)).length-8=(frs (ps.take m)).length by omega]
  congr 1
  conv=>lhs;rw[←List.take_append_drop m ps,frs_append]
  rw[List.take_append_drop,List.take_left]
 refine⟨hver,fun r hr=> ?_,by rw[List.length_map];omega,8+(frs (ps.take m)).length, ?_,by omega,by omega, ?_⟩
 ·obtain⟨x,hx,rfl⟩:=List.mem_map.1 hr
  exact(hgood x hx).1
 ·rw [List.getLast?_map]
  cases hgl:rs.getLast? with
  |none=>
   rw[hgl]at hlast
   have hm0:m=0:=by simp at hlast;omega
   subst hm0
   simp[frs]
  |some y=>
   rw[hgl]at hlast
   simp only[Option.map_some,Option.getD_some]at hlast ⊢
   obtain⟨_,n,hn,hn0,hnm⟩:=hgood y (List.mem_of_getLast? hgl)
   have hmn:m=n:=by omega
   have e1:ps[m-1]? =some (ps[m-1]'(by omega)):=List.getElem?_eq_getElem _
   have e2:=endsO_get ps (m-1) (by omega) 8
   rw[show m-1+1=m by omega]at e2
   have e3:=items_get ps 8 _ _ _ e1 e2
   rw[hn,Int.toNat_natCast,←hmn,List.getD_eq_getElem?_getD,e3]
   rfl
 ·unfold codF
  rw[if_pos hver,hcod,htake]
end Go.Proofs.YtfflenbfapgilaaGreat
namespace Go.Proofs.YtfflenbfapgilaaGreat
open Go.Proofs.YtfflenbfapgilaaGreat.GRR
theorem R_other {α:Type} {d:Kd α} {e base:Nat} {ok:Nat→Prop} {W W1:World} {u:Value} {xs:List α} (h:d.R e W base ok u xs) {row:Option Nat} (hg:W.grownBy W1 row) (hr: ∀k,row=some k→∃C t,W.heap[k]? =some (.cells C t (0,0))∧∀q,q∈e::d.E→q≠t):d.R e W1 base ok u xs:=
 Kd.R_mono (Kd.R_grown (R_not h row hr) hg (fun _ hk=>hk.2)) (fun _ hk=>hk.1)
theorem kp_belowB {B:Nat} {w w':World} {S:Nat→Prop} (h:Kp w w' S) (hB:B≤w.heap.size) (hs: ∀k,S k→B≤k):Below B w w':=⟨h.os,h.tape,h.output,h.size,fun k hk=>h.block k (by omega) (fun h'=>by have:=hs k h';omega)⟩
theorem E_str_rec: ∀q,q∈(9:Nat)::Kd.string.E→q≠49:=by
 intro q hq
 rw[show(9:Nat)::Kd.string.E=[9] from rfl]at hq
 revert q;decide
theorem E_str_int: ∀q,q∈(9:Nat)::Kd.string.E→q≠3:=by
 intro q hq
 rw[show(9:Nat)::Kd.string.E=[9] from rfl]at hq
 revert q;decide
theorem E_str_rf: ∀q,q∈(9:Nat)::Kd.string.E→q≠31:=by
 intro q hq
 rw[show(9:Nat)::Kd.string.E=[9] from rfl]at hq
 revert q;decide
theorem E_int_rf: ∀q,q∈(3:Nat)::(Kd.int .i64).E→q≠31:=by
 intro q hq
 rw[show(3:Nat)::(Kd.int .i64).E=[3] from rfl]at hq
 revert q;decide
theorem E_rec_rf: ∀q,q∈(49:Nat)::kdRec.E→q≠31:=by rw[E_rec];decide
theorem items_fst (ps:List (List Int)): ∀o,(items o ps).map (·.1)=ps.map strOfNums:=by
 induction ps with
 |nil=>intro o;rfl
 |cons p ps ih=>intro o;rw[items,List.map_cons,List.map_cons,ih]
theorem items_snd (ps:List (List Int)): ∀o,(items o ps).map (·.2)=endsO o ps:=by
 induction ps with
 |nil=>intro o;rfl
 |cons p ps ih=>intro o;rw[items,List.map_cons,endsO,ih]
theorem stF_fit (v:Int) (ps:List (List Int)) (hps: ∀p∈ps,PayC p) (hn:ps.length≤2000): ∀i,i≤(recsL v ps (ps.length+1) [] 0).length→
  (stF v ps i ([],0)).1.Nodup∧(∀s∈(stF v ps i ([],0)).1,s.size≤maxLen)∧(stF v ps i ([],0)).1.length≤18*i∧(i:Int)≤(stF v ps i ([],0)).2∧(stF v ps i ([],0)).2≤ps.length:=by
 intro i
 induction i with
 |zero=>intro _;refine⟨List.nodup_nil,by simp[stF],by simp[stF],by simp[stF],by simp[stF]⟩
 | succ i ih=>
  intro hi
  obtain⟨h1,h2,h3,h4,h5⟩:=ih (by omega)
  obtain⟨y,hy⟩: ∃y,(recsL v ps (ps.length+1) [] 0)[i]? =some y:=⟨_,List.getElem?_eq_getElem (by omega)⟩
  have he:=((recsL_at v ps (ps.length+1) [] 0 (by omega) (by omega) i (by omega)).1 y hy).1
  have hbd:=stF_bd v ps (ps.length+1) [] 0 (by omega) (by omega) ⟨by omega,by omega⟩ (i+1) hi
  have hfa:=getF_facts (v:=v) (T:=(stF v ps i ([],0)).1) (ps:=ps) (at0:=(stF v ps i ([],0)).2) (by omega) h1 h2 (fun p hp=>⟨by have:=(hps p hp).2.1;omega,(hps p hp).2.2⟩)
  obtain⟨a,n,_,_,_,_,hput,hgood⟩:=hfa.2 he
  have hfit:=put_fit (v:=v) (T:=(stF v ps i ([],0)).1) (r:=(getF v (stF v ps i ([],0)).1 ps (stF v ps i ([],0)).2).1) (by omega) h1 hgood
  rw[hput]at hfit
  rw[stF_succ]at hbd ⊢
  dsimp only at hbd ⊢
  refine⟨hfit.nd,fun s hs=> ?_, ?_, ?_,hbd.2.2⟩
  ·rcases hfit.z s hs with h|h
   ·exact h2 s h
   ·simp only[maxLen];omega
  ·have:=hfit.t;dsimp only at this;omega
  ·have:=hbd.2.1;omega
structure RGo (w4 X:World) (fb B:Nat) (v:Int) (T:List ByteArray) (u:Value) (rs:List Rec9) (es:List Int) (gd:Int):Prop where
 kp:Kp w4 X (fun k=>k=fb)
 tab:Kd.R Kd.string 9 X B (fun _=>True) u T
 fl: ∃vr ve,X.heap[fb]? =some (.cells #[.int .i64 v,vr,ve,.int .i64 gd] 31 (0,0))∧Kd.R kdRec 49 X w4.heap.size (fun _=>True) vr rs∧Kd.R (Kd.int .i64) 3 X w4.heap.size (fun _=>True) ve es
theorem RGo.below {w4 X X':World} {fb B:Nat} {v:Int} {T:List ByteArray} {u:Value} {rs:List Rec9} {es:List Int} {gd:Int} (h:RGo w4 X fb B v T u rs es gd) (hb:Below X.heap.size X X'):RGo w4 X' fb B v T u rs es gd:=by
 obtain⟨vr,ve,h1,h2,h3⟩:=h.fl
 exact⟨h.kp.below hb,Kd.R_below h.tab hb,vr,ve,blk_below h1 hb,Kd.R_below h2 hb,Kd.R_below h3 hb⟩
theorem RGo.put {w4 X:World} {fb B:Nat} {v:Int} {T:List ByteArray} {u:Value} {rs:List Rec9} {es:List Int} {gd:Int} (h:RGo w4 X fb B v T u rs es gd) (i:Nat) (x:Value) {vr' ve':Value} {rs':List Rec9} {es':List Int} {gd':Int}
  (hb:(X.setCell ⟨fb,i,none⟩ x).heap[fb]? =some (.cells #[.int .i64 v,vr',ve', .int .i64 gd'] 31 (0,0))) (hr:Kd.R kdRec 49 X w4.heap.size (fun _=>True) vr' rs') (he:Kd.R (Kd.int .i64) 3 X w4.heap.size (fun _=>True) ve' es'):RGo w4 (X.setCell ⟨fb,i,none⟩ x) fb B v T u rs' es' gd':=by
 obtain⟨vr,ve,h1,h2,h3⟩:=h.fl
 have hg:X.grownBy (X.setCell ⟨fb,i,none⟩ x) (some fb):=grownBy_cell X fb i x
 have hrow: ∀k,some fb=some k→∃C t,X.heap[k]? =some (.cells C t (0,0))∧t=31:=fun k e=>by cases e;exact⟨_,_,h1,rfl⟩
 refine⟨h.kp.setCell (.inl rfl) _,R_other h.tab hg (fun k e=> ?_),vr',ve',hb,R_other hr hg (fun k e=> ?_),R_other he hg (fun k e=> ?_)⟩
 ·obtain⟨C,t,hC,rfl⟩:=hrow k e;exact⟨C,_,hC,E_str_rf⟩
 ·obtain⟨C,t,hC,rfl⟩:=hrow k e;exact⟨C,_,hC,E_rec_rf⟩
 ·obtain⟨C,t,hC,rfl⟩:=hrow k e;exact⟨C,_,hC,E_int_rf⟩
section
variable (Sz B fb:Nat) (v z gd:Int) (vr ve va:Value) (nx mx:Int) (ad:Addr) (es:List Int) (okE:Nat→Prop) (Rest:World→Prop)
def VE:Nat→Value→World→Prop
 | 0,u,_=>u= .pointer (some ⟨fb,2,none⟩)
 | 1,u,_=>u=ve
 | 2,u,_=>u=va
 | 3,u,_=>u= .int .i64 nx
 | 4,u,_=>u= .int .i64 mx
 | 5,u,_=>u= .pointer (some ad)
 | 6,u,_=>u= .int .i64 z
 | 7,u,X=>∃b,u= .slice (some ⟨b,0,none⟩) 1 1∧Sz≤b∧X.heap[b]? =some (.cells #[.int .i64 z] 3 (0,0))
 | 8,u,X=>Kd.R (Kd.int .i64) 3 X B okE u (es++[z])
 | 9,u,_=>u= .pointer (some ⟨fb,2,none⟩)
 |_,_,_=>True
def BoxE (X:World):Prop:=X.heap[fb]? =some (.cells #[.int .i64 v,vr,ve,.int .i64 gd] 31 (0,0))
def FE:Nat→World→Prop
 | 10,X=>(∃ve',X.heap[fb]? =some (.cells #[.int .i64 v,vr,ve', .int .i64 gd] 31 (0,0))∧Kd.R (Kd.int .i64) 3 X B okE ve' (es++[z]))∧Rest X
 |_,_=>True
def GE:Nat→World→Prop
 | 1,X=>BoxE fb v gd vr ve X
 | 6,X=>X.cell? ad=some (.int .i64 z)
 | 8,X=>Kd.R (Kd.int .i64) 3 X B okE ve es
 | 10,X=>BoxE fb v gd vr ve X∧Rest X
 |_,_=>True
end
def rowE (r8:Option Nat) (fb:Nat) (i:Nat):Option Nat:=match i with| 8=>r8| 10=>some fb|_=>none
theorem rowE_ne {r8:Option Nat} {fb:Nat} (i k:Nat) (h8:i≠8∨some k≠r8) (h10:i≠10∨k≠fb):some k≠rowE r8 fb i:=by
 unfold rowE
 split
 ·exact h8.resolve_left (by omega)
 ·intro e;cases e;exact(h10.resolve_left (by omega)) rfl
 ·intro e;cases e
theorem rcget_ok (l:List Int) (hb: ∀x∈l,0≤x∧x<256) (hl:l.length≤3000) (v:Int) (hv:versF l=(v,0)) (W:World):
  Calls Tryz.prog 6 #[.string (strOfNums l)] W (CGetPost W ((v,fileG v (runs l 8)),0)):=by
 have hvb:=vers_back l hb (by rw[hv])
 rw[hv]at hvb
 obtain⟨h8,hver,_⟩:=hvb
 obtain⟨ps,hp,hi8,hle,_⟩:=frunS_items l hb (l.length+1) 8 h8
 have hr8:runs l 8=items 8 ps:=hi8
 have hpl:=(frsC_le ps hp).1
 have hvs:=fun W=>rversH_any l hb (by omega) W
 rw[hv]at hvs
 have HVS:=hQ hvs
 clear hvs
 have hrn:=fun W=>rfrunH_any l hb (by omega) 8 ⟨by omega,by omega⟩ W
 rw[hr8,items_fst,items_snd]at hrn
 have HRN:=hQ hrn
 have hfile:fileG v (runs l 8)=(let rs:=recsL v ps (ps.length+1) [] 0;let es:=rs.map fun x=>((items 8 ps).getD (x.2.toNat-1) (⟨#[]⟩,0)).2;(rs.map (·.1),es,es.getLast?.getD 8)):=by
  rw[hr8];unfold fileG;rw[items_map _ hp,items_len]
 rw[hfile]
 dsimp only
 have HAT:=hQ (recsL_at v ps (ps.length+1) [] 0 (by omega) (by omega))
 have HFIT:=hQ (stF_fit v ps hp (by omega))
 have hgn:=fun T a (h:(getF v T ps a).2.2.2=0)=>getF_next h
 have HGN:=hQ hgn
 have HRGET:=hQ (fun(W:World) A c T hC hc hT hd hs B d hP hdd a=>rget_any W v A c T hC hc hT hd hs B d ps hP hdd (fun p hp'=>⟨by have:=(hp p hp').2.1;omega,(hp p hp').2.2⟩) (by omega) a)
 have hps2000:ps.length≤500:=by omega
 obtain⟨rs,hrs⟩:=eX (recsL v ps (ps.length+1) [] 0)
 obtain⟨es,hes⟩: ∃x,(rs.map fun x=>((items 8 ps).getD (x.2.toNat-1) (⟨#[]⟩,0)).2)=x:=⟨_,rfl⟩
 rw[hrs]at HAT HFIT ⊢
 rw[hes]
 have HES:Hid (∀(i:Nat) (y:Rec9×Int),rs[i]? =some y→∀n:Nat,y.2=(n:Int)→1≤n→n≤ps.length→es[i]? =some (rd (endsO 8 ps) ((n:Int)-1))):=hQ (fun i y hy n hn h1 h2=>by
  rw[←hes,List.getElem?_map,hy,Option.map_some,hn,Int.toNat_natCast]
  have e1:ps[n-1]? =some (ps[n-1]'(by omega)):=List.getElem?_eq_getElem _
  have e2:=endsO_get ps (n-1) (by omega) 8
  have e3:=items_get ps 8 _ _ _ e1 e2
  rw[List.getD_eq_getElem?_getD,e3]
  congr 1
  unfold rd
  rw[show((n:Int)-1).toNat=n-1 by omega,List.getD_eq_getElem?_getD,e2]
  rfl)
 have HLEN:Hid (es.length=rs.length):=hQ (by rw[←hes,List.length_map])
 obtain⟨en,hen⟩:=eX (endsO 8 ps)
 have hel:en.length=ps.length:=by rw[←hen,endsO_len]
 rw[hen]at HRN HES
 obtain⟨s,hs⟩:=eX (strOfNums l)
 rw[hs]at HVS HRN ⊢
 have HEL:=hQ hel
 have HVER:=hQ hver
 clear hrn hfile hr8 hi8 hle hp hb hv h8 hpl hrs hes hen hs hgn hl hel hver
 obtain⟨W1,hW1⟩:=eX (W.alloc (.cells #[.int .i64 0,.slice none 0 0,.slice none 0 0,.int .i64 0] 31))
 have hb1:Below W.heap.size W W1:=by rw[←hW1];exact(Below.refl _ _).alloc (Nat.le_refl _) _
 have hk1:W1.heap[W.heap.size]? =some (.cells #[.int .i64 0,.slice none 0 0,.slice none 0 0,.int .i64 0] 31 (0,0)):=by rw[←hW1];exact heap_new _ _
 have hs1:W1.heap.size=W.heap.size+1:=by rw[←hW1,heap_size_alloc]
 obtain⟨b2,hb2⟩:=eX (W.heap.size)
 rw[hb2]at hk1 hs1
 have HB1:=hQ hb1
 have HK1:=hQ hk1
 have HW1:=hQ hW1
 have HB2:=hQ hb2
 have HS1:=hQ hs1
 have HUF:=hQ Tryz.underlying31
 clear hb1 hk1 hW1 hb2 hs1
 go_enter Tryz.func6,Tryz.ntmps6
 go_wp2_with fail
 rw[HW1.out,HB2.out]
 refine(HVS.out _).mono ?_
 rintro e w2 ⟨rfl,hbv⟩
 have HBV:=hQ hbv
 clear hbv HVS
 obtain⟨w3,hw3⟩:=eX (w2.alloc (.cells #[.int .i64 v,.slice none 0 0,.slice none 0 0,.int .i64 8] 31))
 have hb3:Below w2.heap.size w2 w3:=by rw[←hw3];exact(Below.refl _ _).alloc (Nat.le_refl _) _
 have hk3:w3.heap[w2.heap.size]? =some (.cells #[.int .i64 v,.slice none 0 0,.slice none 0 0,.int .i64 8] 31 (0,0)):=by rw[←hw3];exact heap_new _ _
 have hs3:w3.heap.size=w2.heap.size+1:=by rw[←hw3,heap_size_alloc]
 have hs2:b2+1≤w2.heap.size:=by have:=HBV.out.size;have:=HS1.out;omega
 obtain⟨fb,hfb⟩:=eX (w2.heap.size)
 rw[hfb]at hk3 hs3 hs2
 have HB3:=hQ (HBV.out.trans (hb3.mono HBV.out.size))
 have HK3:=hQ hk3
 have HW3:=hQ hw3
 have HFBE:=hQ hfb
 have HS3:=hQ (And.intro hs3 hs2)
 clear hb3 hk3 hw3 hfb hs3 hs2
 go_wp2_with fail
 rw[HW3.out,HFBE.out]
 refine(HRN.out _).mono ?_
 rintro e w4a ⟨va7,va8,rfl,hR7,hR8,hb4⟩
 obtain⟨A7,c7,rfl⟩:=Kd.R_slice hR7
 obtain⟨A8,c8,rfl⟩:=Kd.R_slice hR8
 have hml:(ps.map strOfNums).length=ps.length:=List.length_map ..
 obtain⟨w4,hw4⟩:=eX (w4a.alloc (.cells #[] 9))
 have hb4b:Below w4a.heap.size w4a w4:=by rw[←hw4];exact(Below.refl _ _).alloc (Nat.le_refl _) _
 have hb4c:=hb4.trans (hb4b.mono hb4.size)
 have HK4:=hQ (blk_below HK3.out hb4c)
 have HK2:=hQ (blk_below (blk_below HK1.out HB3.out) hb4c)
 have HB4:=hQ (HB1.out.trans ((HB3.out.trans (hb4c.mono HB3.out.size)).mono HB1.out.size))
 have HFB:Hid (fb<w4.heap.size):=hQ (by have:=HS3.out.1;have:=hb4c.size;omega)
 have HFB2:Hid (b2<fb):=hQ (by have:=HS3.out.2;omega)
 have h70:=Kd.R_below hR7 hb4b
 have h80:=Kd.R_below hR8 hb4b
 have hkt7:=Kd.R_types h70 HK4.out E_str_rf
 have hkt8:=Kd.R_types h80 HK4.out E_int_rf
 have HP7:=hQ (fun(X:World) (hk:Kp w4 X (fun k=>k=fb))=>Kd.R_reads' (Kd.R_step hkt7 (fun k hk1 hk2=>hk.block k hk2 hk1.2)))
 have HP8:=hQ (fun(X:World) (hk:Kp w4 X (fun k=>k=fb))=>Kd.R_reads' (Kd.R_step hkt8 (fun k hk1 hk2=>hk.block k hk2 hk1.2)))
 have HOW8:=hQ (own_typed_R hkt8)
 have hRG0:RGo w4 w4 fb W.heap.size v [] (.slice (some ⟨w4a.heap.size,0,none⟩) 0 0) [] [] 8:=
  ⟨Kp.refl _ _,R_block_str _ _ w4a.heap.size _ [] _ (by rw[←hw4];exact heap_new _ _) (by have:=HB3.out.size;have:=HB1.out.size;have:=hb4.size;omega) (by simp[maxLen]) trivial,_,_,HK4.out,Kd.R_nil _ _ _ _ _,Kd.R_nil _ _ _ _ _⟩
 have HRG0:=hQ hRG0
 have HW4:=hQ hw4
 clear hR7 hR8 hb4 hb4b hb4c h70 h80 hkt7 hkt8 hRG0 hw4 HRN HK3 HK1 HB3 HBV HS3 HS1
 rw[hml]
 rw[hml]at HP7
 go_wp2_with fail
 rw[HW4.out]
 obtain⟨B,hBB⟩:=eX (W.heap.size)
 go_loopw [9,10] (fun u9 u10 wr=>∃(i:Nat) (T:List ByteArray),i≤rs.length∧u10= .int .i64 (stF v ps i ([],0)).2∧Hid (RGo w4 wr fb W.heap.size v T u9 ((rs.map (·.1)).take i) (es.take i) (((es.take i).getLast?).getD 8))∧Hid ((stF v ps i ([],0)).1=T)) (fun _ u _=>((ps.length:Int)+1-intOf u).toNat)
 case atStart=>exact⟨0,[],by omega,rfl,HRG0,hQ rfl⟩
 case round=>
  clear HRG0
  obtain⟨i,T,hi,rfl,HRG,HT⟩:=hrel
  obtain⟨hnd,hsz,htl,hat0,hatl⟩:=HFIT.out i hi
  have hATi:=HAT.out i hi
  have hst:=stF_succ v ps i ([],0)
  obtain⟨at0,hAt⟩:=eX ((stF v ps i ([],0)).2)
  rw[HT.out]at hnd hsz htl hATi hst
  rw[hAt]at hat0 hatl hATi hst ⊢
  obtain⟨A9,c9,hu9⟩:=Kd.R_slice HRG.out.tab
  subst hu9
  have hr9:=Kd.R_reads' HRG.out.tab
  have hp7:=HP7.out wr HRG.out.kp
  have hGT:=HRGET.out wr A9 c9 T hr9.2.2 hr9.2.1 (by omega) hnd hsz A7 c7 hp7.2.2 hp7.2.1 at0
  have hgn2:=HGN.out T at0
  generalize getF v T ps at0=F at hGT hATi hgn2 hst
  obtain⟨⟨k0,x1,x2,ds,x4,x5,x6⟩,nx,T',er⟩:=F
  dsimp only at hATi hgn2 hst
  have HGT:=hQ hGT
  have HATI:=hQ hATi
  have HGN2:=hQ hgn2
  have HST:=hQ hst
  have HAT1:=hQ hat0
  clear hAt hATi hgn2 hst hGT hnd hsz htl hr9 hp7 hat0
  go_wp2_with fail
  refine HGT.out.mono ?_
  rintro e wb ⟨dv,A',c',rfl,hRd,hc',hCT,hbb,hor⟩
  dsimp only at hRd hc' hCT hor ⊢
  obtain⟨Ad,cd,rfl⟩:=Kd.R_slice hRd
  have hw4:W.heap.size≤wr.heap.size:=Nat.le_trans HB4.out.size HRG.out.kp.size
  have hRT:Kd.R Kd.string 9 wb W.heap.size (fun _=>True) (.slice A' T'.length c') T':=by
   rcases hor with⟨rfl,rfl,rfl⟩|h
   ·exact Kd.R_below HRG.out.tab hbb
   ·exact Kd.R_lower h hw4
  obtain⟨wq,hwq⟩:=eX (wb.alloc (.cells #[.int .i64 k0,.string x1,.int .u64 x2,.slice Ad ds.length cd,.int .u64 x4,.int .u64 x5,.string x6] 49))
  have hbq:Below wb.heap.size wb wq:=by rw[←hwq];exact(Below.refl _ _).alloc (Nat.le_refl _) _
  have hkq:wq.heap[wb.heap.size]? =some (.cells #[.int .i64 k0,.string x1,.int .u64 x2,.slice Ad ds.length cd,.int .u64 x4,.int .u64 x5,.string x6] 49 (0,0)):=by rw[←hwq];exact heap_new _ _
  obtain⟨rb,hrb⟩:=eX (wb.heap.size)
  rw[hrb]at hkq
  have hGq:=(HRG.out.below hbb).below hbq
  have HRGq:Hid (RGo w4 wq fb W.heap.size v T' (.slice A' T'.length c') ((rs.map (·.1)).take i) (es.take i) (((es.take i).getLast?).getD 8)):=hQ ⟨hGq.kp,Kd.R_below hRT hbq,hGq.fl⟩
  have HRDq:=hQ (Kd.R_lower (Kd.R_below hRd hbq) HRG.out.kp.size)
  have HKQ:=hQ hkq
  have HWQ:=hQ hwq
  have HRB:=hQ hrb
  clear hRd hc' hCT hor hbb hw4 hRT hbq hkq hGq hwq hrb HGT HRG
  obtain⟨rsi,hrsi⟩:=eX ((rs.map (·.1)).take i)
  obtain⟨esi,hesi⟩:=eX (es.take i)
  obtain⟨gd,hgd⟩:=eX ((esi.getLast?).getD 8)
  rw[hrsi,hesi,hgd]at HRGq
  have HRSI:=hQ hrsi
  have HESI:=hQ hesi
  have HGD:=hQ hgd
  clear hrsi hesi hgd
  by_cases he:er=0
  ·subst he
   obtain ⟨y,hy⟩: ∃y,rs[i]? =some y:=by
    cases h:rs[i]? with
    |none=>exact absurd rfl (HATI.out.2 h)
    |some y=>exact⟨y,rfl⟩
   obtain⟨_,hyy⟩:=HATI.out.1 y hy
   subst hyy
   obtain⟨n,rfl,hn1,hn2,_⟩:=HGN2.out rfl
   obtain⟨m,rfl⟩: ∃m,n=m+1:=⟨n-1,by have:=HAT1.out;omega⟩
   have hesn:=HES.out i _ hy (m+1) rfl (by omega) hn2
   obtain⟨z,hz⟩:=eX (rd en (((m+1:Nat):Int)-1))
   rw[hz]at hesn
   have hme:m<en.length:=by rw[HEL.out];omega
   have h8k:=HP8.out wq HRGq.out.kp
   obtain⟨ad8,hA8,_⟩:=Kd.at_int h8k.2.2 (m:Int) (by omega) (by omega)
   subst hA8
   have HZF:Hid (∀X,Kp w4 X (fun k=>k=fb)→X.cell? (ad8.add m)=some (.int .i64 z)):=hQ (fun X hk=>by
    obtain⟨ad,e,hc⟩:=Kd.at_int (HP8.out X hk).2.2 (m:Int) (by omega) (by omega)
    cases e
    rw[Int.toNat_natCast]at hc
    rw[hc,←hz]
    congr 3
    omega)
   have HAD:Hid (ad8.block<w4.heap.size∧ad8.block≠fb):=hQ (by
    obtain⟨_,h2,C,hC⟩:=HOW8.out ad8.block rfl
    refine⟨h2,fun e=> ?_⟩
    rw[e,HK4.out]at hC
    injection hC with hC
    injection hC with _ h2 _
    exact absurd h2 (by decide))
   have HRSN:Hid ((rs.map (·.1)).take (i+1)=rsi++[(k0,x1,x2,ds,x4,x5,x6)]∧es.take (i+1)=esi++[z]∧((esi++[z]).getLast?).getD 8=z):=hQ ⟨by rw[List.take_add_one,HRSI.out,List.getElem?_map,hy];rfl,by rw[List.take_add_one,HESI.out,hesn];rfl,by simp⟩
   have hil:i<rs.length:=(List.getElem?_eq_some_iff.1 hy).1
   have HST2:Hid ((stF v ps (i+1) ([],0)).1=T'):=hQ (by rw[HST.out])
   have hwn:IntKind.i64.wrap (((m+1:Nat):Int)-1)=(m:Int):=by rw[IntWalk.i64_in _ (by omega)];omega
   have HWN:=hQ hwn
   have HWM:Hid (IntKind.i64.wrap (m:Int)=(m:Int)):=hQ (by rw[IntWalk.i64_in _ (by omega)])
   have HI1:=hQ hme
   have hbl:((rs.length):Nat)≤2700∧rsi.length≤2700∧esi.length≤2700:=by
    have h1:=(HFIT.out rs.length (Nat.le_refl _)).2.2.2
    refine⟨by omega, ?_, ?_⟩
    ·rw[←HRSI.out,List.length_take,List.length_map];omega
    ·rw[←HESI.out,List.length_take];omega
   obtain⟨vr,ve,hbx,hRr,hRe⟩:=HRGq.out.fl
   have HBXQ:=hQ hbx
   have HRR:=hQ hRr
   have HRE:=hQ hRe
   have c1:=bcl hbx 1 rfl
   rw[←HWQ.out]at c1
   clear hy hz hesn h8k hbx hRr hRe hwn
   go_wp2_with (at_builtin;refine Halt.mk ?_)
   rw[HWQ.out,HRB.out]
   clear c1
   refine Halt.of ?_
   obtain⟨w5,hw5⟩:=eX (wq.alloc (.cells #[.int .i64 k0,.string x1,.int .u64 x2,.slice Ad ds.length cd,.int .u64 x4,.int .u64 x5,.string x6] 49))
   have hb5:Below wq.heap.size wq w5:=by rw[←hw5];exact(Below.refl _ _).alloc (Nat.le_refl _) _
   have hzq:wq.heap.size=rb+1:=by rw[←HWQ.out,heap_size_alloc,HRB.out]
   have hk5:w5.heap[wq.heap.size]? =some (.cells #[.int .i64 k0,.string x1,.int .u64 x2,.slice Ad ds.length cd,.int .u64 x4,.int .u64 x5,.string x6] 49 (0,0)):=by rw[←hw5];exact heap_new _ _
   rw[hw5]
   rw[hzq]at hk5
   have hkz:w4.heap.size≤wq.heap.size:=HRGq.out.kp.size
   have hD5:=Kd.R_below HRDq.out hb5
   have tv:=own_typed_R HRR.out
   have hD6:=R_not hD5 vr.ownBlock (fun k hk=>by
    obtain⟨_,h2,C,hC⟩:=tv k hk
    exact⟨C,_,(hb5.block k h2).trans hC,E_dep_rec⟩)
   refine Kd.R_append_rows kdRec (w0:=w5) w4.heap.size rfl (.tmp 46) (.tmp 48) 24 49 (.agg #[.int .i64 0,.string ⟨#[]⟩,.int .u64 0,.slice none 0 0,.int .u64 0,.int .u64 0,.string ⟨#[]⟩]) 88 rfl Tryz.underlying24 info_rec9 rfl (by decide) (by decide) vr rsi [(k0,x1,x2,ds,x4,x5,x6)] _ _ _ (fun _=>True) (fun k=>True∧some k≠vr.ownBlock) rfl rfl (Kd.R_below HRR.out hb5) (row_one9 (r:=(k0,x1,x2,ds,x4,x5,x6)) hk5) ?_ (fun k hk=>hk) (fun _ _=>trivial) (Below.refl _ _) (by have:=hb5.size;omega) (by omega) ?_
   ·rintro _ _ ⟨rfl,rfl⟩
    exact kdRec_M _ hD6
   ·intro v7 w8 hO8 hB8 hg8 _
    have hG5:=HRGq.out.below hb5
    have hrow: ∀k,vr.ownBlock=some k→∃C,w5.heap[k]? =some (.cells C 49 (0,0))∧w4.heap.size≤k:=fun k hk=>by
     obtain⟨h1,h2,C,hC⟩:=tv k hk
     exact⟨C,(hb5.block k h2).trans hC,h1⟩
    have hbx5:=blk_below HBXQ.out hb5
    have hbx8:w8.heap[fb]? =some (.cells #[.int .i64 v,vr,ve,.int .i64 gd] 31 (0,0)):=(hg8.block fb (Array.getElem?_eq_some_iff.1 hbx5).1 (fun e=>by have:=(hrow fb e.symm).choose_spec.2;have:=HFB.out;omega)).trans hbx5
    have hT8:=R_other hG5.tab hg8 (fun k hk=>by obtain⟨C,hC,_⟩:=hrow k hk;exact⟨C,_,hC,E_str_rec⟩)
    have hE8:=R_other (Kd.R_below HRE.out hb5) hg8 (fun k hk=>by obtain⟨C,hC,_⟩:=hrow k hk;exact⟨C,_,hC,E_int_rec⟩)
    obtain⟨A17,c17,rfl⟩:=Kd.R_slice hO8
    have hk8:Kp w4 w8 (fun k=>k=fb):=hG5.kp.grown hg8 (fun k hk=> .inr (hrow k hk).choose_spec.2)
    obtain⟨n17,hn17⟩:=eX ((rsi++[(k0,x1,x2,ds,x4,x5,x6)]).length)
    rw[hn17]at hO8 ⊢
    obtain⟨v17,hv17⟩:=eX (Value.slice A17 n17 c17)
    rw[hv17]at hO8 ⊢
    have hrow8: ∀k,some fb=some k→∃C t,w8.heap[k]? =some (.cells C t (0,0))∧t=31:=fun k e=>by cases e;exact⟨_,_,hbx8,rfl⟩
    have hg1:w8.grownBy (w8.setCell ⟨fb,1,none⟩ v17) (some fb):=grownBy_cell w8 fb 1 v17
    have hput1:=blk_put (cs':=#[.int .i64 v,v17,ve,.int .i64 gd]) hbx8 1 v17 rfl
    have hG9:RGo w4 (w8.setCell ⟨fb,1,none⟩ v17) fb W.heap.size v T' (.slice A' T'.length c') (rsi++[(k0,x1,x2,ds,x4,x5,x6)]) esi gd:=by
     refine⟨hk8.setCell (.inl rfl) _,R_other hT8 hg1 (fun k e=> ?_),v17,ve,hput1,R_other hO8 hg1 (fun k e=> ?_),R_other hE8 hg1 (fun k e=> ?_)⟩
     ·obtain⟨C,t,hC,rfl⟩:=hrow8 k e;exact⟨C,_,hC,E_str_rf⟩
     ·obtain⟨C,t,hC,rfl⟩:=hrow8 k e;exact⟨C,_,hC,E_rec_rf⟩
     ·obtain⟨C,t,hC,rfl⟩:=hrow8 k e;exact⟨C,_,hC,E_int_rf⟩
    have c8:=bcl hbx8 1 rfl
    have f8:=blk_frozen hbx8 1
    have HG9:=hQ hG9
    subst hv17
    clear hO8 hB8 hg8 hG5 hrow hbx5 hbx8 hT8 hE8 hk8 hn17 hrow8 hg1 hput1 hG9 hb5 hk5 hkz hD5 tv hD6 hzq
    go_wp2_with fail
    clear c8 f8
    obtain⟨X2,hX2⟩:=eX (w8.setCell ⟨fb,1,none⟩ (.slice A17 n17 c17))
    rw[hX2]at HG9 ⊢
    have HRG2:=HG9
    have HZC:Hid (X2.cell? (ad8.add m)=some (.int .i64 z)):=hQ (HZF.out X2 HG9.out.kp)
    clear hX2
    have hRG2:=HRG2.out
    obtain⟨vr,ve,hbx,hRr,hRe⟩:=hRG2.fl
    have t8:=own_typed_R hRe
    have tr:=own_typed_R hRr
    obtain⟨okE,hokE⟩: ∃ok:Nat→Prop,ok=fun q=>q≠fb:=⟨_,rfl⟩
    have RE:Kd.R (Kd.int .i64) 3 X2 w4.heap.size okE ve esi:=Kd.R_mono (Kd.R_types hRe hbx E_int_rf) (fun q hq=>by rw[hokE];exact hq.2)
    obtain⟨row,hrow⟩: ∃row,row=rowE ve.ownBlock fb:=⟨_,rfl⟩
    have hfbl:fb<w4.heap.size:=HFB.out
    have hk4:w4.heap.size≤X2.heap.size:=hRG2.kp.size
    have hrowS: ∀i k,row i=some k→k<X2.heap.size:=by
     intro i k h
     rw[hrow]at h
     unfold rowE at h
     split at h
     ·exact(t8 k h).2.1
     ·cases h;omega
     ·cases h
    have hrowE: ∀i,i≠8→∀q,okE q→some q≠row i:=by
     intro i hi q hq
     rw[hokE]at hq
     rw[hrow]
     exact rowE_ne i q (.inl hi) (.inr hq)
    have hrowF: ∀i,i≠10→some fb≠row i:=by
     intro i hi
     rw[hrow]
     exact rowE_ne i fb (.inr (fun e=>by have:=(t8 _ e.symm).1;omega)) (.inl hi)
    have hfreshE: ∀q,X2.heap.size≤q→okE q:=by
     intro q hq
     rw[hokE]
     show q≠fb
     omega
    have hr8:row 8=ve.ownBlock:=by rw[hrow];rfl
    have hr10:row 10=some fb:=by rw[hrow];rfl
    have hfbX:fb≤X2.heap.size:=by omega
    obtain⟨had8,hadb⟩:=HAD.out
    have hadr: ∀i,some ad8.block≠row i:=by
     intro i
     rw[hrow]
     exact rowE_ne i _ (.inr (fun e=>by have:=(t8 _ e.symm).1;omega)) (.inr (fun e=>hadb e))
    have hbxd:X2.drew.heap[fb]? =some (.cells #[.int .i64 v,vr,ve,.int .i64 gd] 31 (0,0)):=hbx
    have hz6:X2.drew.cell? (ad8.add m)=some (.int .i64 z):=by simpa using HZC.out
    have hablk:(ad8.add m).block=ad8.block:=by unfold Addr.add;split<;>rfl
    refine wp_region_any (by kernel_rfl) ?_
    refine flow_any (n:=11) (base:=fb) (w0:=X2) (VE X2.heap.size w4.heap.size fb z ve (.slice (some ad8) en.length c8) ((m+1:Nat):Int) (m:Int) (ad8.add m) esi okE) (FE w4.heap.size fb v z gd vr esi okE (RestOf row X2)) (GE w4.heap.size fb v z gd vr ve (ad8.add m) esi okE (RestOf row X2)) row rfl (by kernel_rfl) (by kernel_rfl) ?hV ?hF ?hG ⟨rfl,rfl,rfl,Nat.le_refl _,fun _ _=>rfl⟩ ?hG0 (show AllLt 11 _ from ?hs) ?he
    case hV=>
     intro i j hi hj hij hw u Y Y' hB hg h
     unfold VE at h ⊢
     split at h
     ·exact h
     ·exact h
     ·exact h
     ·exact h
     ·exact h
     ·exact h
     ·exact h
     ·obtain⟨b,h1,h2,h3⟩:=h
      exact⟨b,h1,h2,(hg.block b (Array.getElem?_eq_some_iff.1 h3).1 (fun e=>by have:=hrowS i b e.symm;omega)).trans h3⟩
     ·exact Kd.R_grown h hg (hrowE i (by omega))
     ·exact h
     ·trivial
    case hF=>
     intro i j hi hj hij hw Y Y' hB hg h
     unfold FE at h ⊢
     split at h
     ·obtain⟨⟨ve',h1,h2⟩,h3⟩:=h
      have i8:i≠8:=(fun e=>by rw[e]at hw;exact Bool.noConfusion (hw.symm.trans (c:=true) (by kernel_rfl)))
      exact⟨⟨ve',(hg.block _ (Array.getElem?_eq_some_iff.1 h1).1 (hrowF i (by omega))).trans h1,Kd.R_grown h2 hg (hrowE i i8)⟩,RestOf.step h3 hB.size hg⟩
     ·trivial
    case hG=>
     intro i j hi hj hij hw Y Y' hB hg h
     have kbx:i≠10→BoxE fb v gd vr ve Y→BoxE fb v gd vr ve Y':=fun h10 h=>(hg.block _ (Array.getElem?_eq_some_iff.1 h).1 (hrowF i h10)).trans h
     unfold GE at h ⊢
     split at h
     ·exact kbx (fun e=>by rw[e]at hw;exact Bool.noConfusion (hw.symm.trans (c:=true) (by kernel_rfl))) h
     ·have hlt:=World.block_lt_of_cell? _ _ h
      have e1:=hg.block _ hlt (by rw[hablk];exact hadr i)
      have e2:Y'.cell? (ad8.add m)=Y.cell? (ad8.add m):=by unfold World.cell?;rw[e1]
      exact e2.trans h
     ·exact Kd.R_grown h hg (hrowE i (by omega))
     ·exact⟨kbx (by omega) h.1,RestOf.step h.2 hB.size hg⟩
     ·trivial
    case hG0=>
     intro i hi
     unfold GE
     split
     ·exact hbxd
     ·exact hz6
     ·exact Kd.R_drew RE
     ·exact⟨hbxd,fun q _ _=>rfl⟩
     ·trivial
    case hs=>
     refine allLt_succ (allLt_succ (allLt_succ (allLt_succ (allLt_succ (allLt_succ (allLt_succ (allLt_succ (allLt_succ (allLt_succ (allLt_succ (allLt_zero _) ?s0) ?s1) ?s2) ?s3) ?s4) ?s5) ?s6) ?s7) ?s8) ?s9) ?s10
     case s0=>
      refine StepFlow.run rfl rfl fun a Y hS2 hB hd hG=> ?_
      have e6:a.tmps[6]? =some (.pointer (some ⟨fb,0,none⟩)):=hS2.get rfl rfl
      exact wpF (c:= .pointer (some ⟨fb,2,none⟩)) (W':=Y) (by go_simp) rfl trivial (World.grownBy.refl _ _) hB
     case s1=>
      refine StepFlow.run rfl rfl fun a Y hS2 hB hd hG=> ?_
      obtain⟨u,e51,hu⟩:=(hd 0 (by kernel_rfl)).1.get rfl rfl
      obtain rfl:u= .pointer (some ⟨fb,2,none⟩):=hu
      have hG':Y.heap[fb]? =some (.cells #[.int .i64 v,vr,ve,.int .i64 gd] 31 (0,0)):=hG
      have hcell:=bcl hG' 2 rfl
      exact wpF (c:=ve) (W':=Y) (by go_simp) rfl trivial (World.grownBy.refl _ _) hB
     case s2=>
      refine StepFlow.run rfl rfl fun a Y hS2 hB hd hG=> ?_
      have e8:a.tmps[8]? =some (.slice (some ad8) en.length c8):=hS2.get rfl rfl
      exact wpF (c:= .slice (some ad8) en.length c8) (W':=Y) (by go_simp) rfl trivial (World.grownBy.refl _ _) hB
     case s3=>
      refine StepFlow.run rfl rfl fun a Y hS2 hB hd hG=> ?_
      have e12:a.tmps[12]? =some (.int .i64 ((m+1:Nat):Int)):=hS2.get rfl rfl
      exact wpF (c:= .int .i64 ((m+1:Nat):Int)) (W':=Y) (by go_simp) rfl trivial (World.grownBy.refl _ _) hB
     case s4=>
      refine StepFlow.run rfl rfl fun a Y hS2 hB hd hG=> ?_
      obtain⟨u,e54,hu⟩:=(hd 3 (by kernel_rfl)).1.get rfl rfl
      obtain rfl:u= .int .i64 ((m+1:Nat):Int):=hu
      have hwn:=HWN.out
      have hwm:=HWM.out
      exact wpF (c:= .int .i64 (m:Int)) (W':=Y) (by go_simp) rfl trivial (World.grownBy.refl _ _) hB
     case s5=>
      refine StepFlow.run rfl rfl fun a Y hS2 hB hd hG=> ?_
      obtain⟨u,e53,hu⟩:=(hd 2 (by kernel_rfl)).1.get rfl rfl
      obtain rfl:u= .slice (some ad8) en.length c8:=hu
      obtain⟨u2,e55,hu2⟩:=(hd 4 (by kernel_rfl)).1.get rfl rfl
      obtain rfl:u2= .int .i64 (m:Int):=hu2
      have hi1:=HI1.out
      exact wpF (c:= .pointer (some (ad8.add m))) (W':=Y) (by go_simp) rfl trivial (World.grownBy.refl _ _) hB
     case s6=>
      refine StepFlow.run rfl rfl fun a Y hS2 hB hd hG=> ?_
      obtain⟨u,e56,hu⟩:=(hd 5 (by kernel_rfl)).1.get rfl rfl
      obtain rfl:u= .pointer (some (ad8.add m)):=hu
      have hG':Y.cell? (ad8.add m)=some (.int .i64 z):=hG
      exact wpF (c:= .int .i64 z) (W':=Y) (by go_simp) rfl trivial (World.grownBy.refl _ _) hB
     case s7=>
      refine StepFlow.run rfl rfl fun a Y hS2 hB hd hG=> ?_
      obtain⟨u,e57,hu⟩:=(hd 6 (by kernel_rfl)).1.get rfl rfl
      obtain rfl:u= .int .i64 z:=hu
      exact wpF (c:= .slice (some ⟨Y.heap.size,0,none⟩) 1 1) (W':=Y.alloc (.cells #[.int .i64 z] 3)) (by go_simp) ⟨_,rfl,hB.size,blk_new _ _⟩ trivial (World.grownBy_alloc _ _ _) (hB.alloc (by have:=hB.size;omega) _)
     case s8=>
      refine StepFlow.run rfl rfl fun a Y hS2 hB hd hG=> ?_
      obtain⟨u,e52,hu⟩:=(hd 1 (by kernel_rfl)).1.get rfl rfl
      obtain rfl:u=ve:=hu
      obtain⟨u2,e58,b,hu2,hb2,hb3⟩:=(hd 7 (by kernel_rfl)).1.get rfl rfl
      subst hu2
      exact wpF_append (ops:=#[]) (Kd.int .i64) w4.heap.size (.tmp 52) (.tmp 58) 25 3 (.int .i64 0) 8 rfl Tryz.underlying25 info_i64 rfl (by decide) (by decide) u esi z [.int .i64 z] b (0,0) okE (fun _=>False) (by simp[Act.eval,e52]) (by simp[Act.eval,e58]) hb3 rfl (fun _ h=>h.elim)
       (fun q hq=>by have:=hB.size;exact hfreshE q (by omega)) hG (by have:=hB.size;omega) (by omega) hB (by omega) hr8 (fun v1 w1 g1 g2=>⟨g1,trivial⟩)
     case s9=>
      refine StepFlow.run rfl rfl fun a Y hS2 hB hd hG=> ?_
      have e6:a.tmps[6]? =some (.pointer (some ⟨fb,0,none⟩)):=hS2.get rfl rfl
      exact wpF (c:= .pointer (some ⟨fb,2,none⟩)) (W':=Y) (by go_simp) rfl trivial (World.grownBy.refl _ _) hB
     case s10=>
      refine StepFlow.run rfl rfl fun a Y hS2 hB hd hG=> ?_
      obtain⟨u,e59,hu⟩:=(hd 8 (by kernel_rfl)).1.get rfl rfl
      obtain⟨u2,e60,hu2⟩:=(hd 9 (by kernel_rfl)).1.get rfl rfl
      obtain rfl:u2= .pointer (some ⟨fb,2,none⟩):=hu2
      have hbx2:Y.heap[fb]? =some (.cells #[.int .i64 v,vr,ve,.int .i64 gd] 31 (0,0)):=hG.1
      have hcell:=bcl hbx2 2 rfl
      have hfz:=blk_frozen hbx2 2
      have hu':Kd.R (Kd.int .i64) 3 Y w4.heap.size okE u (esi++[z]):=hu
      obtain⟨Au,cu,rfl⟩:=Kd.R_slice hu'
      have hRest:RestOf row X2 Y:=hG.2
      have hg10:=fun u=>(hr10 ▸ grownBy_cell Y fb 2 u:Y.grownBy (Y.setCell ⟨fb,2,none⟩ u) (row 10))
      refine wpF_skip (W':=Y.setCell ⟨fb,2,none⟩ _) (by go_simp) rfl ⟨⟨_,blk_put (cs':=#[.int .i64 v,vr,_,.int .i64 gd]) hbx2 2 _ rfl,Kd.R_far hu' (fun q hq=>by rw[hokE]at hq;exact hq) _⟩,hRest.step hB.size (hg10 _)⟩ (hg10 _) (hB.setCell (Nat.le_refl _) _)
    case he=>
     intro a Wr hS hB hh
     have HBR:=hQ hB
     have HFE:=hQ (hh 10 (by omega)).2
     obtain⟨zz,hlit,hzz⟩:=same_litz hS
     clear hh hS hB
     simp only[List.filterMap_cons,List.filterMap_nil,List.foldl_cons,List.foldl_nil,List.setIfInBounds_toArray,List.set_cons_zero,List.set_cons_succ]at hlit
     clear hzz;subst hlit
     obtain⟨⟨ve',hbx',hE'⟩,hrest⟩:=HFE.out
     have hE2:Kd.R (Kd.int .i64) 3 Wr w4.heap.size (fun _=>True) ve' (esi++[z]):=Kd.R_mono hE' (fun _ _=>trivial)
     have hkX:Kp X2 Wr (fun k=>k=fb∨ve.ownBlock=some k):=⟨HBR.out.os,HBR.out.tape,HBR.out.output,HBR.out.size,fun k hk hn=>hrest k hk (fun i e=>by
      rw[hrow]at e
      unfold rowE at e
      split at e
      ·exact hn (.inr e)
      ·exact hn (.inl (by injection e with e;exact e.symm))
      ·cases e)⟩
     have keep: ∀{α:Type} {d:Kd α} {e base:Nat} {ok:Nat→Prop} {u:Value} {xs:List α},d.R e X2 base ok u xs→(∀q,q∈e::d.E→q≠31)→(∀q,q∈e::d.E→q≠3)→d.R e Wr base ok u xs:=by
      intro α d e base ok u xs h h1 h2
      have a1:=R_not (Kd.R_types h hbx h1) ve.ownBlock (fun k hk=>by obtain⟨_,_,C,hC⟩:=t8 k hk;exact⟨C,_,hC,h2⟩)
      exact Kd.R_mono (Kd.R_step a1 (fun k hk hl=>hkX.block k hl (fun h=>h.elim hk.1.2 (fun e=>hk.2 e.symm)))) (fun k hk=>hk.1.1)
     have hRG3:RGo w4 Wr fb W.heap.size v T' (.slice A' T'.length c') (rsi++[(k0,x1,x2,ds,x4,x5,x6)]) (esi++[z]) gd:=
      ⟨hRG2.kp.trans hkX (fun k hk=>hk.elim .inl (fun h=> .inr (t8 k h).1)),keep hRG2.tab E_str_rf E_str_int,vr,ve',hbx',keep hRr E_rec_rf E_rec_int,hE2⟩
     have HRG3:=hQ hRG3
     have hz3:Wr.cell? (ad8.add m)=some (.int .i64 z):=HZF.out Wr hRG3.kp
     have c3:=bcl hbx' 3 rfl
     have f3:=blk_frozen hbx' 3
     have hput:=blk_put (cs':=#[.int .i64 v,vr,ve', .int .i64 z]) hbx' 3 (.int .i64 z) rfl
     have HPUT:=hQ (hRG3.put 3 (.int .i64 z) hput (hRG3.fl.elim fun _ h=>h.elim fun _ h=>by
      have e:=h.1.symm.trans hbx'
      exact keep hRr E_rec_rf E_rec_int) hE2)
     have hwn:=HWN.out
     have hwm:=HWM.out
     have hi1:=HI1.out
     clear hRG2 hbx hRr hRe t8 tr hokE RE hrow hfbl hk4 hrowS hrowE hrowF hfreshE hr8 hr10 hfbX had8 hadb hadr hbxd hz6 hablk hbx' hE' hrest hE2 hkX keep hRG3 hput
     go_wp2_with fail
     go_roundw
     case rel=>exact⟨i+1,T',by omega,by rw[HST.out];simp,by rw[HRSN.out.1,HRSN.out.2.1,HRSN.out.2.2];exact HPUT,HST2⟩
     case measure=>simp[intOf];omega
  ·have hde:(er !=0)=true:=by simpa using he
   have hin:i=rs.length:=by
    rcases Nat.lt_or_ge i rs.length with h|h
    ·exact absurd (HATI.out.1 _ (List.getElem?_eq_getElem h)).1 he
    ·omega
   obtain⟨vr,ve,hbx,hRr,hRe⟩:=HRGq.out.fl
   obtain⟨Ar,cr,rfl⟩:=Kd.R_slice hRr
   obtain⟨Ae,ce,rfl⟩:=Kd.R_slice hRe
   have hk2:=HRGq.out.kp.heap HK2.out (by have:=HFB2.out;omega)
   have hrsn:rsi=rs.map (·.1):=by rw[←HRSI.out,hin,List.take_of_length_le (by rw[List.length_map];exact Nat.le_refl _)]
   have hesn:esi=es:=by rw[←HESI.out,hin,List.take_of_length_le (by rw[HLEN.out];exact Nat.le_refl _)]
   have HRSN:=hQ (And.intro hrsn hesn)
   have p0:=bcl hbx 0 rfl
   have p1:=bcl hbx 1 rfl
   have p2:=bcl hbx 2 rfl
   have p3:=bcl hbx 3 rfl
   have o0:=bcl hk2 0 rfl
   have o1:=bcl hk2 1 rfl
   have o2:=bcl hk2 2 rfl
   have o3:=bcl hk2 3 rfl
   have of0:=blk_frozen hk2 0
   have of1:=blk_frozen hk2 1
   have of2:=blk_frozen hk2 2
   have of3:=blk_frozen hk2 3
   rw[←HWQ.out]at p0 p1 p2 p3 o0 o1 o2 o3 of0 of1 of2 of3
   have HBXQ:=hQ hbx
   have HK2Q:=hQ hk2
   have HRR:=hQ hRr
   have HRE:=hQ hRe
   clear hbx hk2 hRr hRe hrsn hesn hin
   go_wp2_with fail
   rw[HWQ.out]
   have q0:=blk_put (cs':=#[.int .i64 v,.slice none 0 0,.slice none 0 0,.int .i64 0]) HK2Q.out 0 (.int .i64 v) rfl
   have q1:=blk_put (cs':=#[.int .i64 v,.slice Ar rsi.length cr,.slice none 0 0,.int .i64 0]) q0 1 (.slice Ar rsi.length cr) rfl
   have q2:=blk_put (cs':=#[.int .i64 v,.slice Ar rsi.length cr,.slice Ae esi.length ce,.int .i64 0]) q1 2 (.slice Ae esi.length ce) rfl
   have q3:=blk_put (cs':=#[.int .i64 v,.slice Ar rsi.length cr,.slice Ae esi.length ce,.int .i64 gd]) q2 3 (.int .i64 gd) rfl
   refine bodyPost_ret (results_ct rfl _ _ b2 31 #[_,_,_,_] (0,0) _ rfl q3 HUF.out rfl (by kernel_rfl)) rfl ?_
   have hbb:=HB2.out
   have hbq:Below W.heap.size W wq:=HB4.out.trans (kp_belowB HRGq.out.kp HB4.out.size (fun k hk=>by have:=HFB2.out;omega))
   have hk4:Kp wq ((((wq.setCell ⟨b2,0,none⟩ (.int .i64 v)).setCell ⟨b2,1,none⟩ (.slice Ar rsi.length cr)).setCell ⟨b2,2,none⟩ (.slice Ae esi.length ce)).setCell ⟨b2,3,none⟩ (.int .i64 gd)) (fun k=>k=b2):=((((Kp.refl wq (fun k=>k=b2)).setCell (p:=⟨b2,0,none⟩) (.inl rfl) _).setCell (p:=⟨b2,1,none⟩) (.inl rfl) _).setCell (p:=⟨b2,2,none⟩) (.inl rfl) _).setCell (p:=⟨b2,3,none⟩) (.inl rfl) _
   have hr2:=Kd.R_step (Kd.R_types HRR.out HK2Q.out E_rec_rf) (fun k hk hl=>hk4.block k hl hk.2)
   have he2:=Kd.R_step (Kd.R_types HRE.out HK2Q.out E_int_rf) (fun k hk hl=>hk4.block k hl hk.2)
   have hgd:=HGD.out
   obtain⟨e1,e2⟩:=HRSN.out
   have hw4:=HB4.out.size
   subst e1 e2 hgd
   exact⟨_,_,rfl,Kd.R_lower (Kd.R_mono hr2 (fun _ _=>trivial)) hw4,Kd.R_lower (Kd.R_mono he2 (fun _ _=>trivial)) hw4,(((hbq.setCell (p:=⟨b2,0,none⟩) (by show W.heap.size≤b2;omega) _).setCell (p:=⟨b2,1,none⟩) (by show W.heap.size≤b2;omega) _).setCell (p:=⟨b2,2,none⟩) (by show W.heap.size≤b2;omega) _).setCell (p:=⟨b2,3,none⟩) (by show W.heap.size≤b2;omega) _⟩
theorem rcget_bad (l:List Int) (hb: ∀x∈l,0≤x∧x<256) (hl:l.length≤3000) (v ec:Int) (hv:versF l=(v,ec)) (he:ec≠0) (W:World):
  Calls Tryz.prog 6 #[.string (strOfNums l)] W (CGetPost W ((0,[],[],0),ec)):=by
 obtain⟨w1,hw1⟩:=eX (W.alloc (.cells #[.int .i64 0,.slice none 0 0,.slice none 0 0,.int .i64 0] 31))
 have hb1:Below W.heap.size W w1:=by rw[←hw1];exact(Below.refl _ _).alloc (Nat.le_refl _) _
 have hk1:w1.heap[W.heap.size]? =some (.cells #[.int .i64 0,.slice none 0 0,.slice none 0 0,.int .i64 0] 31 (0,0)):=by rw[←hw1];exact heap_new _ _
 obtain⟨b2,hb2⟩:=eX (W.heap.size)
 rw[hb2]at hk1
 have hvs:=rversH_any l hb (by omega) w1
 rw[hv]at hvs
 have HVC:=hQ hvs
 clear hvs
 have HB1:=hQ hb1
 have HK1:=hQ hk1
 have HW1:=hQ hw1
 have HB2:=hQ hb2
 have HU:=hQ Tryz.underlying31
 have hne:(ec !=0)=true:=by simpa using he
 obtain⟨s,hs⟩:=eX (strOfNums l)
 rw[hs]at HVC ⊢
 clear hb1 hk1 hw1 hb2 hv hb hs
 go_enter Tryz.func6,Tryz.ntmps6
 go_wp2_with fail
 rw[HW1.out,HB2.out]
 refine HVC.out.mono ?_
 rintro e w2 ⟨rfl,hb2⟩
 have hk2:=blk_below HK1.out hb2
 have o0:=bcl hk2 0 rfl
 have o1:=bcl hk2 1 rfl
 have o2:=bcl hk2 2 rfl
 have o3:=bcl hk2 3 rfl
 have of0:=blk_frozen hk2 0
 have of1:=blk_frozen hk2 1
 have of2:=blk_frozen hk2 2
 have of3:=blk_frozen hk2 3
 have HB12:=hQ (HB1.out.trans (hb2.mono HB1.out.size))
 have HK2:=hQ hk2
 clear hb2 hk2
 go_wp2_with fail
 have q0:=blk_put (cs':=#[.int .i64 0,.slice none 0 0,.slice none 0 0,.int .i64 0]) HK2.out 0 (.int .i64 0) rfl
 have q1:=blk_put (cs':=#[.int .i64 0,.slice none 0 0,.slice none 0 0,.int .i64 0]) q0 1 (.slice none 0 0) rfl
 have q2:=blk_put (cs':=#[.int .i64 0,.slice none 0 0,.slice none 0 0,.int .i64 0]) q1 2 (.slice none 0 0) rfl
 have q3:=blk_put (cs':=#[.int .i64 0,.slice none 0 0,.slice none 0 0,.int .i64 0]) q2 3 (.int .i64 0) rfl
 refine bodyPost_ret (results_ct rfl _ _ b2 31 #[_,_,_,_] (0,0) _ rfl q3 HU.out rfl (by kernel_rfl)) rfl ?_
 have hbb:=HB2.out
 exact⟨_,_,rfl,Kd.R_nil _ _ _ _ _,Kd.R_nil _ _ _ _ _,(((HB12.out.setCell (p:=⟨b2,0,none⟩) (by show W.heap.size≤b2;omega) _).setCell (p:=⟨b2,1,none⟩) (by show W.heap.size≤b2;omega) _).setCell (p:=⟨b2,2,none⟩) (by show W.heap.size≤b2;omega) _).setCell (p:=⟨b2,3,none⟩) (by show W.heap.size≤b2;omega) _⟩
theorem rcget_any (l:List Int) (hb: ∀x∈l,0≤x∧x<256) (hl:l.length≤3000) (W:World):Calls Tryz.prog 6 #[.string (strOfNums l)] W (CGetPost W (codG l)):=by
 unfold codG
 obtain⟨p,h⟩:=eX (versF l)
 rw[h]
 obtain⟨v,ec⟩:=p
 dsimp only
 by_cases he:ec=0
 ·subst he
  rw[if_neg (by simp)]
  exact rcget_ok l hb hl v h W
 ·rw[if_pos he]
  exact rcget_bad l hb hl v ec h he W
end Go.Proofs.YtfflenbfapgilaaGreat
namespace Go.Proofs.YtfflenbfapgilaaGreat
open Go.Proofs.YtfflenbfapgilaaGreat.GRR
attribute [local go_sem] Oper.semAt_some
theorem Kp.to_below' {B:Nat} {w w':World} {S:Nat→Prop} (h:Kp w w' S) (hB:B≤w.heap.size) (hs: ∀k,S k→B≤k):Below B w w':=⟨h.os,h.tape,h.output,h.size,fun k hk=>h.block k (by omega) (fun h'=>by have:=hs k h';omega)⟩
theorem getF_same {v:Int} {T:List ByteArray} {ps:List (List Int)} {a:Int} (h:(getF v T ps a).2.2.2≠0):(getF v T ps a).2.2.1=T:=by
 unfold getF at h ⊢
 split at h
 ·rename_i h1;rw[if_pos h1]
 ·rename_i h1
  rw[if_neg h1]
  split at h
  ·rename_i h2;rw[if_pos h2]
  ·rename_i h2
   rw[if_neg h2]
   dsimp only at h ⊢
   split at h
   ·rename_i h3;rw[if_pos h3]
   ·rename_i h3
    rw[if_neg h3]
    split at h
    ·exact absurd rfl h
    ·rename_i h4;rw[if_neg h4]
theorem runs_size (l:List Int) (hb: ∀x∈l,0≤x∧x<256) (a:Int): ∀y∈runs l a,y.1.size≤2048:=by
 unfold runs
 generalize l.length+1=k
 induction k generalizing a with
 |zero=>intro y hy;simp[frunS]at hy
 | succ k ih=>
  intro y hy
  rw[frunS]at hy
  split at hy
  ·rcases List.mem_cons.1 hy with rfl|hy
   ·rcases fgetS_cases l hb a with⟨e,he,_⟩|⟨lo,p,q,_,h1,h2,h3,h4,he⟩
    ·rw[he];exact Nat.zero_le _
    ·rw[he];dsimp only;rw[strOfNums_size,List.length_drop,List.length_take];omega
   ·exact ih _ y hy
  ·simp at hy
theorem cget_ok (A:Option Addr) (c:Nat) (l:List Int) (w:World) (hC:Kd.C (Kd.int .u8) w A l.length l) (hc:l.length≤c) (hb: ∀x∈l,0≤x∧x<256) (hl:l.length≤1000000) (v:Int) (hv:versF l=(v,0)) (hN:(runs l 8).length≤2700):
  Calls Tryz.prog 5 #[.slice A l.length c] w (CGetPost w ((v,fileG v (runs l 8)),0)):=by
 obtain⟨w1,hw1⟩:=eX (w.alloc (.cells #[.int .i64 0,.slice none 0 0,.slice none 0 0,.int .i64 0] 27))
 have hb1:Below w.heap.size w w1:=by rw[←hw1];exact(Below.refl _ _).alloc (Nat.le_refl _) _
 have hk1:w1.heap[w.heap.size]? =some (.cells #[.int .i64 0,.slice none 0 0,.slice none 0 0,.int .i64 0] 27 (0,0)):=by rw[←hw1];exact heap_new _ _
 have hs1:w1.heap.size=w.heap.size+1:=by rw[←hw1,heap_size_alloc]
 obtain⟨b2,hb2⟩:=eX (w.heap.size)
 rw[hb2]at hk1 hs1
 have hVC:=vers_any A c l w1 (Kd.C_below hC hb1) hc hb hl
 rw[hv]at hVC
 have HVC:=hQ hVC
 have HC:=hQ hC
 have HB1:=hQ hb1
 have HK1:=hQ hk1
 have HS1:=hQ hs1
 have HW1:=hQ hw1
 have HB2:=hQ hb2
 have HBY:=hQ hb
 clear hC hb1 hk1 hs1 hw1 hb2 hv hVC hb
 refine callsIn_wide (n:=9).1 ?_
 refine callsIn_of_wp_marks Tryz.func5 rfl trivial ?_
 simp only[Tryz.ntmps5,List.size_toArray,List.length_cons,List.length_nil,Nat.reduceAdd,Nat.reduceSub,Array.replicate_succ,Array.replicate_zero,List.push_toArray,List.append_toArray,List.nil_append,List.cons_append]
 gi_wp2_with fail
 rw[HW1.out,HB2.out]
 refine⟨trivial, ?_⟩
 refine(callsIn_wide.2 HVC.out).mono ?_
 rintro e w2 ⟨rfl,hb2⟩
 have HB12:=hQ (HB1.out.trans (hb2.mono HB1.out.size))
 have HK2:=hQ (blk_below HK1.out hb2)
 clear hb2
 gi_wp2_with fail
 obtain⟨fb,hfb⟩:=eX (w2.heap.size)
 obtain⟨w3,hw3⟩:=eX (w2.alloc (.cells #[.int .i64 v,.slice none 0 0,.slice none 0 0,.int .i64 8] 27))
 have hb3:Below w2.heap.size w2 w3:=by rw[←hw3];exact(Below.refl _ _).alloc (Nat.le_refl _) _
 have hk3:w3.heap[w2.heap.size]? =some (.cells #[.int .i64 v,.slice none 0 0,.slice none 0 0,.int .i64 8] 27 (0,0)):=by rw[←hw3];exact heap_new _ _
 rw[hw3,hfb]
 rw[hfb]at hk3
 have hB13:=HB12.out.trans (hb3.mono HB12.out.size)
 have HRN:=hQ (frun_any A c l 8 w3 (Kd.C_below HC.out hB13) hc HBY.out hl)
 have hk23:=blk_below HK2.out hb3
 have HK23:=hQ hk23
 have HB13:=hQ hB13
 have HK3:=hQ hk3
 have HFB:=hQ (show b2<fb by have:=blk_lt HK2.out;omega)
 clear hb3 hk3 hw3 hfb hB13 hk23 HK2
 obtain⟨its,hits⟩:=eX (runs l 8)
 rw[hits]at hN ⊢
 unfold FRunPost at HRN
 rw[hits]at HRN
 have HSZ:=hQ (fun(y:ByteArray×Int) (hy:y∈its)=>runs_size l HBY.out 8 y (hits ▸ hy))
 have HITS:=hQ hits
 clear hits
 refine⟨trivial, ?_⟩
 refine(callsIn_wide.2 HRN.out).mono ?_
 rintro e w4 ⟨v1,v2,vs,rfl,hr1,hr2,hvl,hfr,hb4⟩
 obtain⟨A7,c7,rfl⟩:=Kd.R_slice hr1
 obtain⟨A8,c8,rfl⟩:=Kd.R_slice hr2
 have hr2':(its.map (·.2)).length=its.length:=List.length_map ..
 rw[hr2',hvl]
 rw[hvl]at hr1
 rw[hr2']at hr2
 have hk4:=blk_below HK3.out hb4
 have hk24:=blk_below HK23.out hb4
 have hB4:=HB13.out.trans (hb4.mono HB13.out.size)
 have HR:=hQ (And.intro hr1 (And.intro hr2 (And.intro hvl hfr)))
 have HK4:=hQ hk4
 have HK24:=hQ hk24
 have HB4:=hQ hB4
 have HB34:=hQ (show fb<w3.heap.size from blk_lt HK3.out)
 have HS34:=hQ hb4.size
 clear hr1 hr2 hvl hfr hb4 hk4 hk24 hB4 hr2'
 gi_wp2_with fail
 refine⟨trivial, ?_⟩
 refine(callsIn_wide.2 (records_any _ _ _ _ _)).mono ?_
 rintro e w5 ⟨rfl,rfl⟩
 gi_wp2_with fail
 have hdel:=HR.out
 obtain⟨W0,hW0⟩:=eX (((w4.alloc (.cells #[.slice A8 its.length c8] 25)).alloc (.cells #[.int .i64 v] 3)).alloc (.cells #[.slice A7 its.length c7] 40))
 rw[hW0]
 have hs0:W0.heap.size=w4.heap.size+3:=by rw[←hW0];simp
 have hb0:Below w4.heap.size w4 W0:=by
  rw[←hW0]
  exact(((Below.refl _ _).alloc (Nat.le_refl _) _).alloc (by simp) _).alloc (by simp;omega) _
 have e1:W0.heap[w4.heap.size]? =some (.cells #[.slice A8 its.length c8] 25 (0,0)):=by rw[←hW0];exact blk_alloc (blk_alloc (blk_new _ _) _) _
 have e2:W0.heap[w4.heap.size+1]? =some (.cells #[.int .i64 v] 3 (0,0)):=by
  rw[←hW0]
  have:=blk_new (w4.alloc (.cells #[.slice A8 its.length c8] 25)) (.cells #[.int .i64 v] 3)
  rw[heap_size_alloc]at this
  exact blk_alloc this _
 have e3:W0.heap[w4.heap.size+2]? =some (.cells #[.slice A7 its.length c7] 40 (0,0)):=by
  rw[←hW0]
  have:=blk_new ((w4.alloc (.cells #[.slice A8 its.length c8] 25)).alloc (.cells #[.int .i64 v] 3)) (.cells #[.slice A7 its.length c7] 40)
  rw[heap_size_alloc,heap_size_alloc]at this
  exact this
 have hfb0:W0.heap[fb]? =some (.cells #[.int .i64 v,.slice none 0 0,.slice none 0 0,.int .i64 8] 27 (0,0)):=blk_below HK4.out hb0
 have hfbl:fb<W0.heap.size:=blk_lt hfb0
 have hfb4:fb<w3.heap.size:=HB34.out
 have hs34:=HS34.out
 obtain⟨rows,hrows⟩:=eX ((its.map fun y=>bytesOf y.1))
 have hrl:rows.length=its.length:=by rw[←hrows];exact List.length_map ..
 have hROWS: ∀X,Kp W0 X (fun k=>k=fb)→Kd.C kRows X A7 rows.length rows:=by
  intro X hk
  have hk4:Kp w4 X (fun k=>k=fb):=(Kp.of_below hb0 (fun k=>k=fb)).trans hk (fun k h=> .inl h)
  obtain⟨h1,_,h3,h4⟩:=HR.out
  have h1':=Kd.R_step (Kd.R_bound h1) (fun k hk' hlt=>hk4.block k hlt (by have:=hk'.2.1;omega))
  have:=rows_fresh (B:=w3.heap.size) (its:=its) (Kd.R_reads' h1').2.2 h3 (fun k x y hx hy=>(h4 k x y hx hy).move (fun b C fr hb=>hk4.block b (blk_lt hb) (by rintro rfl;rw[HK4.out]at hb;cases hb)))
  rw[hrows,←hrl]at this
  exact this
 have hENDS: ∀X,Kp W0 X (fun k=>k=fb)→Kd.C (Kd.int .i64) X A8 its.length (its.map (·.2)):=by
  intro X hk
  have hk4:Kp w4 X (fun k=>k=fb):=(Kp.of_below hb0 (fun k=>k=fb)).trans hk (fun k h=> .inl h)
  have h:=(Kd.R_reads' (Kd.R_step (Kd.R_bound HR.out.2.1) (fun k hk' hlt=>hk4.block k hlt (by have:=hk'.2.1;omega)))).2.2
  rwa [show(its.map (·.2)).length=its.length from List.length_map ..]at h
 have hc7:rows.length≤c7:=by
  have:=(Kd.R_reads' HR.out.1).2.1
  have h3:=HR.out.2.2.1
  omega
 have hbt: ∀p∈rows,p.length≤3000∧∀x∈p,0≤x∧x<256:=by
  intro p hp
  rw[←hrows]at hp
  obtain⟨y,hy,rfl⟩:=List.mem_map.1 hp
  exact⟨by rw[bytesOf_length];have:=HSZ.out y hy;omega,bytesOf_byte y.1⟩
 obtain⟨rs,hrs⟩:=eX (recsL v rows (its.length+1) [] 0)
 obtain⟨es,hes⟩:=eX (rs.map (fun x=>(its.getD (x.2.toNat-1) (⟨#[]⟩,0)).2))
 have hF:fileG v its=(rs.map (·.1),es,es.getLast?.getD 8):=by
  unfold fileG
  rw[hrows,hrs]
  dsimp only
  rw[hes]
 have hat:=recsL_at v rows (its.length+1) [] 0 (by omega) (by omega)
 have hbd:=stF_bd v rows (its.length+1) [] 0 (by omega) (by omega) ⟨by omega,by omega⟩
 have hfew:=recsL_few v rows (its.length+1) [] 0 (by omega) (by omega) ⟨by omega,by omega⟩
 rw[hrs]at hat hbd hfew
 have hesl:es.length=rs.length:=by rw[←hes];exact List.length_map ..
 have HF:=hQ hF
 have HAT:=hQ hat
 have HBD:=hQ hbd
 have HFEW:=hQ hfew
 have HROWS:=hQ hROWS
 have HENDS:=hQ hENDS
 have HC7:=hQ hc7
 have HBT:=hQ hbt
 have HE:=hQ (And.intro e1 (And.intro e2 e3))
 have HS0:=hQ hs0
 have HRL:=hQ hrl
 have HES:=hQ hes
 have HESL:=hQ hesl
 have HFBL:=hQ hfbl
 have HFB0:=hQ hfb0
 have HB0:=hQ hb0
 have hgo:GoC W0 W0 fb (fun _=>False) v ((rs.map (·.1)).take 0) (es.take 0) (((es.take 0).getLast?).getD 8):=
  ⟨Kp.refl _ _,fun _ h=>h.elim,.slice none 0 0,.slice none 0 0,hfb0,Kd.R_nil _ _ _ _ _,Kd.R_nil _ _ _ _ _⟩
 clear hdel hF hat hbd hfew hROWS hENDS hc7 hbt e1 e2 e3 hs0 hrl hes hesl hrs hrows hW0 hb0 hfbl hfb0
 refine range_rel2 rfl (by simp[Fence.wide]) (gf:=23) (lb:=#[.pointer (some ⟨w4.heap.size+1,0,none⟩),.pointer (some ⟨w4.heap.size+1+1,0,none⟩)]) rfl trivial (fun args w=>Go.Proofs.YtfflenbfapgilaaGreatW.PrintLast.enters_ Tryz.func23 (by kernel_rfl) rfl args w)
  rs.length (fun X=>∃r,X=(W0.alloc (.deferred (some []))).alloc (.loop r))
  (fun i X=>∃S,GoC W0 X fb S v ((rs.map (·.1)).take i) (es.take i) (((es.take i).getLast?).getD 8)∧(0<i→Tab X S (W0.heap.size+2) (stF v rows i ([],0)).1))
  (fun i x X=>∃(S:Nat→Prop) (r:Rec9) (n:Int) (dv:Value),GoC W0 X fb S v ((rs.map (·.1)).take i) (es.take i) (((es.take i).getLast?).getD 8)∧Tab X S (W0.heap.size+2) (stF v rows (i+1) ([],0)).1∧rs[i]? =some (r,n)∧Kd.R k129 129 X W0.heap.size (fun k=>¬S k) dv r.2.2.2.1∧x=#[.agg #[.int .i64 r.1,.string r.2.1,.int .u64 r.2.2.1,dv,.int .u64 r.2.2.2.2.1,.int .u64 r.2.2.2.2.2.1,.string r.2.2.2.2.2.2],.int .i64 n])
  (fun i a1 X=>∃(S:Nat→Prop) (r:Rec9) (n:Int) (dv:Value) (rb:Nat),GoC W0 X fb (fun k=>S k∨k=rb) v ((rs.map (·.1)).take i) (es.take i) (((es.take i).getLast?).getD 8)∧Tab X S (W0.heap.size+2) (stF v rows (i+1) ([],0)).1∧rs[i]? =some (r,n)∧Kd.R k129 129 X W0.heap.size (fun k=>¬S k) dv r.2.2.2.1∧
   X.heap[rb]? =some (.cells #[.int .i64 r.1,.string r.2.1,.int .u64 r.2.2.1,dv,.int .u64 r.2.2.2.2.1,.int .u64 r.2.2.2.2.2.1,.string r.2.2.2.2.2.2] 49 (0,0))∧W0.heap.size≤rb∧
   a1={ tmps:=#[.slice A l.length c,undef,.pointer (some ⟨b2,0,none⟩),.int .i64 0,.int .i64 v,.int .i64 0,.pointer (some ⟨fb,0,none⟩),.slice A7 its.length c7,.pointer (some ⟨w4.heap.size,0,none⟩),.pointer (some ⟨rb,0,none⟩),.int .i64 n,.tuple #[.int .i64 v,.int .i64 0],.slice A l.length c,.tuple #[.int .i64 v,.int .i64 0],.int .i64 v,.int .i64 0,.int .i64 0,.bool false,undef,undef,.int .i64 v,.agg #[.int .i64 v,.slice none 0 0,.slice none 0 0,.int .i64 8],.tuple #[.slice A7 its.length c7,.slice A8 its.length c8],.slice A l.length c,.tuple #[.slice A7 its.length c7,.slice A8 its.length c8],.slice A7 its.length c7,.slice A8 its.length c8,.int .i64 v,.slice A7 its.length c7,.func (.func 23) #[] #[.pointer (some ⟨w4.heap.size+1,0,none⟩),.pointer (some ⟨w4.heap.size+1+1,0,none⟩)],.agg #[.int .i64 r.1,.string r.2.1,.int .u64 r.2.2.1,dv,.int .u64 r.2.2.2.2.1,.int .u64 r.2.2.2.2.2.1,.string r.2.2.2.2.2.2],.int .i64 n,undef,undef,undef,undef,undef,undef,undef,undef,undef,undef,undef,undef,undef,undef,undef,undef,undef,undef,undef,undef],defers:=[] })
  ?hps (fun r=>⟨r,rfl⟩) ?hJp ?hMp ?assign ?body ?iter ?done
 case hps=>
  rintro i x X ⟨S,r,n,dv,_,_,_,_,rfl⟩
  rfl
 case hJp=>
  rintro i X r o hr ⟨S,h1,h2⟩
  exact⟨S,h1.putObj o (by omega) hr,fun hi=>(h2 hi).putObj o (fun hs=>by have:=h1.sb _ hs;omega)⟩
 case hMp=>
  rintro i a1 X r o hr ⟨S,r',n,dv,rb,h1,h2,h3,h4,h5,h6,h7⟩
  exact⟨S,r',n,dv,rb,h1.putObj o (by omega) hr,h2.putObj o (fun hs=>by have:=h1.sb _ (.inl hs);omega),h3,R_putObj o h4 hr,heap_putObj o h5 hr,h6,h7⟩
 case assign=>
  rintro i x X K hsz hi ⟨S,⟨k0,x1,x2,ds,x4,x5,x6⟩,n,dv,h1,h2,h3,h4,rfl⟩ hK
  dsimp only at h4 ⊢
  obtain⟨Ad,cd,rfl⟩:=Kd.R_slice h4
  gi_wp2_with fail
  obtain⟨X1,hX1⟩:=eX (X.alloc (.cells #[.int .i64 k0,.string x1,.int .u64 x2,.slice Ad ds.length cd,.int .u64 x4,.int .u64 x5,.string x6] 49))
  have hbx:Below X.heap.size X X1:=by rw[←hX1];exact(Below.refl _ _).alloc (Nat.le_refl _) _
  have hkx:X1.heap[X.heap.size]? =some (.cells #[.int .i64 k0,.string x1,.int .u64 x2,.slice Ad ds.length cd,.int .u64 x4,.int .u64 x5,.string x6] 49 (0,0)):=by rw[←hX1];exact heap_new _ _
  rw[hX1]
  exact hK _ _ ⟨S,_,n,_,X.heap.size,(h1.fresh X.heap.size (Nat.le_refl _) (by omega)).below hbx,h2.keep (Kp.of_below hbx (fun _=>False)) (fun _ _ h=>h),h3,Kd.R_below h4 hbx,hkx,h1.kp.size,rfl⟩ (hbx.block _ hsz) (hbx.block _ (by omega))
 case body=>
  rintro i a1 X hsz ⟨rl,hrl⟩ hD hi ⟨S,⟨k0,x1,x2,ds,x4,x5,x6⟩,n,dv,rb,h1,h2,h3,h4,h5,h6,rfl⟩
  dsimp only at h4 h5 ⊢
  obtain⟨Ad,cd,rfl⟩:=Kd.R_slice h4
  have hne:=HAT.out i (by omega)
  have hx:=(hne.1 _ h3)
  obtain⟨m,hm,hm1,hm2,_,_⟩:=getF_next hx.1
  have hnm:n=(m:Int):=by
   have:=congrArg Prod.snd hx.2
   dsimp only at this
   rw[this,hm]
  subst hnm
  have hbd:=HBD.out i (by omega)
  have hml:m≤its.length:=by have:=HRL.out;omega
  have hm0:1≤m:=by omega
  obtain⟨ad8,hA8,hc8⟩:=Kd.at_int (HENDS.out X h1.kp) ((m:Int)-1) (by omega) (by omega)
  subst hA8
  rw[show((m:Int)-1).toNat=m-1 by omega]at hc8
  obtain⟨z,hz⟩:=eX (rd (its.map (·.2)) ((m:Int)-1))
  rw[hz]at hc8
  have hze:es.take (i+1)=es.take i++[z]:=by
   have hil:i<es.length:=by rw[HESL.out];exact hi
   rw[List.take_succ_eq_append_getElem hil]
   congr 2
   rw[←hz]
   have hes:=HES.out
   have hre:rs[i]'hi=((k0,x1,x2,ds,x4,x5,x6),(m:Int)):=by
    have:=List.getElem?_eq_getElem hi
    rw[h3]at this
    exact(Option.some.inj this).symm
   have e:es[i]=(its.getD (m-1) (⟨#[]⟩,0)).2:=by
    have:es[i]? =some (its.getD (m-1) (⟨#[]⟩,0)).2:=by
     rw[←hes,List.getElem?_map,h3]
     simp
    rw[List.getElem?_eq_getElem hil]at this
    exact Option.some.inj this
   rw[e]
   have hlt:m-1<its.length:=by omega
   simp[rd,hlt,show((m:Int)-1).toNat=m-1 by omega]
  have cE:=(blk_cell (h1.kp.heap HE.out.1 (by have:=HB34.out;have:=HS34.out;omega)) 0).trans rfl
  have hw1:IntKind.i64.wrap ((m:Int)-1)=(m:Int)-1:=by rw[IntKind.wrap_i64];omega
  obtain⟨vr,ve,hbox,hRr,hRe⟩:=id h1.fl
  have cF:=(blk_cell hbox 3).trans rfl
  have fF:=blk_frozen hbox 3
  have hgood:=h1.setGood HFBL.out z
  have HG1:=hQ hgood
  have HX3:=hQ (And.intro h2 (And.intro h3 (And.intro h4 (And.intro h5 (And.intro hrl hD)))))
  have HZ:=hQ hze
  have HFW:=hQ (And.intro hm1 (And.intro hm2 hbd))
  clear hne hx hgood h1 h2 h3 h4 h5 hze hz hm hbd hbox hRr hRe hrl hD
  gi_wp2_with fail
  clear cE hw1 cF fF hc8
  obtain⟨X2,hX2⟩:=eX (X.setCell ⟨fb,3,none⟩ (.int .i64 z))
  rw[hX2]at HG1 ⊢
  obtain⟨h2,h3,h4,h5,hrl,hD⟩:=HX3.out
  have hfbl:=HFBL.out
  have hkX:Kp X X2 (fun k=>k=fb):=by rw[←hX2];exact(Kp.refl X (fun k=>k=fb)).setCell (p:=⟨fb,3,none⟩) (.inl rfl) _
  have hT:=h2.keep hkX (fun k hs e=>by have:=HG1.out.sb k (.inl hs);omega)
  have hD4:=Kd.R_step (Kd.R_bound h4) (fun k hk hlt=>hkX.block k hlt (by have:=hk.2.1;omega))
  have hb5:=hkX.heap h5 (by omega)
  have hrl2:=hkX.heap hrl (by omega)
  have hD2:=hkX.heap hD (by omega)
  have hsz2:=hkX.size
  have HOB:=hQ (And.intro hrl hD)
  clear h2 h4 h5 hrl hD HX3 vr ve
  obtain⟨vr,ve,hbox,hRr,hRe⟩:=HG1.out.fl
  obtain⟨rsi,hrsi⟩:=eX ((rs.map (·.1)).take i)
  obtain⟨esi,hesi⟩:=eX (es.take i)
  rw[hrsi]at hRr HG1
  rw[hesi]at hRe HG1
  have HZ2:Hid (es.take (i+1)=esi++[z]):=hQ (hesi ▸ HZ.out)
  have hrsl:rsi.length=i:=by rw[←hrsi,List.length_take,List.length_map];omega
  have hesl:esi.length=i:=by rw[←hesi,List.length_take,HESL.out];omega
  have hi27:i≤2700:=by have:=HFEW.out;have:=HRL.out;omega
  have t4:=own_typed_R hRr
  have t10:=own_typed_R hRe
  have hne: ∀q,vr.ownBlock=some q→ve.ownBlock≠some q:=by
   intro q h4 h5
   obtain⟨_,_,C1,e1⟩:=t4 q h4
   obtain⟨_,_,C2,e2⟩:=t10 q h5
   rw[e1]at e2;cases e2
  obtain⟨okR,hokR⟩: ∃ok:Nat→Prop,ok=fun q=>¬(S q∨q=rb)∧some q≠ve.ownBlock∧q≠fb:=⟨_,rfl⟩
  obtain⟨okE,hokE⟩: ∃ok:Nat→Prop,ok=fun q=>¬(S q∨q=rb)∧some q≠vr.ownBlock∧q≠fb:=⟨_,rfl⟩
  obtain⟨okD,hokD⟩: ∃ok:Nat→Prop,ok=fun q=>¬(S q∨q=rb)∧some q≠vr.ownBlock∧some q≠ve.ownBlock∧q≠fb:=⟨_,rfl⟩
  have RR:Kd.R kdRec 49 X2 W0.heap.size okR vr rsi:=Kd.R_mono (Kd.R_bound (R_not hRr ve.ownBlock (fun q hq=>by obtain⟨_,_,C,hC⟩:=t10 q hq;exact⟨C,_,hC,E_rec_int⟩))) (fun q hq=>by
   rw[hokR];exact⟨hq.1.1,hq.1.2,by have:=hq.2.1;omega⟩)
  have RE:Kd.R (Kd.int .i64) 3 X2 W0.heap.size okE ve esi:=Kd.R_mono (Kd.R_bound (R_not hRe vr.ownBlock (fun q hq=>by obtain⟨_,_,C,hC⟩:=t4 q hq;exact⟨C,_,hC,E_int_rec⟩))) (fun q hq=>by
   rw[hokE];exact⟨hq.1.1,hq.1.2,by have:=hq.2.1;omega⟩)
  have RD:Kd.R k129 129 X2 W0.heap.size okD (.slice Ad ds.length cd) ds:=by
   have a1:=Kd.R_types hD4 hb5 E_dep_rec
   have a2:=R_not a1 vr.ownBlock (fun q hq=>by obtain⟨_,_,C,hC⟩:=t4 q hq;exact⟨C,_,hC,E_dep_rec⟩)
   have a3:=R_not a2 ve.ownBlock (fun q hq=>by obtain⟨_,_,C,hC⟩:=t10 q hq;exact⟨C,_,hC,E_dep_int⟩)
   refine Kd.R_mono (Kd.R_bound a3) (fun q hq=> ?_)
   rw[hokD]
   exact⟨fun h=>h.elim hq.1.1.1.1.1 hq.1.1.1.2,hq.1.1.2,hq.1.2,by have:=hq.2.1;omega⟩
  obtain⟨row,hrow⟩: ∃row,row=rowG vr.ownBlock ve.ownBlock fb:=⟨_,rfl⟩
  have hrbl:=blk_lt hb5
  have hrowS: ∀i k,row i=some k→k<X2.heap.size:=by
   rw[hrow]
   exact rowG_lt (fun q hq=>(t4 q hq).2.1) (fun q hq=>(t10 q hq).2.1) (by omega)
  have hrowR: ∀i,i≠4→∀q,okR q→some q≠row i:=by
   intro i hi q hq
   rw[hokR]at hq
   rw[hrow]
   exact rowG_ne i q (.inl hi) (.inr hq.2.1) (.inr hq.2.2)
  have hrowE: ∀i,i≠10→∀q,okE q→some q≠row i:=by
   intro i hi q hq
   rw[hokE]at hq
   rw[hrow]
   exact rowG_ne i q (.inr hq.2.1) (.inl hi) (.inr hq.2.2)
  have hrowD: ∀i,∀q,okD q→some q≠row i:=by
   intro i q hq
   rw[hokD]at hq
   rw[hrow]
   exact rowG_ne i q (.inr hq.2.1) (.inr hq.2.2.1) (.inr hq.2.2.2)
  have hrowF: ∀i,i≠12→i≠14→some fb≠row i:=by
   intro i h12 h14
   rw[hrow]
   exact rowG_ne i fb (.inr (fun e=>by have:=(t4 _ e.symm).1;omega)) (.inr (fun e=>by have:=(t10 _ e.symm).1;omega)) (.inl ⟨h12,h14⟩)
  have hrowB: ∀i,some rb≠row i:=by
   intro i
   rw[hrow]
   exact rowG_ne i rb (.inr (fun e=>hRr.1 rb e.symm (.inr rfl))) (.inr (fun e=>by obtain⟨_,_,C,hC⟩:=t10 _ e.symm;rw[hb5]at hC;cases hC)) (.inr (by omega))
  have hfreshR: ∀q,X2.heap.size≤q→okR q:=by
   intro q hq
   rw[hokR]
   exact⟨fun h=>h.elim (fun h=>by have:=hT.lt q h;omega) (fun h=>by omega),fun e=>by have:=(t10 q e.symm).2.1;omega,by omega⟩
  have hfreshE: ∀q,X2.heap.size≤q→okE q:=by
   intro q hq
   rw[hokE]
   exact⟨fun h=>h.elim (fun h=>by have:=hT.lt q h;omega) (fun h=>by omega),fun e=>by have:=(t4 q e.symm).2.1;omega,by omega⟩
  have hr4:row 4=vr.ownBlock:=by rw[hrow];rfl
  have hr10:row 10=ve.ownBlock:=by rw[hrow];rfl
  have hr12:row 12=some fb:=by rw[hrow];rfl
  have hr14:row 14=some fb:=by rw[hrow];rfl
  have HFIN:=hQ (And.intro hT (And.intro hRr (And.intro hRe (And.intro hrl2 hD2))))
  have HRS:=hQ (And.intro hrsi (And.intro hesi h3))
  have hfbX:fb≤X2.heap.size:=by omega
  clear h3 hrsi hesi hT hD4 hkX hrl2 hD2 HZ hX2
  refine region_in (by kernel_rfl) (by kernel_rfl) (by rintro⟨a,w,h⟩;exact h) ?_
  refine flowK_any kilG (n:=15) (base:=fb) (w0:=X2)
   (VG X2.heap.size W0.heap.size fb z vr ve (.slice Ad ds.length cd) (k0,x1,x2,ds,x4,x5,x6) rsi esi okR okE) (FG W0.heap.size fb v z ve (k0,x1,x2,ds,x4,x5,x6) rsi esi okR okE (RestOf row X2)) (GG W0.heap.size fb rb v z vr ve (.slice Ad ds.length cd) (k0,x1,x2,ds,x4,x5,x6) rsi esi okR okE okD (RestOf row X2))
   row rfl (by kernel_rfl) (by kernel_rfl) ?hV ?hF ?hG ⟨rfl,rfl,rfl,Nat.le_refl _,fun _ _=>rfl⟩ ?hG0 (show AllLt 15 _ from ?hs) ?he
  case hV=>
   intro i j hi hj hij hw u Y Y' hB hg h
   have kb: ∀(b:Nat) (o:Obj),X2.heap.size≤b→Y.heap[b]? =some o→Y'.heap[b]? =some o:=fun b o h1 h2=>(hg.block b (Array.getElem?_eq_some_iff.1 h2).1 (fun e=>by have:=hrowS i b e.symm;omega)).trans h2
   unfold VG at h ⊢
   split at h
   ·exact h
   ·exact h
   ·exact h
   ·obtain⟨b,h1,h2,h3⟩:=h;exact⟨b,h1,h2,kb b _ h2 h3⟩
   ·exact Kd.R_grown h hg (hrowR i (by omega))
   ·exact h
   ·exact h
   ·exact h
   ·exact h
   ·obtain⟨b,h1,h2,h3⟩:=h;exact⟨b,h1,h2,kb b _ h2 h3⟩
   ·exact Kd.R_grown h hg (hrowE i (by omega))
   ·exact h
   ·exact h
   ·trivial
  case hF=>
   intro i j hi hj hij hw hkl Y Y' hB hg h
   unfold FG at h ⊢
   split at h
   ·obtain⟨vr',h1,h2⟩:=h
    have i4:i≠4:=(fun e=>by rw[e]at hw;exact Bool.noConfusion (hw.symm.trans (c:=true) (by kernel_rfl)))
    have i14:i≠14:=fun e=>hkl (by rw[e];rfl)
    exact⟨vr',(hg.block _ (Array.getElem?_eq_some_iff.1 h1).1 (hrowF i (by omega) i14)).trans h1,Kd.R_grown h2 hg (hrowR i i4)⟩
   ·exfalso
    have hi14:i=0∨i=1∨i=2∨i=3∨i=4∨i=5∨i=6∨i=7∨i=8∨i=9∨i=10∨i=11∨i=12∨i=13:=by omega
    rcases hi14 with rfl|rfl|rfl|rfl|rfl|rfl|rfl|rfl|rfl|rfl|rfl|rfl|rfl|rfl<;>exact Bool.noConfusion (hw.symm.trans (c:=true) (by kernel_rfl))
   ·trivial
  case hG=>
   intro i j hi hj hij hw Y Y' hB hg h
   have kbx:i≠12→i≠14→BoxG fb v z vr ve Y→BoxG fb v z vr ve Y':=fun h12 h14 h=>(hg.block _ (Array.getElem?_eq_some_iff.1 h).1 (hrowF i h12 h14)).trans h
   unfold GG at h ⊢
   split at h
   ·exact kbx (fun e=>by rw[e]at hw;exact Bool.noConfusion (hw.symm.trans (c:=true) (by kernel_rfl))) (fun e=>by rw[e]at hw;exact Bool.noConfusion (hw.symm.trans (c:=true) (by kernel_rfl))) h
   ·exact kbx (fun e=>by rw[e]at hw;exact Bool.noConfusion (hw.symm.trans (c:=true) (by kernel_rfl))) (fun e=>by rw[e]at hw;exact Bool.noConfusion (hw.symm.trans (c:=true) (by kernel_rfl))) h
   ·exact kbx (fun e=>by rw[e]at hw;exact Bool.noConfusion (hw.symm.trans (c:=true) (by kernel_rfl))) (fun e=>by rw[e]at hw;exact Bool.noConfusion (hw.symm.trans (c:=true) (by kernel_rfl))) h
   ·exact kbx (by omega) (fun e=>by rw[e]at hw;exact Bool.noConfusion (hw.symm.trans (c:=true) (by kernel_rfl))) h
   ·exact(hg.block _ (Array.getElem?_eq_some_iff.1 h).1 (hrowB i)).trans h
   ·exact⟨Kd.R_grown h.1 hg (hrowR i (by omega)),Kd.R_grown h.2 hg (hrowD i)⟩
   ·exact Kd.R_grown h hg (hrowE i (by omega))
   ·exact RestOf.step h hB.size hg
   ·trivial
  case hG0=>
   intro i hi
   unfold GG
   split
   ·exact hbox
   ·exact hbox
   ·exact hbox
   ·exact hbox
   ·exact hb5
   ·exact⟨Kd.R_drew RR,Kd.R_drew RD⟩
   ·exact Kd.R_drew RE
   ·exact fun q _ _=>rfl
   ·trivial
  case hs=>
   refine allLt_succ (allLt_succ (allLt_succ (allLt_succ (allLt_succ (allLt_succ (allLt_succ (allLt_succ (allLt_succ (allLt_succ (allLt_succ (allLt_succ (allLt_succ (allLt_succ (allLt_succ (allLt_zero _) ?s0) ?s1) ?s2) ?s3) ?s4) ?s5) ?s6) ?s7) ?s8) ?s9) ?s10) ?s11) ?s12) ?s13) ?s14
   case s0=>
    refine StepFlowK.run rfl rfl fun a Y hS2 hB hd hG=> ?_
    have e6:a.tmps[6]? =some (.pointer (some ⟨fb,0,none⟩)):=hS2.get rfl rfl
    exact wpF (c:= .pointer (some ⟨fb,1,none⟩)) (W':=Y) (by go_simp) rfl trivial (World.grownBy.refl _ _) hB
   case s1=>
    refine StepFlowK.run rfl rfl fun a Y hS2 hB hd hG=> ?_
    obtain⟨u,e38,hu⟩:=(hd 0 (by kernel_rfl)).1.get rfl rfl
    obtain rfl:u= .pointer (some ⟨fb,1,none⟩):=hu
    have hG':Y.heap[fb]? =some (.cells #[.int .i64 v,vr,ve,.int .i64 z] 27 (0,0)):=hG
    have hcell:=bcl hG' 1 rfl
    exact wpF (c:=vr) (W':=Y) (by go_simp) rfl trivial (World.grownBy.refl _ _) hB
   case s2=>
    refine StepFlowK.run rfl rfl fun a Y hS2 hB hd hG=> ?_
    have e9:a.tmps[9]? =some (.pointer (some ⟨rb,0,none⟩)):=hS2.get rfl rfl
    have hG':Y.heap[rb]? =some (.cells #[.int .i64 k0,.string x1,.int .u64 x2,.slice Ad ds.length cd,.int .u64 x4,.int .u64 x5,.string x6] 49 (0,0)):=hG
    have q0:=(blk_cell hG' 0).trans rfl
    have q1:=(blk_cell hG' 1).trans rfl
    have q2:=(blk_cell hG' 2).trans rfl
    have q3:=(blk_cell hG' 3).trans rfl
    have q4:=(blk_cell hG' 4).trans rfl
    have q5:=(blk_cell hG' 5).trans rfl
    have q6:=(blk_cell hG' 6).trans rfl
    exact wpF (c:= .agg #[.int .i64 k0,.string x1,.int .u64 x2,.slice Ad ds.length cd,.int .u64 x4,.int .u64 x5,.string x6]) (W':=Y) (by go_simp) rfl trivial (World.grownBy.refl _ _) hB
   case s3=>
    refine StepFlowK.run rfl rfl fun a Y hS2 hB hd hG=> ?_
    obtain⟨u,e40,hu⟩:=(hd 2 (by kernel_rfl)).1.get rfl rfl
    obtain rfl:u= .agg #[.int .i64 k0,.string x1,.int .u64 x2,.slice Ad ds.length cd,.int .u64 x4,.int .u64 x5,.string x6]:=hu
    exact wpF (c:= .slice (some ⟨Y.heap.size,0,none⟩) 1 1) (W':=Y.alloc (.cells #[.int .i64 k0,.string x1,.int .u64 x2,.slice Ad ds.length cd,.int .u64 x4,.int .u64 x5,.string x6] 49)) (by go_simp) ⟨_,rfl,hB.size,blk_new _ _⟩ trivial (World.grownBy_alloc _ _ _) (hB.alloc (by have:=hB.size;omega) _)
   case s4=>
    refine StepFlowK.run rfl rfl fun a Y hS2 hB hd hG=> ?_
    obtain⟨u,e39,hu⟩:=(hd 1 (by kernel_rfl)).1.get rfl rfl
    obtain rfl:u=vr:=hu
    obtain⟨u2,e41,b,hu2,hb2,hb3⟩:=(hd 3 (by kernel_rfl)).1.get rfl rfl
    subst hu2
    exact wpF_append (ops:=#[]) kdRec W0.heap.size (.tmp 39) (.tmp 41) 24 49 (.agg #[.int .i64 0,.string ⟨#[]⟩,.int .u64 0,.slice none 0 0,.int .u64 0,.int .u64 0,.string ⟨#[]⟩]) 88 rfl Tryz.underlying24 info_rec9 rfl (by decide) (by decide) u rsi (k0,x1,x2,ds,x4,x5,x6) (cells9v (k0,x1,x2,ds,x4,x5,x6) (.slice Ad ds.length cd)) b (0,0) okR okD (by simp[Act.eval,e39]) (by simp[Act.eval,e41]) hb3 (kdRec_M _ hG.2)
     (fun q hq=>by rw[hokD]at hq;rw[hokR];exact⟨⟨hq.1,hq.2.2.1,hq.2.2.2⟩,hq.2.1⟩) (fun q hq=>by have:=hB.size;exact hfreshR q (by omega)) hG.1 (by have:=hB.size;omega) (by omega) hB (by omega) hr4 (fun v1 w1 g1 g2=>⟨g1,trivial⟩)
   case s5=>
    refine StepFlowK.run rfl rfl fun a Y hS2 hB hd hG=> ?_
    have e6:a.tmps[6]? =some (.pointer (some ⟨fb,0,none⟩)):=hS2.get rfl rfl
    exact wpF (c:= .pointer (some ⟨fb,2,none⟩)) (W':=Y) (by go_simp) rfl trivial (World.grownBy.refl _ _) hB
   case s6=>
    refine StepFlowK.run rfl rfl fun a Y hS2 hB hd hG=> ?_
    obtain⟨u,e43,hu⟩:=(hd 5 (by kernel_rfl)).1.get rfl rfl
    obtain rfl:u= .pointer (some ⟨fb,2,none⟩):=hu
    have hG':Y.heap[fb]? =some (.cells #[.int .i64 v,vr,ve,.int .i64 z] 27 (0,0)):=hG
    have hcell:=bcl hG' 2 rfl
    exact wpF (c:=ve) (W':=Y) (by go_simp) rfl trivial (World.grownBy.refl _ _) hB
   case s7=>
    refine StepFlowK.run rfl rfl fun a Y hS2 hB hd hG=> ?_
    have e6:a.tmps[6]? =some (.pointer (some ⟨fb,0,none⟩)):=hS2.get rfl rfl
    exact wpF (c:= .pointer (some ⟨fb,3,none⟩)) (W':=Y) (by go_simp) rfl trivial (World.grownBy.refl _ _) hB
   case s8=>
    refine StepFlowK.run rfl rfl fun a Y hS2 hB hd hG=> ?_
    obtain⟨u,e45,hu⟩:=(hd 7 (by kernel_rfl)).1.get rfl rfl
    obtain rfl:u= .pointer (some ⟨fb,3,none⟩):=hu
    have hG':Y.heap[fb]? =some (.cells #[.int .i64 v,vr,ve,.int .i64 z] 27 (0,0)):=hG
    have hcell:=bcl hG' 3 rfl
    exact wpF (c:= .int .i64 z) (W':=Y) (by go_simp) rfl trivial (World.grownBy.refl _ _) hB
   case s9=>
    refine StepFlowK.run rfl rfl fun a Y hS2 hB hd hG=> ?_
    obtain⟨u,e46,hu⟩:=(hd 8 (by kernel_rfl)).1.get rfl rfl
    obtain rfl:u= .int .i64 z:=hu
    exact wpF (c:= .slice (some ⟨Y.heap.size,0,none⟩) 1 1) (W':=Y.alloc (.cells #[.int .i64 z] 3)) (by go_simp) ⟨_,rfl,hB.size,blk_new _ _⟩ trivial (World.grownBy_alloc _ _ _) (hB.alloc (by have:=hB.size;omega) _)
   case s10=>
    refine StepFlowK.run rfl rfl fun a Y hS2 hB hd hG=> ?_
    obtain⟨u,e44,hu⟩:=(hd 6 (by kernel_rfl)).1.get rfl rfl
    obtain rfl:u=ve:=hu
    obtain⟨u2,e47,b,hu2,hb2,hb3⟩:=(hd 9 (by kernel_rfl)).1.get rfl rfl
    subst hu2
    exact wpF_append (ops:=#[]) (Kd.int .i64) W0.heap.size (.tmp 44) (.tmp 47) 25 3 (.int .i64 0) 8 rfl Tryz.underlying25 info_i64 rfl (by decide) (by decide) u esi z [.int .i64 z] b (0,0) okE (fun _=>False) (by simp[Act.eval,e44]) (by simp[Act.eval,e47]) hb3 rfl (fun _ h=>h.elim)
     (fun q hq=>by have:=hB.size;exact hfreshE q (by omega)) hG (by have:=hB.size;omega) (by omega) hB (by omega) hr10 (fun v1 w1 g1 g2=>⟨g1,trivial⟩)
   case s11=>
    refine StepFlowK.run rfl rfl fun a Y hS2 hB hd hG=> ?_
    have e6:a.tmps[6]? =some (.pointer (some ⟨fb,0,none⟩)):=hS2.get rfl rfl
    exact wpF (c:= .pointer (some ⟨fb,1,none⟩)) (W':=Y) (by go_simp) rfl trivial (World.grownBy.refl _ _) hB
   case s12=>
    refine StepFlowK.run rfl rfl fun a Y hS2 hB hd hG=> ?_
    obtain⟨u,e42,hu⟩:=(hd 4 (by kernel_rfl)).1.get rfl rfl
    obtain⟨u2,e49,hu2⟩:=(hd 11 (by kernel_rfl)).1.get rfl rfl
    obtain rfl:u2= .pointer (some ⟨fb,1,none⟩):=hu2
    have hG':Y.heap[fb]? =some (.cells #[.int .i64 v,vr,ve,.int .i64 z] 27 (0,0)):=hG
    have hcell:=bcl hG' 1 rfl
    have hfz:=blk_frozen hG' 1
    have hu':Kd.R kdRec 49 Y W0.heap.size okR u (rsi++[(k0,x1,x2,ds,x4,x5,x6)]):=hu
    obtain⟨Au,cu,rfl⟩:=Kd.R_slice hu'
    refine wpF_skip (W':=Y.setCell ⟨fb,1,none⟩ _) (by go_simp) rfl ⟨_,blk_put (cs':=#[.int .i64 v,_,ve,.int .i64 z]) hG' 1 _ rfl,Kd.R_far hu' (fun q hq=>by rw[hokR]at hq;exact hq.2.2) _⟩ (hr12 ▸ grownBy_cell Y fb 1 _) (hB.setCell (Nat.le_refl _) _)
   case s13=>
    refine StepFlowK.run rfl rfl fun a Y hS2 hB hd hG=> ?_
    have e6:a.tmps[6]? =some (.pointer (some ⟨fb,0,none⟩)):=hS2.get rfl rfl
    exact wpF (c:= .pointer (some ⟨fb,2,none⟩)) (W':=Y) (by go_simp) rfl trivial (World.grownBy.refl _ _) hB
   case s14=>
    refine StepFlowK.run rfl rfl fun a Y hS2 hB hd hG=> ?_
    obtain⟨u,e48,hu⟩:=(hd 10 (by kernel_rfl)).1.get rfl rfl
    obtain⟨u2,e50,hu2⟩:=(hd 13 (by kernel_rfl)).1.get rfl rfl
    obtain rfl:u2= .pointer (some ⟨fb,2,none⟩):=hu2
    obtain⟨vr2,hbx2,hR2⟩:=(hd 12 (by kernel_rfl)).2 (.inl rfl)
    have hcell:=bcl hbx2 2 rfl
    have hfz:=blk_frozen hbx2 2
    have hu':Kd.R (Kd.int .i64) 3 Y W0.heap.size okE u (esi++[z]):=hu
    obtain⟨Au,cu,rfl⟩:=Kd.R_slice hu'
    have hRest:RestOf row X2 Y:=hG
    have hg14:=fun u=>(hr14 ▸ grownBy_cell Y fb 2 u:Y.grownBy (Y.setCell ⟨fb,2,none⟩ u) (row 14))
    refine wpF_skip (W':=Y.setCell ⟨fb,2,none⟩ _) (by go_simp) rfl ⟨⟨vr2,_,blk_put (cs':=#[.int .i64 v,vr2,_,.int .i64 z]) hbx2 2 _ rfl,Kd.R_far hR2 (fun q hq=>by rw[hokR]at hq;exact hq.2.2) _,Kd.R_far hu' (fun q hq=>by rw[hokE]at hq;exact hq.2.2) _⟩,hRest.step hB.size (hg14 _)⟩ (hg14 _) (hB.setCell (Nat.le_refl _) _)
  case he=>
   intro a1 Y hS1 hB1 hh
   obtain⟨⟨vr',ve',hbx,hR',hE'⟩,hrest⟩:=(hh 14 (by omega)).2 (by show 15≤kilG 14;decide)
   obtain⟨hT,hRr,hRe,hrl2,hD2⟩:=HFIN.out
   have hR2:Kd.R kdRec 49 Y W0.heap.size (fun k=>¬(S k∨k=rb)) vr' (rsi++[(k0,x1,x2,ds,x4,x5,x6)]):=Kd.R_mono hR' (fun q hq=>by rw[hokR]at hq;exact hq.1)
   have hE2:Kd.R (Kd.int .i64) 3 Y W0.heap.size (fun k=>¬(S k∨k=rb)) ve' (esi++[z]):=Kd.R_mono hE' (fun q hq=>by rw[hokE]at hq;exact hq.1)
   obtain⟨hgo,hT3,hobj⟩:=GoC.region (fun k h=> .inl h) HG1.out hfbl hT hRr hRe hB1 (hrow ▸ hrest) hbx hR2 hE2
   obtain⟨hrsi,hesi,h3⟩:=HRS.out
   have hrn:(rs.map (·.1)).take (i+1)=rsi++[(k0,x1,x2,ds,x4,x5,x6)]:=by
    have hil:i<(rs.map (·.1)).length:=by rw[List.length_map];exact hi
    rw[List.take_succ_eq_append_getElem hil,hrsi]
    congr 2
    have:(rs.map (·.1))[i]? =some (k0,x1,x2,ds,x4,x5,x6):=by rw[List.getElem?_map,h3];rfl
    rw[List.getElem?_eq_getElem hil]at this
    exact Option.some.inj this
   refine⟨⟨S, ?_,fun _=>hT3⟩, ?_, ?_⟩
   ·rw[hrn,HZ2.out]
    rw[show(esi++[z]).getLast?.getD 8=z by simp]
    exact hgo.less (fun k h=> .inl h)
   ·exact(hobj _ _ hrl2 (fun _ _ _ h=>by cases h)).trans HOB.out.1.symm
   ·exact(hobj _ _ hD2 (fun _ _ _ h=>by cases h)).trans HOB.out.2.symm
 case iter=>
  rintro r W ⟨r0,hW⟩ hrdy hround
  have hbW:Below W0.heap.size W0 W:=by rw[hW];exact((Below.refl _ _).alloc (Nat.le_refl _) _).alloc (by rw[heap_size_alloc];omega) _
  have hsW:W.heap.size=W0.heap.size+2:=by rw[hW,heap_size_alloc,heap_size_alloc]
  have HBW:=hQ hbW
  have HSW:=hQ hsW
  have HRDY:=hQ hrdy
  have HR:=hQ hround
  clear hround hrdy hW hbW hsW
  refine callsIn_of_wp Tryz.func23 rfl trivial ?_
  simp only[Tryz.ntmps23,List.size_toArray,List.length_cons,List.length_nil,Nat.reduceAdd,Nat.reduceSub,Array.replicate_succ,Array.replicate_zero,List.push_toArray,List.append_toArray,List.nil_append,List.cons_append]
  gi_wp2_with fail
  refine⟨trivial, ?_⟩
  refine(callsIn_wide.2 (new_any none 0 [] W (Kd.C_nil _ _) (Nat.le_refl _) (by simp) (by simp))).mono ?_
  rintro e w5 ⟨rfl,S,hT,hS,hB⟩
  rw[HSW.out]at hT hS ⊢
  have hbs:Below W0.heap.size W0 w5:=HBW.out.trans (hB.mono HBW.out.size)
  have HG0:Hid (GoC W0 w5 fb S v ((rs.map (·.1)).take 0) (es.take 0) (((es.take 0).getLast?).getD 8)):=hQ ⟨Kp.of_below hbs _,hS,.slice none 0 0,.slice none 0 0,blk_below HFB0.out hbs,Kd.R_nil _ _ _ _ _,Kd.R_nil _ _ _ _ _⟩
  have HT0:Hid (Tab w5 S (W0.heap.size+2) (stF v rows 0 ([],0)).1):=hQ hT
  have HRD0:Hid (Ready (W0.heap.size+1) W0.heap.size r w5):=hQ ⟨blk_below HRDY.out.1 (HSW.out ▸ hB),blk_below HRDY.out.2 (HSW.out ▸ hB)⟩
  clear hT hS hB hbs
  gi_wp2_with fail
  gi_loopw [5] (fun u5 wr=>∃(i:Nat) (S:Nat→Prop),i≤rs.length∧u5= .int .i64 (stF v rows i ([],0)).2∧Hid (GoC W0 wr fb S v ((rs.map (·.1)).take i) (es.take i) (((es.take i).getLast?).getD 8))∧Hid (Tab wr S (W0.heap.size+2) (stF v rows i ([],0)).1)∧Hid (Ready (W0.heap.size+1) W0.heap.size r wr)) (fun u _=>((rows.length:Int)+1-intOf u).toNat)
  case atStart=>exact⟨0,S,by omega,rfl,HG0,HT0,HRD0⟩
  case round=>
   clear HG0 HT0 HRD0
   obtain⟨i,S,hi,rfl,HGO,HT,HRD⟩:=hrel
   have hst:=stF_succ v rows i ([],0)
   have hati:=HAT.out i hi
   have hbd:=HBD.out i hi
   obtain⟨Ti,hTi⟩:=eX ((stF v rows i ([],0)).1)
   obtain⟨ai,hai⟩:=eX ((stF v rows i ([],0)).2)
   rw[hTi,hai]at hst hati hbd
   rw[hTi]at HT
   have HTI:=hQ hTi
   rw[hai]
   have hfb2:fb<w4.heap.size:=by omega
   have cV:=(blk_cell (HGO.out.kp.heap HE.out.2.1 (by omega)) 0).trans rfl
   have cP:=(blk_cell (HGO.out.kp.heap HE.out.2.2 (by omega)) 0).trans rfl
   have hwl:W0.heap.size+2≤wr.heap.size:=by have:=(Array.getElem?_eq_some_iff.1 HRD.out.1).1;omega
   have hfw:=HFEW.out
   have hrl:=HRL.out
   have hSG:=sget_any HT.out v A7 c7 rows ai (fun W' hk=>HROWS.out W' (HGO.out.kp.trans hk (fun k hk=> .inr (by have:=HGO.out.sb k hk;omega)))) HC7.out HBT.out (by simp only[List.length_nil]at hbd;omega) (by omega)
   have hnx:=fun(h:(getF v Ti rows ai).2.2.2=0)=>getF_next h
   have hsame:=fun(h:(getF v Ti rows ai).2.2.2≠0)=>getF_same h
   generalize getF v Ti rows ai=F at hst hati hSG hnx hsame
   obtain⟨⟨k0,x1,x2,ds,x4,x5,x6⟩,nx,T',er⟩:=F
   dsimp only at hst hati hSG hnx hsame
   rw[hrl]at hSG
   have HSG:=hQ hSG
   clear hSG hTi hai
   have cV':wr.cell? ⟨w4.heap.size+1,0,none⟩=some (.int .i64 v):=cV
   have cP':wr.cell? ⟨w4.heap.size+1+1,0,none⟩=some (.slice A7 its.length c7):=cP
   clear cV cP
   by_cases he:er=0
   ·subst he
    obtain ⟨y,hy⟩: ∃y,rs[i]? =some y:=by
     cases h:rs[i]? with
     |none=>exact absurd rfl (hati.2 h)
     |some y=>exact⟨y,rfl⟩
    have hye:=(hati.1 y hy).2
    subst hye
    have hlt:i<rs.length:=(List.getElem?_eq_some_iff.1 hy).1
    obtain⟨m,hm,hm1,hm2,_,_⟩:=hnx rfl
    subst hm
    have HY:=hQ (And.intro hy (And.intro hlt (And.intro hst (And.intro hm1 hm2))))
    clear hati hnx hst hy hm1 hm2 hbd hsame
    gi_wp2_with fail
    refine⟨trivial, ?_⟩
    refine(callsIn_wide.2 HSG.out).mono ?_
    rintro e w6 ⟨dv,S',rfl,hT6,hs6,hk6,hR6⟩
    dsimp only at hT6 hR6 ⊢
    obtain⟨A5,c5,rfl⟩:=Kd.R_slice hR6
    have hG6:=HGO.out.wrote HFBL.out hs6 hk6 hwl
    have hrd6:Ready (W0.heap.size+1) W0.heap.size r w6:=⟨hk6.heap HRD.out.1 (fun h=>by have:=HGO.out.sb _ h;omega),hk6.heap HRD.out.2 (fun h=>by have:=HGO.out.sb _ h;omega)⟩
    have hba:Below w6.heap.size w6 (w6.alloc (.cells #[.int .i64 k0,.string x1,.int .u64 x2,.slice A5 ds.length c5,.int .u64 x4,.int .u64 x5,.string x6] 49)):=(Below.refl _ _).alloc (Nat.le_refl _) _
    have hrn:=HR.out i #[.agg #[.int .i64 k0,.string x1,.int .u64 x2,.slice A5 ds.length c5,.int .u64 x4,.int .u64 x5,.string x6],.int .i64 (m:Int)] (w6.alloc (.cells #[.int .i64 k0,.string x1,.int .u64 x2,.slice A5 ds.length c5,.int .u64 x4,.int .u64 x5,.string x6] 49)) HY.out.2.1
     ⟨S',(k0,x1,x2,ds,x4,x5,x6),(m:Int),.slice A5 ds.length c5,hG6.below hba,(by rw[HY.out.2.2.1];exact hT6.keep (Kp.of_below hba (fun _=>False)) (fun _ _ h=>h)),HY.out.1,Kd.R_lower (Kd.R_below hR6 hba) (by omega),rfl⟩ ⟨blk_below hrd6.1 hba,blk_below hrd6.2 hba⟩
    obtain⟨fn',tm,as',bd,hyy,hRn⟩:=hrn
    have HRN:=hQ hRn
    clear hT6 hs6 hk6 hR6 hG6 hrd6 hba hRn HSG HRD HGO HT
    gi_wp2
    refine HRN.out.mono ?_
    rintro e W' ⟨rfl,⟨S2,hG2,hT2⟩,hrd2⟩
    have HG2:=hQ hG2
    have HT2:=hQ (hT2 (by omega))
    have HRD2:=hQ hrd2
    clear hG2 hT2 hrd2 hyy cV' cP'
    gi_wp2
    go_roundw
    case rel=>exact⟨i+1,S2,HY.out.2.1,by rw[HY.out.2.2.1],HG2,HT2,HRD2⟩
    case measure=>
     have:=HY.out.2.2.2
     simp[intOf]
     omega
   ·have hiN:i=rs.length:=by
     rcases Nat.lt_or_ge i rs.length with h|h
     ·exact absurd (hati.1 _ (List.getElem?_eq_getElem h)).1 he
     ·omega
    have hne:(er !=0)=true:=by simpa using he
    have hT':=hsame he
    subst hT'
    clear hati hnx hst hbd hsame
    gi_wp2_with fail
    refine⟨trivial, ?_⟩
    refine(callsIn_wide.2 HSG.out).mono ?_
    rintro e w6 ⟨dv,S',rfl,hT6,hs6,hk6,hR6⟩
    dsimp only at hT6 hR6 ⊢
    obtain⟨A5,c5,rfl⟩:=Kd.R_slice hR6
    have hG6:=HGO.out.wrote HFBL.out hs6 hk6 hwl
    have hrd6:Ready (W0.heap.size+1) W0.heap.size r w6:=⟨hk6.heap HRD.out.1 (fun h=>by have:=HGO.out.sb _ h;omega),hk6.heap HRD.out.2 (fun h=>by have:=HGO.out.sb _ h;omega)⟩
    have hba:Below w6.heap.size w6 (w6.alloc (.cells #[.int .i64 k0,.string x1,.int .u64 x2,.slice A5 ds.length c5,.int .u64 x4,.int .u64 x5,.string x6] 49)):=(Below.refl _ _).alloc (Nat.le_refl _) _
    have HJ:Hid (GoC W0 (w6.alloc (.cells #[.int .i64 k0,.string x1,.int .u64 x2,.slice A5 ds.length c5,.int .u64 x4,.int .u64 x5,.string x6] 49)) fb S' v ((rs.map (·.1)).take rs.length) (es.take rs.length) (((es.take rs.length).getLast?).getD 8)∧Tab (w6.alloc (.cells #[.int .i64 k0,.string x1,.int .u64 x2,.slice A5 ds.length c5,.int .u64 x4,.int .u64 x5,.string x6] 49)) S' (W0.heap.size+2) (stF v rows rs.length ([],0)).1∧Ready (W0.heap.size+1) W0.heap.size r (w6.alloc (.cells #[.int .i64 k0,.string x1,.int .u64 x2,.slice A5 ds.length c5,.int .u64 x4,.int .u64 x5,.string x6] 49))):=hQ (by
     rw[←hiN]
     exact⟨hG6.below hba,(by rw[HTI.out];exact hT6.keep (Kp.of_below hba (fun _=>False)) (fun _ _ h=>h)),blk_below hrd6.1 hba,blk_below hrd6.2 hba⟩)
    clear hT6 hs6 hk6 hR6 hG6 hrd6 hba HSG HRD HGO HT cV' cP'
    gi_wp2
    refine⟨fun _ h=>(by cases h), ?_⟩
    gi_wp2
    (try simp only[Exit.inBlock,Exit.then])
    refine bodyPost_ret (results_none rfl _ _ _) rfl ?_
    exact⟨⟨_,rfl⟩,⟨S',HJ.out.1,fun _=>HJ.out.2.1⟩,HJ.out.2.2⟩
 case done=>
  rintro X ⟨S,hgo,_⟩ hD2
  rw[List.take_of_length_le (show(rs.map (·.1)).length≤rs.length by simp),List.take_of_length_le (show es.length≤rs.length by rw[HESL.out];exact Nat.le_refl _)]at hgo
  have hF:=HF.out
  generalize (rs.map fun x=>x.1)=recs at hF hgo
  have HF2:=hQ hF
  obtain⟨gd,hgd⟩:=eX (es.getLast?.getD 8)
  rw[hgd]at HF2 hgo
  clear hF hgd
  obtain⟨vr,ve,hbox,hRr,hRe⟩:=id hgo.fl
  obtain⟨Ar,cr,rfl⟩:=Kd.R_slice hRr
  obtain⟨Ae,ce,rfl⟩:=Kd.R_slice hRe
  have hb24:=hgo.kp.heap (blk_below HK24.out HB0.out) (by have:=HFB.out;omega)
  have p0:=(blk_cell hbox 0).trans rfl
  have o0:=(blk_cell hb24 0).trans rfl
  have of0:=blk_frozen hb24 0
  have p1:=(blk_cell hbox 1).trans rfl
  have o1:=(blk_cell hb24 1).trans rfl
  have of1:=blk_frozen hb24 1
  have p2:=(blk_cell hbox 2).trans rfl
  have o2:=(blk_cell hb24 2).trans rfl
  have of2:=blk_frozen hb24 2
  have p3:=(blk_cell hbox 3).trans rfl
  have o3:=(blk_cell hb24 3).trans rfl
  have of3:=blk_frozen hb24 3
  have HGO:=hQ hgo
  have HBX:=hQ (And.intro hb24 (And.intro hRr (And.intro hRe hD2)))
  have HU:=hQ Tryz.underlying27
  clear hgo hbox hRr hRe hb24 hD2
  gi_wp2
  obtain⟨X5,hX5⟩:=eX ((((X.setCell ⟨b2,0,none⟩ (.int .i64 v)).setCell ⟨b2,1,none⟩ (.slice Ar recs.length cr)).setCell ⟨b2,2,none⟩ (.slice Ae es.length ce)).setCell ⟨b2,3,none⟩ (.int .i64 gd))
  rw[hX5]
  have hb25:b2<W0.heap.size:=by have:=HFB.out;have:=HFBL.out;omega
  have hk5:Kp X X5 (fun k=>k=b2):=by
   rw[←hX5]
   exact((((Kp.refl X (fun k=>k=b2)).setCell (p:=⟨b2,0,none⟩) (.inl rfl) _).setCell (p:=⟨b2,1,none⟩) (.inl rfl) _).setCell (p:=⟨b2,2,none⟩) (.inl rfl) _).setCell (p:=⟨b2,3,none⟩) (.inl rfl) _
  have hbx5:X5.heap[b2]? =some (.cells #[.int .i64 v,.slice Ar recs.length cr,.slice Ae es.length ce,.int .i64 gd] 27 (0,0)):=by
   rw[←hX5]
   have q0:=blk_put (cs':=#[.int .i64 v,.slice none 0 0,.slice none 0 0,.int .i64 0]) HBX.out.1 0 (.int .i64 v) rfl
   have q1:=blk_put (cs':=#[.int .i64 v,.slice Ar recs.length cr,.slice none 0 0,.int .i64 0]) q0 1 (.slice Ar recs.length cr) rfl
   have q2:=blk_put (cs':=#[.int .i64 v,.slice Ar recs.length cr,.slice Ae es.length ce,.int .i64 0]) q1 2 (.slice Ae es.length ce) rfl
   exact blk_put (cs':=#[.int .i64 v,.slice Ar recs.length cr,.slice Ae es.length ce,.int .i64 gd]) q2 3 (.int .i64 gd) rfl
  have hD5:=hk5.heap HBX.out.2.2.2 (by omega)
  have hR5:=Kd.R_step (Kd.R_bound HBX.out.2.1) (fun k hk hlt=>hk5.block k hlt (by have:=hk.2.1;omega))
  have hE5:=Kd.R_step (Kd.R_bound HBX.out.2.2.1) (fun k hk hlt=>hk5.block k hlt (by have:=hk.2.1;omega))
  have hKW:Kp w4 X5 (fun k=>k=fb∨k=b2):=((Kp.of_below HB0.out (fun k=>k=fb∨k=b2)).trans HGO.out.kp (fun k h=> .inl (.inl h))).trans hk5 (fun k h=> .inl (.inr h))
  have hBW:Below w.heap.size w X5:=HB4.out.trans (hKW.to_below' (by have:=HB4.out.size;exact this) (fun k hk=>by have:=HB2.out;have:=HFB.out;omega))
  refine⟨by simp,.inl ⟨_,_,rfl,run_takeDeferred hD5, ?_⟩⟩
  refine⟨_,results_ct rfl _ _ b2 27 #[_,_,_,_] (0,0) _ rfl ((World.putObj_heap_other (by omega)).trans hbx5) HU.out rfl (by kernel_rfl), ?_⟩
  rw[HITS.out]
  unfold CGetPost
  rw[HF2.out]
  have hw4:=HB4.out.size
  have hw0:=HS0.out
  exact⟨_,_,rfl,Kd.R_mono (Kd.R_lower (R_putDef _ hR5 hD5) (by omega)) (fun _ _=>trivial),Kd.R_mono (Kd.R_lower (R_putDef _ hE5 hD5) (by omega)) (fun _ _=>trivial),below_putObj _ hBW (by omega)⟩
theorem cget_bad (A:Option Addr) (c:Nat) (l:List Int) (w:World) (hC:Kd.C (Kd.int .u8) w A l.length l) (hc:l.length≤c) (hb: ∀x∈l,0≤x∧x<256) (hl:l.length≤1000000) (v ec:Int) (hv:versF l=(v,ec)) (he:ec≠0):
  Calls Tryz.prog 5 #[.slice A l.length c] w (CGetPost w ((0,[],[],0),ec)):=by
 obtain⟨w1,hw1⟩:=eX (w.alloc (.cells #[.int .i64 0,.slice none 0 0,.slice none 0 0,.int .i64 0] 27))
 have hb1:Below w.heap.size w w1:=by rw[←hw1];exact(Below.refl _ _).alloc (Nat.le_refl _) _
 have hk1:w1.heap[w.heap.size]? =some (.cells #[.int .i64 0,.slice none 0 0,.slice none 0 0,.int .i64 0] 27 (0,0)):=by rw[←hw1];exact heap_new _ _
 obtain⟨b2,hb2⟩:=eX (w.heap.size)
 rw[hb2]at hk1
 have hVC:=vers_any A c l w1 (Kd.C_below hC hb1) hc hb hl
 rw[hv]at hVC
 have HVC:=hQ hVC
 have HB1:=hQ hb1
 have HK1:=hQ hk1
 have HW1:=hQ hw1
 have HB2:=hQ hb2
 have HU:=hQ Tryz.underlying27
 have hne:(ec !=0)=true:=by simpa using he
 clear hC hb1 hk1 hw1 hb2 hv hVC hb
 go_enter Tryz.func5,Tryz.ntmps5
 go_wp2_with fail
 rw[HW1.out,HB2.out]
 refine HVC.out.mono ?_
 rintro e w2 ⟨rfl,hb2⟩
 have hk2:=blk_below HK1.out hb2
 have o0:=(blk_cell hk2 0).trans rfl
 have of0:=blk_frozen hk2 0
 have o1:=(blk_cell hk2 1).trans rfl
 have of1:=blk_frozen hk2 1
 have o2:=(blk_cell hk2 2).trans rfl
 have of2:=blk_frozen hk2 2
 have o3:=(blk_cell hk2 3).trans rfl
 have of3:=blk_frozen hk2 3
 have HB12:=hQ (HB1.out.trans (hb2.mono HB1.out.size))
 have HK2:=hQ hk2
 clear hb2 hk2
 go_wp2_with fail
 have q0:=blk_put (cs':=#[.int .i64 0,.slice none 0 0,.slice none 0 0,.int .i64 0]) HK2.out 0 (.int .i64 0) rfl
 have q1:=blk_put (cs':=#[.int .i64 0,.slice none 0 0,.slice none 0 0,.int .i64 0]) q0 1 (.slice none 0 0) rfl
 have q2:=blk_put (cs':=#[.int .i64 0,.slice none 0 0,.slice none 0 0,.int .i64 0]) q1 2 (.slice none 0 0) rfl
 have q3:=blk_put (cs':=#[.int .i64 0,.slice none 0 0,.slice none 0 0,.int .i64 0]) q2 3 (.int .i64 0) rfl
 refine bodyPost_ret (results_ct rfl _ _ b2 27 #[_,_,_,_] (0,0) _ rfl q3 HU.out rfl (by kernel_rfl)) rfl ?_
 have hbb:=HB2.out
 exact⟨_,_,rfl,Kd.R_nil _ _ _ _ _,Kd.R_nil _ _ _ _ _,(((HB12.out.setCell (p:=⟨b2,0,none⟩) (by show w.heap.size≤b2;omega) _).setCell (p:=⟨b2,1,none⟩) (by show w.heap.size≤b2;omega) _).setCell (p:=⟨b2,2,none⟩) (by show w.heap.size≤b2;omega) _).setCell (p:=⟨b2,3,none⟩) (by show w.heap.size≤b2;omega) _⟩
theorem cget_any (A:Option Addr) (c:Nat) (l:List Int) (w:World) (hC:Kd.C (Kd.int .u8) w A l.length l) (hc:l.length≤c) (hb: ∀x∈l,0≤x∧x<256) (hl:l.length≤1000000) (hN:(runs l 8).length≤2700):
  Calls Tryz.prog 5 #[.slice A l.length c] w (CGetPost w (codG l)):=by
 unfold codG
 obtain⟨p,h⟩:=eX (versF l)
 rw[h]
 obtain⟨v,ec⟩:=p
 dsimp only
 by_cases he:ec=0
 ·subst he
  rw[if_neg (by simp)]
  exact cget_ok A c l w hC hc hb hl v h hN
 ·rw[if_pos he]
  exact cget_bad A c l w hC hc hb hl v ec h he
end Go.Proofs.YtfflenbfapgilaaGreat
namespace Go.Proofs.YtfflenbfapgilaaGreat.WCodecGets
open Go.Proofs.YtfflenbfapgilaaGreat.GRR
theorem runs_few (l:List Int) (hb: ∀x∈l,0≤x∧x<256) (hl:l.length≤3000):(runs l 8).length≤2700:=by
 by_cases h8:8≤l.length
 ·obtain⟨ps,hp,hi,hle,_⟩:=frunS_items l hb (l.length+1) 8 h8
  have hr8:runs l 8=items 8 ps:=hi
  have:=(frsC_le ps hp).1
  rw[hr8,items_len]
  omega
 ·have:=runs_len (l.length+1) l 8
  unfold runs
  omega
theorem gets_great (A:Option Addr) (c:Nat) (l:List Int) (w:World) (hle:3000<(l.length:Int)) (hm:l.length≤9223372036854775807):
  Calls Tryz.prog 3 #[.slice A l.length c] w fun e w'=>e= .returned (.bool true)∧Below w.heap.size w w':=by
 have d1:decide (3000<(l.length:Int))=true:=decide_eq_true hle
 go_enter Tryz.func3,Tryz.ntmps3
 go_wp2_with fail
 refine(fixed10_any _).mono ?_
 rintro e wf ⟨rfl,hbf⟩
 have HBF:=hQ hbf
 clear hbf
 go_wp2_with fail
 go_ret
 exact⟨rfl,HBF.out⟩
theorem gets_main (A:Option Addr) (c:Nat) (l:List Int) (w:World) (hr:Kd.C (Kd.int .u8) w A l.length l) (hc:l.length≤c) (hb: ∀x∈l,0≤x∧x<256) (hl:l.length≤3000):
  Calls Tryz.prog 3 #[.slice A l.length c] w fun e w'=>e= .returned (.bool true)∧Below w.heap.size w w':=by
 have d1:decide (3000<(l.length:Int))=false:=decide_eq_false (by omega)
 have hN:=cget_any A c l w hr hc hb (by omega) (runs_few l hb hl)
 have hRC:=fun(W:World)=>rcget_any l hb hl W
 have hCA:=fun(h:(codG l).2=0)=>cod_any l hb hl h
 have hCE:(codG l).2≠0→(codG l).1=(0,[],[],0):=by
  intro h
  unfold codG at h ⊢
  by_cases hv:(versF l).2≠0
  ·rw[if_pos hv]
  ·rw[if_neg hv]at h;exact absurd rfl h
 have hss:(strOfNums l).size=l.length:=strOfNums_size l
 generalize codG l=G at hN hRC hCA hCE
 obtain⟨⟨v,rs,es,gd⟩,er⟩:=G
 dsimp only at hCA hCE
 have HN:=hQ hN
 have HRC:=hQ hRC
 have HCA:=hQ hCA
 have HCE:=hQ hCE
 have HR:=hQ hr
 clear hN hRC hCA hCE hr hb
 go_enter Tryz.func3,Tryz.ntmps3
 go_wp2_with fail
 refine HN.out.mono ?_
 rintro e wb ⟨vr,ve,rfl,hR3,hE3,hbb⟩
 obtain⟨A3,c3,rfl⟩:=Kd.R_slice hR3
 obtain⟨A4,c4,rfl⟩:=Kd.R_slice hE3
 dsimp only at hR3 hE3 ⊢
 obtain⟨wd,hwd⟩:=eX (wb.alloc (.cells #[.int .i64 v,.slice A3 rs.length c3,.slice A4 es.length c4,.int .i64 gd] 27))
 have hbd:Below wb.heap.size wb wd:=by rw[←hwd];exact(Below.refl _ _).alloc (Nat.le_refl _) _
 have hkd:wd.heap[wb.heap.size]? =some (.cells #[.int .i64 v,.slice A3 rs.length c3,.slice A4 es.length c4,.int .i64 gd] 27 (0,0)):=by rw[←hwd];exact heap_new _ _
 obtain⟨b9,hb9⟩:=eX (wb.heap.size)
 rw[hb9]at hkd
 have HBD:=hQ (hbb.trans (hbd.mono hbb.size))
 have HR3:=hQ (Kd.R_reads' (Kd.R_below hR3 hbd))
 have HE3:=hQ (Kd.R_reads' (Kd.R_below hE3 hbd))
 have HKD:=hQ hkd
 have HWD:=hQ hwd
 have HB9:=hQ hb9
 have HCV:=hQ (fun(W:World) (h:Below w.heap.size w W)=>Kd.C_string (P:=Tryz.prog) (A:=A) (c:=c) Tryz.underlying22 Tryz.underlying5 Tryz.underlying9 (Kd.C_below HR.out h))
 have hcv:=HCV.out wd HBD.out
 rw[←hwd]at hcv
 obtain⟨s,hs⟩:=eX (strOfNums l)
 rw[hs]at hcv hss HRC
 have HS:=hQ hs
 clear hR3 hE3 hbb hbd hkd hwd hb9 HN hs
 go_wp2_with fail
 rw[HWD.out,HB9.out]
 clear hcv
 refine(HRC.out wd).mono ?_
 rintro e we ⟨vr2,ve2,rfl,hR5,hE5,hbe⟩
 obtain⟨A5,c5,rfl⟩:=Kd.R_slice hR5
 obtain⟨A6,c6,rfl⟩:=Kd.R_slice hE5
 dsimp only at hR5 hE5 ⊢
 obtain⟨wf,hwf⟩:=eX (we.alloc (.cells #[.int .i64 v,.slice A5 rs.length c5,.slice A6 es.length c6,.int .i64 gd] 31))
 have hbf:Below we.heap.size we wf:=by rw[←hwf];exact(Below.refl _ _).alloc (Nat.le_refl _) _
 have hdf:=hbe.trans (hbf.mono hbe.size)
 have hkf:=blk_below HKD.out hdf
 have HBF:=hQ (HBD.out.trans (hdf.mono HBD.out.size))
 have HKF:=hQ hkf
 have HWF:=hQ hwf
 have HR3F:=hQ (Kd.C_below HR3.out.2.2 hdf)
 have HE3F:=hQ (Kd.C_below HE3.out.2.2 hdf)
 have HR5F:=hQ (Kd.C_below (Kd.R_reads' hR5).2.2 hbf)
 have HE5F:=hQ (Kd.C_below (Kd.R_reads' hE5).2.2 hbf)
 have x0:=bcl hkf 0 rfl
 have x1:=bcl hkf 1 rfl
 have x2:=bcl hkf 2 rfl
 have x3:=bcl hkf 3 rfl
 rw[←hwf]at x0 x1 x2 x3
 have hse:(er !=er)=false:=by simp
 have hf: ∀r∈rs,r.2.2.2.1.length≤1000:=by
  by_cases he:er=0
  ·intro r hr
   have:=(may_facts (((HCA.out he).good r hr).may)).n
   omega
  ·have:=HCE.out he
   simp only[Prod.mk.injEq]at this
   obtain⟨_,h2,_⟩:=this
   rw[h2];simp
 have HSM:=hQ (same10_any v gd A3 A4 A5 A6 c3 c4 c5 c6 rs es wf HR3F.out HR5F.out HE3F.out HE5F.out hf)
 clear hR5 hE5 hbe hwf hbf hdf hkf hf
 go_wp2_with fail
 rw[HWF.out]
 clear x0 x1 x2 x3
 refine HSM.out.mono ?_
 rintro e wh ⟨rfl,hbh⟩
 have HBH:=hQ (HBF.out.trans (hbh.mono HBF.out.size))
 have hkh:=blk_below HKF.out hbh
 have HKH:=hQ hkh
 have HR3H:=hQ (Kd.C_below HR3F.out hbh)
 clear hbh HSM
 by_cases he:er=0
 ·subst he
  have hca:=HCA.out rfl
  obtain⟨m,hgm,hm8,hml,hcod⟩:=hca.n
  subst hgm
  have hnum: ∀r∈rs,NumR r:=fun r hr=>(hca.good r hr).num
  have hok: ∀r∈rs,RecOk r.2.1 r.2.2.2.1 r.2.2.2.2.2.2:=fun r hr=>(by
   have M:=may_facts ((hca.good r hr).may)
   exact⟨by have:=M.n;omega,by have:=M.t;simp only[maxLen];omega,by have:=M.tag;simp only[maxLen];omega,fun d hd=>by have:=M.d d hd;simp only[maxLen];omega⟩)
  have htl:(l.take m).length=m:=by rw[List.length_take];omega
  have hPT:=codput_any v A3 c3 rs wh HR3H.out HR3.out.2.1 (.inr ⟨hca.few,by rw[hcod],by rw[hcod];dsimp only;omega⟩) hnum hok
  rw[hcod]at hPT
  have HPT:=hQ hPT
  have y0:=bcl hkh 0 rfl
  have y1:=bcl hkh 1 rfl
  have y2:=bcl hkh 2 rfl
  have y3:=bcl hkh 3 rfl
  clear hkh hca hcod hnum hok hPT
  go_wp2_with fail
  refine HPT.out.mono ?_
  rintro e wi ⟨vb,rfl,hRB,hbi⟩
  obtain⟨A7,c7,rfl⟩:=Kd.R_slice hRB
  dsimp only at hRB ⊢
  have hCB:=(Kd.R_reads' hRB).2.2
  have HBI:=hQ (HBH.out.trans (hbi.mono HBH.out.size))
  have HKI:=hQ (blk_below HKH.out hbi)
  have hca7:=fun(W:World) (h:Below wi.heap.size wi W)=>Kd.C_string (P:=Tryz.prog) (A:=A7) (c:=c7) Tryz.underlying22 Tryz.underlying5 Tryz.underlying9 (Kd.C_below hCB h)
  have hcam:=fun(W:World) (h:Below wi.heap.size wi W)=>Kd.C_string (P:=Tryz.prog) (A:=A) (c:=c) Tryz.underlying22 Tryz.underlying5 Tryz.underlying9 (Kd.C_take (Kd.C_below HR.out (HBI.out.trans (h.mono HBI.out.size))) hml)
  rw[htl]at hca7 hcam ⊢
  obtain⟨sm,hsm⟩:=eX (strOfNums (l.take m))
  rw[hsm]at hca7 hcam
  have HC7:=hQ hca7
  have HCM:=hQ hcam
  have hmc:m≤c:=by omega
  have hmz:m≤3000:=by omega
  clear hRB hbi hCB hca7 hcam hsm htl HPT HCA HCE y0 y1 y2 y3
  go_wp2_with fail
  refine region_calm (n:=16) (byList [isV (.bool true),isV (.bool true),isV (.int .i64 0),isV (.bool true),isV (.bool true),isV (.bool true),isV (.slice A7 m c7),isV (.string sm),isV (.slice A l.length c),isV (.pointer (some ⟨b9,3,none⟩)),isV (.int .i64 (m:Int)),isV (.slice A m c),isV (.string sm),isV (.bool true),isV (.bool true),isV (.bool true)]) (by kernel_rfl) rfl (byList_lasts ?_) (by kernel_rfl) (by kernel_rfl) (by kernel_rfl) (show AllLt 16 _ from ?_) ?_
  ·intro p hp
   simp only[List.mem_cons,List.not_mem_nil,or_false]at hp
   rcases hp with rfl|rfl|rfl|rfl|rfl|rfl|rfl|rfl|rfl|rfl|rfl|rfl|rfl|rfl|rfl|rfl<;>first|exact isV_lasts|exact isC_lasts
  ·refine allLt_succ (allLt_succ (allLt_succ (allLt_succ (allLt_succ (allLt_succ (allLt_succ (allLt_succ (allLt_succ (allLt_succ (allLt_succ (allLt_succ (allLt_succ (allLt_succ (allLt_succ (allLt_succ (allLt_zero _) ?_) ?_) ?_) ?_) ?_) ?_) ?_) ?_) ?_) ?_) ?_) ?_) ?_) ?_) ?_) ?_
   ·refine StepOk.run (get_lit rfl) rfl fun a W hS hB hd=> ?_
    refine wp_called Tryz.func4 (by kernel_rfl) rfl #[] rfl (by simp[Act.eval, *]) ?_
    refine(fixed10_any W).mono ?_
    rintro e9 w9 ⟨rfl,hb9⟩
    exact⟨_,rfl,rfl,hb9⟩
   ·refine StepOk.run (get_lit rfl) rfl fun a W hS hB hd=> ?_
    have e44:=(hd 0 rfl).bool rfl rfl rfl
    refine wp_value (c:= .bool true) ?_ rfl
    go_simp
   ·refine StepOk.on (g:=1) (u:=true) (get_lit rfl) rfl rfl rfl rfl rfl fun a W hS hB hd=> ?_
    have e8:=hS.get (t:=8) rfl rfl
    refine wp_value (c:= .int .i64 0) ?_ rfl
    go_simp
   ·refine StepOk.on (g:=1) (u:=true) (get_lit rfl) rfl rfl rfl rfl rfl fun a W hS hB hd=> ?_
    have e46:=(hd 2 rfl).bool rfl rfl rfl
    refine wp_value (c:= .bool true) ?_ rfl
    go_simp
   ·refine StepOk.run (get_lit rfl) rfl fun a W hS hB hd=> ?_
    have e45:=(hd 1 rfl).bool rfl rfl rfl
    have e47:=(hd 3 rfl).bool rfl rfl rfl
    refine wp_value (c:= .bool true) ?_ rfl
    go_simp
   ·refine StepOk.run (get_lit rfl) rfl fun a W hS hB hd=> ?_
    have e48:=(hd 4 rfl).bool rfl rfl rfl
    refine wp_value (c:= .bool true) ?_ rfl
    go_simp
   ·refine StepOk.on (g:=5) (u:=true) (get_lit rfl) rfl rfl rfl rfl rfl fun a W hS hB hd=> ?_
    have e7:=hS.get (t:=7) rfl rfl
    refine wp_value (c:= .slice A7 m c7) ?_ rfl
    go_simp
   ·refine StepOk.on (g:=5) (u:=true) (get_lit rfl) rfl rfl rfl rfl rfl fun a W hS hB hd=> ?_
    have e50:=(hd 6 rfl).bool rfl rfl rfl
    refine wp_value (c:= .string sm) ?_ rfl
    have hcv:=HC7.out W hB
    go_simp
   ·refine StepOk.on (g:=5) (u:=true) (get_lit rfl) rfl rfl rfl rfl rfl fun a W hS hB hd=> ?_
    have e0:=hS.get (t:=0) rfl rfl
    refine wp_value (c:= .slice A l.length c) ?_ rfl
    go_simp
   ·refine StepOk.on (g:=5) (u:=true) (get_lit rfl) rfl rfl rfl rfl rfl fun a W hS hB hd=> ?_
    have e3:=hS.get (t:=3) rfl rfl
    refine wp_value (c:= .pointer (some ⟨b9,3,none⟩)) ?_ rfl
    go_simp
   ·refine StepOk.on (g:=5) (u:=true) (get_lit rfl) rfl rfl rfl rfl rfl fun a W hS hB hd=> ?_
    have e53:=(hd 9 rfl).bool rfl rfl rfl
    refine wp_value (c:= .int .i64 (m:Int)) ?_ rfl
    have hkW:=blk_below HKI.out hB
    have s3:=bcl hkW 3 rfl
    go_simp
   ·refine StepOk.on (g:=5) (u:=true) (get_lit rfl) rfl rfl rfl rfl rfl fun a W hS hB hd=> ?_
    have e52:=(hd 8 rfl).bool rfl rfl rfl
    have e54:=(hd 10 rfl).bool rfl rfl rfl
    refine wp_value (c:= .slice A m c) ?_ rfl
    go_simp
   ·refine StepOk.on (g:=5) (u:=true) (get_lit rfl) rfl rfl rfl rfl rfl fun a W hS hB hd=> ?_
    have e55:=(hd 11 rfl).bool rfl rfl rfl
    refine wp_value (c:= .string sm) ?_ rfl
    have hcv:=HCM.out W hB
    go_simp
   ·refine StepOk.on (g:=5) (u:=true) (get_lit rfl) rfl rfl rfl rfl rfl fun a W hS hB hd=> ?_
    have e51:=(hd 7 rfl).bool rfl rfl rfl
    have e56:=(hd 12 rfl).bool rfl rfl rfl
    refine wp_value (c:= .bool true) ?_ rfl
    go_simp
   ·refine StepOk.run (get_lit rfl) rfl fun a W hS hB hd=> ?_
    have e49:=(hd 5 rfl).bool rfl rfl rfl
    have e57:=(hd 13 rfl).bool rfl rfl rfl
    refine wp_value (c:= .bool true) ?_ rfl
    go_simp
   ·refine StepOk.run (get_lit rfl) rfl fun a W hS hB hd=> ?_
    have e58:=(hd 14 rfl).bool rfl rfl rfl
    refine wp_value (c:= .bool true) ?_ rfl
    go_simp
  ·intro a W hS hB hh
   have e2:a.tmps[2]? =some (.bool true):=(hh 15 (by omega)).bool rfl rfl rfl
   have HBR:=hQ hB
   obtain⟨zz,hlit,hzz⟩:=same_litz hS
   clear hh hS hB
   simp only[List.filterMap_cons,List.filterMap_nil,List.foldl_cons,List.foldl_nil,List.setIfInBounds_toArray,List.set_cons_zero,List.set_cons_succ]at hlit
   rw[hzz 2 _ e2]at hlit
   clear e2
   clear hzz;subst hlit
   go_wp2_with fail
   go_ret
   exact⟨rfl,HBI.out.trans (HBR.out.mono HBI.out.size)⟩
 ·have hne:(er !=0)=true:=by simpa using he
  clear hkh
  go_wp2_with fail
  refine(fixed10_any _).mono ?_
  rintro e wz ⟨rfl,hbz⟩
  have HBZ:=hQ (HBH.out.trans (hbz.mono HBH.out.size))
  clear hbz
  go_wp2_with fail
  go_ret
  exact⟨rfl,HBZ.out⟩
theorem walk (a0:Option Addr) (len0 cap0:Nat) (z0:List Int) (w:World) (w0:(a0=none∧len0=0∧cap0=0∧z0=[])∨∃x,a0=some x∧len0≤cap0∧cap0≤maxLen∧z0.length=cap0∧(∀i,i<z0.length→w.cell? (x.add i)=some (.int .u8 (z0.getD i 0)))∧∀n∈z0,(Lit.int .u8 n).wf=true) (y0:len0*1≤140737488351232):
  Calls Tryz.prog 3 #[.slice a0 len0 cap0] w fun e w'=>e= .returned (.bool true)∧Below w.heap.size w w':=by
 obtain⟨l,rfl,hr,hm,hb,hc⟩:=ReadsInt.ofRowC w0
 have hr:=Kd.C_of_reads (d:=(0:Int)) (h1:=fun _=>rfl) hr
 have hb:=bytes_of_wf hb
 by_cases hle:3000<(l.length:Int)
 ·exact gets_great a0 cap0 l w hle (by have:=hr.2.1;omega)
 ·exact gets_main a0 cap0 l w hr hc hb (by omega)
end Go.Proofs.YtfflenbfapgilaaGreat.WCodecGets
