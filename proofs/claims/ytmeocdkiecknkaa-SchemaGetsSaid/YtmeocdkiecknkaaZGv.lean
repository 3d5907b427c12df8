/- Texts laid as one by shake.py, cut to what the claim needs: Open. (Names that begin with W and the print's groups (G..x, G..z): laid by the kit's print, cut.) -/
import Derived.Test.YtmeocdkiecknkaaZGd
import Derived.ChangeArms
import Derived.ChangeSlices
import Derived.OpenShut
set_option linter.unusedVariables false
set_option linter.unusedSimpArgs false
namespace Go.Proofs.Ytmeocdkiecknkaa
open Go.RowKit Go.Proofs.YtmeocdkiecknkaaW.PrintWords Go.ChangeShapes Go.WideShapes
structure Opens (P:Program) (t:TypeId) {α:Type} (d:Kd α) (ok:α→Prop):Prop where
 cells:P.cellsOf t=d.sz
 out: ∀{H:Type} {enc:TypeId×Value→H} {W:World} {base:Nat} {held:Bool} {fuel:Nat} {cs:List Value} {x:DataW H×List MemPlace},
  DataW.trod enc P W base (fun _=>true) held fuel t cs=some x→∃y,d.K W y cs∧ok y
section
variable {P:Program} {t e:TypeId}
theorem Opens.imp {α:Type} {d:Kd α} {ok ok':α→Prop} (h:Opens P t d ok) (hi: ∀y,ok y→ok' y):Opens P t d ok':=
 ⟨h.cells,fun hx=>by obtain⟨y,h1,h2⟩:=h.out hx;exact⟨y,h1,hi y h2⟩⟩
theorem opens_string (ht:P.underlying t=some .string) (hc:P.cellsOf t=1):Opens P t Kd.string (fun s=>s.size≤maxLen):=
 ⟨hc,fun h=>by obtain⟨s,rfl,_,hs⟩:=DataW.trod_string ht h;exact⟨s,rfl,hs⟩⟩
theorem cells?_get {W:World} {base n:Nat} {a:Addr} {cs:List Value} (h:W.cells? base a n=some cs) {i:Nat} {u:Value} (hu:cs[i]? =some u):W.cell? (a.add i)=some u:=by
 have h1:=World.cells?_some h
 have hi:i<cs.length:=(List.getElem?_eq_some_iff.1 hu).1
 have h2:=h1.2.2 i (by rw[←h1.2.1];exact hi)
 rw[h2];exact hu
theorem add_add (a:Addr) (i j:Nat):(a.add i).add j=a.add (i+j):=by
 unfold Addr.add
 split<;>split<;>simp_all<;>omega
theorem opens_rows {α:Type} {d:Kd α} {ok:α→Prop} (he:Opens P e d ok) {H:Type} {enc:TypeId×Value→H} {W:World} {base len n:Nat} {a:Addr} {held:Bool} {elems:List (DataW H×List MemPlace)} (hlen:elems.length=len)
  (hel: ∀i,i<len→(W.cells? base (a.add (i*P.cellsOf e)) (P.cellsOf e)).bind (DataW.trod enc P W base (fun _=>true) held n e)=elems[i]?):
  ∃xs:List α,xs.length=len∧(∀y∈xs,ok y)∧∀j p,xs[j]? =some p→∃c,c.length=d.sz∧d.K W p c∧∀i u,c[i]? =some u→W.cell? (a.add (j*d.sz+i))=some u:=by
 have each: ∀i,i<len→∃y,ok y∧∃c,c.length=d.sz∧d.K W y c∧∀j u,c[j]? =some u→W.cell? (a.add (i*d.sz+j))=some u:=by
  intro i hi
  have h1:=hel i hi
  rw[List.getElem?_eq_getElem (by omega),Option.bind_eq_some_iff]at h1
  obtain⟨cs,hcs,hx⟩:=h1
  obtain⟨y,hk,ho⟩:=he.out hx
  refine⟨y,ho,cs,d.K_len hk,hk,fun j u hu=> ?_⟩
  have h2:=cells?_get hcs hu
  rwa [add_add,he.cells]at h2
 have build: ∀m,m≤len→∃xs:List α,xs.length=m∧(∀y∈xs,ok y)∧∀j p,xs[j]? =some p→∃c,c.length=d.sz∧d.K W p c∧∀i u,c[i]? =some u→W.cell? (a.add (j*d.sz+i))=some u:=by
  intro m
  induction m with
  |zero=>intro _;exact⟨[],rfl,by simp,by simp⟩
  | succ m ih=>
   intro hm
   obtain⟨xs,hl,ho,hc⟩:=ih (by omega)
   obtain⟨y,hy,c,h1,h2,h3⟩:=each m (by omega)
   refine⟨xs++[y],by simp[hl], ?_, ?_⟩
   ·intro z hz
    rcases List.mem_append.1 hz with hz|hz
    ·exact ho z hz
    ·simp at hz;subst hz;exact hy
   ·intro j p hj
    by_cases hjm:j<m
    ·rw[List.getElem?_append_left (by omega)]at hj
     exact hc j p hj
    ·have hj':=(List.getElem?_eq_some_iff.1 hj).1
     simp only[List.length_append,List.length_singleton]at hj'
     obtain rfl:j=m:=by omega
     rw[List.getElem?_append_right (by omega)]at hj
     simp[hl]at hj
     subst hj
     exact⟨c,h1,h2,h3⟩
 exact build len (Nat.le_refl _)
theorem opens_slice {α:Type} {d:Kd α} {ok:α→Prop} (ht:P.underlying t=some (.slice e)) (hc:P.cellsOf t=1) (he:Opens P e d ok):Opens P t (Kd.slice e d) (fun xs=>xs.length≤maxLen∧∀y∈xs,ok y):=
 ⟨hc,fun {H enc W base held fuel cs x} h=>by
  rcases DataW.trod_slice ht h with⟨rfl,_⟩|⟨a,len,cap,elems,rest,n,_,rfl,_,_,hl,hm,hlen,hel,_,_⟩
  ·exact⟨[],⟨none,0,rfl,Nat.le_refl _,Kd.C_nil _ _⟩,by simp[maxLen],by simp⟩
  ·obtain⟨xs,h1,h2,h3⟩:=opens_rows he hlen hel
   refine⟨xs,⟨some a,cap,by rw[h1],by omega,rfl,by rw[h1];simp only[maxLen]at hm;omega,fun _=>⟨a,rfl,fun j p hj=> ?_⟩⟩,by rw[h1];omega,h2⟩
   obtain⟨c,g1,g2,g3⟩:=h3 j p hj
   exact⟨c,g1,g2,g3⟩⟩
structure OpensF (P:Program) (fs:List Field) (off:Nat) {α:Type} (d:Kd α) (ok:α→Prop):Prop where
 out: ∀{H:Type} {enc:TypeId×Value→H} {W:World} {base:Nat} {held:Bool} {n:Nat} {cs:List Value},cs.length=off+d.sz→
  (∀f∈fs,∃x,DataW.trod enc P W base (fun _=>true) held n f.type ((cs.drop f.offset).take (P.cellsOf f.type))=some x)→∃y,d.K W y (cs.drop off)∧ok y
def IsRows {α:Type} (d:Kd α) (ok:α→Prop) (W:World) (v:Value) (x:Option Addr×Nat×List α):Prop:=
 v= .slice x.1 x.2.2.length x.2.1∧x.2.2.length≤x.2.1∧d.C W x.1 x.2.2.length x.2.2∧x.2.2.length≤maxLen∧∀s∈x.2.2,ok s
theorem open_rows {α:Type} {d:Kd α} {ok:α→Prop} (ht:P.underlying t=some (.slice e)) (hc:P.cellsOf t=1) (he:Opens P e d ok) {H:Type} {enc:TypeId×Value→H} {W:World} {base:Nat} {held:Bool} {v:Value} {dd:DataW H} {ps:List MemPlace} {r:Reach} {b0:Nat}
  (hval:Value.okWide P W r b0 t v) (h:DataW.Trod enc P W base (fun _=>true) held t v dd ps): ∃x,IsRows d ok W v x:=by
 obtain⟨fuel,hf⟩:=h
 obtain⟨A,len,cap,rfl⟩:=okWide_slice ht hval
 obtain⟨xs,⟨A',c',hcs,hl,hC⟩,hm,ho⟩:=(opens_slice ht hc he).out hf
 simp[Value.cells]at hcs
 obtain⟨rfl,rfl,rfl⟩:=hcs
 exact⟨(A,cap,xs),rfl,hl,hC,hm,ho⟩
end
end Go.Proofs.Ytmeocdkiecknkaa
