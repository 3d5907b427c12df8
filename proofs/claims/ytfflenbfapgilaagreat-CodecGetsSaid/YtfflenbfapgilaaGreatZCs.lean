/- Texts laid as one by shake.py, cut to what the claim needs: Open. (Names that begin with W and the print's groups (G..x, G..z): laid by the kit's print, cut.) -/
import Derived.Test.YtfflenbfapgilaaGreatZCd
import Derived.ChangeArms
import Derived.ChangeSlices
import Derived.OpenShut
set_option linter.unusedVariables false
set_option linter.unusedSimpArgs false
namespace Go.Proofs.YtfflenbfapgilaaGreat
open Go.RowKit Go.Proofs.YtfflenbfapgilaaGreatW.PrintWords Go.ChangeShapes Go.WideShapes
structure Opens (P:Program) (t:TypeId) {α:Type} (d:Kd α) (ok:α→Prop):Prop where
 cells:P.cellsOf t=d.sz
 out: ∀{H:Type} {enc:TypeId×Value→H} {W:World} {base:Nat} {held:Bool} {fuel:Nat} {cs:List Value} {x:DataW H×List MemPlace},
  DataW.trod enc P W base (fun _=>true) held fuel t cs=some x→∃y,d.K W y cs∧ok y
section
variable {P:Program} {t e:TypeId}
theorem Opens.imp {α:Type} {d:Kd α} {ok ok':α→Prop} (h:Opens P t d ok) (hi: ∀y,ok y→ok' y):Opens P t d ok':=
 ⟨h.cells,fun hx=>by obtain⟨y,h1,h2⟩:=h.out hx;exact⟨y,h1,hi y h2⟩⟩
theorem add_add (a:Addr) (i j:Nat):(a.add i).add j=a.add (i+j):=by
 unfold Addr.add
 split<;>split<;>simp_all<;>omega
structure OpensF (P:Program) (fs:List Field) (off:Nat) {α:Type} (d:Kd α) (ok:α→Prop):Prop where
 out: ∀{H:Type} {enc:TypeId×Value→H} {W:World} {base:Nat} {held:Bool} {n:Nat} {cs:List Value},cs.length=off+d.sz→
  (∀f∈fs,∃x,DataW.trod enc P W base (fun _=>true) held n f.type ((cs.drop f.offset).take (P.cellsOf f.type))=some x)→∃y,d.K W y (cs.drop off)∧ok y
end
end Go.Proofs.YtfflenbfapgilaaGreat
