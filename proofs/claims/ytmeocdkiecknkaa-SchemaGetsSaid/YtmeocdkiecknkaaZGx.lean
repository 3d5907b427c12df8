/- Texts laid as one by shake.py, cut to what the claim needs: SchO. (Names that begin with W and the print's groups (G..x, G..z): laid by the kit's print, cut.) -/
import Derived.Test.YtmeocdkiecknkaaZGw
import Derived.Test.YtmeocdkiecknkaaZGr
set_option linter.unusedVariables false
set_option linter.unusedSimpArgs false
namespace Go.Proofs.Ytmeocdkiecknkaa
open Go.RowKit Go.Proofs.YtmeocdkiecknkaaW.PrintWords Go.Proofs.Ytmeocdkiecknkaa.GRR
theorem cellsOf_strs9:Try.prog.cellsOf 45=1:=by kernel_rfl
set_option maxRecDepth 100000 in
theorem open_t45 {H:Type} {enc:TypeId×Value→H} {W:World} {base:Nat} {held:Bool} {v:Value} {d:DataW H} {ps:List MemPlace} {r:Reach} {b0:Nat} (hval:Value.okWide Try.prog W r b0 45 v) (h:DataW.Trod enc Try.prog W base (fun _=>true) held 45 v d ps):
  ∃x,IsRows Kd.string (fun s=>s.size≤maxLen) W v x:=open_rows Try.underlying45 cellsOf_strs9 opens_str8 hval h
end Go.Proofs.Ytmeocdkiecknkaa
