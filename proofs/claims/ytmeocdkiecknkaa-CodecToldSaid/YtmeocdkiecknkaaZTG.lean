/- Texts laid as one by shake.py, cut to what the claim needs: WSized. (Names that begin with W and the print's groups (G..x, G..z): laid by the kit's print, cut.) -/
import Derived.SizedLaws
import Derived.ChangeSlices
set_option linter.unusedVariables false
set_option linter.unusedSimpArgs false
namespace Go.Proofs.YtmeocdkiecknkaaW.PrintWords
open Go.ChangeShapes Go.WideShapes
end Go.Proofs.YtmeocdkiecknkaaW.PrintWords
