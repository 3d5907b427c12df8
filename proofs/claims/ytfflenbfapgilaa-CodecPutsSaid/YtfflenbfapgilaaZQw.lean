/- Texts laid as one by shake.py, cut to what the claim needs: SchO. (Names that begin with W and the print's groups (G..x, G..z): laid by the kit's print, cut.) -/
import Derived.Test.YtfflenbfapgilaaZQv
import Derived.Test.YtfflenbfapgilaaZQr
set_option linter.unusedVariables false
set_option linter.unusedSimpArgs false
namespace Go.Proofs.Ytfflenbfapgilaa
open Go.RowKit Go.Proofs.YtfflenbfapgilaaW.PrintWords Go.Proofs.Ytfflenbfapgilaa.GRR
end Go.Proofs.Ytfflenbfapgilaa
