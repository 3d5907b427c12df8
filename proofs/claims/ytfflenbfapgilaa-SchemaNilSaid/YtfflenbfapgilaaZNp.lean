/- Texts laid as one by shake.py, cut to what the claim needs: GRRz1. (Names that begin with W and the print's groups (G..x, G..z): laid by the kit's print, cut.) -/
import Derived.Test.YtfflenbfapgilaaZNe
import Derived.Test.YtfflenbfapgilaaZNg
set_option linter.unusedVariables false
set_option linter.unusedSimpArgs false
-- by a program of this session (gprint.py, over the kit's print): the machine's side of a law
namespace Go.Proofs.Ytfflenbfapgilaa.GRR
open Go.RowKit Go.Proofs.YtfflenbfapgilaaW.PrintWords Go.Proofs.YtfflenbfapgilaaW.PrintLast Go.Proofs.YtfflenbfapgilaaW.PrintMore
attribute [local go_sem] max2_int min2_int max_two min_two max_three min_three max_four min_four   -- for this text's walks alone
end Go.Proofs.Ytfflenbfapgilaa.GRR
