/- Texts laid as one by shake.py, cut to what the claim needs: SchO. (Names that begin with W and the print's groups (G..x, G..z): laid by the kit's print, cut.) -/
import Derived.Test.YtfflenbfapgilaaZCv
import Derived.Test.YtfflenbfapgilaaZCr
set_option linter.unusedVariables false
set_option linter.unusedSimpArgs false
namespace Go.Proofs.Ytfflenbfapgilaa
open Go.RowKit Go.Proofs.YtfflenbfapgilaaW.PrintWords Go.Proofs.Ytfflenbfapgilaa.GRR
theorem same_self (f0 : Int) (f1 : ByteArray) (f2 : Int) (f3 : List S113) (f4 f5 : Int) (f6 : ByteArray) (A3 A4 : Option Addr) (c3 c4 : Nat) (W : World) (h1 : Kd.C k113 W A3 f3.length f3) (h2 : Kd.C k113 W A4 f3.length f3) (hc3 : f3.length ≤ c3) (hc4 : f3.length ≤ c4) (hl : f3.length ≤ 1000) :
  Calls Try.prog 39 #[.agg #[.int .i64 f0, .string f1, .int .u64 f2, .slice A3 f3.length c3, .int .u64 f4, .int .u64 f5, .string f6], .agg #[.int .i64 f0, .string f1, .int .u64 f2, .slice A4 f3.length c4, .int .u64 f4, .int .u64 f5, .string f6]] W fun e w' => e = .returned (.bool true) ∧ Below W.heap.size W w' := by
 obtain ⟨b, hb, hb2⟩ := rsame_is f0 f0 f1 f1 f2 f2 f3 f3 f4 f4 f5 f5 f6 f6 (by omega) 2000 (by omega)
 rw [hb2.2 ⟨rfl, rfl, rfl, rfl, rfl, rfl, rfl⟩] at hb
 exact tephraref08_Same.calls 2000 f0 f1 f2 A3 c3 f3 f4 f5 f6 f0 f1 f2 A4 c4 f3 f4 f5 f6 true W h1 hc3 h2 hc4 hb
theorem great8_at (x0 : Int) (x1 : ByteArray) (x2 : Int) (x3 : List S113) (x4 x5 : Int) (x6 : ByteArray) (A : Option Addr) (c : Nat) (W : World) (hr : Kd.C k113 W A x3.length x3) (hc : x3.length ≤ c) :
  ∃ g : Bool, (g = false → RecFew x1 x3 x6) ∧ ∀ W', Below W.heap.size W W' → Calls Try.prog 29 #[.agg #[.int .i64 x0, .string x1, .int .u64 x2, .slice A x3.length c, .int .u64 x4, .int .u64 x5, .string x6]] W' fun e w' => e = .returned (.bool g) ∧ Below W'.heap.size W' w' := by
 obtain ⟨g, hg, hf⟩ := great_is x0 x1 x2 x3 x4 x5 x6 hr.2.1 (x3.length + 1) (by omega)
 exact ⟨g, hf, fun W' hb => tephralaw08_Great.calls (x3.length + 1) x0 x1 x2 A c x3 x4 x5 x6 g W' (Kd.C_below hr hb) hc hg⟩
end Go.Proofs.Ytfflenbfapgilaa
