/- Texts laid as one by shake.py, cut to what the claim needs: RecO. (Names that begin with W and the print's groups (G..x, G..z): laid by the kit's print, cut.) -/
import Derived.Test.YtmeocdkiecknkaaZTu
import Derived.Test.YtmeocdkiecknkaaZTg
set_option linter.unusedVariables false
set_option linter.unusedSimpArgs false
namespace Go.Proofs.Ytmeocdkiecknkaa
open Go.RowKit Go.Proofs.YtmeocdkiecknkaaW.PrintWords Go.Proofs.Ytmeocdkiecknkaa.GRR
def kdRec : Kd (Int × ByteArray × Int × List S109 × Int × Int × ByteArray) :=
 Kd.pair (Kd.int .i64) (Kd.pair Kd.string (Kd.pair (Kd.int .u64) (Kd.pair (Kd.slice 109 k109) (Kd.pair (Kd.int .u64) (Kd.pair (Kd.int .u64) Kd.string)))))
def okRec (x : Int × ByteArray × Int × List S109 × Int × Int × ByteArray) : Prop :=
 (Lit.int .i64 x.1).wf = true ∧ x.2.1.size ≤ maxLen ∧ (Lit.int .u64 x.2.2.1).wf = true ∧ (x.2.2.2.1.length ≤ maxLen ∧ ∀ d ∈ x.2.2.2.1, d.f0.size ≤ maxLen ∧ (Lit.int .u64 d.f1).wf = true ∧ True) ∧ (Lit.int .u64 x.2.2.2.2.1).wf = true ∧ (Lit.int .u64 x.2.2.2.2.2.1).wf = true ∧ x.2.2.2.2.2.2.size ≤ maxLen
theorem cellsOf_int8 : Try.prog.cellsOf 3 = 1 := by kernel_rfl
theorem cellsOf_u648 : Try.prog.cellsOf 59 = 1 := by kernel_rfl
theorem cellsOf_str8 : Try.prog.cellsOf 9 = 1 := by kernel_rfl
theorem cellsOf_bool8 : Try.prog.cellsOf 4 = 1 := by kernel_rfl
theorem cellsOf_dep8 : Try.prog.cellsOf 109 = 3 := by kernel_rfl
theorem cellsOf_deps8 : Try.prog.cellsOf 60 = 1 := by kernel_rfl
theorem cellsOf_rec8 : Try.prog.cellsOf 62 = 7 := by kernel_rfl
theorem opens_int8 : Opens Try.prog 3 (Kd.int .i64) (fun n => (Lit.int .i64 n).wf = true) := opens_int Try.underlying3 cellsOf_int8
theorem opens_u648 : Opens Try.prog 59 (Kd.int .u64) (fun n => (Lit.int .u64 n).wf = true) := opens_int Try.underlying59 cellsOf_u648
theorem opens_str8 : Opens Try.prog 9 Kd.string (fun s => s.size ≤ maxLen) := opens_string Try.underlying9 cellsOf_str8
theorem opens_bool8 : Opens Try.prog 4 Kd.bool (fun _ => True) := opens_bool Try.underlying4 cellsOf_bool8
theorem opens_dep8 : Opens Try.prog 109 k109 (fun d => d.f0.size ≤ maxLen ∧ (Lit.int .u64 d.f1).wf = true ∧ True) :=
 opens_iso (fun x : S109 => (x.f0, x.f1, x.f2)) (fun p => ⟨p.1, p.2.1, p.2.2⟩) (fun _ => rfl) (opens_struct3 Try.underlying109 rfl rfl rfl opens_str8 opens_u648 opens_bool8 cellsOf_dep8)
theorem opens_deps8 : Opens Try.prog 60 (Kd.slice 109 k109) (fun xs => xs.length ≤ maxLen ∧ ∀ y ∈ xs, y.f0.size ≤ maxLen ∧ (Lit.int .u64 y.f1).wf = true ∧ True) :=
 opens_slice Try.underlying60 cellsOf_deps8 opens_dep8
theorem opens_rec8 : Opens Try.prog 62 kdRec okRec :=
 opens_struct7 Try.underlying62 rfl rfl rfl rfl rfl rfl rfl opens_int8 opens_str8 opens_u648 opens_deps8 opens_u648 opens_u648 opens_str8 cellsOf_rec8
structure IsRec (W : World) (v : Value) (x : (Int × ByteArray × Int × List S109 × Int × Int × ByteArray) × Option Addr × Nat) : Prop where
 v : v = .agg #[.int .i64 x.1.1, .string x.1.2.1, .int .u64 x.1.2.2.1, .slice x.2.1 x.1.2.2.2.1.length x.2.2, .int .u64 x.1.2.2.2.2.1, .int .u64 x.1.2.2.2.2.2.1, .string x.1.2.2.2.2.2.2]
 c : x.1.2.2.2.1.length ≤ x.2.2
 row : Kd.C k109 W x.2.1 x.1.2.2.2.1.length x.1.2.2.2.1
 len : x.1.2.2.2.1.length ≤ maxLen
 kind : (Lit.int .i64 x.1.1).wf = true
 ok : okRec x.1
end Go.Proofs.Ytmeocdkiecknkaa
