/- How many bytes a number has; numbers told apart by their bytes; the chapter's example. -/
import Derived.Test.YthpbkhagjgggjaaVarP
import Derived.Lib.Bytes
set_option linter.unusedVariables false
set_option linter.unusedSimpArgs false
namespace Go.Proofs.Ythpbkhagjgggjaa.GVB
open Go.RowKit Go.Proofs.YthpbkhagjgggjaaW.PrintWords

theorem vb_mono : ∀ (m n : Nat), m ≤ n → (vb m).length ≤ (vb n).length := by
  intro m
  induction m using Nat.strongRecOn with
  | _ m ih =>
  intro n h
  have hn : 1 ≤ (vb n).length := List.length_pos_iff.2 (vb_ne n)
  by_cases hm : m < 128
  · rw [vb_small m hm]; simpa using hn
  · rw [vb_great m hm, vb_great n (by omega)]
    simpa using ih (m / 128) (by omega) (n / 128) (by omega)
theorem vb_bytes (m : Nat) (h : m < 18446744073709551616) : ∀ x ∈ vb m, x < 256 := vb_byte 10 m (by omega)
theorem nats_ints (u : List Nat) : nats (ints u) = u := by simp [nats, ints, Function.comp_def]
theorem ints_bytes (u : List Nat) (h : ∀ x ∈ u, x < 256) : ∀ x ∈ ints u, 0 ≤ x ∧ x < 256 := by
  intro x hx
  simp only [ints, List.mem_map] at hx
  obtain ⟨y, hy, rfl⟩ := hx
  have := h y hy
  omega
theorem str_inj (u v : List Nat) (hu : ∀ x ∈ u, x < 256) (hv : ∀ x ∈ v, x < 256) (h : (strOfNums (ints u)).toList = (strOfNums (ints v)).toList) : u = v := by
  rw [Lib.strOfNums_toList, Lib.strOfNums_toList] at h
  simp only [Lib.bytesOf, ints, List.map_map] at h
  have key : ∀ (w : List Nat), (∀ x ∈ w, x < 256) → (w.map ((fun n : Int => UInt8.ofNat n.toNat) ∘ fun (x : Nat) => (x : Int))).map UInt8.toNat = w := by
    intro w hw
    rw [List.map_map]
    conv => rhs; rw [← List.map_id w]
    apply List.map_congr_left
    intro x hx
    have := hw x hx
    simp; omega
  rw [← key u hu, h, key v hv]
theorem vb_inj (m n : Nat) (hm : m < 18446744073709551616) (hn : n < 18446744073709551616) (h : vb m = vb n) : m = n := by
  have h1 := dec_vb0 m [] (by omega)
  have h2 := dec_vb0 n [] (by omega)
  rw [h, h2] at h1
  exact (congrArg (·.1) h1).symm
theorem rput_is (m : Int) (hm : 0 ≤ m ∧ m < 18446744073709551616) : tephraref01_Put.f m = some (strOfNums (ints (vb m.toNat))) := by
  unfold tephraref01_Put.f
  rw [if_pos hm]
end Go.Proofs.Ythpbkhagjgggjaa.GVB
