/- How many bytes a number has; numbers told apart by their bytes; the chapter's example. -/
import Derived.Test.YthojcapdbjmneaaVarP
import Derived.Test.YthojcapdbjmneaaGVBx3
import Derived.Lib.Bytes
set_option linter.unusedVariables false
set_option linter.unusedSimpArgs false
namespace Go.Proofs.Ythojcapdbjmneaa.GVB
open Go.RowKit Go.Proofs.YthojcapdbjmneaaW.PrintWords

theorem vb_mono : ∀ (m n : Nat), m ≤ n → (vb m).length ≤ (vb n).length := by
  intro m
  induction m using Nat.strongRecOn with
  | _ m ih =>
  intro n h
  have hn : 1 ≤ (vb n).length := List.length_pos_iff.2 (vb_ne n)
  by_cases hm : m < 128
  · rw [vb_small m hm]; simpa using hn
  · rw [vb_great m hm, vb_great n (by omega)]
    simpa using ih (m / 128) (by omega) (n / 128) (by omega)
theorem vb_bytes (m : Nat) (h : m < 18446744073709551616) : ∀ x ∈ vb m, x < 256 := vb_byte 10 m (by omega)
theorem nats_ints (u : List Nat) : nats (ints u) = u := by simp [nats, ints, Function.comp_def]
theorem ints_bytes (u : List Nat) (h : ∀ x ∈ u, x < 256) : ∀ x ∈ ints u, 0 ≤ x ∧ x < 256 := by
  intro x hx
  simp only [ints, List.mem_map] at hx
  obtain ⟨y, hy, rfl⟩ := hx
  have := h y hy
  omega
theorem str_inj (u v : List Nat) (hu : ∀ x ∈ u, x < 256) (hv : ∀ x ∈ v, x < 256) (h : (strOfNums (ints u)).toList = (strOfNums (ints v)).toList) : u = v := by
  rw [Lib.strOfNums_toList, Lib.strOfNums_toList] at h
  simp only [Lib.bytesOf, ints, List.map_map] at h
  have key : ∀ (w : List Nat), (∀ x ∈ w, x < 256) → (w.map ((fun n : Int => UInt8.ofNat n.toNat) ∘ fun (x : Nat) => (x : Int))).map UInt8.toNat = w := by
    intro w hw
    rw [List.map_map]
    conv => rhs; rw [← List.map_id w]
    apply List.map_congr_left
    intro x hx
    have := hw x hx
    simp; omega
  rw [← key u hu, h, key v hv]
theorem vb_inj (m n : Nat) (hm : m < 18446744073709551616) (hn : n < 18446744073709551616) (h : vb m = vb n) : m = n := by
  have h1 := dec_vb0 m [] (by omega)
  have h2 := dec_vb0 n [] (by omega)
  rw [h, h2] at h1
  exact (congrArg (·.1) h1).symm
theorem put_is (l : List Int) (m : Int) (hl : l.length ≤ 140737488355000) (hm : 0 ≤ m ∧ m < 18446744073709551616) : varint_Put.f l m = some (l ++ ints (vb m.toNat)) := by
  unfold varint_Put.f
  rw [if_pos hl, if_pos hm]
theorem rput_is (m : Int) (hm : 0 ≤ m ∧ m < 18446744073709551616) : tephraref01_Put.f m = some (strOfNums (ints (vb m.toNat))) := by
  unfold tephraref01_Put.f
  rw [if_pos hm]
theorem vb_len_bits : ∀ (m : Nat), (vb m).length = max ((blen m + 6) / 7) 1 := by
  intro m
  induction m using Nat.strongRecOn with
  | _ m ih =>
  by_cases hm : m < 128
  · have : ∀ m, m < 128 → (blen m + 6) / 7 ≤ 1 := by decide
    have := this m hm
    rw [vb_small m hm]
    simp; omega
  · rw [vb_great m hm, List.length_cons, ih (m / 128) (by omega), blen_shift 7 m (by omega)]
    have : blen (m / 2 ^ 7) = blen (m / 128) := rfl
    have h1 : 1 ≤ blen (m / 128) := by unfold blen; rw [if_neg (by omega)]; omega
    rw [this]
    omega
theorem blen_le (m : Nat) (h : m < 18446744073709551616) : blen m ≤ 64 := by
  unfold blen
  split
  · omega
  · have := (Nat.log2_lt (by omega) (k := 64)).2 (by omega : m < 2 ^ 64)
    omega
theorem size_is (m : Int) (hm : 0 ≤ m ∧ m < 18446744073709551616) : varint_Size.f m = some (((vb m.toNat).length : Nat) : Int) := by
  have hb := blen_le m.toNat (by omega)
  have hv := vb_len_bits m.toNat
  unfold varint_Size.f bits_Len64.f
  rw [if_pos hm]
  simp only [Option.bind_some]
  have h1 := w64 ((blen m.toNat : Int) + 6) (by omega) (by omega)
  rw [h1]
  have h2 : Int.tdiv ((blen m.toNat : Int) + 6) 7 = (((blen m.toNat + 6) / 7 : Nat) : Int) := rfl
  rw [h2, w64 _ (by omega) (by omega)]
  clear h1 h2
  congr 1
  unfold mx
  split <;> omega
theorem fixed_is (k : Nat) (hk : 30 ≤ k) : tephralaw01_fixed.f k = some true := by
  unfold tephralaw01_fixed.f
  rw [get_is [128, 0] (by decide) (by decide) 0 k hk, put_is [] 300 (by decide) (by decide)]
  have e : vb (300 : Int).toNat = [172, 2] := by
    rw [show (300 : Int).toNat = 300 from rfl, vb_great 300 (by omega), show 300 % 128 + 128 = 172 from rfl, show 300 / 128 = 2 from rfl, vb_small 2 (by omega)]
  have e2 : getS [128, 0] 0 = (0, 0, 3) := by decide
  simp only [Option.bind_some, e, e2]
  rw [if_pos (by rw [Lib.strOfNums_toList]; decide)]
  rfl
/-- which of a number's bytes are 128 or greater: all but the last -/
theorem vb_top (m i : Nat) (hi : i < (vb m).length) : (128 ≤ rd (ints (vb m)) (i : Int)) ↔ i + 1 < (vb m).length := by
  by_cases h : m / 128 ^ i < 128
  · obtain ⟨h1, h2⟩ := vb_last m i hi h
    have : rd (ints (vb m)) (i : Int) = ((m / 128 ^ i : Nat) : Int) := by simp [rd, List.getD_eq_getElem?_getD, h1]
    rw [this]; omega
  · obtain ⟨h1, h2⟩ := vb_at m i hi h
    have : rd (ints (vb m)) (i : Int) = (((m / 128 ^ i) % 128 + 128 : Nat) : Int) := by simp [rd, List.getD_eq_getElem?_getD, h1]
    rw [this]; omega
end Go.Proofs.Ythojcapdbjmneaa.GVB
