/- crc.Sum of one part; the chapter's example. -/
import Derived.Test.YthojcapdbjmneaaCrcS
import Derived.Lib.SlBytesConst
namespace Go.Proofs.Ythojcapdbjmneaa
open Go.RowKit Go.Proofs.YthojcapdbjmneaaW.PrintWords

/-- crc.Sum of one part, whose slice lies in a cell. -/
theorem sum_one (A : Option Addr) (c : Nat) (l : List Int) (w : World) (ad : Addr) (hcell : w.cell? ad = some (.slice A l.length c)) (hl : l.length ≤ c) (hC : Kd.C (Kd.int .u8) w A l.length l) (hb : ∀ x ∈ l, 0 ≤ x ∧ x < 256) :
    Calls Try.prog 29 #[.slice (some ad) 1 1] w fun e w' => e = .returned (.int .u32 (Crc.sum (nats l) : Nat)) ∧ Below w.heap.size w w' := by
  have hC1 : Kd.C (Kd.slice 5 (Kd.int .u8)) w (some ad) ([l] : List (List Int)).length [l] := by
    refine ⟨rfl, by simp, fun _ => ⟨ad, rfl, fun j p hj => ?_⟩⟩
    match j with
    | 0 =>
      obtain rfl : l = p := by simpa using hj
      refine ⟨[.slice A l.length c], rfl, ⟨A, c, rfl, hl, hC⟩, fun i u hu => ?_⟩
      match i with
      | 0 =>
        have e0 : ad.add (0 * (Kd.slice 5 (Kd.int .u8)).sz + 0) = ad := by simp [Addr.add]
        rw [e0, hcell]; simpa using hu
      | i + 1 => simp at hu
    | j + 1 => simp at hj
  refine crc_Sum.calls (some ad) 1 [l] _ w hC1 (by simp) ?_
  unfold crc_Sum.f
  rw [if_pos, List.flatten_singleton]
  simp only [List.all_cons, List.all_nil, Bool.and_true]
  exact List.all_eq_true.2 (fun x hx => by simpa [isByte] using hb x hx)
/-- The same, the one part's slice boxed just now. -/
theorem sum_new (A : Option Addr) (c : Nat) (l : List Int) (W : World) (hl : l.length ≤ c) (hC : Kd.C (Kd.int .u8) W A l.length l) (hb : ∀ x ∈ l, 0 ≤ x ∧ x < 256) :
    Calls Try.prog 29 #[.slice (some ⟨W.heap.size, 0, none⟩) 1 1] (W.alloc (.cells #[.slice A l.length c] 22)) fun e w' => e = .returned (.int .u32 (Crc.sum (nats l) : Nat)) ∧ Below W.heap.size W w' :=
  (sum_one A c l _ _ (by simp) hl (Kd.C_alloc hC _) hb).mono fun e w' ⟨h1, h2⟩ => ⟨h1, ((Below.refl _ _).alloc (Nat.le_refl _) _).trans (h2.mono (by simp))⟩
theorem fixed3_any (w : World) :
    Calls Try.prog 28 #[] w fun e w' => e = .returned (.bool true) ∧ Below w.heap.size w w' := by
  have kc := fun (w : World) (C : Array Value) (n c : Nat) => Lib.run_convert_bytes_const (P := Try.prog) w 22 5 C n c Try.underlying22 Try.underlying5
  go_enter Try.func28, Try.ntmps28
  go_wp2_with fail
  refine (sum_one (some ⟨w.heap.size, 0, none⟩) 9 [49, 50, 51, 52, 53, 54, 55, 56, 57] _ ⟨w.heap.size + 1, 0, none⟩ (by simp) (by simp) ?_ (by decide)).mono ?_
  · refine C_block .u8 _ w.heap.size 5 (9, 10) _ ?_ (by simp)
    show ((w.heap.push _).push _)[w.heap.size]? = _
    simp [Array.getElem?_push]
  · rintro e w' ⟨rfl, hb⟩
    rw [show ((Crc.sum (nats [49, 50, 51, 52, 53, 54, 55, 56, 57]) : Nat) : Int) = 3421780262 by decide +kernel]
    go_wp2
    go_ret
    refine ⟨rfl, ?_⟩
    exact ((((Below.refl _ _).alloc (Nat.le_refl _) _).alloc (by simp) _).trans (hb.mono (by simp; omega)))
def tephralaw03_fixed.f : Option Bool := some true
theorem tephralaw03_fixed.calls (r : Bool) (w : World) (h : tephralaw03_fixed.f = some r) :
    Calls Try.prog 28 #[] w fun e w' => e = .returned (.bool r) ∧ Below w.heap.size w w' := by
  obtain rfl := Option.some.inj h
  exact fixed3_any w
end Go.Proofs.Ythojcapdbjmneaa
