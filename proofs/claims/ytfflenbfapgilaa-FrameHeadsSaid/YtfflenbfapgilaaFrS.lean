/- What frame.sealed makes: the bytes and their checksum. -/
import Derived.Test.YtfflenbfapgilaaCat
import Derived.Test.YtfflenbfapgilaaCrcS
import Derived.Test.YtfflenbfapgilaaGVBx1
set_option linter.unusedVariables false
set_option linter.unusedSimpArgs false
namespace Go.Proofs.Ytfflenbfapgilaa
open Go.RowKit Go.Proofs.YtfflenbfapgilaaW.PrintWords Go.Proofs.Ytfflenbfapgilaa.GVB

/-- crc.Sum of one part, whose slice lies in a cell. -/
theorem sum_one (A : Option Addr) (c : Nat) (l : List Int) (w : World) (ad : Addr) (hcell : w.cell? ad = some (.slice A l.length c)) (hl : l.length ≤ c) (hC : Kd.C (Kd.int .u8) w A l.length l) (hb : ∀ x ∈ l, 0 ≤ x ∧ x < 256) :
    Calls Try.prog 82 #[.slice (some ad) 1 1] w fun e w' => e = .returned (.int .u32 (Crc.sum (nats l) : Nat)) ∧ Below w.heap.size w w' := by
  have hC1 : Kd.C (Kd.slice 5 (Kd.int .u8)) w (some ad) ([l] : List (List Int)).length [l] := by
    refine ⟨rfl, by simp, fun _ => ⟨ad, rfl, fun j p hj => ?_⟩⟩
    match j with
    | 0 =>
      obtain rfl : l = p := by simpa using hj
      refine ⟨[.slice A l.length c], rfl, ⟨A, c, rfl, hl, hC⟩, fun i u hu => ?_⟩
      match i with
      | 0 =>
        have e0 : ad.add (0 * (Kd.slice 5 (Kd.int .u8)).sz + 0) = ad := by simp [Addr.add]
        rw [e0, hcell]; simpa using hu
      | i + 1 => simp at hu
    | j + 1 => simp at hj
  refine crc_Sum.calls (some ad) 1 [l] _ w hC1 (by simp) ?_
  unfold crc_Sum.f
  rw [if_pos, List.flatten_singleton]
  simp only [List.all_cons, List.all_nil, Bool.and_true]
  exact List.all_eq_true.2 (fun x hx => by simpa [isByte] using hb x hx)
/-- The same, the one part's slice boxed just now. -/
theorem sum_new (A : Option Addr) (c : Nat) (l : List Int) (W : World) (hl : l.length ≤ c) (hC : Kd.C (Kd.int .u8) W A l.length l) (hb : ∀ x ∈ l, 0 ≤ x ∧ x < 256) :
    Calls Try.prog 82 #[.slice (some ⟨W.heap.size, 0, none⟩) 1 1] (W.alloc (.cells #[.slice A l.length c] 22)) fun e w' => e = .returned (.int .u32 (Crc.sum (nats l) : Nat)) ∧ Below W.heap.size W w' :=
  (sum_one A c l _ _ (by simp) hl (Kd.C_alloc hC _) hb).mono fun e w' ⟨h1, h2⟩ => ⟨h1, ((Below.refl _ _).alloc (Nat.le_refl _) _).trans (h2.mono (by simp))⟩
def crcB (s : Nat) : List Int := [(s : Int) % 256, (s : Int) / 256 % 256, (s : Int) / 65536 % 256, (s : Int) / 16777216 % 256]
theorem rows_two {W : World} {b : Nat} {fr : Nat × Nat} {A B : Option Addr} {c d : Nat} {l m : List Int} (h : W.heap[b]? = some (.cells #[.slice A l.length c, .slice B m.length d] 22 fr)) (hA : Kd.C (Kd.int .u8) W A l.length l) (hB : Kd.C (Kd.int .u8) W B m.length m) (hc : l.length ≤ c) (hd : m.length ≤ d) :
    Kd.C (Kd.slice 5 (Kd.int .u8)) W (some ⟨b, 0, none⟩) 2 [l, m] := by
  refine ⟨rfl, by omega, fun _ => ⟨_, rfl, fun j p hj => ?_⟩⟩
  match j with
  | 0 =>
    obtain rfl : l = p := by simpa using hj
    refine ⟨[.slice A l.length c], rfl, ⟨A, c, rfl, hc, hA⟩, fun i u hu => ?_⟩
    match i with
    | 0 =>
      show W.cell? ⟨b, 0, none⟩ = _
      simp only [World.cell?, h]; simpa using hu
    | i + 1 => simp at hu
  | 1 =>
    obtain rfl : m = p := by simpa using hj
    refine ⟨[.slice B m.length d], rfl, ⟨B, d, rfl, hd, hB⟩, fun i u hu => ?_⟩
    match i with
    | 0 =>
      show W.cell? ⟨b, 1, none⟩ = _
      simp only [World.cell?, h]; simpa using hu
    | i + 1 => simp at hu
  | j + 2 => simp at hj
set_option maxRecDepth 100000 in
set_option maxHeartbeats 1000000 in
theorem sealed_any (A : Option Addr) (c : Nat) (l : List Int) (w : World) (hC : Kd.C (Kd.int .u8) w A l.length l) (hc : l.length ≤ c) (hb : ∀ x ∈ l, 0 ≤ x ∧ x < 256) (hl : l.length ≤ 1000000) :
    Calls Try.prog 50 #[.slice A l.length c] w fun e w' => ∃ v : Value, e = .returned v ∧ Kd.R (Kd.int .u8) 5 w' w.heap.size (fun _ => True) v (l ++ crcB (Crc.sum (nats l))) ∧ Below w.heap.size w w' := by
  have HS := Lib.hid (sum_new A c l w hc hC hb)
  have HCA := Lib.hid (fun (W : World) (h : Below w.heap.size w W) => Kd.C_below hC h)
  have HL := Lib.hid (And.intro hc hl)
  have HBB := Lib.hid (fun (W : World) => crc_Bytes.calls ((Crc.sum (nats l) : Nat) : Int) _ W rfl)
  clear hC hb hl hc
  go_enter Try.func50, Try.ntmps50
  go_wp2_with fail
  refine HS.out.mono ?_
  rintro e w1 ⟨rfl, hb1⟩
  have HB1 := Lib.hid hb1
  clear hb1
  go_wp2_with fail
  refine (HBB.out w1).mono ?_
  rintro e w2 ⟨v0, rfl, hR, hb⟩
  obtain ⟨B, d, rfl⟩ := Kd.R_slice hR
  have HB2 := Lib.hid (HB1.out.trans (hb.mono HB1.out.size))
  have HR := Lib.hid (show Kd.R (Kd.int .u8) 5 w2 w1.heap.size (fun _ => True) (.slice B (crcB (Crc.sum (nats l))).length d) (crcB (Crc.sum (nats l))) from hR)
  clear hR hb
  go_wp2_with fail
  have hA := HCA.out _ (HB2.out.alloc HB2.out.size (.cells #[.slice A l.length c, .slice B (crcB (Crc.sum (nats l))).length d] 22))
  have hBr := Kd.C_below (Kd.R_reads' HR.out).2.2 ((Below.refl w2.heap.size w2).alloc (Nat.le_refl _) (.cells #[.slice A l.length c, .slice B (crcB (Crc.sum (nats l))).length d] 22))
  have hlen : ([l, crcB (Crc.sum (nats l))] : List (List Int)).flatten = l ++ crcB (Crc.sum (nats l)) := by simp
  have hl2 : (crcB (Crc.sum (nats l))).length = 4 := rfl
  have hcat := concat_any (some ⟨w2.heap.size, 0, none⟩) 2 [l, crcB (Crc.sum (nats l))] _ (rows_two (heap_new w2 _) hA hBr HL.out.1 (Kd.R_reads' HR.out).2.1) (Nat.le_refl _) (by rw [hlen, List.length_append, hl2]; have := HL.out.2; omega)
  rw [hlen] at hcat
  have HCT := Lib.hid hcat
  have HB3 := Lib.hid (HB2.out.alloc HB2.out.size (.cells #[.slice A l.length c, .slice B (crcB (Crc.sum (nats l))).length d] 22))
  clear hA hBr hlen hl2 hcat
  refine HCT.out.mono ?_
  rintro e w4 ⟨v4, rfl, hR4, hb4⟩
  have HP := Lib.hid (And.intro (Kd.R_lower hR4 HB3.out.size) (HB3.out.trans (hb4.mono HB3.out.size)))
  clear hR4 hb4
  go_wp2_with fail
  go_ret
  exact ⟨_, rfl, HP.out.1, HP.out.2⟩
end Go.Proofs.Ytfflenbfapgilaa
