/- The law CrcSums: the checksum of pieces is the document's checksum of what they are together. -/
import Derived.Test.YthojcapdbjmneaaCrcR
import Derived.Test.YthojcapdbjmneaaOpen
import Derived.Laws.IdiomStrings
import Derived.Laws.Concat
set_option linter.unusedVariables false
set_option linter.unusedSimpArgs false
namespace Go.Proofs.Ythojcapdbjmneaa
open Go.RowKit Go.Proofs.YthojcapdbjmneaaW.PrintWords
theorem cellsOf_u8s : Try.prog.cellsOf 5 = 1 := by kernel_rfl
theorem cellsOf_bs : Try.prog.cellsOf 22 = 1 := by kernel_rfl
theorem cellsOf_bss : Try.prog.cellsOf 52 = 1 := by kernel_rfl
theorem opens_u8s : Opens Try.prog 5 (Kd.int .u8) (fun n => (Lit.int .u8 n).wf = true) := opens_int Try.underlying5 cellsOf_u8s
theorem opens_bs : Opens Try.prog 22 (Kd.slice 5 (Kd.int .u8)) (fun xs => xs.length ≤ maxLen ∧ ∀ y ∈ xs, (Lit.int .u8 y).wf = true) := opens_slice Try.underlying22 cellsOf_bs opens_u8s
set_option maxRecDepth 100000 in
theorem open_t52 {H : Type} {enc : TypeId × Value → H} {W : World} {base : Nat} {held : Bool} {v : Value} {d : DataW H} {ps : List MemPlace} {r : Reach} {b0 : Nat} (hval : Value.okWide Try.prog W r b0 52 v) (h : DataW.Trod enc Try.prog W base (fun _ => true) held 52 v d ps) :
    ∃ x, IsRows (Kd.slice 5 (Kd.int .u8)) (fun xs => xs.length ≤ maxLen ∧ ∀ y ∈ xs, (Lit.int .u8 y).wf = true) W v x := open_rows Try.underlying52 cellsOf_bss opens_bs hval h
end Go.Proofs.Ythojcapdbjmneaa
namespace Go.Proofs.Ythojcapdbjmneaa.WCrcSums
open Go.RowKit Go.Proofs.YthojcapdbjmneaaW.PrintWords Go.Proofs.Ythojcapdbjmneaa.GCrcSums

theorem strOfNums_app (a b : List Int) : strOfNums (a ++ b) = strOfNums a ++ strOfNums b := by
  apply ByteArray.ext
  apply Array.ext'
  simp [strOfNums]
theorem great (A : Option Addr) (c : Nat) (ls : List (List Int)) (w : World) (hle : 20 < (ls.length : Int)) (hm : ls.length ≤ 9223372036854775807) :
    Calls Try.prog 11 #[.slice A ls.length c] w fun e w' => e = .returned (.bool true) ∧ Below w.heap.size w w' := by
  have hd : decide (20 < (ls.length : Int)) = true := decide_eq_true hle
  go_enter Try.func11, Try.ntmps11
  go_wp2_with fail
  refine (fixed3_any _).mono ?_
  rintro e w1 ⟨rfl, hb⟩
  go_wp2_with fail
  go_ret
  exact ⟨rfl, hb⟩
theorem bytes_C (W : World) (L : List Int) (b cap : Nat) (fr : Nat × Nat) (hb : ∀ x ∈ L, 0 ≤ x ∧ x < 256) (hl : L.length ≤ 1000000) (h : W.heap[b]? = some (.cells (bytesRow (strOfNums L) cap) 5 fr)) :
    Kd.C (Kd.int .u8) W (some ⟨b, 0, none⟩) L.length L := by
  refine ⟨rfl, by omega, fun _ => ⟨_, rfl, fun j p hj => ⟨[.int .u8 p], rfl, rfl, fun i u hu => ?_⟩⟩⟩
  match i with
  | 0 =>
    obtain ⟨hj1, hj2⟩ := List.getElem?_eq_some_iff.1 hj
    have hs : (strOfNums L).data.size = L.length := strOfNums_size L
    have h2 := bytesRow_at (strOfNums L) cap j (by rw [hs]; exact hj1)
    have hp := hb p (by rw [← hj2]; exact List.getElem_mem _)
    have h3 : (((strOfNums L).data[j]'(by rw [hs]; exact hj1)).toNat : Int) = p := by
      simp only [strOfNums, List.getElem_toArray, List.getElem_map, UInt8.toNat_ofNat']
      rw [hj2]; omega
    rw [h3] at h2
    have hu' : Value.int .u8 p = u := by simpa using hu
    subst hu'
    have e0 : (Addr.add ⟨b, 0, none⟩ (j * (Kd.int IntKind.u8).sz + 0) : Addr) = ⟨b, j, none⟩ := by
      simp [Addr.add, Kd.int, Kd.scalar]
      try (intro h; omega)
    rw [e0]
    show (World.cell? W ⟨b, j, none⟩) = _
    simp only [World.cell?, h]
    exact h2
  | i + 1 => simp at hu
set_option maxHeartbeats 2000000 in
set_option maxRecDepth 100000 in
theorem main (A : Option Addr) (c : Nat) (ls : List (List Int)) (w : World) (hC : Kd.C (Kd.slice 5 (Kd.int .u8)) w A ls.length ls) (hc : ls.length ≤ c) (hle : ls.length ≤ 20) (hb : ∀ l ∈ ls, ∀ x ∈ l, 0 ≤ x ∧ x < 256) :
    Calls Try.prog 11 #[.slice A ls.length c] w fun e w' => e = .returned (.bool true) ∧ Below w.heap.size w w' := by
  have HC := Lib.hid hC
  have HBY := Lib.hid hb
  clear hC hb
  have hd : decide (20 < (ls.length : Int)) = false := decide_eq_false (by omega)
  go_enter Try.func11, Try.ntmps11
  go_wp2_with fail
  go_loopw [12, 3] (fun u12 u3 wq => ∃ (i : Nat) (s : ByteArray), i ≤ ls.length ∧ u12 = .int .i64 i ∧ u3 = .string s ∧ w = wq ∧ Hid (s = strOfNums (ls.take i).flatten ∧ (ls.take i).flatten.length ≤ 300 * i)) (fun u _ _ => ls.length - (intOf u).toNat)
  case atStart => exact ⟨0, ⟨#[]⟩, by omega, rfl, rfl, rfl, Lib.hid ⟨rfl, by simp⟩⟩
  case round =>
    obtain ⟨i, s, hi, rfl, rfl, rfl, hs⟩ := hrel
    by_cases hlt : i < ls.length
    · obtain ⟨ad, A1, c1, had, hcell, hl1, hC1⟩ := at_L1 HC.out (i : Int) (by omega) (by omega)
      have hget : rd_L1 ls (i : Int) = ls[i] := by simp [rd_L1, hlt]
      have hbi := HBY.out ls[i] (List.getElem_mem _)
      have htk : (ls.take (i + 1)).flatten = (ls.take i).flatten ++ ls[i] := by rw [List.take_succ_eq_append_getElem hlt, List.flatten_append, List.flatten_singleton]
      rw [hget, Int.toNat_natCast] at hcell
      rw [hget] at hl1 hC1
      generalize ls[i] = l at hcell hl1 hC1 hbi htk
      subst had
      have HTK := Lib.hid htk
      have HC1 := Lib.hid hC1
      have hlm : l.length ≤ 9223372036854775807 := hC1.2.1
      clear hget htk hC1
      by_cases h3 : 300 < (l.length : Int)
      · have hd3 : decide (300 < (l.length : Int)) = true := decide_eq_true h3
        go_wp2_with fail
        refine (fixed3_any _).mono ?_
        rintro e w1 ⟨rfl, hb⟩
        go_wp2_with fail
        go_ret
        exact ⟨rfl, hb⟩
      · have hd3 : decide (300 < (l.length : Int)) = false := decide_eq_false h3
        have hcv := Kd.C_string (P := Try.prog) (A := A1) (c := c1) Try.underlying22 Try.underlying5 Try.underlying9 HC1.out
        have hadd := run_string_add_sum (P := Try.prog) (w := w) s (strOfNums l) (by rw [hs.out.1, strOfNums_size, strOfNums_size]; have := hs.out.2; omega)
        go_wp2_with fail
        go_roundw
        case rel => exact ⟨i + 1, s ++ strOfNums l, by omega, by go_num, by first | rfl | trivial, by first | rfl | trivial, Lib.hid ⟨by rw [HTK.out, strOfNums_app, hs.out.1], by rw [HTK.out, List.length_append]; have := hs.out.2; omega⟩⟩
        case measure => simp [intOf]; omega
    · obtain rfl : i = ls.length := by omega
      have hs2 := hs.out
      rw [List.take_of_length_le (Nat.le_refl _)] at hs2
      obtain ⟨hs3, hs4⟩ := hs2
      obtain ⟨L, hL⟩ : ∃ L, ls.flatten = L := ⟨_, rfl⟩
      have hbL : ∀ x ∈ L, 0 ≤ x ∧ x < 256 := by
        intro x hx
        rw [← hL] at hx
        obtain ⟨l, h1, h2⟩ := List.mem_flatten.1 hx
        exact HBY.out l h1 x h2
      rw [hL] at hs3 hs4
      have hlL : L.length ≤ 1000000 := by omega
      have HS1 := Lib.hid (fun (W : World) (h : Below w.heap.size w W) => crc_Sum.calls A c ls ((Crc.sum (nats L) : Nat) : Int) W (Kd.C_below HC.out h) hc (by
        unfold crc_Sum.f
        rw [if_pos, hL]
        exact List.all_eq_true.2 (fun l hl => List.all_eq_true.2 (fun x hx => by simpa [isByte] using HBY.out l hl x hx))))
      have HS2 := Lib.hid (fun (W : World) => rsum_any L hbL hlL W)
      have HS3 := Lib.hid (fun (W : World) (A : Option Addr) (c : Nat) (h1 : L.length ≤ c) (h2 : Kd.C (Kd.int .u8) W A L.length L) => sum_new A c L W h1 h2 hbL)
      have HBL := Lib.hid (And.intro hbL hlL)
      subst hs3
      have kb := fun (W : World) => run_bytes_of_string (P := Try.prog) W 9 22 5 (strOfNums L) Try.underlying9 Try.underlying22 Try.underlying5
      rw [strOfNums_size] at kb
      clear hbL hlL hs hs4 hL
      generalize ((Crc.sum (nats L) : Nat) : Int) = S at *
      go_wp2_with fail
      refine (fixed3_any _).mono ?_
      rintro e w1 ⟨rfl, hb1⟩
      have HB1 := Lib.hid hb1
      clear hb1
      go_wp2_with fail
      refine (HS1.out w1 HB1.out).mono ?_
      rintro e w2 ⟨rfl, hb⟩
      have HB2 := Lib.hid (HB1.out.trans (hb.mono HB1.out.size))
      clear hb
      go_wp2_with fail
      refine (HS2.out w2).mono ?_
      rintro e w3 ⟨rfl, hb⟩
      have HB3 := Lib.hid (HB2.out.trans (hb.mono HB2.out.size))
      clear hb
      go_wp2_with fail
      obtain ⟨cap, hcap⟩ : ∃ cap, grownCap w3 L.length 0 5 = cap := ⟨_, rfl⟩
      have hge : L.length ≤ cap := by rw [← hcap]; exact grownCap_ge _ _ _ _
      have hCb := bytes_C (w3.drew.alloc (.cells (bytesRow (strOfNums L) cap) 5 ((bytesRow (strOfNums L) cap).size, (bytesRow (strOfNums L) cap).size + 1))) L w3.heap.size cap _ HBL.out.1 HBL.out.2 (heap_new w3.drew _)
      have h := HS3.out _ _ _ hge hCb
      have hsz : (w3.drew.alloc (.cells (bytesRow (strOfNums L) cap) 5 ((bytesRow (strOfNums L) cap).size, (bytesRow (strOfNums L) cap).size + 1))).heap.size = w3.heap.size + 1 := heap_size_alloc w3.drew _
      have hB4 := (HB3.out.drew.alloc HB3.out.size (.cells (bytesRow (strOfNums L) cap) 5 ((bytesRow (strOfNums L) cap).size, (bytesRow (strOfNums L) cap).size + 1)))
      have HB4 := Lib.hid hB4
      rw [hsz] at h
      rw [hcap]
      have HH := Lib.hid h
      clear h hCb hB4
      refine HH.out.mono ?_
      rintro e w5 ⟨rfl, hb⟩
      have HB5 := Lib.hid (HB4.out.trans (hb.mono (by have := HB4.out.size; omega)))
      clear hb
      go_wp2_with fail
      refine (HS2.out w5).mono ?_
      rintro e w6 ⟨rfl, hb⟩
      have HB6 := Lib.hid (HB5.out.trans (hb.mono HB5.out.size))
      clear hb
      go_wp2_with fail
      go_ret
      exact ⟨rfl, HB6.out⟩
theorem walk (v0 : Value) (x0 : Option Addr × Nat × List (List Int)) (w : World) (w0 : IsRows (Kd.slice 5 (Kd.int .u8)) (fun xs => xs.length ≤ maxLen ∧ ∀ y ∈ xs, (Lit.int .u8 y).wf = true) w v0 x0) :
    Calls Try.prog 11 #[v0] w fun e w' => e = .returned (.bool true) ∧ Below w.heap.size w w' := by
  obtain ⟨A, c, ls⟩ := x0
  obtain ⟨rfl, hc, hC, hm, ho⟩ := w0
  by_cases h : 20 < (ls.length : Int)
  · exact great A c ls w h (by simp only [maxLen] at hm; omega)
  · refine main A c ls w hC hc (by omega) (fun l hl x hx => ?_)
    have := (ho l hl).2 x hx
    simp [Lit.wf, IntKind.min, IntKind.max, IntKind.signed, IntKind.bits] at this; omega
end Go.Proofs.Ythojcapdbjmneaa.WCrcSums
