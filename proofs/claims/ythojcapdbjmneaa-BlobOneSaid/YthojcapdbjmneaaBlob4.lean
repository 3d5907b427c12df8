/- What the reference's List makes. -/
import Derived.Test.YthojcapdbjmneaaBlob3
set_option linter.unusedVariables false
set_option linter.unusedSimpArgs false
namespace Go.Proofs.Ythojcapdbjmneaa
open Go.RowKit Go.Proofs.Ythojcapdbjmneaa.GVB Go.Proofs.YthojcapdbjmneaaW.PrintWords

set_option maxHeartbeats 1000000 in
set_option maxRecDepth 100000 in
theorem rlist_any (B : Option Addr) (cb : Nat) (ts : List ByteArray) (w : World) (hs : Kd.C Kd.string w B ts.length ts) (hsc : ts.length ≤ cb) (hsz : ∀ s ∈ ts, s.size ≤ 1000000000) (hl : (blobs ts).length ≤ 140737488355000) :
    Calls Try.prog 27 #[.slice B ts.length cb] w fun e w' => e = .returned (.string (strOfNums (blobs ts))) ∧ Below w.heap.size w w' := by
  have HS := Lib.hid hs
  have HL := Lib.hid hl
  have HZ := Lib.hid hsz
  have htm : ts.length ≤ 9223372036854775807 := hs.2.1
  clear hs hl hsz
  go_enter Try.func27, Try.ntmps27
  go_wp2_with fail
  go_loopw [3, 4] (fun u3 u4 wr => ∃ (i : Nat), i ≤ ts.length ∧ u4 = .int .i64 i ∧ u3 = .string (strOfNums (blobs (ts.take i))) ∧ Below w.heap.size w wr) (fun _ v _ => ts.length - (intOf v).toNat)
  case atStart => exact ⟨0, by omega, rfl, rfl, Below.refl _ _⟩
  case round =>
    obtain ⟨i, hi, rfl, rfl, hbl⟩ := hrel
    by_cases hlt : i < ts.length
    · have hcell := Kd.at_string (Kd.C_below HS.out hbl) (i : Int) (by omega) (by omega)
      obtain ⟨ad, rfl, hcell⟩ := hcell
      rw [Int.toNat_natCast] at hcell
      have hbc := congrArg List.length (blobs_cut ts i hlt)
      have hbs := blobs_step ts i hlt
      have hsm := HZ.out ts[i] (List.getElem_mem _)
      obtain ⟨s, hsd⟩ : ∃ s, ts[i] = s := ⟨_, rfl⟩
      have hz : rdOf ByteArray.empty ts (i : Int) = s := by simp [rdOf, hlt, hsd]
      rw [hz] at hcell
      rw [hsd] at hbc hbs hsm
      have hbound : (strOfNums (blobs (ts.take i))).size + (strOfNums (blob s)).size ≤ 9223372036854775807 := by
        rw [strOfNums_size, strOfNums_size]
        rw [List.length_append, List.length_append] at hbc
        have := HL.out
        omega
      have HST := Lib.hid (congrArg strOfNums hbs)
      have HB := Lib.hid hbound
      have HSM := Lib.hid hsm
      clear hbc hbs hz hbound hsm
      go_wp2_with fail
      refine (rbput_any s HSM.out _).mono ?_
      rintro e w1 ⟨rfl, hb1⟩
      have hb2 := hbl.trans (hb1.mono hbl.size)
      have hbd := HB.out
      clear hb1 hbl
      go_wp2
      go_roundw
      case rel => exact ⟨i + 1, by omega, by go_num, by rw [HST.out, strOfNums_app], hb2⟩
      case measure => simp [intOf]; omega
    · obtain rfl : i = ts.length := by omega
      rw [List.take_of_length_le (Nat.le_refl _)]
      go_wp2_with fail
      go_ret
      exact ⟨rfl, hbl⟩
end Go.Proofs.Ythojcapdbjmneaa
