/- What the reference's Get of chapter 2 answers; what blob.Put and the reference's Put, List make. -/
import Derived.Test.YthpbkhagjgggjaaBlob
set_option linter.unusedVariables false
set_option linter.unusedSimpArgs false
namespace Go.Proofs.Ythpbkhagjgggjaa
open Go.RowKit Go.Proofs.YthpbkhagjgggjaaW.PrintWords

theorem str_mid (l : List Int) (p q : Nat) : (strOfNums l).extract p q = strOfNums ((l.take q).drop p) := by
  apply ByteArray.ext
  apply Array.ext'
  simp [strOfNums, ByteArray.data_extract, List.extract_eq_take_drop, List.drop_take, List.map_take, List.map_drop]
section
open Go.Proofs.Ythpbkhagjgggjaa.GVB
variable (l : List Int) (lim : Int) (w : World)
set_option maxHeartbeats 1000000
theorem bref_err (a ec : Int) (hg : tephraref01_Get.f 30 (strOfNums l) a = some (0, 0, ec)) (he : (ec != 0) = true) :
    Calls Try.prog 93 #[.string (strOfNums l), .int .i64 a, .int .i64 lim] w fun e w' => e = .returned (.tuple #[.string ⟨#[]⟩, .int .i64 0, .int .i64 ec]) ∧ Below w.heap.size w w' := by
  have HG := Lib.hid hg
  clear hg
  go_enter Try.func93, Try.ntmps93
  go_wp2_with fail
  refine (tephraref01_Get.calls 30 _ a 0 0 ec _ HG.out).mono ?_
  rintro e w1 ⟨rfl, hd⟩
  have hb1 := hd.below
  clear hd
  go_wp2_with fail
  go_ret3
  exact ⟨rfl, hb1⟩
theorem bref_big0 (a : Int) (n p d q : Nat) (hg : tephraref01_Get.f 30 (strOfNums l) a = some ((n : Int), (p : Int), 0)) (h1 : decide (lim < 0) = true) (b5 : 0 < n) :
    Calls Try.prog 93 #[.string (strOfNums l), .int .i64 a, .int .i64 lim] w fun e w' => e = .returned (.tuple #[.string ⟨#[]⟩, .int .i64 0, .int .i64 5]) ∧ Below w.heap.size w w' := by
  have HG := Lib.hid hg
  have hsz := strOfNums_size l
  clear hg
  skip
  go_enter Try.func93, Try.ntmps93
  go_wp2_with fail
  refine (tephraref01_Get.calls 30 _ a n p 0 _ HG.out).mono ?_
  rintro e w1 ⟨rfl, hd⟩
  have hb1 := hd.below
  clear hd
  go_wp2_with fail
  go_ret3
  exact ⟨rfl, hb1⟩
theorem bref_ok0 (a : Int) (n p d q : Nat) (hg : tephraref01_Get.f 30 (strOfNums l) a = some ((n : Int), (p : Int), 0)) (h1 : decide (lim < 0) = true) (b5 : n = 0) (hp1 : p ≤ l.length) (hp2 : l.length ≤ 4611686018427387904) :
    Calls Try.prog 93 #[.string (strOfNums l), .int .i64 a, .int .i64 lim] w fun e w' => e = .returned (.tuple #[.string (strOfNums ((l.take p).drop p)), .int .i64 (p : Int), .int .i64 0]) ∧ Below w.heap.size w w' := by
  have HG := Lib.hid hg
  have hsz := strOfNums_size l
  clear hg
  subst b5
  have hx := str_mid l p p
  go_enter Try.func93, Try.ntmps93
  go_wp2_with fail
  refine (tephraref01_Get.calls 30 _ a 0 p 0 _ HG.out).mono ?_
  rintro e w1 ⟨rfl, hd⟩
  have hb1 := hd.below
  clear hd
  go_wp2_with fail
  go_ret3
  exact ⟨by first | rfl | (simp [hx]; done) | (simp [hx]; rfl), hb1⟩
theorem bref_big (a : Int) (n p d q : Nat) (hg : tephraref01_Get.f 30 (strOfNums l) a = some ((n : Int), (p : Int), 0)) (h1 : decide (lim < 0) = false) (hw : IntKind.u64.wrap lim = lim) (b5 : decide (lim < (n : Int)) = true) :
    Calls Try.prog 93 #[.string (strOfNums l), .int .i64 a, .int .i64 lim] w fun e w' => e = .returned (.tuple #[.string ⟨#[]⟩, .int .i64 0, .int .i64 5]) ∧ Below w.heap.size w w' := by
  have HG := Lib.hid hg
  have hsz := strOfNums_size l
  clear hg
  skip
  go_enter Try.func93, Try.ntmps93
  go_wp2_with fail
  refine (tephraref01_Get.calls 30 _ a n p 0 _ HG.out).mono ?_
  rintro e w1 ⟨rfl, hd⟩
  have hb1 := hd.below
  clear hd
  go_wp2_with fail
  go_ret3
  exact ⟨rfl, hb1⟩
theorem bref_short1 (a : Int) (n p d q : Nat) (hg : tephraref01_Get.f 30 (strOfNums l) a = some ((n : Int), (p : Int), 0)) (h1 : decide (lim < 0) = false) (hw : IntKind.u64.wrap lim = lim) (b5 : decide (lim < (n : Int)) = false) (hws : IntKind.u64.wrap (l.length : Int) = (l.length : Int)) (b2 : l.length < n) :
    Calls Try.prog 93 #[.string (strOfNums l), .int .i64 a, .int .i64 lim] w fun e w' => e = .returned (.tuple #[.string ⟨#[]⟩, .int .i64 0, .int .i64 2]) ∧ Below w.heap.size w w' := by
  have HG := Lib.hid hg
  have hsz := strOfNums_size l
  clear hg
  skip
  go_enter Try.func93, Try.ntmps93
  go_wp2_with fail
  refine (tephraref01_Get.calls 30 _ a n p 0 _ HG.out).mono ?_
  rintro e w1 ⟨rfl, hd⟩
  have hb1 := hd.below
  clear hd
  go_wp2_with fail
  go_ret3
  exact ⟨rfl, hb1⟩
theorem bref_short2 (a : Int) (n p d q : Nat) (hg : tephraref01_Get.f 30 (strOfNums l) a = some ((n : Int), (p : Int), 0)) (h1 : decide (lim < 0) = false) (hw : IntKind.u64.wrap lim = lim) (b5 : decide (lim < (n : Int)) = false) (hws : IntKind.u64.wrap (l.length : Int) = (l.length : Int)) (b2 : ¬ l.length < n) (b3 : l.length < q) (hw3 : wrap64 (n : Int) = (n : Int)) (hw4 : wrap64 ((p : Int) + (n : Int)) = (q : Int)) :
    Calls Try.prog 93 #[.string (strOfNums l), .int .i64 a, .int .i64 lim] w fun e w' => e = .returned (.tuple #[.string ⟨#[]⟩, .int .i64 0, .int .i64 2]) ∧ Below w.heap.size w w' := by
  have HG := Lib.hid hg
  have hsz := strOfNums_size l
  clear hg
  skip
  go_enter Try.func93, Try.ntmps93
  go_wp2_with fail
  refine (tephraref01_Get.calls 30 _ a n p 0 _ HG.out).mono ?_
  rintro e w1 ⟨rfl, hd⟩
  have hb1 := hd.below
  clear hd
  go_wp2_with fail
  go_ret3
  exact ⟨rfl, hb1⟩
theorem bref_ok (a : Int) (n p d q : Nat) (hg : tephraref01_Get.f 30 (strOfNums l) a = some ((n : Int), (p : Int), 0)) (h1 : decide (lim < 0) = false) (hw : IntKind.u64.wrap lim = lim) (b5 : decide (lim < (n : Int)) = false) (hws : IntKind.u64.wrap (l.length : Int) = (l.length : Int)) (b2 : ¬ l.length < n) (b3 : ¬ l.length < q) (hw3 : wrap64 (n : Int) = (n : Int)) (hw4 : wrap64 ((p : Int) + (n : Int)) = (q : Int)) (hq1 : p ≤ q) (hq2 : q ≤ l.length) :
    Calls Try.prog 93 #[.string (strOfNums l), .int .i64 a, .int .i64 lim] w fun e w' => e = .returned (.tuple #[.string (strOfNums ((l.take q).drop p)), .int .i64 (q : Int), .int .i64 0]) ∧ Below w.heap.size w w' := by
  have HG := Lib.hid hg
  have hsz := strOfNums_size l
  clear hg
  have hx := str_mid l p q
  go_enter Try.func93, Try.ntmps93
  go_wp2_with fail
  refine (tephraref01_Get.calls 30 _ a n p 0 _ HG.out).mono ?_
  rintro e w1 ⟨rfl, hd⟩
  have hb1 := hd.below
  clear hd
  go_wp2_with fail
  go_ret3
  exact ⟨by first | rfl | (simp [hx, hw4]; done), hb1⟩
theorem bref_any (a : Int) (hb : ∀ x ∈ l, 0 ≤ x ∧ x < 256) (hl : l.length ≤ 1000000000) (hlim : -9223372036854775808 ≤ lim ∧ lim ≤ 9223372036854775807) :
    Calls Try.prog 93 #[.string (strOfNums l), .int .i64 a, .int .i64 lim] w fun e w' => e = .returned (.tuple #[.string (bgetS l a lim).1, .int .i64 (bgetS l a lim).2.1, .int .i64 (bgetS l a lim).2.2]) ∧ Below w.heap.size w w' := by
  have hg := ref_is l hb (by omega) a 30 (by decide)
  rcases getS_cases l hb a with ⟨ec, h1, h2⟩ | ⟨lo, n, p, ha, h1, h2, h3, h4, h5⟩
  · rw [h1] at hg
    have e : bgetS l a lim = (⟨#[]⟩, 0, ec) := by
      unfold bgetS
      rw [h1, if_pos (by show ec ≠ 0; omega)]
    rw [e]
    exact bref_err l lim w a ec hg (by simp; omega)
  · rw [h1] at hg
    obtain ⟨M, hM, hM0, hM1⟩ : ∃ M : Int, (if lim < 0 then 0 else lim) = M ∧ 0 ≤ M ∧ M ≤ 9223372036854775807 := ⟨_, rfl, by split <;> omega, by split <;> omega⟩
    obtain ⟨d, hd⟩ : ∃ d : Nat, (l.length : Int) - (p : Int) = (d : Int) := ⟨l.length - p, by omega⟩
    have hML : lim < 0 ∧ M = 0 ∨ ¬ lim < 0 ∧ M = lim := by
      by_cases h0 : lim < 0
      · rw [if_pos h0] at hM; exact .inl ⟨h0, hM.symm⟩
      · rw [if_neg h0] at hM; exact .inr ⟨h0, hM.symm⟩
    by_cases c5 : M < (n : Int)
    · have e : bgetS l a lim = (⟨#[]⟩, 0, 5) := by
        unfold bgetS
        rw [h1, hM, if_neg (by simp), if_pos c5]
      rw [e]
      rcases hML with ⟨h0, hm⟩ | ⟨h0, hm⟩
      · exact bref_big0 l lim w a n p 0 0 hg (decide_eq_true h0) (by omega)
      · exact bref_big l lim w a n p 0 0 hg (decide_eq_false h0) (by rw [IntKind.wrap_u64]; omega) (decide_eq_true (by omega))
    · by_cases c2 : (d : Int) < (n : Int)
      · have e : bgetS l a lim = (⟨#[]⟩, 0, 2) := by
          unfold bgetS
          rw [h1, hM, if_neg (by simp), if_neg c5, if_pos (by rw [hd]; exact c2)]
        rw [e]
        rcases hML with ⟨h0, hm⟩ | ⟨h0, hm⟩
        · omega
        · by_cases c3 : l.length < n
          · exact bref_short1 l lim w a n p 0 0 hg (decide_eq_false h0) (by rw [IntKind.wrap_u64]; omega) (decide_eq_false (by omega)) (by rw [IntKind.wrap_u64]; omega) c3
          · exact bref_short2 l lim w a n p 0 (p + n) hg (decide_eq_false h0) (by rw [IntKind.wrap_u64]; omega) (decide_eq_false (by omega)) (by rw [IntKind.wrap_u64]; omega) c3 (by omega) (w64 _ (by omega) (by omega)) (wsum p n (by omega))
      · have e : bgetS l a lim = (strOfNums ((l.take (p + n)).drop p), ((p + n : Nat) : Int), 0) := by
          unfold bgetS
          rw [h1, hM, if_neg (by simp), if_neg c5, if_neg (by rw [hd]; exact c2)]
          simp
        rw [e]
        rcases hML with ⟨h0, hm⟩ | ⟨h0, hm⟩
        · have hn0 : n = 0 := by omega
          subst hn0
          exact bref_ok0 l lim w a 0 p 0 0 hg (decide_eq_true h0) rfl h3 (by omega)
        · exact bref_ok l lim w a n p 0 (p + n) hg (decide_eq_false h0) (by rw [IntKind.wrap_u64]; omega) (decide_eq_false (by omega)) (by rw [IntKind.wrap_u64]; omega) (by omega) (by omega) (w64 _ (by omega) (by omega)) (wsum p n (by omega)) (by omega) (by omega)
end
theorem bgetS_cases (l : List Int) (hb : ∀ x ∈ l, 0 ≤ x ∧ x < 256) (a lim : Int) : (∃ e : Int, bgetS l a lim = (⟨#[]⟩, 0, e) ∧ (e = 1 ∨ e = 2 ∨ e = 3 ∨ e = 5)) ∨
    ∃ lo p q : Nat, a = (lo : Int) ∧ bgetS l a lim = (strOfNums ((l.take q).drop p), (q : Int), 0) ∧ lo < p ∧ p ≤ q ∧ q ≤ l.length ∧ ((q - p : Nat) : Int) ≤ (if lim < 0 then 0 else lim) := by
  rcases getS_cases l hb a with ⟨ec, h1, h2⟩ | ⟨lo, n, p, ha, h1, h2, h3, h4, h5⟩
  · refine .inl ⟨ec, ?_, ?_⟩
    · unfold bgetS; rw [h1, if_pos (by show ec ≠ 0; omega)]
    · omega
  · obtain ⟨M, hM⟩ : ∃ M : Int, (if lim < 0 then 0 else lim) = M := ⟨_, rfl⟩
    have hp : lo < p := by
      have := congrArg List.length h5
      rw [List.length_drop, List.length_take] at this
      have h6 : 0 < (ints (vb n)).length := by
        rw [show (ints (vb n)).length = (vb n).length by simp [ints]]
        exact List.length_pos_iff.2 (vb_ne n)
      omega
    by_cases c5 : M < (n : Int)
    · refine .inl ⟨5, ?_, by omega⟩
      unfold bgetS; rw [h1, hM, if_neg (by simp), if_pos c5]
    · by_cases c2 : (l.length : Int) - (p : Int) < (n : Int)
      · refine .inl ⟨2, ?_, by omega⟩
        unfold bgetS; rw [h1, hM, if_neg (by simp), if_neg c5, if_pos c2]
      · refine .inr ⟨lo, p, p + n, ha, ?_, hp, by omega, by omega, ?_⟩
        · unfold bgetS; rw [h1, hM, if_neg (by simp), if_neg c5, if_neg c2]; simp
        · rw [hM, show p + n - p = n by omega]; omega
theorem bytes_str (s : ByteArray) : strOfNums (bytesOf s) = s := by
  apply ByteArray.ext
  apply Array.ext'
  simp [strOfNums, bytesOf, Function.comp_def]
theorem blob_str (s : ByteArray) : strOfNums (blob s) = strOfNums (ints (vb s.size)) ++ s := by
  unfold blob
  rw [strOfNums_app, bytes_str]
theorem blobs_one (s : ByteArray) : blobs [s] = blob s := by
  show blob s ++ [] = _
  rw [List.append_nil]
set_option maxHeartbeats 1000000 in
/-- the reference's Put of a text -/
theorem rbput_any (s : ByteArray) (hs : s.size ≤ 1000000000) (w : World) :
    Calls Try.prog 62 #[.string s] w fun e w' => e = .returned (.string (strOfNums (blob s))) ∧ Below w.heap.size w w' := by
  have hw : IntKind.u64.wrap (s.size : Int) = (s.size : Int) := by rw [IntKind.wrap_u64]; omega
  have hv := vb_len10 s.size (by omega)
  have HV := Lib.hid (show s.size < 18446744073709551616 by omega)
  have hz : (strOfNums (ints (vb s.size))).size + s.size ≤ 9223372036854775807 := by rw [strOfNums_size]; simp [ints]; omega
  clear hv
  go_enter Try.func62, Try.ntmps62
  go_wp2_with fail
  refine (refput_any s.size HV.out _).mono ?_
  rintro e w1 ⟨rfl, hb⟩
  go_wp2_with fail
  go_ret
  exact ⟨by rw [blob_str]; rfl, hb⟩
theorem C_block_str (W : World) (b : Nat) (e : TypeId) (fr : Nat × Nat) (xs : List ByteArray) (h : W.heap[b]? = some (.cells (xs.map Value.string).toArray e fr)) (hx : xs.length ≤ 9223372036854775807) :
    Kd.C Kd.string W (some ⟨b, 0, none⟩) xs.length xs := by
  refine ⟨rfl, hx, fun _ => ⟨_, rfl, fun j p hj => ⟨[.string p], rfl, rfl, fun i u hu => ?_⟩⟩⟩
  match i with
  | 0 =>
    have e0 : (⟨b, 0, none⟩ : Addr).add (j * Kd.string.sz + 0) = ⟨b, j, none⟩ := by simp [Addr.add, Kd.string, Kd.scalar]; omega
    rw [e0]
    simp only [World.cell?, h, Option.isSome_none, Bool.false_eq_true, if_false]
    simp only [List.getElem?_toArray, List.getElem?_map, hj, Option.map_some]
    simpa using hu
  | i + 1 => simp at hu
end Go.Proofs.Ythpbkhagjgggjaa
