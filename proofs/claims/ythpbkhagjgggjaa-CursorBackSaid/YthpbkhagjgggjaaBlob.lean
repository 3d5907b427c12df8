/- What blob.List and blob.Put make, what the reference's make; a blob read. -/
import Derived.Test.YthpbkhagjgggjaaVarQ
set_option linter.unusedVariables false
set_option linter.unusedSimpArgs false
namespace Go.Proofs.Ythpbkhagjgggjaa
open Go.RowKit Go.Proofs.YthpbkhagjgggjaaW.PrintWords

/-- A text's bytes, as numbers, behind its count. -/
def blob (s : ByteArray) : List Int := ints (vb s.size) ++ bytesOf s
def blobs (ts : List ByteArray) : List Int := ts.flatMap blob
theorem blobs_step (ts : List ByteArray) (i : Nat) (h : i < ts.length) : blobs (ts.take (i + 1)) = blobs (ts.take i) ++ blob ts[i] := by
  unfold blobs
  rw [List.take_succ_eq_append_getElem h, List.flatMap_append]
  show _ ++ (blob ts[i] ++ []) = _
  rw [List.append_nil]
theorem blobs_cut (ts : List ByteArray) (i : Nat) (h : i < ts.length) : blobs ts = blobs (ts.take i) ++ (blob ts[i] ++ blobs (ts.drop (i + 1))) := by
  unfold blobs
  conv => lhs; rw [← List.take_append_drop i ts, List.drop_eq_getElem_cons h]
  rw [List.flatMap_append, List.flatMap_cons]
theorem blob_len (s : ByteArray) : (blob s).length = (vb s.size).length + s.size := by
  unfold blob
  rw [List.length_append, bytesOf_length]; simp [ints]
theorem dec_errs : ∀ (f i acc : Nat) (l : List Nat), (dec f i acc l).2.2 = 0 ∨ (dec f i acc l).2.2 = 2 ∨ (dec f i acc l).2.2 = 3 := by
  intro f
  induction f with
  | zero => intro i acc l; exact .inr (.inr rfl)
  | succ f ih =>
    intro i acc l
    cases l with
    | nil => exact .inr (.inl rfl)
    | cons x r =>
      simp only [dec]
      split
      · exact .inr (.inr rfl)
      · split
        · exact .inl rfl
        · exact ih ..
open Go.Proofs.Ythpbkhagjgggjaa.GVB in
/-- What is read at a place: an error, or a number whose bytes lie there. -/
theorem getS_cases (l : List Int) (hb : ∀ x ∈ l, 0 ≤ x ∧ x < 256) (a : Int) : (∃ e : Int, getS l a = (0, 0, e) ∧ (e = 1 ∨ e = 2 ∨ e = 3)) ∨
    ∃ lo n p : Nat, a = (lo : Int) ∧ getS l a = ((n : Int), (p : Int), 0) ∧ lo ≤ p ∧ p ≤ l.length ∧ n < 18446744073709551616 ∧ (l.take p).drop lo = ints (vb n) := by
  unfold getS
  split
  · exact .inl ⟨1, rfl, .inl rfl⟩
  · rename_i h
    obtain ⟨lo, hlo⟩ : ∃ lo : Nat, a = (lo : Int) := ⟨a.toNat, by omega⟩
    subst hlo
    rw [Int.toNat_natCast]
    obtain ⟨⟨n, c, ec⟩, hd⟩ : ∃ d, dec 10 0 0 ((nats l).drop lo) = d := ⟨_, rfl⟩
    rw [hd]
    unfold outS
    have hbn : ∀ x ∈ (nats l).drop lo, x < 256 := by
      intro x hx
      have := List.mem_of_mem_drop hx
      simp only [nats, List.mem_map] at this
      obtain ⟨y, hy, rfl⟩ := this
      have := hb y hy
      omega
    by_cases he : ec = 0
    · subst he
      obtain ⟨ht, hcl, hcp⟩ := vb_of_dec0 _ n c hbn hd
      have hn := dec_lt 10 0 0 _ n c rfl (by simp) hbn hd
      rw [List.length_drop] at hcl
      have hln : (nats l).length = l.length := by simp [nats]
      refine .inr ⟨lo, n, lo + c, rfl, by rw [if_pos rfl], by omega, by omega, hn, ?_⟩
      rw [← ht]
      have hl : ints (nats l) = l := by
        unfold ints nats
        rw [List.map_map]
        conv => rhs; rw [← List.map_id l]
        apply List.map_congr_left
        intro x hx
        have := hb x hx
        simp; omega
      conv => lhs; rw [← hl]
      rw [List.drop_take, show lo + c - lo = c by omega]
      simp [ints]
    · refine .inl ⟨ec, by rw [if_neg he], ?_⟩
      have := dec_errs 10 0 0 ((nats l).drop lo)
      rw [hd] at this
      have h2 : ec = 0 ∨ ec = 2 ∨ ec = 3 := this
      omega
open Go.Proofs.Ythpbkhagjgggjaa.GVB in
def bgetS (l : List Int) (a lim : Int) : ByteArray × Int × Int :=
  if (getS l a).2.2 ≠ 0 then (⟨#[]⟩, 0, (getS l a).2.2)
  else if (if lim < 0 then 0 else lim) < (getS l a).1 then (⟨#[]⟩, 0, 5)
  else if (l.length : Int) - (getS l a).2.1 < (getS l a).1 then (⟨#[]⟩, 0, 2)
  else (strOfNums ((l.take ((getS l a).2.1.toNat + (getS l a).1.toNat)).drop (getS l a).2.1.toNat), (getS l a).2.1 + (getS l a).1, 0)
attribute [local go_sem] Go.Proofs.YthpbkhagjgggjaaW.PrintMore.max2_int
section
open Go.Proofs.Ythpbkhagjgggjaa.GVB
variable (A : Option Addr) (c : Nat) (l : List Int) (lim : Int) (w : World)
set_option maxHeartbeats 1000000
theorem bget_err (a ec : Int) (hr : Kd.C (Kd.int .u8) w A l.length l) (hc : l.length ≤ c) (hg : varint_Get.f 30 l a = some (0, 0, ec)) (he : (ec != 0) = true) :
    Calls Try.prog 81 #[.slice A l.length c, .int .i64 a, .int .i64 lim] w fun e w' => e = .returned (.tuple #[.string ⟨#[]⟩, .int .i64 0, .int .i64 ec]) ∧ Below w.heap.size w w' := by
  have HC := Lib.hid hr
  have HL := Lib.hid hc
  have HG := Lib.hid hg
  clear hr hc hg
  go_enter Try.func81, Try.ntmps81
  go_wp2_with fail
  refine (varint_Get.calls 30 _ _ l a 0 0 ec _ HC.out HL.out HG.out).mono ?_
  rintro e w1 ⟨rfl, hd⟩
  have hb1 := hd.below
  clear hd
  go_wp2_with fail
  go_ret3
  exact ⟨rfl, hb1⟩
theorem bget_big (a : Int) (n p : Nat) (M : Int) (hr : Kd.C (Kd.int .u8) w A l.length l) (hc : l.length ≤ c) (hg : varint_Get.f 30 l a = some ((n : Int), (p : Int), 0)) (hM : (if lim < 0 then 0 else lim) = M) (hw : IntKind.u64.wrap M = M) (b5 : decide (M < (n : Int)) = true) :
    Calls Try.prog 81 #[.slice A l.length c, .int .i64 a, .int .i64 lim] w fun e w' => e = .returned (.tuple #[.string ⟨#[]⟩, .int .i64 0, .int .i64 5]) ∧ Below w.heap.size w w' := by
  have HC := Lib.hid hr
  have HL := Lib.hid hc
  have HG := Lib.hid hg
  clear hr hc hg
  go_enter Try.func81, Try.ntmps81
  go_wp2_with fail
  refine (varint_Get.calls 30 _ _ l a n p 0 _ HC.out HL.out HG.out).mono ?_
  rintro e w1 ⟨rfl, hd⟩
  have hb1 := hd.below
  clear hd
  go_wp2_with fail
  go_ret3
  exact ⟨rfl, hb1⟩
theorem bget_short (a : Int) (n p d : Nat) (M : Int) (hr : Kd.C (Kd.int .u8) w A l.length l) (hc : l.length ≤ c) (hg : varint_Get.f 30 l a = some ((n : Int), (p : Int), 0)) (hM : (if lim < 0 then 0 else lim) = M) (hw : IntKind.u64.wrap M = M) (b5 : decide (M < (n : Int)) = false)
    (hsub : (l.length : Int) - (p : Int) = (d : Int)) (hw1 : wrap64 (d : Int) = (d : Int)) (hw2 : IntKind.u64.wrap (d : Int) = (d : Int)) (b2 : d < n) :
    Calls Try.prog 81 #[.slice A l.length c, .int .i64 a, .int .i64 lim] w fun e w' => e = .returned (.tuple #[.string ⟨#[]⟩, .int .i64 0, .int .i64 2]) ∧ Below w.heap.size w w' := by
  have HC := Lib.hid hr
  have HL := Lib.hid hc
  have HG := Lib.hid hg
  clear hr hc hg
  go_enter Try.func81, Try.ntmps81
  go_wp2_with fail
  refine (varint_Get.calls 30 _ _ l a n p 0 _ HC.out HL.out HG.out).mono ?_
  rintro e w1 ⟨rfl, hd⟩
  have hb1 := hd.below
  clear hd
  go_wp2_with fail
  go_ret3
  exact ⟨rfl, hb1⟩
theorem bget_ok (a : Int) (n p d q : Nat) (M : Int) (hr : Kd.C (Kd.int .u8) w A l.length l) (hc : l.length ≤ c) (hg : varint_Get.f 30 l a = some ((n : Int), (p : Int), 0)) (hM : (if lim < 0 then 0 else lim) = M) (hw : IntKind.u64.wrap M = M) (b5 : decide (M < (n : Int)) = false)
    (hsub : (l.length : Int) - (p : Int) = (d : Int)) (hw1 : wrap64 (d : Int) = (d : Int)) (hw2 : IntKind.u64.wrap (d : Int) = (d : Int)) (b2 : ¬ d < n) (hw3 : wrap64 (n : Int) = (n : Int)) (hw4 : wrap64 ((p : Int) + (n : Int)) = (q : Int)) (hq1 : p ≤ q) (hq2 : q ≤ l.length) :
    Calls Try.prog 81 #[.slice A l.length c, .int .i64 a, .int .i64 lim] w fun e w' => e = .returned (.tuple #[.string (strOfNums ((l.take q).drop p)), .int .i64 (q : Int), .int .i64 0]) ∧ Below w.heap.size w w' := by
  have HC := Lib.hid hr
  have HL := Lib.hid hc
  have HG := Lib.hid hg
  have hq3 : q ≤ c := by clear hw hw1 hw2 hw3 hw4 hM; omega
  clear hr hc hg
  go_enter Try.func81, Try.ntmps81
  go_wp2_with fail
  refine (varint_Get.calls 30 _ _ l a n p 0 _ HC.out HL.out HG.out).mono ?_
  rintro e w1 ⟨rfl, hd⟩
  have hb1 := hd.below
  clear hd
  have hC := Kd.C_mid (lo := p) (hi := q) (c := c) (Kd.C_below HC.out hb1) hq1 hq2 HL.out
  have hcv := Kd.C_string (P := Try.prog) (c := c - p) Try.underlying25 Try.underlying5 Try.underlying9 hC
  rw [show ((l.take q).drop p).length = q - p by clear hw hw1 hw2 hw3 hw4 hM; simp; omega] at hcv
  simp only [show (Kd.int .u8).sz = 1 from rfl, Nat.mul_one] at hcv
  clear hC
  by_cases hcp : c = p
  · rw [if_pos hcp, hcp, Nat.sub_self] at hcv
    go_wp2_with fail
    go_ret3
    exact ⟨congrArg (fun z => Ending.returned (.tuple #[_, .int .i64 z, _])) hw4, hb1⟩
  · rw [if_neg hcp] at hcv
    go_wp2_with fail
    go_ret3
    exact ⟨congrArg (fun z => Ending.returned (.tuple #[_, .int .i64 z, _])) hw4, hb1⟩
theorem bget_any (a : Int) (hr : Kd.C (Kd.int .u8) w A l.length l) (hc : l.length ≤ c) (hb : ∀ x ∈ l, 0 ≤ x ∧ x < 256) (hl : l.length ≤ 4611686018427387904) (hlim : -9223372036854775808 ≤ lim ∧ lim ≤ 9223372036854775807) :
    Calls Try.prog 81 #[.slice A l.length c, .int .i64 a, .int .i64 lim] w fun e w' => e = .returned (.tuple #[.string (bgetS l a lim).1, .int .i64 (bgetS l a lim).2.1, .int .i64 (bgetS l a lim).2.2]) ∧ Below w.heap.size w w' := by
  have hg := get_is l hb hl a 30 (by decide)
  rcases getS_cases l hb a with ⟨ec, h1, h2⟩ | ⟨lo, n, p, ha, h1, h2, h3, h4, h5⟩
  · rw [h1] at hg
    have e : bgetS l a lim = (⟨#[]⟩, 0, ec) := by
      unfold bgetS
      rw [h1, if_pos (by show ec ≠ 0; omega)]
    rw [e]
    exact bget_err A c l lim w a ec hr hc hg (by simp; omega)
  · rw [h1] at hg
    obtain ⟨M, hM, hM0, hM1⟩ : ∃ M : Int, (if lim < 0 then 0 else lim) = M ∧ 0 ≤ M ∧ M ≤ 9223372036854775807 := ⟨_, rfl, by split <;> omega, by split <;> omega⟩
    obtain ⟨d, hd⟩ : ∃ d : Nat, (l.length : Int) - (p : Int) = (d : Int) := ⟨l.length - p, by omega⟩
    by_cases c5 : M < (n : Int)
    · have e : bgetS l a lim = (⟨#[]⟩, 0, 5) := by
        unfold bgetS
        rw [h1, hM, if_neg (by simp), if_pos c5]
      rw [e]
      exact bget_big A c l lim w a n p M hr hc hg hM (by rw [IntKind.wrap_u64]; omega) (decide_eq_true c5)
    · by_cases c2 : (d : Int) < (n : Int)
      · have e : bgetS l a lim = (⟨#[]⟩, 0, 2) := by
          unfold bgetS
          rw [h1, hM, if_neg (by simp), if_neg c5, if_pos (by rw [hd]; exact c2)]
        rw [e]
        exact bget_short A c l lim w a n p d M hr hc hg hM (by rw [IntKind.wrap_u64]; omega) (decide_eq_false c5) hd (w64 _ (by omega) (by omega)) (by rw [IntKind.wrap_u64]; omega) (by omega)
      · have e : bgetS l a lim = (strOfNums ((l.take (p + n)).drop p), ((p + n : Nat) : Int), 0) := by
          unfold bgetS
          rw [h1, hM, if_neg (by simp), if_neg c5, if_neg (by rw [hd]; exact c2)]
          simp
        rw [e]
        exact bget_ok A c l lim w a n p d (p + n) M hr hc hg hM (by rw [IntKind.wrap_u64]; omega) (decide_eq_false c5) hd (w64 _ (by omega) (by omega)) (by rw [IntKind.wrap_u64]; omega) (by omega) (w64 _ (by omega) (by omega)) (wsum p n (by omega)) (by omega) (by omega)
end
end Go.Proofs.Ythpbkhagjgggjaa
