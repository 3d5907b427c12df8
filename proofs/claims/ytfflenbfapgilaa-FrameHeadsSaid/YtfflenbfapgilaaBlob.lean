/- What blob.List and blob.Put make, what the reference's make; a blob read. -/
import Derived.Test.YtfflenbfapgilaaVarQ
set_option linter.unusedVariables false
set_option linter.unusedSimpArgs false
namespace Go.Proofs.Ytfflenbfapgilaa
open Go.RowKit Go.Proofs.YtfflenbfapgilaaW.PrintWords

/-- A text's bytes, as numbers, behind its count. -/
def blob (s : ByteArray) : List Int := ints (vb s.size) ++ bytesOf s
def blobs (ts : List ByteArray) : List Int := ts.flatMap blob
theorem blobs_step (ts : List ByteArray) (i : Nat) (h : i < ts.length) : blobs (ts.take (i + 1)) = blobs (ts.take i) ++ blob ts[i] := by
  unfold blobs
  rw [List.take_succ_eq_append_getElem h, List.flatMap_append]
  show _ ++ (blob ts[i] ++ []) = _
  rw [List.append_nil]
theorem blobs_cut (ts : List ByteArray) (i : Nat) (h : i < ts.length) : blobs ts = blobs (ts.take i) ++ (blob ts[i] ++ blobs (ts.drop (i + 1))) := by
  unfold blobs
  conv => lhs; rw [← List.take_append_drop i ts, List.drop_eq_getElem_cons h]
  rw [List.flatMap_append, List.flatMap_cons]
theorem blob_len (s : ByteArray) : (blob s).length = (vb s.size).length + s.size := by
  unfold blob
  rw [List.length_append, bytesOf_length]; simp [ints]
set_option maxHeartbeats 2000000 in
set_option maxRecDepth 100000 in
theorem list_any (A : Option Addr) (c : Nat) (l : List Int) (B : Option Addr) (cb : Nat) (ts : List ByteArray) (w : World) (hr : Kd.C (Kd.int .u8) w A l.length l) (hc : l.length ≤ c) (hs : Kd.C Kd.string w B ts.length ts) (hsc : ts.length ≤ cb)
    (hl : l.length + (blobs ts).length ≤ 140737488355000) :
    Calls Try.prog 85 #[.slice A l.length c, .slice B ts.length cb] w fun e w' => ∃ v : Value, e = .returned v ∧ Kd.R (Kd.int .u8) 5 w' w.heap.size (fun _ => True) v (l ++ blobs ts) ∧ Below w.heap.size w w' := by
  have HC := Lib.hid hr
  have HS := Lib.hid hs
  have HL := Lib.hid hl
  have htm : ts.length ≤ 9223372036854775807 := hs.2.1
  clear hr hs hl
  go_enter Try.func85, Try.ntmps85
  go_wp2_with fail
  refine (clone_any A c l _ HC.out hc (by have := HL.out; omega)).mono ?_
  rintro e w1 ⟨v1, rfl, ho1, hb1⟩
  have HO1 := Lib.hid ho1
  clear ho1
  go_wp2_with fail
  go_loopw [5, 12] (fun u5 u12 wr => ∃ (i : Nat), i ≤ ts.length ∧ u12 = .int .i64 i ∧ Kd.R (Kd.int .u8) 5 wr w.heap.size (fun _ => True) u5 (l ++ blobs (ts.take i)) ∧ Below w.heap.size w wr) (fun _ v _ => ts.length - (intOf v).toNat)
  case atStart => exact ⟨0, by omega, rfl, by simpa [blobs] using HO1.out, hb1⟩
  case round =>
    obtain ⟨i, hi, rfl, ho, hbl⟩ := hrel
    by_cases hlt : i < ts.length
    · have hcell := Kd.at_string (Kd.C_below HS.out hbl) (i : Int) (by omega) (by omega)
      obtain ⟨ad, rfl, hcell⟩ := hcell
      rw [Int.toNat_natCast] at hcell
      have hbc := congrArg List.length (blobs_cut ts i hlt)
      have hbs := blobs_step ts i hlt
      obtain ⟨s, hsd⟩ : ∃ s, ts[i] = s := ⟨_, rfl⟩
      have hz : rdOf ByteArray.empty ts (i : Int) = s := by simp [rdOf, hlt, hsd]
      rw [hz] at hcell
      rw [hsd] at hbc hbs
      obtain ⟨xs, HXS⟩ : ∃ xs, Hid (l ++ blobs (ts.take i) = xs) := ⟨_, rfl⟩
      have hbound : xs.length + (vb s.size).length + s.size ≤ 140737488355000 := by
        rw [← HXS.out, List.length_append]
        rw [List.length_append, List.length_append, blob_len] at hbc
        have := HL.out
        omega
      rw [HXS.out] at ho
      have HB := Lib.hid hbound
      have hm1 : s.size ≤ 140737488355000 := by omega
      have hm2 : s.size < 18446744073709551616 := by omega
      have hm3 : IntKind.u64.wrap (s.size : Int) = (s.size : Int) := by rw [IntKind.wrap_u64]; omega
      obtain ⟨A5, c5, rfl⟩ := Kd.R_slice ho
      have HO := Lib.hid (Kd.R_reads' ho)
      have HST := Lib.hid hbs
      clear ho hbc hbs hbound hz
      go_wp2_with (fail)
      refine (put_any A5 c5 xs s.size _ HO.out.2.2 HO.out.2.1 (by have := HB.out; omega) hm2).mono ?_
      rintro e w2 ⟨v2, rfl, ho2, hb2⟩
      have HO2 := Lib.hid (Kd.R_lower ho2 hbl.size)
      have hb3 := hbl.trans (hb2.mono hbl.size)
      clear ho2
      go_wp2_with (at_builtin; refine Halt.mk ?_)
      refine Halt.of ?_
      refine print_append_str (w0 := w) w.heap.size rfl (.tmp 20) (.tmp 21) 22 9 5 rfl Try.underlying22 Try.underlying9 info_u8 v2 (xs ++ ints (vb s.size)) s rfl rfl (Kd.own_of_R HO2.out) hb3 hb3.size (by have := HB.out; rw [List.length_append, show (ints (vb s.size)).length = (vb s.size).length by simp [ints]]; omega) ?_
      intro v3 w3 hown hb4 hg
      have ho3 : Kd.R (Kd.int .u8) 5 w3 w.heap.size (fun _ => True) v3 (xs ++ ints (vb s.size) ++ bytesOf s) := Kd.R_of_own hown (fun _ _ => trivial)
      have HO3 := Lib.hid ho3
      clear ho3 hown hg
      go_wp2
      go_roundw
      case rel => exact ⟨i + 1, by omega, by go_num, by rw [HST.out, blob, ← List.append_assoc, ← List.append_assoc, HXS.out]; exact HO3.out, hb4⟩
      case measure => simp [intOf]; omega
    · obtain rfl : i = ts.length := by omega
      rw [List.take_of_length_le (Nat.le_refl _)] at ho
      go_wp2_with fail
      go_ret
      exact ⟨_, rfl, ho, hbl⟩
theorem dec_errs : ∀ (f i acc : Nat) (l : List Nat), (dec f i acc l).2.2 = 0 ∨ (dec f i acc l).2.2 = 2 ∨ (dec f i acc l).2.2 = 3 := by
  intro f
  induction f with
  | zero => intro i acc l; exact .inr (.inr rfl)
  | succ f ih =>
    intro i acc l
    cases l with
    | nil => exact .inr (.inl rfl)
    | cons x r =>
      simp only [dec]
      split
      · exact .inr (.inr rfl)
      · split
        · exact .inl rfl
        · exact ih ..
open Go.Proofs.Ytfflenbfapgilaa.GVB in
/-- What is read at a place: an error, or a number whose bytes lie there. -/
theorem getS_cases (l : List Int) (hb : ∀ x ∈ l, 0 ≤ x ∧ x < 256) (a : Int) : (∃ e : Int, getS l a = (0, 0, e) ∧ (e = 1 ∨ e = 2 ∨ e = 3)) ∨
    ∃ lo n p : Nat, a = (lo : Int) ∧ getS l a = ((n : Int), (p : Int), 0) ∧ lo ≤ p ∧ p ≤ l.length ∧ n < 18446744073709551616 ∧ (l.take p).drop lo = ints (vb n) := by
  unfold getS
  split
  · exact .inl ⟨1, rfl, .inl rfl⟩
  · rename_i h
    obtain ⟨lo, hlo⟩ : ∃ lo : Nat, a = (lo : Int) := ⟨a.toNat, by omega⟩
    subst hlo
    rw [Int.toNat_natCast]
    obtain ⟨⟨n, c, ec⟩, hd⟩ : ∃ d, dec 10 0 0 ((nats l).drop lo) = d := ⟨_, rfl⟩
    rw [hd]
    unfold outS
    have hbn : ∀ x ∈ (nats l).drop lo, x < 256 := by
      intro x hx
      have := List.mem_of_mem_drop hx
      simp only [nats, List.mem_map] at this
      obtain ⟨y, hy, rfl⟩ := this
      have := hb y hy
      omega
    by_cases he : ec = 0
    · subst he
      obtain ⟨ht, hcl, hcp⟩ := vb_of_dec0 _ n c hbn hd
      have hn := dec_lt 10 0 0 _ n c rfl (by simp) hbn hd
      rw [List.length_drop] at hcl
      have hln : (nats l).length = l.length := by simp [nats]
      refine .inr ⟨lo, n, lo + c, rfl, by rw [if_pos rfl], by omega, by omega, hn, ?_⟩
      rw [← ht]
      have hl : ints (nats l) = l := by
        unfold ints nats
        rw [List.map_map]
        conv => rhs; rw [← List.map_id l]
        apply List.map_congr_left
        intro x hx
        have := hb x hx
        simp; omega
      conv => lhs; rw [← hl]
      rw [List.drop_take, show lo + c - lo = c by omega]
      simp [ints]
    · refine .inl ⟨ec, by rw [if_neg he], ?_⟩
      have := dec_errs 10 0 0 ((nats l).drop lo)
      rw [hd] at this
      have h2 : ec = 0 ∨ ec = 2 ∨ ec = 3 := this
      omega
open Go.Proofs.Ytfflenbfapgilaa.GVB in
def bgetS (l : List Int) (a lim : Int) : ByteArray × Int × Int :=
  if (getS l a).2.2 ≠ 0 then (⟨#[]⟩, 0, (getS l a).2.2)
  else if (if lim < 0 then 0 else lim) < (getS l a).1 then (⟨#[]⟩, 0, 5)
  else if (l.length : Int) - (getS l a).2.1 < (getS l a).1 then (⟨#[]⟩, 0, 2)
  else (strOfNums ((l.take ((getS l a).2.1.toNat + (getS l a).1.toNat)).drop (getS l a).2.1.toNat), (getS l a).2.1 + (getS l a).1, 0)
attribute [local go_sem] Go.Proofs.YtfflenbfapgilaaW.PrintMore.max2_int
section
open Go.Proofs.Ytfflenbfapgilaa.GVB
variable (A : Option Addr) (c : Nat) (l : List Int) (lim : Int) (w : World)
set_option maxHeartbeats 1000000
theorem bget_err (a ec : Int) (hr : Kd.C (Kd.int .u8) w A l.length l) (hc : l.length ≤ c) (hg : varint_Get.f 30 l a = some (0, 0, ec)) (he : (ec != 0) = true) :
    Calls Try.prog 57 #[.slice A l.length c, .int .i64 a, .int .i64 lim] w fun e w' => e = .returned (.tuple #[.string ⟨#[]⟩, .int .i64 0, .int .i64 ec]) ∧ Below w.heap.size w w' := by
  have HC := Lib.hid hr
  have HL := Lib.hid hc
  have HG := Lib.hid hg
  clear hr hc hg
  go_enter Try.func57, Try.ntmps57
  go_wp2_with fail
  refine (varint_Get.calls 30 _ _ l a 0 0 ec _ HC.out HL.out HG.out).mono ?_
  rintro e w1 ⟨rfl, hd⟩
  have hb1 := hd.below
  clear hd
  go_wp2_with fail
  go_ret3
  exact ⟨rfl, hb1⟩
theorem bget_big (a : Int) (n p : Nat) (M : Int) (hr : Kd.C (Kd.int .u8) w A l.length l) (hc : l.length ≤ c) (hg : varint_Get.f 30 l a = some ((n : Int), (p : Int), 0)) (hM : (if lim < 0 then 0 else lim) = M) (hw : IntKind.u64.wrap M = M) (b5 : decide (M < (n : Int)) = true) :
    Calls Try.prog 57 #[.slice A l.length c, .int .i64 a, .int .i64 lim] w fun e w' => e = .returned (.tuple #[.string ⟨#[]⟩, .int .i64 0, .int .i64 5]) ∧ Below w.heap.size w w' := by
  have HC := Lib.hid hr
  have HL := Lib.hid hc
  have HG := Lib.hid hg
  clear hr hc hg
  go_enter Try.func57, Try.ntmps57
  go_wp2_with fail
  refine (varint_Get.calls 30 _ _ l a n p 0 _ HC.out HL.out HG.out).mono ?_
  rintro e w1 ⟨rfl, hd⟩
  have hb1 := hd.below
  clear hd
  go_wp2_with fail
  go_ret3
  exact ⟨rfl, hb1⟩
theorem bget_short (a : Int) (n p d : Nat) (M : Int) (hr : Kd.C (Kd.int .u8) w A l.length l) (hc : l.length ≤ c) (hg : varint_Get.f 30 l a = some ((n : Int), (p : Int), 0)) (hM : (if lim < 0 then 0 else lim) = M) (hw : IntKind.u64.wrap M = M) (b5 : decide (M < (n : Int)) = false)
    (hsub : (l.length : Int) - (p : Int) = (d : Int)) (hw1 : wrap64 (d : Int) = (d : Int)) (hw2 : IntKind.u64.wrap (d : Int) = (d : Int)) (b2 : d < n) :
    Calls Try.prog 57 #[.slice A l.length c, .int .i64 a, .int .i64 lim] w fun e w' => e = .returned (.tuple #[.string ⟨#[]⟩, .int .i64 0, .int .i64 2]) ∧ Below w.heap.size w w' := by
  have HC := Lib.hid hr
  have HL := Lib.hid hc
  have HG := Lib.hid hg
  clear hr hc hg
  go_enter Try.func57, Try.ntmps57
  go_wp2_with fail
  refine (varint_Get.calls 30 _ _ l a n p 0 _ HC.out HL.out HG.out).mono ?_
  rintro e w1 ⟨rfl, hd⟩
  have hb1 := hd.below
  clear hd
  go_wp2_with fail
  go_ret3
  exact ⟨rfl, hb1⟩
theorem bget_ok (a : Int) (n p d q : Nat) (M : Int) (hr : Kd.C (Kd.int .u8) w A l.length l) (hc : l.length ≤ c) (hg : varint_Get.f 30 l a = some ((n : Int), (p : Int), 0)) (hM : (if lim < 0 then 0 else lim) = M) (hw : IntKind.u64.wrap M = M) (b5 : decide (M < (n : Int)) = false)
    (hsub : (l.length : Int) - (p : Int) = (d : Int)) (hw1 : wrap64 (d : Int) = (d : Int)) (hw2 : IntKind.u64.wrap (d : Int) = (d : Int)) (b2 : ¬ d < n) (hw3 : wrap64 (n : Int) = (n : Int)) (hw4 : wrap64 ((p : Int) + (n : Int)) = (q : Int)) (hq1 : p ≤ q) (hq2 : q ≤ l.length) :
    Calls Try.prog 57 #[.slice A l.length c, .int .i64 a, .int .i64 lim] w fun e w' => e = .returned (.tuple #[.string (strOfNums ((l.take q).drop p)), .int .i64 (q : Int), .int .i64 0]) ∧ Below w.heap.size w w' := by
  have HC := Lib.hid hr
  have HL := Lib.hid hc
  have HG := Lib.hid hg
  have hq3 : q ≤ c := by clear hw hw1 hw2 hw3 hw4 hM; omega
  clear hr hc hg
  go_enter Try.func57, Try.ntmps57
  go_wp2_with fail
  refine (varint_Get.calls 30 _ _ l a n p 0 _ HC.out HL.out HG.out).mono ?_
  rintro e w1 ⟨rfl, hd⟩
  have hb1 := hd.below
  clear hd
  have hC := Kd.C_mid (lo := p) (hi := q) (c := c) (Kd.C_below HC.out hb1) hq1 hq2 HL.out
  have hcv := Kd.C_string (P := Try.prog) (c := c - p) Try.underlying22 Try.underlying5 Try.underlying9 hC
  rw [show ((l.take q).drop p).length = q - p by clear hw hw1 hw2 hw3 hw4 hM; simp; omega] at hcv
  simp only [show (Kd.int .u8).sz = 1 from rfl, Nat.mul_one] at hcv
  clear hC
  by_cases hcp : c = p
  · rw [if_pos hcp, hcp, Nat.sub_self] at hcv
    go_wp2_with fail
    go_ret3
    exact ⟨congrArg (fun z => Ending.returned (.tuple #[_, .int .i64 z, _])) hw4, hb1⟩
  · rw [if_neg hcp] at hcv
    go_wp2_with fail
    go_ret3
    exact ⟨congrArg (fun z => Ending.returned (.tuple #[_, .int .i64 z, _])) hw4, hb1⟩
theorem bget_any (a : Int) (hr : Kd.C (Kd.int .u8) w A l.length l) (hc : l.length ≤ c) (hb : ∀ x ∈ l, 0 ≤ x ∧ x < 256) (hl : l.length ≤ 4611686018427387904) (hlim : -9223372036854775808 ≤ lim ∧ lim ≤ 9223372036854775807) :
    Calls Try.prog 57 #[.slice A l.length c, .int .i64 a, .int .i64 lim] w fun e w' => e = .returned (.tuple #[.string (bgetS l a lim).1, .int .i64 (bgetS l a lim).2.1, .int .i64 (bgetS l a lim).2.2]) ∧ Below w.heap.size w w' := by
  have hg := get_is l hb hl a 30 (by decide)
  rcases getS_cases l hb a with ⟨ec, h1, h2⟩ | ⟨lo, n, p, ha, h1, h2, h3, h4, h5⟩
  · rw [h1] at hg
    have e : bgetS l a lim = (⟨#[]⟩, 0, ec) := by
      unfold bgetS
      rw [h1, if_pos (by show ec ≠ 0; omega)]
    rw [e]
    exact bget_err A c l lim w a ec hr hc hg (by simp; omega)
  · rw [h1] at hg
    obtain ⟨M, hM, hM0, hM1⟩ : ∃ M : Int, (if lim < 0 then 0 else lim) = M ∧ 0 ≤ M ∧ M ≤ 9223372036854775807 := ⟨_, rfl, by split <;> omega, by split <;> omega⟩
    obtain ⟨d, hd⟩ : ∃ d : Nat, (l.length : Int) - (p : Int) = (d : Int) := ⟨l.length - p, by omega⟩
    by_cases c5 : M < (n : Int)
    · have e : bgetS l a lim = (⟨#[]⟩, 0, 5) := by
        unfold bgetS
        rw [h1, hM, if_neg (by simp), if_pos c5]
      rw [e]
      exact bget_big A c l lim w a n p M hr hc hg hM (by rw [IntKind.wrap_u64]; omega) (decide_eq_true c5)
    · by_cases c2 : (d : Int) < (n : Int)
      · have e : bgetS l a lim = (⟨#[]⟩, 0, 2) := by
          unfold bgetS
          rw [h1, hM, if_neg (by simp), if_neg c5, if_pos (by rw [hd]; exact c2)]
        rw [e]
        exact bget_short A c l lim w a n p d M hr hc hg hM (by rw [IntKind.wrap_u64]; omega) (decide_eq_false c5) hd (w64 _ (by omega) (by omega)) (by rw [IntKind.wrap_u64]; omega) (by omega)
      · have e : bgetS l a lim = (strOfNums ((l.take (p + n)).drop p), ((p + n : Nat) : Int), 0) := by
          unfold bgetS
          rw [h1, hM, if_neg (by simp), if_neg c5, if_neg (by rw [hd]; exact c2)]
          simp
        rw [e]
        exact bget_ok A c l lim w a n p d (p + n) M hr hc hg hM (by rw [IntKind.wrap_u64]; omega) (decide_eq_false c5) hd (w64 _ (by omega) (by omega)) (by rw [IntKind.wrap_u64]; omega) (by omega) (w64 _ (by omega) (by omega)) (wsum p n (by omega)) (by omega) (by omega)
end
end Go.Proofs.Ytfflenbfapgilaa
