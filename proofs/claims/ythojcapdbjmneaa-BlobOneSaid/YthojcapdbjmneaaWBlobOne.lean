/- Two lists of texts have the same bytes just if they are the same: the law BlobOne returns true, and writes nothing that was there. -/
import Derived.Test.YthojcapdbjmneaaWBlobLists
import Derived.Test.YthojcapdbjmneaaReg2
set_option linter.unusedVariables false
set_option linter.unusedSimpArgs false
namespace Go.Proofs.Ythojcapdbjmneaa.WBlobOne
open Go.RowKit Go.Proofs.Ythojcapdbjmneaa.GVB Go.Proofs.YthojcapdbjmneaaW.PrintWords Go.Proofs.Ythojcapdbjmneaa.WBlobPuts Go.Proofs.Ythojcapdbjmneaa.WBlobLists

theorem blob_ne (s : ByteArray) : 0 < (blob s).length := by
  have := List.length_pos_iff.2 (vb_ne s.size)
  rw [blob_len]; omega
theorem blobs_inj : ∀ (ts us : List ByteArray), (∀ s ∈ ts, s.size ≤ 100) → (∀ s ∈ us, s.size ≤ 100) → blobs ts = blobs us → ts = us := by
  intro ts
  induction ts with
  | nil =>
    intro us _ _ h
    cases us with
    | nil => rfl
    | cons u us =>
      exfalso
      have h1 : blobs (u :: us) = blob u ++ blobs us := rfl
      have := congrArg List.length h
      rw [h1, List.length_append] at this
      have h2 := blob_ne u
      have h3 : (blobs ([] : List ByteArray)).length = 0 := rfl
      omega
  | cons s ts ih =>
    intro us hs hu h
    cases us with
    | nil =>
      exfalso
      have h1 : blobs (s :: ts) = blob s ++ blobs ts := rfl
      have := congrArg List.length h
      rw [h1, List.length_append] at this
      have h2 := blob_ne s
      have h3 : (blobs ([] : List ByteArray)).length = 0 := rfl
      omega
    | cons u us =>
      have h1 : blobs (s :: ts) = blob s ++ blobs ts := rfl
      have h2 : blobs (u :: us) = blob u ++ blobs us := rfl
      rw [h1, h2] at h
      have g1 := bget_blob [] s (blobs ts) 100 (by have := hs s (by simp); omega) (by have := hs s (by simp); omega)
      have g2 := bget_blob [] u (blobs us) 100 (by have := hu u (by simp); omega) (by have := hu u (by simp); omega)
      rw [List.nil_append] at g1 g2
      rw [h, g2] at g1
      have e : u = s := congrArg (·.1) g1
      subst e
      have h3 : blobs ts = blobs us := List.append_cancel_left h
      rw [ih us (fun x hx => hs x (by simp [hx])) (fun x hx => hu x (by simp [hx])) h3]
theorem strs_eq (a b : List Int) (ha : ∀ x ∈ a, 0 ≤ x ∧ x < 256) (hb : ∀ x ∈ b, 0 ≤ x ∧ x < 256) (h : (strOfNums a).toList = (strOfNums b).toList) : a = b := by
  have key : ∀ (w : List Int), (∀ x ∈ w, 0 ≤ x ∧ x < 256) → ((strOfNums w).toList).map (fun x => (x.toNat : Int)) = w := by
    intro w hw
    rw [Lib.toList_data, strOfNums_data, List.map_map]
    conv => rhs; rw [← List.map_id w]
    apply List.map_congr_left
    intro x hx
    have := hw x hx
    simp; omega
  rw [← key a ha, h, key b hb]
theorem blobs_bytes (ts : List ByteArray) (h : ∀ s ∈ ts, s.size ≤ 100) : ∀ x ∈ blobs ts, 0 ≤ x ∧ x < 256 := by
  intro x hx
  simp only [blobs, List.mem_flatMap] at hx
  obtain ⟨s, hs, hx⟩ := hx
  exact blob_bytes s (by have := h s hs; omega) x hx
theorem one_iff (ts us : List ByteArray) (ht : ∀ s ∈ ts, s.size ≤ 100) (hu : ∀ s ∈ us, s.size ≤ 100) : ((strOfNums (blobs ts)).toList = (strOfNums (blobs us)).toList) ↔ ts = us :=
  ⟨fun h => blobs_inj ts us ht hu (strs_eq _ _ (blobs_bytes ts ht) (blobs_bytes us hu) h), fun h => by rw [h]⟩
theorem cell_of {w : World} {ad : Addr} {xs : List ByteArray} (h : Kd.C Kd.string w (some ad) xs.length xs) (i : Nat) (hi : i < xs.length) : w.cell? (ad.add i) = some (.string xs[i]) := by
  obtain ⟨a', e, hc⟩ := Kd.at_string h (i : Int) (by omega) (by omega)
  cases e
  rw [Int.toNat_natCast] at hc
  rw [hc]
  simp [rdOf, hi]
theorem some_of {w : World} {B : Option Addr} {xs : List ByteArray} (h : Kd.C Kd.string w B xs.length xs) (i : Nat) (hi : i < xs.length) : ∃ ad, B = some ad := by
  obtain ⟨ad, e, _⟩ := Kd.at_string h (i : Int) (by omega) (by omega)
  exact ⟨ad, e⟩
attribute [local go_sem] Go.Proofs.YthojcapdbjmneaaW.PrintMore.max2_int
/-- what the loop has seen so far -/
def Seen (ts us : List ByteArray) (i : Nat) (b : Bool) : Prop := b = true ↔ ts.length = us.length ∧ ts.take i = us.take i
theorem small_step {ts : List ByteArray} {i : Nat} (h : ∀ s ∈ ts.take i, s.size ≤ 100) (hn : ∀ (hi : i < ts.length), ts[i].size ≤ 100) : ∀ s ∈ ts.take (i + 1), s.size ≤ 100 := by
  by_cases hi : i < ts.length
  · rw [List.take_succ_eq_append_getElem hi]
    intro s hs
    rcases List.mem_append.1 hs with hs | hs
    · exact h s hs
    · simp at hs; subst hs; exact hn hi
  · rw [List.take_of_length_le (by omega)] at h ⊢
    exact h
theorem seen_on {ts us : List ByteArray} {i : Nat} (h : Seen ts us i true) (hi : i < ts.length) (hj : i < us.length) : Seen ts us (i + 1) (ts[i].toList == us[i].toList) := by
  obtain ⟨h1, h2⟩ := h.1 rfl
  unfold Seen
  rw [List.take_succ_eq_append_getElem hi, List.take_succ_eq_append_getElem hj, h2]
  constructor
  · intro e
    refine ⟨h1, ?_⟩
    have e := beq_iff_eq.1 e
    rw [Lib.toList_data, Lib.toList_data] at e
    have : ts[i] = us[i] := by
      apply ByteArray.ext
      exact Array.ext' e
    rw [this]
  · rintro ⟨_, e⟩
    have := List.append_cancel_left e
    simp at this
    rw [this]; simp
theorem seen_off {ts us : List ByteArray} {i : Nat} (h : Seen ts us i false) : Seen ts us (i + 1) false := by
  unfold Seen at h ⊢
  constructor
  · intro e; cases e
  · rintro ⟨h1, e⟩
    have := h.2 ⟨h1, by
      have := congrArg (List.take i) e
      rwa [List.take_take, List.take_take, Nat.min_eq_left (by omega)] at this⟩
    cases this
set_option maxHeartbeats 4000000 in
set_option maxRecDepth 100000 in
theorem one_main (B0 B1 : Option Addr) (c0 c1 : Nat) (ts us : List ByteArray) (w : World) (hs0 : Kd.C Kd.string w B0 ts.length ts) (hc0 : ts.length ≤ c0) (hs1 : Kd.C Kd.string w B1 us.length us) (hc1 : us.length ≤ c1)
    (hm0 : ∀ s ∈ ts, s.size ≤ maxLen) (hm1 : ∀ s ∈ us, s.size ≤ maxLen) (hle0 : ts.length ≤ 30) (hle1 : us.length ≤ 30) :
    Calls Try.prog 10 #[.slice B0 ts.length c0, .slice B1 us.length c1] w fun e w' => e = .returned (.bool true) ∧ Below w.heap.size w w' := by
  have HS0 := Lib.hid hs0
  have HS1 := Lib.hid hs1
  have HM0 := Lib.hid (fun s h => by have := hm0 s h; simp only [maxLen] at this; exact this : ∀ s ∈ ts, s.size ≤ 9223372036854775807)
  have HM1 := Lib.hid (fun s h => by have := hm1 s h; simp only [maxLen] at this; exact this : ∀ s ∈ us, s.size ≤ 9223372036854775807)
  clear hs0 hs1 hm0 hm1
  have hd0 : decide (30 < (ts.length : Int)) = false := decide_eq_false (by omega)
  have hd1 : decide (30 < (us.length : Int)) = false := decide_eq_false (by omega)
  obtain ⟨M, hM, HMM⟩ : ∃ M : Nat, (if ts.length < us.length then (us.length : Int) else (ts.length : Int)) = (M : Int) ∧ Hid (ts.length ≤ M ∧ us.length ≤ M ∧ M ≤ 30) := by
    split
    · exact ⟨us.length, rfl, Lib.hid (by omega)⟩
    · exact ⟨ts.length, rfl, Lib.hid (by omega)⟩
  obtain ⟨b0, hb0⟩ : ∃ b0 : Bool, ((ts.length : Int) == (us.length : Int)) = b0 := ⟨_, rfl⟩
  have HB0 := Lib.hid hb0
  go_enter Try.func10, Try.ntmps10
  go_wp2_with fail
  go_loopw [5, 26] (fun u5 u26 wr => ∃ (i : Nat) (b : Bool), i ≤ M ∧ u26 = .int .i64 i ∧ u5 = .bool b ∧ Hid (Seen ts us i b) ∧ Hid (∀ s ∈ ts.take i, s.size ≤ 100) ∧ Hid (∀ s ∈ us.take i, s.size ≤ 100) ∧ Below w.heap.size w wr) (fun _ v _ => M - (intOf v).toNat)
  case atStart => exact ⟨0, b0, by omega, rfl, rfl, Lib.hid (by unfold Seen; rw [← HB0.out]; simp; omega), Lib.hid (by simp), Lib.hid (by simp), Below.refl _ _⟩
  case round =>
    obtain ⟨i, b, hi, rfl, rfl, hseen, hsm0, hsm1, hbl⟩ := hrel
    by_cases hlt : i < M
    · have hiM : i < 30 := by have := HMM.out; omega
      cases b with
      | true =>
        have hleq := (hseen.out.1 rfl).1
        have hi0 : i < ts.length := by have := HMM.out; have hM' := hM; split at hM' <;> omega
        have hi1 : i < us.length := by omega
        obtain ⟨ad0, rfl⟩ := some_of HS0.out i hi0
        obtain ⟨ad1, rfl⟩ := some_of HS1.out i hi1
        have hx0 := HM0.out ts[i] (List.getElem_mem _)
        have hx1 := HM1.out us[i] (List.getElem_mem _)
        have HSE := Lib.hid (seen_on hseen.out hi0 hi1)
        have HT0 := Lib.hid (fun h => small_step hsm0.out (i := i) h)
        have HT1 := Lib.hid (fun h => small_step hsm1.out (i := i) h)
        have HC0 := Lib.hid (fun (W : World) (hB : Below wr.heap.size wr W) => cell_of (Kd.C_below HS0.out (hbl.trans (hB.mono hbl.size))) i hi0)
        have HC1 := Lib.hid (fun (W : World) (hB : Below wr.heap.size wr W) => cell_of (Kd.C_below HS1.out (hbl.trans (hB.mono hbl.size))) i hi1)
        obtain ⟨s, hsd⟩ : ∃ s, ts[i] = s := ⟨_, rfl⟩
        obtain ⟨u, hud⟩ : ∃ u, us[i] = u := ⟨_, rfl⟩
        rw [hsd] at hx0 HC0
        rw [hud] at hx1 HC1
        have HSD := Lib.hid hsd
        have HUD := Lib.hid hud
        have HLQ := Lib.hid hleq
        have hcell0 := HC0.out wr (Below.refl _ _)
        have hcell1 := HC1.out wr (Below.refl _ _)
        clear hsd hud hleq
        by_cases hg0 : 100 < s.size
        · have bb0 : decide (100 < (s.size : Int)) = true := decide_eq_true (by omega)
          go_wp2_with fail
          refine (fixed2_any _).mono ?_
          rintro e w1 ⟨rfl, hb1⟩
          go_wp2_with fail
          go_ret
          exact ⟨rfl, hbl.trans (hb1.mono hbl.size)⟩
        · have bb0 : decide (100 < (s.size : Int)) = false := decide_eq_false (by omega)
          by_cases hg1 : 100 < u.size
          · have bb1 : decide (100 < (u.size : Int)) = true := decide_eq_true (by omega)
            go_wp2_with fail
            refine (fixed2_any _).mono ?_
            rintro e w1 ⟨rfl, hb1⟩
            go_wp2_with fail
            go_ret
            exact ⟨rfl, hbl.trans (hb1.mono hbl.size)⟩
          · have bb1 : decide (100 < (u.size : Int)) = false := decide_eq_false (by omega)
            go_wp2_with fail
            refine region_calm2 (n := 13) (byList [isV (.bool true), isV (.bool true), isV (.slice (some ad0) ts.length c0), isV (.int .i64 (i : Int)), isV (.pointer (some (ad0.add i))), isV (.string s), isV (.slice (some ad1) us.length c1), isV (.int .i64 (i : Int)), isV (.pointer (some (ad1.add i))), isV (.string u), isV (.bool (s.toList == u.toList)), isV (.bool (s.toList == u.toList)), isV (.bool (s.toList == u.toList))]) (by kernel_rfl) rfl (byList_lasts ?_) (by kernel_rfl) (by kernel_rfl) (by kernel_rfl) (show AllLt 13 _ from ?_) ?_
            · intro p hp
              simp only [List.mem_cons, List.not_mem_nil, or_false] at hp
              rcases hp with rfl | rfl | rfl | rfl | rfl | rfl | rfl | rfl | rfl | rfl | rfl | rfl | rfl <;> first | exact isV_lasts | exact isC_lasts
            · refine allLt_succ (allLt_succ (allLt_succ (allLt_succ (allLt_succ (allLt_succ (allLt_succ (allLt_succ (allLt_succ (allLt_succ (allLt_succ (allLt_succ (allLt_succ (allLt_zero _) ?_) ?_) ?_) ?_) ?_) ?_) ?_) ?_) ?_) ?_) ?_) ?_) ?_
              · refine StepOk2.run (o := ?o0) ?ho0 ?hg0 ?h0
                case ho0 => first | (simp only [List.getElem?_toArray, List.getElem?_cons_succ, List.getElem?_cons_zero]; done) | (simp only [List.getElem?_toArray, List.getElem?_cons_succ, List.getElem?_cons_zero]; rfl)
                case hg0 => rfl
                case h0 =>
                intro a W hS hB hd hE
                have e5 : a.tmps[5]? = some (.bool true) := hE.get (j := 12) rfl rfl rfl rfl
                refine wp_value (c := .bool true) ?_ rfl
                go_simp
              · refine StepOk2.of ?_
                refine StepOk.run (o := ?o1) ?ho1 ?hg1 ?h1
                case ho1 => first | (simp only [List.getElem?_toArray, List.getElem?_cons_succ, List.getElem?_cons_zero]; done) | (simp only [List.getElem?_toArray, List.getElem?_cons_succ, List.getElem?_cons_zero]; rfl)
                case hg1 => rfl
                case h1 =>
                intro a W hS hB hd
                have e56 : a.tmps[56]? = some (.bool true) := (hd 0 rfl).bool rfl rfl rfl
                refine wp_value (c := .bool true) ?_ rfl
                go_simp
              · refine StepOk2.of ?_
                refine StepOk.on (o := ?o2) (g := 1) (u := true) ?ho2 ?hg2 rfl rfl ?hw2 rfl ?h2
                case ho2 => first | (simp only [List.getElem?_toArray, List.getElem?_cons_succ, List.getElem?_cons_zero]; done) | (simp only [List.getElem?_toArray, List.getElem?_cons_succ, List.getElem?_cons_zero]; rfl)
                case hg2 => rfl
                case hw2 => rfl
                case h2 =>
                intro a W hS hB hd
                have e0 : a.tmps[0]? = some (.slice (some ad0) ts.length c0) := hS.get rfl rfl
                refine wp_value (c := .slice (some ad0) ts.length c0) ?_ rfl
                go_simp
              · refine StepOk2.of ?_
                refine StepOk.on (o := ?o3) (g := 1) (u := true) ?ho3 ?hg3 rfl rfl ?hw3 rfl ?h3
                case ho3 => first | (simp only [List.getElem?_toArray, List.getElem?_cons_succ, List.getElem?_cons_zero]; done) | (simp only [List.getElem?_toArray, List.getElem?_cons_succ, List.getElem?_cons_zero]; rfl)
                case hg3 => rfl
                case hw3 => rfl
                case h3 =>
                intro a W hS hB hd
                have e6 : a.tmps[6]? = some (.int .i64 (i : Int)) := hS.get rfl rfl
                refine wp_value (c := .int .i64 (i : Int)) ?_ rfl
                go_simp
              · refine StepOk2.of ?_
                refine StepOk.on (o := ?o4) (g := 1) (u := true) ?ho4 ?hg4 rfl rfl ?hw4 rfl ?h4
                case ho4 => first | (simp only [List.getElem?_toArray, List.getElem?_cons_succ, List.getElem?_cons_zero]; done) | (simp only [List.getElem?_toArray, List.getElem?_cons_succ, List.getElem?_cons_zero]; rfl)
                case hg4 => rfl
                case hw4 => rfl
                case h4 =>
                intro a W hS hB hd
                have e58 : a.tmps[58]? = some (.slice (some ad0) ts.length c0) := (hd 2 rfl).bool rfl rfl rfl
                have e59 : a.tmps[59]? = some (.int .i64 (i : Int)) := (hd 3 rfl).bool rfl rfl rfl
                refine wp_value (c := .pointer (some (ad0.add i))) ?_ rfl
                go_simp
              · refine StepOk2.of ?_
                refine StepOk.on (o := ?o5) (g := 1) (u := true) ?ho5 ?hg5 rfl rfl ?hw5 rfl ?h5
                case ho5 => first | (simp only [List.getElem?_toArray, List.getElem?_cons_succ, List.getElem?_cons_zero]; done) | (simp only [List.getElem?_toArray, List.getElem?_cons_succ, List.getElem?_cons_zero]; rfl)
                case hg5 => rfl
                case hw5 => rfl
                case h5 =>
                intro a W hS hB hd
                have e60 : a.tmps[60]? = some (.pointer (some (ad0.add i))) := (hd 4 rfl).bool rfl rfl rfl
                refine wp_value (c := .string s) ?_ rfl
                have hce := HC0.out W hB
                go_simp
              · refine StepOk2.of ?_
                refine StepOk.on (o := ?o6) (g := 1) (u := true) ?ho6 ?hg6 rfl rfl ?hw6 rfl ?h6
                case ho6 => first | (simp only [List.getElem?_toArray, List.getElem?_cons_succ, List.getElem?_cons_zero]; done) | (simp only [List.getElem?_toArray, List.getElem?_cons_succ, List.getElem?_cons_zero]; rfl)
                case hg6 => rfl
                case hw6 => rfl
                case h6 =>
                intro a W hS hB hd
                have e1 : a.tmps[1]? = some (.slice (some ad1) us.length c1) := hS.get rfl rfl
                refine wp_value (c := .slice (some ad1) us.length c1) ?_ rfl
                go_simp
              · refine StepOk2.of ?_
                refine StepOk.on (o := ?o7) (g := 1) (u := true) ?ho7 ?hg7 rfl rfl ?hw7 rfl ?h7
                case ho7 => first | (simp only [List.getElem?_toArray, List.getElem?_cons_succ, List.getElem?_cons_zero]; done) | (simp only [List.getElem?_toArray, List.getElem?_cons_succ, List.getElem?_cons_zero]; rfl)
                case hg7 => rfl
                case hw7 => rfl
                case h7 =>
                intro a W hS hB hd
                have e6 : a.tmps[6]? = some (.int .i64 (i : Int)) := hS.get rfl rfl
                refine wp_value (c := .int .i64 (i : Int)) ?_ rfl
                go_simp
              · refine StepOk2.of ?_
                refine StepOk.on (o := ?o8) (g := 1) (u := true) ?ho8 ?hg8 rfl rfl ?hw8 rfl ?h8
                case ho8 => first | (simp only [List.getElem?_toArray, List.getElem?_cons_succ, List.getElem?_cons_zero]; done) | (simp only [List.getElem?_toArray, List.getElem?_cons_succ, List.getElem?_cons_zero]; rfl)
                case hg8 => rfl
                case hw8 => rfl
                case h8 =>
                intro a W hS hB hd
                have e62 : a.tmps[62]? = some (.slice (some ad1) us.length c1) := (hd 6 rfl).bool rfl rfl rfl
                have e63 : a.tmps[63]? = some (.int .i64 (i : Int)) := (hd 7 rfl).bool rfl rfl rfl
                refine wp_value (c := .pointer (some (ad1.add i))) ?_ rfl
                go_simp
              · refine StepOk2.of ?_
                refine StepOk.on (o := ?o9) (g := 1) (u := true) ?ho9 ?hg9 rfl rfl ?hw9 rfl ?h9
                case ho9 => first | (simp only [List.getElem?_toArray, List.getElem?_cons_succ, List.getElem?_cons_zero]; done) | (simp only [List.getElem?_toArray, List.getElem?_cons_succ, List.getElem?_cons_zero]; rfl)
                case hg9 => rfl
                case hw9 => rfl
                case h9 =>
                intro a W hS hB hd
                have e64 : a.tmps[64]? = some (.pointer (some (ad1.add i))) := (hd 8 rfl).bool rfl rfl rfl
                refine wp_value (c := .string u) ?_ rfl
                have hce := HC1.out W hB
                go_simp
              · refine StepOk2.of ?_
                refine StepOk.on (o := ?o10) (g := 1) (u := true) ?ho10 ?hg10 rfl rfl ?hw10 rfl ?h10
                case ho10 => first | (simp only [List.getElem?_toArray, List.getElem?_cons_succ, List.getElem?_cons_zero]; done) | (simp only [List.getElem?_toArray, List.getElem?_cons_succ, List.getElem?_cons_zero]; rfl)
                case hg10 => rfl
                case hw10 => rfl
                case h10 =>
                intro a W hS hB hd
                have e61 : a.tmps[61]? = some (.string s) := (hd 5 rfl).bool rfl rfl rfl
                have e65 : a.tmps[65]? = some (.string u) := (hd 9 rfl).bool rfl rfl rfl
                refine wp_value (c := .bool (s.toList == u.toList)) ?_ rfl
                go_simp
              · refine StepOk2.of ?_
                refine StepOk.run (o := ?o11) ?ho11 ?hg11 ?h11
                case ho11 => first | (simp only [List.getElem?_toArray, List.getElem?_cons_succ, List.getElem?_cons_zero]; done) | (simp only [List.getElem?_toArray, List.getElem?_cons_succ, List.getElem?_cons_zero]; rfl)
                case hg11 => rfl
                case h11 =>
                intro a W hS hB hd
                have e57 : a.tmps[57]? = some (.bool true) := (hd 1 rfl).bool rfl rfl rfl
                have e66 : a.tmps[66]? = some (.bool (s.toList == u.toList)) := (hd 10 rfl).bool rfl rfl rfl
                refine wp_value (c := .bool (s.toList == u.toList)) ?_ rfl
                go_simp
              · refine StepOk2.of ?_
                refine StepOk.run (o := ?o12) ?ho12 ?hg12 ?h12
                case ho12 => first | (simp only [List.getElem?_toArray, List.getElem?_cons_succ, List.getElem?_cons_zero]; done) | (simp only [List.getElem?_toArray, List.getElem?_cons_succ, List.getElem?_cons_zero]; rfl)
                case hg12 => rfl
                case h12 =>
                intro a W hS hB hd
                have e67 : a.tmps[67]? = some (.bool (s.toList == u.toList)) := (hd 11 rfl).bool rfl rfl rfl
                refine wp_value (c := .bool (s.toList == u.toList)) ?_ rfl
                go_simp
            · intro a W hS hB hh
              have e5 : a.tmps[5]? = some (.bool (s.toList == u.toList)) := (hh 12 (by omega)).bool rfl rfl rfl
              have hlit := same_lit hS
              have hb3 := hbl.trans (hB.mono hbl.size)
              clear hh hS hB
              simp only [List.filterMap_cons, List.filterMap_nil, List.foldl_cons, List.foldl_nil, List.setIfInBounds_toArray, List.set_cons_zero, List.set_cons_succ] at hlit
              rw [show a.tmps.getD 5 undef = .bool (s.toList == u.toList) by simp [Array.getD_eq_getD_getElem?, e5]] at hlit
              generalize a.tmps.getD 56 undef = z56 at hlit
              generalize a.tmps.getD 57 undef = z57 at hlit
              generalize a.tmps.getD 58 undef = z58 at hlit
              generalize a.tmps.getD 59 undef = z59 at hlit
              generalize a.tmps.getD 60 undef = z60 at hlit
              generalize a.tmps.getD 61 undef = z61 at hlit
              generalize a.tmps.getD 62 undef = z62 at hlit
              generalize a.tmps.getD 63 undef = z63 at hlit
              generalize a.tmps.getD 64 undef = z64 at hlit
              generalize a.tmps.getD 65 undef = z65 at hlit
              generalize a.tmps.getD 66 undef = z66 at hlit
              generalize a.tmps.getD 67 undef = z67 at hlit
              clear e5
              subst hlit
              go_wp2
              go_roundw
              case rel => exact ⟨i + 1, (s.toList == u.toList), by omega, by go_num, rfl, Lib.hid (by rw [← HSD.out, ← HUD.out]; exact HSE.out), Lib.hid (HT0.out (fun h => by rw [HSD.out]; omega)), Lib.hid (HT1.out (fun h => by rw [HUD.out]; omega)), hb3⟩
              case measure => simp [intOf]; omega
      | false =>
        by_cases hi0 : i < ts.length
        · by_cases hi1 : i < us.length
          · skip
            obtain ⟨ad0, rfl⟩ := some_of HS0.out i hi0
            have hx0 := HM0.out ts[i] (List.getElem_mem _)
            have hcell0 := cell_of (Kd.C_below HS0.out hbl) i hi0
            obtain ⟨s, hsd⟩ : ∃ s, ts[i] = s := ⟨_, rfl⟩
            rw [hsd] at hx0 hcell0
            have HSD := Lib.hid hsd
            clear hsd
            have HT0 := Lib.hid (fun h => small_step hsm0.out (i := i) h)
            obtain ⟨ad1, rfl⟩ := some_of HS1.out i hi1
            have hx1 := HM1.out us[i] (List.getElem_mem _)
            have hcell1 := cell_of (Kd.C_below HS1.out hbl) i hi1
            obtain ⟨u, hud⟩ : ∃ u, us[i] = u := ⟨_, rfl⟩
            rw [hud] at hx1 hcell1
            have HUD := Lib.hid hud
            clear hud
            have HT1 := Lib.hid (fun h => small_step hsm1.out (i := i) h)
            by_cases hg0 : 100 < s.size
            · have bb0 : decide (100 < (s.size : Int)) = true := decide_eq_true (by omega)
              go_wp2_with fail
              refine (fixed2_any _).mono ?_
              rintro e w1 ⟨rfl, hb1⟩
              go_wp2_with fail
              go_ret
              exact ⟨rfl, hbl.trans (hb1.mono hbl.size)⟩
            · have bb0 : decide (100 < (s.size : Int)) = false := decide_eq_false (by omega)
              by_cases hg1 : 100 < u.size
              · have bb1 : decide (100 < (u.size : Int)) = true := decide_eq_true (by omega)
                go_wp2_with fail
                refine (fixed2_any _).mono ?_
                rintro e w1 ⟨rfl, hb1⟩
                go_wp2_with fail
                go_ret
                exact ⟨rfl, hbl.trans (hb1.mono hbl.size)⟩
              · have bb1 : decide (100 < (u.size : Int)) = false := decide_eq_false (by omega)
                go_wp2_with fail
                refine region_calm2 (n := 13) (byList [isV (.bool false), isV (.bool false), isV (undef), isV (undef), isV (undef), isV (undef), isV (undef), isV (undef), isV (undef), isV (undef), isV (undef), isV (.bool false), isV (.bool false)]) (by kernel_rfl) rfl (byList_lasts ?_) (by kernel_rfl) (by kernel_rfl) (by kernel_rfl) (show AllLt 13 _ from ?_) ?_
                · intro p hp
                  simp only [List.mem_cons, List.not_mem_nil, or_false] at hp
                  rcases hp with rfl | rfl | rfl | rfl | rfl | rfl | rfl | rfl | rfl | rfl | rfl | rfl | rfl <;> first | exact isV_lasts | exact isC_lasts
                · refine allLt_succ (allLt_succ (allLt_succ (allLt_succ (allLt_succ (allLt_succ (allLt_succ (allLt_succ (allLt_succ (allLt_succ (allLt_succ (allLt_succ (allLt_succ (allLt_zero _) ?_) ?_) ?_) ?_) ?_) ?_) ?_) ?_) ?_) ?_) ?_) ?_) ?_
                  · refine StepOk2.run (o := ?o0) ?ho0 ?hg0 ?h0
                    case ho0 => first | (simp only [List.getElem?_toArray, List.getElem?_cons_succ, List.getElem?_cons_zero]; done) | (simp only [List.getElem?_toArray, List.getElem?_cons_succ, List.getElem?_cons_zero]; rfl)
                    case hg0 => rfl
                    case h0 =>
                    intro a W hS hB hd hE
                    have e5 : a.tmps[5]? = some (.bool false) := hE.get (j := 12) rfl rfl rfl rfl
                    refine wp_value (c := .bool false) ?_ rfl
                    go_simp
                  · refine StepOk2.of ?_
                    refine StepOk.run (o := ?o1) ?ho1 ?hg1 ?h1
                    case ho1 => first | (simp only [List.getElem?_toArray, List.getElem?_cons_succ, List.getElem?_cons_zero]; done) | (simp only [List.getElem?_toArray, List.getElem?_cons_succ, List.getElem?_cons_zero]; rfl)
                    case hg1 => rfl
                    case h1 =>
                    intro a W hS hB hd
                    have e56 : a.tmps[56]? = some (.bool false) := (hd 0 rfl).bool rfl rfl rfl
                    refine wp_value (c := .bool false) ?_ rfl
                    go_simp
                  · refine StepOk2.of ?_
                    refine StepOk.off (o := ?o2) (g := 1) (u := true) ?ho2 ?hg2 rfl rfl ?hw2 rfl rfl
                    case ho2 => first | (simp only [List.getElem?_toArray, List.getElem?_cons_succ, List.getElem?_cons_zero]; done) | (simp only [List.getElem?_toArray, List.getElem?_cons_succ, List.getElem?_cons_zero]; rfl)
                    case hg2 => rfl
                    case hw2 => rfl
                  · refine StepOk2.of ?_
                    refine StepOk.off (o := ?o3) (g := 1) (u := true) ?ho3 ?hg3 rfl rfl ?hw3 rfl rfl
                    case ho3 => first | (simp only [List.getElem?_toArray, List.getElem?_cons_succ, List.getElem?_cons_zero]; done) | (simp only [List.getElem?_toArray, List.getElem?_cons_succ, List.getElem?_cons_zero]; rfl)
                    case hg3 => rfl
                    case hw3 => rfl
                  · refine StepOk2.of ?_
                    refine StepOk.off (o := ?o4) (g := 1) (u := true) ?ho4 ?hg4 rfl rfl ?hw4 rfl rfl
                    case ho4 => first | (simp only [List.getElem?_toArray, List.getElem?_cons_succ, List.getElem?_cons_zero]; done) | (simp only [List.getElem?_toArray, List.getElem?_cons_succ, List.getElem?_cons_zero]; rfl)
                    case hg4 => rfl
                    case hw4 => rfl
                  · refine StepOk2.of ?_
                    refine StepOk.off (o := ?o5) (g := 1) (u := true) ?ho5 ?hg5 rfl rfl ?hw5 rfl rfl
                    case ho5 => first | (simp only [List.getElem?_toArray, List.getElem?_cons_succ, List.getElem?_cons_zero]; done) | (simp only [List.getElem?_toArray, List.getElem?_cons_succ, List.getElem?_cons_zero]; rfl)
                    case hg5 => rfl
                    case hw5 => rfl
                  · refine StepOk2.of ?_
                    refine StepOk.off (o := ?o6) (g := 1) (u := true) ?ho6 ?hg6 rfl rfl ?hw6 rfl rfl
                    case ho6 => first | (simp only [List.getElem?_toArray, List.getElem?_cons_succ, List.getElem?_cons_zero]; done) | (simp only [List.getElem?_toArray, List.getElem?_cons_succ, List.getElem?_cons_zero]; rfl)
                    case hg6 => rfl
                    case hw6 => rfl
                  · refine StepOk2.of ?_
                    refine StepOk.off (o := ?o7) (g := 1) (u := true) ?ho7 ?hg7 rfl rfl ?hw7 rfl rfl
                    case ho7 => first | (simp only [List.getElem?_toArray, List.getElem?_cons_succ, List.getElem?_cons_zero]; done) | (simp only [List.getElem?_toArray, List.getElem?_cons_succ, List.getElem?_cons_zero]; rfl)
                    case hg7 => rfl
                    case hw7 => rfl
                  · refine StepOk2.of ?_
                    refine StepOk.off (o := ?o8) (g := 1) (u := true) ?ho8 ?hg8 rfl rfl ?hw8 rfl rfl
                    case ho8 => first | (simp only [List.getElem?_toArray, List.getElem?_cons_succ, List.getElem?_cons_zero]; done) | (simp only [List.getElem?_toArray, List.getElem?_cons_succ, List.getElem?_cons_zero]; rfl)
                    case hg8 => rfl
                    case hw8 => rfl
                  · refine StepOk2.of ?_
                    refine StepOk.off (o := ?o9) (g := 1) (u := true) ?ho9 ?hg9 rfl rfl ?hw9 rfl rfl
                    case ho9 => first | (simp only [List.getElem?_toArray, List.getElem?_cons_succ, List.getElem?_cons_zero]; done) | (simp only [List.getElem?_toArray, List.getElem?_cons_succ, List.getElem?_cons_zero]; rfl)
                    case hg9 => rfl
                    case hw9 => rfl
                  · refine StepOk2.of ?_
                    refine StepOk.off (o := ?o10) (g := 1) (u := true) ?ho10 ?hg10 rfl rfl ?hw10 rfl rfl
                    case ho10 => first | (simp only [List.getElem?_toArray, List.getElem?_cons_succ, List.getElem?_cons_zero]; done) | (simp only [List.getElem?_toArray, List.getElem?_cons_succ, List.getElem?_cons_zero]; rfl)
                    case hg10 => rfl
                    case hw10 => rfl
                  · refine StepOk2.of ?_
                    refine StepOk.run (o := ?o11) ?ho11 ?hg11 ?h11
                    case ho11 => first | (simp only [List.getElem?_toArray, List.getElem?_cons_succ, List.getElem?_cons_zero]; done) | (simp only [List.getElem?_toArray, List.getElem?_cons_succ, List.getElem?_cons_zero]; rfl)
                    case hg11 => rfl
                    case h11 =>
                    intro a W hS hB hd
                    have e57 : a.tmps[57]? = some (.bool false) := (hd 1 rfl).bool rfl rfl rfl
                    have e66 : a.tmps[66]? = some (undef) := (hd 10 rfl).bool rfl rfl rfl
                    refine wp_value (c := .bool false) ?_ rfl
                    go_simp
                  · refine StepOk2.of ?_
                    refine StepOk.run (o := ?o12) ?ho12 ?hg12 ?h12
                    case ho12 => first | (simp only [List.getElem?_toArray, List.getElem?_cons_succ, List.getElem?_cons_zero]; done) | (simp only [List.getElem?_toArray, List.getElem?_cons_succ, List.getElem?_cons_zero]; rfl)
                    case hg12 => rfl
                    case h12 =>
                    intro a W hS hB hd
                    have e67 : a.tmps[67]? = some (.bool false) := (hd 11 rfl).bool rfl rfl rfl
                    refine wp_value (c := .bool false) ?_ rfl
                    go_simp
                · intro a W hS hB hh
                  have e5 : a.tmps[5]? = some (.bool false) := (hh 12 (by omega)).bool rfl rfl rfl
                  have hlit := same_lit hS
                  have hb3 := hbl.trans (hB.mono hbl.size)
                  clear hh hS hB
                  simp only [List.filterMap_cons, List.filterMap_nil, List.foldl_cons, List.foldl_nil, List.setIfInBounds_toArray, List.set_cons_zero, List.set_cons_succ] at hlit
                  rw [show a.tmps.getD 5 undef = .bool false by simp [Array.getD_eq_getD_getElem?, e5]] at hlit
                  generalize a.tmps.getD 56 undef = z56 at hlit
                  generalize a.tmps.getD 57 undef = z57 at hlit
                  generalize a.tmps.getD 58 undef = z58 at hlit
                  generalize a.tmps.getD 59 undef = z59 at hlit
                  generalize a.tmps.getD 60 undef = z60 at hlit
                  generalize a.tmps.getD 61 undef = z61 at hlit
                  generalize a.tmps.getD 62 undef = z62 at hlit
                  generalize a.tmps.getD 63 undef = z63 at hlit
                  generalize a.tmps.getD 64 undef = z64 at hlit
                  generalize a.tmps.getD 65 undef = z65 at hlit
                  generalize a.tmps.getD 66 undef = z66 at hlit
                  generalize a.tmps.getD 67 undef = z67 at hlit
                  clear e5
                  subst hlit
                  go_wp2
                  go_roundw
                  case rel => exact ⟨i + 1, false, by omega, by go_num, rfl, Lib.hid (seen_off hseen.out), Lib.hid (HT0.out (fun h => by rw [HSD.out]; omega)), Lib.hid (HT1.out (fun h => by rw [HUD.out]; omega)), hb3⟩
                  case measure => simp [intOf]; omega
          · skip
            obtain ⟨ad0, rfl⟩ := some_of HS0.out i hi0
            have hx0 := HM0.out ts[i] (List.getElem_mem _)
            have hcell0 := cell_of (Kd.C_below HS0.out hbl) i hi0
            obtain ⟨s, hsd⟩ : ∃ s, ts[i] = s := ⟨_, rfl⟩
            rw [hsd] at hx0 hcell0
            have HSD := Lib.hid hsd
            clear hsd
            have HT0 := Lib.hid (fun h => small_step hsm0.out (i := i) h)
            have HT1 := Lib.hid (fun h => small_step hsm1.out (i := i) h)
            by_cases hg0 : 100 < s.size
            · have bb0 : decide (100 < (s.size : Int)) = true := decide_eq_true (by omega)
              go_wp2_with fail
              refine (fixed2_any _).mono ?_
              rintro e w1 ⟨rfl, hb1⟩
              go_wp2_with fail
              go_ret
              exact ⟨rfl, hbl.trans (hb1.mono hbl.size)⟩
            · have bb0 : decide (100 < (s.size : Int)) = false := decide_eq_false (by omega)
              go_wp2_with fail
              refine region_calm2 (n := 13) (byList [isV (.bool false), isV (.bool false), isV (undef), isV (undef), isV (undef), isV (undef), isV (undef), isV (undef), isV (undef), isV (undef), isV (undef), isV (.bool false), isV (.bool false)]) (by kernel_rfl) rfl (byList_lasts ?_) (by kernel_rfl) (by kernel_rfl) (by kernel_rfl) (show AllLt 13 _ from ?_) ?_
              · intro p hp
                simp only [List.mem_cons, List.not_mem_nil, or_false] at hp
                rcases hp with rfl | rfl | rfl | rfl | rfl | rfl | rfl | rfl | rfl | rfl | rfl | rfl | rfl <;> first | exact isV_lasts | exact isC_lasts
              · refine allLt_succ (allLt_succ (allLt_succ (allLt_succ (allLt_succ (allLt_succ (allLt_succ (allLt_succ (allLt_succ (allLt_succ (allLt_succ (allLt_succ (allLt_succ (allLt_zero _) ?_) ?_) ?_) ?_) ?_) ?_) ?_) ?_) ?_) ?_) ?_) ?_) ?_
                · refine StepOk2.run (o := ?o0) ?ho0 ?hg0 ?h0
                  case ho0 => first | (simp only [List.getElem?_toArray, List.getElem?_cons_succ, List.getElem?_cons_zero]; done) | (simp only [List.getElem?_toArray, List.getElem?_cons_succ, List.getElem?_cons_zero]; rfl)
                  case hg0 => rfl
                  case h0 =>
                  intro a W hS hB hd hE
                  have e5 : a.tmps[5]? = some (.bool false) := hE.get (j := 12) rfl rfl rfl rfl
                  refine wp_value (c := .bool false) ?_ rfl
                  go_simp
                · refine StepOk2.of ?_
                  refine StepOk.run (o := ?o1) ?ho1 ?hg1 ?h1
                  case ho1 => first | (simp only [List.getElem?_toArray, List.getElem?_cons_succ, List.getElem?_cons_zero]; done) | (simp only [List.getElem?_toArray, List.getElem?_cons_succ, List.getElem?_cons_zero]; rfl)
                  case hg1 => rfl
                  case h1 =>
                  intro a W hS hB hd
                  have e56 : a.tmps[56]? = some (.bool false) := (hd 0 rfl).bool rfl rfl rfl
                  refine wp_value (c := .bool false) ?_ rfl
                  go_simp
                · refine StepOk2.of ?_
                  refine StepOk.off (o := ?o2) (g := 1) (u := true) ?ho2 ?hg2 rfl rfl ?hw2 rfl rfl
                  case ho2 => first | (simp only [List.getElem?_toArray, List.getElem?_cons_succ, List.getElem?_cons_zero]; done) | (simp only [List.getElem?_toArray, List.getElem?_cons_succ, List.getElem?_cons_zero]; rfl)
                  case hg2 => rfl
                  case hw2 => rfl
                · refine StepOk2.of ?_
                  refine StepOk.off (o := ?o3) (g := 1) (u := true) ?ho3 ?hg3 rfl rfl ?hw3 rfl rfl
                  case ho3 => first | (simp only [List.getElem?_toArray, List.getElem?_cons_succ, List.getElem?_cons_zero]; done) | (simp only [List.getElem?_toArray, List.getElem?_cons_succ, List.getElem?_cons_zero]; rfl)
                  case hg3 => rfl
                  case hw3 => rfl
                · refine StepOk2.of ?_
                  refine StepOk.off (o := ?o4) (g := 1) (u := true) ?ho4 ?hg4 rfl rfl ?hw4 rfl rfl
                  case ho4 => first | (simp only [List.getElem?_toArray, List.getElem?_cons_succ, List.getElem?_cons_zero]; done) | (simp only [List.getElem?_toArray, List.getElem?_cons_succ, List.getElem?_cons_zero]; rfl)
                  case hg4 => rfl
                  case hw4 => rfl
                · refine StepOk2.of ?_
                  refine StepOk.off (o := ?o5) (g := 1) (u := true) ?ho5 ?hg5 rfl rfl ?hw5 rfl rfl
                  case ho5 => first | (simp only [List.getElem?_toArray, List.getElem?_cons_succ, List.getElem?_cons_zero]; done) | (simp only [List.getElem?_toArray, List.getElem?_cons_succ, List.getElem?_cons_zero]; rfl)
                  case hg5 => rfl
                  case hw5 => rfl
                · refine StepOk2.of ?_
                  refine StepOk.off (o := ?o6) (g := 1) (u := true) ?ho6 ?hg6 rfl rfl ?hw6 rfl rfl
                  case ho6 => first | (simp only [List.getElem?_toArray, List.getElem?_cons_succ, List.getElem?_cons_zero]; done) | (simp only [List.getElem?_toArray, List.getElem?_cons_succ, List.getElem?_cons_zero]; rfl)
                  case hg6 => rfl
                  case hw6 => rfl
                · refine StepOk2.of ?_
                  refine StepOk.off (o := ?o7) (g := 1) (u := true) ?ho7 ?hg7 rfl rfl ?hw7 rfl rfl
                  case ho7 => first | (simp only [List.getElem?_toArray, List.getElem?_cons_succ, List.getElem?_cons_zero]; done) | (simp only [List.getElem?_toArray, List.getElem?_cons_succ, List.getElem?_cons_zero]; rfl)
                  case hg7 => rfl
                  case hw7 => rfl
                · refine StepOk2.of ?_
                  refine StepOk.off (o := ?o8) (g := 1) (u := true) ?ho8 ?hg8 rfl rfl ?hw8 rfl rfl
                  case ho8 => first | (simp only [List.getElem?_toArray, List.getElem?_cons_succ, List.getElem?_cons_zero]; done) | (simp only [List.getElem?_toArray, List.getElem?_cons_succ, List.getElem?_cons_zero]; rfl)
                  case hg8 => rfl
                  case hw8 => rfl
                · refine StepOk2.of ?_
                  refine StepOk.off (o := ?o9) (g := 1) (u := true) ?ho9 ?hg9 rfl rfl ?hw9 rfl rfl
                  case ho9 => first | (simp only [List.getElem?_toArray, List.getElem?_cons_succ, List.getElem?_cons_zero]; done) | (simp only [List.getElem?_toArray, List.getElem?_cons_succ, List.getElem?_cons_zero]; rfl)
                  case hg9 => rfl
                  case hw9 => rfl
                · refine StepOk2.of ?_
                  refine StepOk.off (o := ?o10) (g := 1) (u := true) ?ho10 ?hg10 rfl rfl ?hw10 rfl rfl
                  case ho10 => first | (simp only [List.getElem?_toArray, List.getElem?_cons_succ, List.getElem?_cons_zero]; done) | (simp only [List.getElem?_toArray, List.getElem?_cons_succ, List.getElem?_cons_zero]; rfl)
                  case hg10 => rfl
                  case hw10 => rfl
                · refine StepOk2.of ?_
                  refine StepOk.run (o := ?o11) ?ho11 ?hg11 ?h11
                  case ho11 => first | (simp only [List.getElem?_toArray, List.getElem?_cons_succ, List.getElem?_cons_zero]; done) | (simp only [List.getElem?_toArray, List.getElem?_cons_succ, List.getElem?_cons_zero]; rfl)
                  case hg11 => rfl
                  case h11 =>
                  intro a W hS hB hd
                  have e57 : a.tmps[57]? = some (.bool false) := (hd 1 rfl).bool rfl rfl rfl
                  have e66 : a.tmps[66]? = some (undef) := (hd 10 rfl).bool rfl rfl rfl
                  refine wp_value (c := .bool false) ?_ rfl
                  go_simp
                · refine StepOk2.of ?_
                  refine StepOk.run (o := ?o12) ?ho12 ?hg12 ?h12
                  case ho12 => first | (simp only [List.getElem?_toArray, List.getElem?_cons_succ, List.getElem?_cons_zero]; done) | (simp only [List.getElem?_toArray, List.getElem?_cons_succ, List.getElem?_cons_zero]; rfl)
                  case hg12 => rfl
                  case h12 =>
                  intro a W hS hB hd
                  have e67 : a.tmps[67]? = some (.bool false) := (hd 11 rfl).bool rfl rfl rfl
                  refine wp_value (c := .bool false) ?_ rfl
                  go_simp
              · intro a W hS hB hh
                have e5 : a.tmps[5]? = some (.bool false) := (hh 12 (by omega)).bool rfl rfl rfl
                have hlit := same_lit hS
                have hb3 := hbl.trans (hB.mono hbl.size)
                clear hh hS hB
                simp only [List.filterMap_cons, List.filterMap_nil, List.foldl_cons, List.foldl_nil, List.setIfInBounds_toArray, List.set_cons_zero, List.set_cons_succ] at hlit
                rw [show a.tmps.getD 5 undef = .bool false by simp [Array.getD_eq_getD_getElem?, e5]] at hlit
                generalize a.tmps.getD 56 undef = z56 at hlit
                generalize a.tmps.getD 57 undef = z57 at hlit
                generalize a.tmps.getD 58 undef = z58 at hlit
                generalize a.tmps.getD 59 undef = z59 at hlit
                generalize a.tmps.getD 60 undef = z60 at hlit
                generalize a.tmps.getD 61 undef = z61 at hlit
                generalize a.tmps.getD 62 undef = z62 at hlit
                generalize a.tmps.getD 63 undef = z63 at hlit
                generalize a.tmps.getD 64 undef = z64 at hlit
                generalize a.tmps.getD 65 undef = z65 at hlit
                generalize a.tmps.getD 66 undef = z66 at hlit
                generalize a.tmps.getD 67 undef = z67 at hlit
                clear e5
                subst hlit
                go_wp2
                go_roundw
                case rel => exact ⟨i + 1, false, by omega, by go_num, rfl, Lib.hid (seen_off hseen.out), Lib.hid (HT0.out (fun h => by rw [HSD.out]; omega)), Lib.hid (HT1.out (fun h => by omega)), hb3⟩
                case measure => simp [intOf]; omega
        · have hi1 : i < us.length := by have := HMM.out; have hM' := hM; split at hM' <;> omega
          have HT0 := Lib.hid (fun h => small_step hsm0.out (i := i) h)
          obtain ⟨ad1, rfl⟩ := some_of HS1.out i hi1
          have hx1 := HM1.out us[i] (List.getElem_mem _)
          have hcell1 := cell_of (Kd.C_below HS1.out hbl) i hi1
          obtain ⟨u, hud⟩ : ∃ u, us[i] = u := ⟨_, rfl⟩
          rw [hud] at hx1 hcell1
          have HUD := Lib.hid hud
          clear hud
          have HT1 := Lib.hid (fun h => small_step hsm1.out (i := i) h)
          by_cases hg1 : 100 < u.size
          · have bb1 : decide (100 < (u.size : Int)) = true := decide_eq_true (by omega)
            go_wp2_with fail
            refine (fixed2_any _).mono ?_
            rintro e w1 ⟨rfl, hb1⟩
            go_wp2_with fail
            go_ret
            exact ⟨rfl, hbl.trans (hb1.mono hbl.size)⟩
          · have bb1 : decide (100 < (u.size : Int)) = false := decide_eq_false (by omega)
            go_wp2_with fail
            refine region_calm2 (n := 13) (byList [isV (.bool false), isV (.bool false), isV (undef), isV (undef), isV (undef), isV (undef), isV (undef), isV (undef), isV (undef), isV (undef), isV (undef), isV (.bool false), isV (.bool false)]) (by kernel_rfl) rfl (byList_lasts ?_) (by kernel_rfl) (by kernel_rfl) (by kernel_rfl) (show AllLt 13 _ from ?_) ?_
            · intro p hp
              simp only [List.mem_cons, List.not_mem_nil, or_false] at hp
              rcases hp with rfl | rfl | rfl | rfl | rfl | rfl | rfl | rfl | rfl | rfl | rfl | rfl | rfl <;> first | exact isV_lasts | exact isC_lasts
            · refine allLt_succ (allLt_succ (allLt_succ (allLt_succ (allLt_succ (allLt_succ (allLt_succ (allLt_succ (allLt_succ (allLt_succ (allLt_succ (allLt_succ (allLt_succ (allLt_zero _) ?_) ?_) ?_) ?_) ?_) ?_) ?_) ?_) ?_) ?_) ?_) ?_) ?_
              · refine StepOk2.run (o := ?o0) ?ho0 ?hg0 ?h0
                case ho0 => first | (simp only [List.getElem?_toArray, List.getElem?_cons_succ, List.getElem?_cons_zero]; done) | (simp only [List.getElem?_toArray, List.getElem?_cons_succ, List.getElem?_cons_zero]; rfl)
                case hg0 => rfl
                case h0 =>
                intro a W hS hB hd hE
                have e5 : a.tmps[5]? = some (.bool false) := hE.get (j := 12) rfl rfl rfl rfl
                refine wp_value (c := .bool false) ?_ rfl
                go_simp
              · refine StepOk2.of ?_
                refine StepOk.run (o := ?o1) ?ho1 ?hg1 ?h1
                case ho1 => first | (simp only [List.getElem?_toArray, List.getElem?_cons_succ, List.getElem?_cons_zero]; done) | (simp only [List.getElem?_toArray, List.getElem?_cons_succ, List.getElem?_cons_zero]; rfl)
                case hg1 => rfl
                case h1 =>
                intro a W hS hB hd
                have e56 : a.tmps[56]? = some (.bool false) := (hd 0 rfl).bool rfl rfl rfl
                refine wp_value (c := .bool false) ?_ rfl
                go_simp
              · refine StepOk2.of ?_
                refine StepOk.off (o := ?o2) (g := 1) (u := true) ?ho2 ?hg2 rfl rfl ?hw2 rfl rfl
                case ho2 => first | (simp only [List.getElem?_toArray, List.getElem?_cons_succ, List.getElem?_cons_zero]; done) | (simp only [List.getElem?_toArray, List.getElem?_cons_succ, List.getElem?_cons_zero]; rfl)
                case hg2 => rfl
                case hw2 => rfl
              · refine StepOk2.of ?_
                refine StepOk.off (o := ?o3) (g := 1) (u := true) ?ho3 ?hg3 rfl rfl ?hw3 rfl rfl
                case ho3 => first | (simp only [List.getElem?_toArray, List.getElem?_cons_succ, List.getElem?_cons_zero]; done) | (simp only [List.getElem?_toArray, List.getElem?_cons_succ, List.getElem?_cons_zero]; rfl)
                case hg3 => rfl
                case hw3 => rfl
              · refine StepOk2.of ?_
                refine StepOk.off (o := ?o4) (g := 1) (u := true) ?ho4 ?hg4 rfl rfl ?hw4 rfl rfl
                case ho4 => first | (simp only [List.getElem?_toArray, List.getElem?_cons_succ, List.getElem?_cons_zero]; done) | (simp only [List.getElem?_toArray, List.getElem?_cons_succ, List.getElem?_cons_zero]; rfl)
                case hg4 => rfl
                case hw4 => rfl
              · refine StepOk2.of ?_
                refine StepOk.off (o := ?o5) (g := 1) (u := true) ?ho5 ?hg5 rfl rfl ?hw5 rfl rfl
                case ho5 => first | (simp only [List.getElem?_toArray, List.getElem?_cons_succ, List.getElem?_cons_zero]; done) | (simp only [List.getElem?_toArray, List.getElem?_cons_succ, List.getElem?_cons_zero]; rfl)
                case hg5 => rfl
                case hw5 => rfl
              · refine StepOk2.of ?_
                refine StepOk.off (o := ?o6) (g := 1) (u := true) ?ho6 ?hg6 rfl rfl ?hw6 rfl rfl
                case ho6 => first | (simp only [List.getElem?_toArray, List.getElem?_cons_succ, List.getElem?_cons_zero]; done) | (simp only [List.getElem?_toArray, List.getElem?_cons_succ, List.getElem?_cons_zero]; rfl)
                case hg6 => rfl
                case hw6 => rfl
              · refine StepOk2.of ?_
                refine StepOk.off (o := ?o7) (g := 1) (u := true) ?ho7 ?hg7 rfl rfl ?hw7 rfl rfl
                case ho7 => first | (simp only [List.getElem?_toArray, List.getElem?_cons_succ, List.getElem?_cons_zero]; done) | (simp only [List.getElem?_toArray, List.getElem?_cons_succ, List.getElem?_cons_zero]; rfl)
                case hg7 => rfl
                case hw7 => rfl
              · refine StepOk2.of ?_
                refine StepOk.off (o := ?o8) (g := 1) (u := true) ?ho8 ?hg8 rfl rfl ?hw8 rfl rfl
                case ho8 => first | (simp only [List.getElem?_toArray, List.getElem?_cons_succ, List.getElem?_cons_zero]; done) | (simp only [List.getElem?_toArray, List.getElem?_cons_succ, List.getElem?_cons_zero]; rfl)
                case hg8 => rfl
                case hw8 => rfl
              · refine StepOk2.of ?_
                refine StepOk.off (o := ?o9) (g := 1) (u := true) ?ho9 ?hg9 rfl rfl ?hw9 rfl rfl
                case ho9 => first | (simp only [List.getElem?_toArray, List.getElem?_cons_succ, List.getElem?_cons_zero]; done) | (simp only [List.getElem?_toArray, List.getElem?_cons_succ, List.getElem?_cons_zero]; rfl)
                case hg9 => rfl
                case hw9 => rfl
              · refine StepOk2.of ?_
                refine StepOk.off (o := ?o10) (g := 1) (u := true) ?ho10 ?hg10 rfl rfl ?hw10 rfl rfl
                case ho10 => first | (simp only [List.getElem?_toArray, List.getElem?_cons_succ, List.getElem?_cons_zero]; done) | (simp only [List.getElem?_toArray, List.getElem?_cons_succ, List.getElem?_cons_zero]; rfl)
                case hg10 => rfl
                case hw10 => rfl
              · refine StepOk2.of ?_
                refine StepOk.run (o := ?o11) ?ho11 ?hg11 ?h11
                case ho11 => first | (simp only [List.getElem?_toArray, List.getElem?_cons_succ, List.getElem?_cons_zero]; done) | (simp only [List.getElem?_toArray, List.getElem?_cons_succ, List.getElem?_cons_zero]; rfl)
                case hg11 => rfl
                case h11 =>
                intro a W hS hB hd
                have e57 : a.tmps[57]? = some (.bool false) := (hd 1 rfl).bool rfl rfl rfl
                have e66 : a.tmps[66]? = some (undef) := (hd 10 rfl).bool rfl rfl rfl
                refine wp_value (c := .bool false) ?_ rfl
                go_simp
              · refine StepOk2.of ?_
                refine StepOk.run (o := ?o12) ?ho12 ?hg12 ?h12
                case ho12 => first | (simp only [List.getElem?_toArray, List.getElem?_cons_succ, List.getElem?_cons_zero]; done) | (simp only [List.getElem?_toArray, List.getElem?_cons_succ, List.getElem?_cons_zero]; rfl)
                case hg12 => rfl
                case h12 =>
                intro a W hS hB hd
                have e67 : a.tmps[67]? = some (.bool false) := (hd 11 rfl).bool rfl rfl rfl
                refine wp_value (c := .bool false) ?_ rfl
                go_simp
            · intro a W hS hB hh
              have e5 : a.tmps[5]? = some (.bool false) := (hh 12 (by omega)).bool rfl rfl rfl
              have hlit := same_lit hS
              have hb3 := hbl.trans (hB.mono hbl.size)
              clear hh hS hB
              simp only [List.filterMap_cons, List.filterMap_nil, List.foldl_cons, List.foldl_nil, List.setIfInBounds_toArray, List.set_cons_zero, List.set_cons_succ] at hlit
              rw [show a.tmps.getD 5 undef = .bool false by simp [Array.getD_eq_getD_getElem?, e5]] at hlit
              generalize a.tmps.getD 56 undef = z56 at hlit
              generalize a.tmps.getD 57 undef = z57 at hlit
              generalize a.tmps.getD 58 undef = z58 at hlit
              generalize a.tmps.getD 59 undef = z59 at hlit
              generalize a.tmps.getD 60 undef = z60 at hlit
              generalize a.tmps.getD 61 undef = z61 at hlit
              generalize a.tmps.getD 62 undef = z62 at hlit
              generalize a.tmps.getD 63 undef = z63 at hlit
              generalize a.tmps.getD 64 undef = z64 at hlit
              generalize a.tmps.getD 65 undef = z65 at hlit
              generalize a.tmps.getD 66 undef = z66 at hlit
              generalize a.tmps.getD 67 undef = z67 at hlit
              clear e5
              subst hlit
              go_wp2
              go_roundw
              case rel => exact ⟨i + 1, false, by omega, by go_num, rfl, Lib.hid (seen_off hseen.out), Lib.hid (HT0.out (fun h => by omega)), Lib.hid (HT1.out (fun h => by rw [HUD.out]; omega)), hb3⟩
              case measure => simp [intOf]; omega
    · have hMM := HMM.out
      have ht : ∀ s ∈ ts, s.size ≤ 100 := by have := hsm0.out; rwa [List.take_of_length_le (by omega)] at this
      have hu : ∀ s ∈ us, s.size ≤ 100 := by have := hsm1.out; rwa [List.take_of_length_le (by omega)] at this
      have hse := hseen.out
      unfold Seen at hse
      rw [List.take_of_length_le (by omega), List.take_of_length_le (by omega)] at hse
      have hbe : ((strOfNums (blobs ts)).toList == (strOfNums (blobs us)).toList) = b := by
        rw [Bool.eq_iff_iff, beq_iff_eq, one_iff ts us ht hu, hse]
        exact ⟨fun h => ⟨by rw [h], h⟩, fun h => h.2⟩
      have HEQ := Lib.hid hbe
      have HL0 := Lib.hid (show ([] : List Int).length + (blobs ts).length ≤ 140737488355000 by have := blobs_len ts ht; simp; omega)
      have HL1 := Lib.hid (show ([] : List Int).length + (blobs us).length ≤ 140737488355000 by have := blobs_len us hu; simp; omega)
      clear hse hbe ht hu hMM
      go_wp2_with fail
      refine region_calm (n := 13) (byList [isV (.bool true), isV (.bool true), isV (.slice B0 ts.length c0), (isC (Kd.int .u8) (blobs ts)), isV (.string (strOfNums (blobs ts))), isV (.slice B1 us.length c1), (isC (Kd.int .u8) (blobs us)), isV (.string (strOfNums (blobs us))), isV (.bool b), isV (.bool b), isV (.bool true), isV (.bool true), isV (.bool true)]) (by kernel_rfl) rfl (byList_lasts ?_) (by kernel_rfl) (by kernel_rfl) (by kernel_rfl) (show AllLt 13 _ from ?_) ?_
      · intro p hp
        simp only [List.mem_cons, List.not_mem_nil, or_false] at hp
        rcases hp with rfl | rfl | rfl | rfl | rfl | rfl | rfl | rfl | rfl | rfl | rfl | rfl | rfl <;> first | exact isV_lasts | exact isC_lasts
      · refine allLt_succ (allLt_succ (allLt_succ (allLt_succ (allLt_succ (allLt_succ (allLt_succ (allLt_succ (allLt_succ (allLt_succ (allLt_succ (allLt_succ (allLt_succ (allLt_zero _) ?_) ?_) ?_) ?_) ?_) ?_) ?_) ?_) ?_) ?_) ?_) ?_) ?_
        · refine StepOk.run (o := ?o0z) ?ho0z ?hg0z ?h0z
          case ho0z => simp only [List.getElem?_toArray, List.getElem?_cons_succ, List.getElem?_cons_zero]; rfl
          case hg0z => rfl
          case h0z =>
          intro a W hS hB hd
          refine wp_called Try.func21 (by kernel_rfl) rfl #[] rfl (by simp [Act.eval, *]) ?_
          refine (fixed2_any _).mono ?_
          rintro e w9 ⟨rfl, hb9⟩
          exact ⟨_, rfl, rfl, hb9⟩
        · refine StepOk.run (o := ?o1z) ?ho1z ?hg1z ?h1z
          case ho1z => simp only [List.getElem?_toArray, List.getElem?_cons_succ, List.getElem?_cons_zero]; rfl
          case hg1z => rfl
          case h1z =>
          intro a W hS hB hd
          have e69 : a.tmps[69]? = some (.bool true) := (hd 0 rfl).bool rfl rfl rfl
          refine wp_value (c := .bool true) ?_ rfl
          go_simp
        · refine StepOk.on (o := ?o2z) (g := 1) (u := true) ?ho2z ?hg2z rfl rfl ?hw2z rfl ?h2z
          case ho2z => simp only [List.getElem?_toArray, List.getElem?_cons_succ, List.getElem?_cons_zero]; rfl
          case hg2z => rfl
          case hw2z => rfl
          case h2z =>
          intro a W hS hB hd
          have e0 : a.tmps[0]? = some (.slice B0 ts.length c0) := hS.get rfl rfl
          refine wp_value (c := .slice B0 ts.length c0) ?_ rfl
          go_simp
        · refine StepOk.on (o := ?o3z) (g := 1) (u := true) ?ho3z ?hg3z rfl rfl ?hw3z rfl ?h3z
          case ho3z => simp only [List.getElem?_toArray, List.getElem?_cons_succ, List.getElem?_cons_zero]; rfl
          case hg3z => rfl
          case hw3z => rfl
          case h3z =>
          intro a W hS hB hd
          have e71 : a.tmps[71]? = some (.slice B0 ts.length c0) := (hd 2 rfl).bool rfl rfl rfl
          refine wp_called Try.func26 (by kernel_rfl) rfl #[.slice none 0 0, .slice B0 ts.length c0] rfl (by simp [Act.eval, *]) ?_
          refine (list_any none 0 [] B0 c0 ts W (Kd.C_nil _ _) (Nat.le_refl _) (Kd.C_below HS0.out (hbl.trans (hB.mono hbl.size))) hc0 HL0.out).mono ?_
          rintro e w9 ⟨v, rfl, ho9, hb9⟩
          obtain ⟨A9, c9, rfl⟩ := Kd.R_slice ho9
          exact ⟨_, rfl, ⟨A9, c9, rfl, (Kd.R_reads' ho9).2⟩, hb9⟩
        · refine StepOk.on (o := ?o4z) (g := 1) (u := true) ?ho4z ?hg4z rfl rfl ?hw4z rfl ?h4z
          case ho4z => simp only [List.getElem?_toArray, List.getElem?_cons_succ, List.getElem?_cons_zero]; rfl
          case hg4z => rfl
          case hw4z => rfl
          case h4z =>
          intro a W hS hB hd
          obtain ⟨u72, e72, p72⟩ := (hd 3 rfl).get rfl rfl
          replace p72 : (isC (Kd.int .u8) (blobs ts)) u72 W := p72
          obtain ⟨A72, c72, rfl, hl72, hC72⟩ := p72
          refine wp_value (c := .string (strOfNums (blobs ts))) ?_ rfl
          have hcv := Kd.C_string (P := Try.prog) (A := A72) (c := c72) Try.underlying22 Try.underlying5 Try.underlying9 hC72
          go_simp
        · refine StepOk.on (o := ?o5z) (g := 1) (u := true) ?ho5z ?hg5z rfl rfl ?hw5z rfl ?h5z
          case ho5z => simp only [List.getElem?_toArray, List.getElem?_cons_succ, List.getElem?_cons_zero]; rfl
          case hg5z => rfl
          case hw5z => rfl
          case h5z =>
          intro a W hS hB hd
          have e1 : a.tmps[1]? = some (.slice B1 us.length c1) := hS.get rfl rfl
          refine wp_value (c := .slice B1 us.length c1) ?_ rfl
          go_simp
        · refine StepOk.on (o := ?o6z) (g := 1) (u := true) ?ho6z ?hg6z rfl rfl ?hw6z rfl ?h6z
          case ho6z => simp only [List.getElem?_toArray, List.getElem?_cons_succ, List.getElem?_cons_zero]; rfl
          case hg6z => rfl
          case hw6z => rfl
          case h6z =>
          intro a W hS hB hd
          have e74 : a.tmps[74]? = some (.slice B1 us.length c1) := (hd 5 rfl).bool rfl rfl rfl
          refine wp_called Try.func26 (by kernel_rfl) rfl #[.slice none 0 0, .slice B1 us.length c1] rfl (by simp [Act.eval, *]) ?_
          refine (list_any none 0 [] B1 c1 us W (Kd.C_nil _ _) (Nat.le_refl _) (Kd.C_below HS1.out (hbl.trans (hB.mono hbl.size))) hc1 HL1.out).mono ?_
          rintro e w9 ⟨v, rfl, ho9, hb9⟩
          obtain ⟨A9, c9, rfl⟩ := Kd.R_slice ho9
          exact ⟨_, rfl, ⟨A9, c9, rfl, (Kd.R_reads' ho9).2⟩, hb9⟩
        · refine StepOk.on (o := ?o7z) (g := 1) (u := true) ?ho7z ?hg7z rfl rfl ?hw7z rfl ?h7z
          case ho7z => simp only [List.getElem?_toArray, List.getElem?_cons_succ, List.getElem?_cons_zero]; rfl
          case hg7z => rfl
          case hw7z => rfl
          case h7z =>
          intro a W hS hB hd
          obtain ⟨u75, e75, p75⟩ := (hd 6 rfl).get rfl rfl
          replace p75 : (isC (Kd.int .u8) (blobs us)) u75 W := p75
          obtain ⟨A75, c75, rfl, hl75, hC75⟩ := p75
          refine wp_value (c := .string (strOfNums (blobs us))) ?_ rfl
          have hcv := Kd.C_string (P := Try.prog) (A := A75) (c := c75) Try.underlying22 Try.underlying5 Try.underlying9 hC75
          go_simp
        · refine StepOk.on (o := ?o8z) (g := 1) (u := true) ?ho8z ?hg8z rfl rfl ?hw8z rfl ?h8z
          case ho8z => simp only [List.getElem?_toArray, List.getElem?_cons_succ, List.getElem?_cons_zero]; rfl
          case hg8z => rfl
          case hw8z => rfl
          case h8z =>
          intro a W hS hB hd
          have e73 : a.tmps[73]? = some (.string (strOfNums (blobs ts))) := (hd 4 rfl).bool rfl rfl rfl
          have e76 : a.tmps[76]? = some (.string (strOfNums (blobs us))) := (hd 7 rfl).bool rfl rfl rfl
          refine wp_value (c := .bool b) ?_ rfl
          go_simp
          exact HEQ.out
        · refine StepOk.on (o := ?o9z) (g := 1) (u := true) ?ho9z ?hg9z rfl rfl ?hw9z rfl ?h9z
          case ho9z => simp only [List.getElem?_toArray, List.getElem?_cons_succ, List.getElem?_cons_zero]; rfl
          case hg9z => rfl
          case hw9z => rfl
          case h9z =>
          intro a W hS hB hd
          have e5 : a.tmps[5]? = some (.bool b) := hS.get rfl rfl
          refine wp_value (c := .bool b) ?_ rfl
          go_simp
        · refine StepOk.on (o := ?o10z) (g := 1) (u := true) ?ho10z ?hg10z rfl rfl ?hw10z rfl ?h10z
          case ho10z => simp only [List.getElem?_toArray, List.getElem?_cons_succ, List.getElem?_cons_zero]; rfl
          case hg10z => rfl
          case hw10z => rfl
          case h10z =>
          intro a W hS hB hd
          have e77 : a.tmps[77]? = some (.bool b) := (hd 8 rfl).bool rfl rfl rfl
          have e78 : a.tmps[78]? = some (.bool b) := (hd 9 rfl).bool rfl rfl rfl
          refine wp_value (c := .bool true) ?_ rfl
          go_simp
        · refine StepOk.run (o := ?o11z) ?ho11z ?hg11z ?h11z
          case ho11z => simp only [List.getElem?_toArray, List.getElem?_cons_succ, List.getElem?_cons_zero]; rfl
          case hg11z => rfl
          case h11z =>
          intro a W hS hB hd
          have e70 : a.tmps[70]? = some (.bool true) := (hd 1 rfl).bool rfl rfl rfl
          have e79 : a.tmps[79]? = some (.bool true) := (hd 10 rfl).bool rfl rfl rfl
          refine wp_value (c := .bool true) ?_ rfl
          go_simp
        · refine StepOk.run (o := ?o12z) ?ho12z ?hg12z ?h12z
          case ho12z => simp only [List.getElem?_toArray, List.getElem?_cons_succ, List.getElem?_cons_zero]; rfl
          case hg12z => rfl
          case h12z =>
          intro a W hS hB hd
          have e80 : a.tmps[80]? = some (.bool true) := (hd 11 rfl).bool rfl rfl rfl
          refine wp_value (c := .bool true) ?_ rfl
          go_simp
      · intro a W hS hB hh
        go_wp2
        have hr := (hh 12 (by omega)).bool rfl rfl rfl
        exact bodyPost_ret (v := .bool true) (by simp [results, Try.results10, hr, go_sem]) hS.2.1 ⟨rfl, hbl.trans (hB.mono hbl.size)⟩
set_option maxHeartbeats 400000 in
theorem one_great (B0 B1 : Option Addr) (c0 c1 : Nat) (ts us : List ByteArray) (w : World) (h : 30 < (ts.length : Int) ∨ (¬ 30 < (ts.length : Int) ∧ 30 < (us.length : Int))) (hm0 : ts.length ≤ 9223372036854775807) (hm1 : us.length ≤ 9223372036854775807) :
    Calls Try.prog 10 #[.slice B0 ts.length c0, .slice B1 us.length c1] w fun e w' => e = .returned (.bool true) ∧ Below w.heap.size w w' := by
  rcases h with h | ⟨h, h2⟩
  · have hd : decide (30 < (ts.length : Int)) = true := decide_eq_true h
    go_enter Try.func10, Try.ntmps10
    go_wp2_with (go_at_call 21; refine (fixed2_any _).mono ?_; rintro e w1 ⟨rfl, hb⟩)
    go_ret
    exact ⟨rfl, hb⟩
  · have hd : decide (30 < (ts.length : Int)) = false := decide_eq_false h
    have hd2 : decide (30 < (us.length : Int)) = true := decide_eq_true h2
    go_enter Try.func10, Try.ntmps10
    go_wp2_with (go_at_call 21; refine (fixed2_any _).mono ?_; rintro e w1 ⟨rfl, hb⟩)
    go_ret
    exact ⟨rfl, hb⟩
theorem walk (v0 : Value) (x0 : Option Addr × Nat × List ByteArray) (v1 : Value) (x1 : Option Addr × Nat × List ByteArray) (w : World) (w0 : IsStrs w v0 x0) (w1 : IsStrs w v1 x1) :
    Calls Try.prog 10 #[v0, v1] w fun e w' => e = .returned (.bool true) ∧ Below w.heap.size w w' := by
  obtain ⟨B0, c0, ts⟩ := x0
  obtain ⟨B1, c1, us⟩ := x1
  obtain ⟨rfl, hc0, hs0, hm0⟩ := w0
  obtain ⟨rfl, hc1, hs1, hm1⟩ := w1
  by_cases h : 30 < (ts.length : Int) ∨ (¬ 30 < (ts.length : Int) ∧ 30 < (us.length : Int))
  · exact one_great B0 B1 c0 c1 ts us w h hs0.2.1 hs1.2.1
  · exact one_main B0 B1 c0 c1 ts us w hs0 hc0 hs1 hc1 hm0 hm1 (by omega) (by omega)
end Go.Proofs.Ythojcapdbjmneaa.WBlobOne
