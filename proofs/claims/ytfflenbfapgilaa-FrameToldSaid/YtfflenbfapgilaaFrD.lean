/- Texts laid as one: FrQ, FrO. -/
import Derived.Test.YtfflenbfapgilaaFrC
import Derived.Test.YtfflenbfapgilaaGVBx4
set_option linter.unusedVariables false
set_option linter.unusedSimpArgs false
/- The document's Get and Run of frames are frame.Get and frame.Run. -/
namespace Go.Proofs.Ytfflenbfapgilaa
open Go.RowKit Go.Proofs.YtfflenbfapgilaaW.PrintWords Go.Proofs.Ytfflenbfapgilaa.GVB

theorem rbget_is (l : List Int) (hb : ∀ x ∈ l, 0 ≤ x ∧ x < 256) (hl : l.length ≤ 1000000) (a lim : Int) (hlim : 0 ≤ lim ∧ lim ≤ 1000000) (k : Nat) (hk : 30 ≤ k) : tephraref02_Get.f k (strOfNums l) a lim = some (bgetS l a lim) := by
  have hr := ref_is l hb (by omega) a k hk
  unfold tephraref02_Get.f
  rw [hr]
  simp only [Option.bind_some]
  obtain ⟨k, rfl⟩ : ∃ m, k = m + 1 := ⟨k - 1, by omega⟩
  have hs : (strOfNums l).size = l.length := strOfNums_size l
  rcases getS_cases l hb a with ⟨ec, h1, h2⟩ | ⟨lo, n, p, ha, h1, h2, h3, h4, h5⟩
  · have e : bgetS l a lim = (⟨#[]⟩, 0, ec) := by
      unfold bgetS
      rw [h1, if_pos (by show ec ≠ 0; omega)]
    rw [e, h1, if_neg (by show ec ≠ 0; omega)]
  · have hM : (if lim < 0 then 0 else lim) = lim := if_neg (by omega)
    rw [h1, if_pos rfl, if_neg (by omega)]
    simp only [tephraref02_Get.j0]
    rw [hs, IntKind.wrap_u64, IntKind.wrap_u64, show lim % 18446744073709551616 = lim by omega, show (l.length : Int) % 18446744073709551616 = (l.length : Int) by omega]
    by_cases c5 : lim < (n : Int)
    · rw [if_pos (by omega)]
      unfold bgetS
      rw [h1, hM, if_neg (by simp), if_pos c5]
    rw [if_neg (by omega)]
    by_cases c3 : l.length < n
    · rw [if_pos (by omega)]
      unfold bgetS
      rw [h1, hM, if_neg (by simp), if_neg c5, if_pos (by show (l.length : Int) - (p : Int) < (n : Int); omega)]
    rw [if_neg (by omega), w64 (n : Int) (by omega) (by omega), w64 ((p : Int) + (n : Int)) (by omega) (by omega)]
    by_cases c2 : (l.length : Int) - (p : Int) < (n : Int)
    · rw [if_pos (by omega)]
      unfold bgetS
      rw [h1, hM, if_neg (by simp), if_neg c5, if_pos c2]
    rw [if_neg (by omega), if_pos (by omega), if_pos (by omega), if_pos (by omega), str_mid]
    unfold bgetS
    rw [h1, hM, if_neg (by simp), if_neg c5, if_neg c2]
    simp only [Option.some.injEq, Prod.mk.injEq, and_true]
    rw [show ((p : Int) + (n : Int)).toNat = p + n by omega, Int.toNat_natCast, Int.toNat_natCast]
theorem wholeB_iff (l : List Int) (hb : ∀ x ∈ l, 0 ≤ x ∧ x < 256) (m : Nat) (hm : m + 4 ≤ l.length) : wholeB l (m : Int) = true ↔ crcB (Crc.sum (nats (l.take m))) = (l.take (m + 4)).drop m := by
  have hl4 : (l.take (m + 4)).drop m = [rd l m, rd l (m + 1), rd l (m + 2), rd l (m + 3)] := by
    apply List.ext_getElem?
    intro i
    have hr : ∀ j : Nat, j < l.length → l[j]? = some (rd l (j : Int)) := fun j hj => by simp [rd, hj]
    match i with
    | 0 => rw [List.getElem?_drop, List.getElem?_take_of_lt (by omega), hr _ (by omega)]; rfl
    | 1 => rw [List.getElem?_drop, List.getElem?_take_of_lt (by omega), hr _ (by omega)]; rfl
    | 2 => rw [List.getElem?_drop, List.getElem?_take_of_lt (by omega), hr _ (by omega)]; rfl
    | 3 => rw [List.getElem?_drop, List.getElem?_take_of_lt (by omega), hr _ (by omega)]; rfl
    | i + 4 => rw [List.getElem?_drop, List.getElem?_take, if_neg (by omega)]; simp
  have hbr : ∀ x ∈ (l.take (m + 4)).drop m, 0 ≤ x ∧ x < 256 := fun x hx => hb x (List.mem_of_mem_take (List.mem_of_mem_drop hx))
  have hlt := Crc.sum_lt (nats (l.take m)) (by intro x hx; simp only [nats, List.mem_map] at hx; obtain ⟨y, hy, rfl⟩ := hx; have := hb y (List.mem_of_mem_take hy); omega)
  rw [hl4] at hbr ⊢
  unfold wholeB crcB at4
  rw [Int.toNat_natCast]
  have hs0 : (0 : Int) ≤ ((Crc.sum (nats (l.take m)) : Nat) : Int) ∧ ((Crc.sum (nats (l.take m)) : Nat) : Int) < 4294967296 := by omega
  generalize ((Crc.sum (nats (l.take m)) : Nat) : Int) = s at hs0 ⊢
  simp only [List.mem_cons, List.not_mem_nil, or_false, forall_eq_or_imp, forall_eq] at hbr
  simp only [List.cons.injEq, and_true, Bool.and_eq_true, decide_eq_true_eq]
  omega
theorem crcB_byte (c : Nat) : ∀ x ∈ crcB c, 0 ≤ x ∧ x < 256 := by intro x hx; unfold crcB at hx; simp at hx; omega
theorem rfget_is (l : List Int) (hb : ∀ x ∈ l, 0 ≤ x ∧ x < 256) (hl : l.length ≤ 4000) (a : Int) (k : Nat) (hk : 50000 ≤ k) : tephraref06_Get.f k (strOfNums l) a = some (fgetS l a) := by
  have hs : (strOfNums l).size = l.length := strOfNums_size l
  obtain ⟨k, rfl⟩ : ∃ m, k = m + 1 := ⟨k - 1, by omega⟩
  have hg := rbget_is l hb (by omega) a 2048 (by omega) k (by omega)
  unfold tephraref06_Get.f
  rw [hs]
  have hbad : (a < 0 ∨ (l.length : Int) < a) → fgetS l a = (⟨#[]⟩, 0, 1) := by
    intro h
    have e : getS l a = (0, 0, 1) := by unfold getS; rw [if_pos (by omega)]
    have e2 : bgetS l a 2048 = (⟨#[]⟩, 0, 1) := by unfold bgetS; rw [e, if_pos (by decide)]
    unfold fgetS
    rw [if_neg (by omega), e2, if_pos (by decide)]
  by_cases h0 : a < 0
  · rw [if_pos h0, hbad (.inl h0)]; simp only [tephraref06_Get.j0, if_true]
  rw [if_neg h0]
  by_cases h1 : a > (l.length : Int)
  · rw [decide_eq_true h1, hbad (.inr h1)]; simp only [tephraref06_Get.j0, if_true]
  rw [decide_eq_false h1]
  simp only [tephraref06_Get.j0]
  rw [if_neg (by decide), hs]
  by_cases h2 : a = (l.length : Int)
  · rw [if_pos h2]; unfold fgetS; rw [if_pos h2]
  rw [if_neg h2, hg]
  simp only [Option.bind_some]
  rcases bgetS_cases l hb a 2048 with ⟨e, he, h⟩ | ⟨lo, p, q, ha, hgs, h3, h4, h5, h6⟩
  · have ef : fgetS l a = (⟨#[]⟩, 0, e) := by unfold fgetS; rw [if_neg h2, he, if_pos (by show e ≠ 0; omega)]
    rw [he, ef, if_neg (by show e ≠ 0; omega)]
  rw [hgs, if_pos rfl]
  have hsz : (strOfNums ((l.take q).drop p)).size = q - p := by rw [strOfNums_size, List.length_drop, List.length_take]; omega
  by_cases c1 : (strOfNums ((l.take q).drop p)).size = 0
  · have : (strOfNums ((l.take q).drop p)).toList = ([] : List UInt8) := by
      rw [Lib.toList_data]
      exact List.eq_nil_of_length_eq_zero (by rw [Array.length_toList]; exact c1)
    rw [if_pos this]
    unfold fgetS
    rw [if_neg h2, hgs, if_neg (by simp), if_pos c1]
  have hne : ¬ (strOfNums ((l.take q).drop p)).toList = ([] : List UInt8) := fun e => by
    have := toList_empty c1
    rw [e] at this; cases this
  rw [if_neg hne, w64 ((q : Int) + 4) (by omega) (by omega)]
  by_cases c2 : (l.length : Int) - (q : Int) < 4
  · rw [if_pos (by omega)]
    unfold fgetS
    rw [if_neg h2, hgs, if_neg (by simp), if_neg c1, if_pos c2]
  subst ha
  have hbm : ∀ x ∈ (l.take q).drop lo, 0 ≤ x ∧ x < 256 := fun x hx => hb x (List.mem_of_mem_take (List.mem_of_mem_drop hx))
  have hlm : ((l.take q).drop lo).length = q - lo := by rw [List.length_drop, List.length_take]; omega
  have hsum := rsum_is ((l.take q).drop lo) hbm (by omega)
  have hlt := Crc.sum_lt (nats ((l.take q).drop lo)) (by intro x hx; simp only [nats, List.mem_map] at hx; obtain ⟨y, hy, rfl⟩ := hx; have := hbm y hy; omega)
  dsimp only
  rw [if_neg (by omega), if_pos (by omega), if_pos (by omega), if_pos (by omega), str_mid, str_mid]
  rw [show ((lo : Int)).toNat = lo by omega, show ((q : Int)).toNat = q by omega, show ((q : Int) + 4).toNat = q + 4 by omega]
  rw [at_rounds (fun k => tephraref03_Sum.mono _ k) (show 10 * ((l.take q).drop lo).length + 1 ≤ k by omega) hsum]
  simp only [Option.bind_some]
  rw [rbytes_is _ hlt]
  simp only [Option.bind_some]
  rw [if_pos (by omega), if_pos (by omega), if_pos (by omega)]
  have hbd : ∀ x ∈ l.drop lo, 0 ≤ x ∧ x < 256 := fun x hx => hb x (List.mem_of_mem_drop hx)
  have hiff := wholeB_iff (l.drop lo) hbd (q - lo) (by rw [List.length_drop]; omega)
  have e1 : (l.drop lo).take (q - lo) = (l.take q).drop lo := List.drop_take.symm
  have e2 : ((l.drop lo).take (q - lo + 4)).drop (q - lo) = (l.take (q + 4)).drop q := by
    rw [show q - lo + 4 = q + 4 - lo by omega, ← List.drop_take, List.drop_drop, show lo + (q - lo) = q by omega]
  rw [e1, e2] at hiff
  have hbt : ∀ x ∈ (l.take (q + 4)).drop q, 0 ≤ x ∧ x < 256 := fun x hx => hb x (List.mem_of_mem_take (List.mem_of_mem_drop hx))
  have hf : fgetS l (lo : Int) = if wholeB (l.drop lo) ((q - lo : Nat) : Int) = false then (⟨#[]⟩, 0, 4) else (strOfNums ((l.take q).drop p), (q : Int) + 4, 0) := by
    unfold fgetS
    rw [if_neg h2, hgs, if_neg (by simp), if_neg c1, if_neg c2]
    dsimp only
    rw [Int.toNat_natCast, show (q : Int) - (lo : Int) = ((q - lo : Nat) : Int) by omega]
  rw [hf]
  by_cases hw : wholeB (l.drop lo) ((q - lo : Nat) : Int) = true
  · rw [if_pos ((tl_nums (crcB_byte _) hbt).2 (hiff.1 hw)), if_neg (by rw [hw]; decide)]
  · rw [if_neg (fun e => hw (hiff.2 ((tl_nums (crcB_byte _) hbt).1 e))), if_pos (by simpa using hw)]
theorem rfrun_l0 (l : List Int) (hb : ∀ x ∈ l, 0 ≤ x ∧ x < 256) (hl : l.length ≤ 4000) : ∀ (m k : Nat) (a : Int) (x : List ByteArray) (y : List Int), (0 ≤ a → (l.length : Int) - a < m) → 1 ≤ m → 50001 + m ≤ k → x.length + m ≤ 100000 → y.length + m ≤ 100000 →
    tephraref06_Run.l0 k (strOfNums l) a x y = some (x ++ (frunS m l a).map (·.1), y ++ (frunS m l a).map (·.2)) := by
  intro m
  induction m with
  | zero => intro k a x y _ h; omega
  | succ m ih =>
    intro k a x y hm _ hk hx hy
    obtain ⟨k, rfl⟩ : ∃ q, k = q + 1 := ⟨k - 1, by omega⟩
    simp only [tephraref06_Run.l0]
    rw [rfget_is l hb hl a k (by omega)]
    simp only [Option.bind_some]
    by_cases h : (fgetS l a).2.2 = 0
    · have hf := fgetS_far l hb a h
      have h3 := hm hf.1
      rw [if_pos h, if_pos (by omega), if_pos (by omega), ih k _ _ _ (fun _ => by omega) (by omega) (by omega) (by simp; omega) (by simp; omega)]
      rw [show frunS (m + 1) l a = ((fgetS l a).1, (fgetS l a).2.1) :: frunS m l (fgetS l a).2.1 by rw [frunS, if_pos h]]
      simp
    · rw [if_neg h, show frunS (m + 1) l a = [] by rw [frunS, if_neg h]]
      simp
theorem rfrun_is (l : List Int) (hb : ∀ x ∈ l, 0 ≤ x ∧ x < 256) (hl : l.length ≤ 4000) (a : Int) : tephraref06_Run.f 60000 (strOfNums l) a = some ((runs l a).map (·.1), (runs l a).map (·.2)) := by
  unfold tephraref06_Run.f
  rw [rfrun_l0 l hb hl (l.length + 1) 60000 a [] [] (fun _ => by omega) (by omega) (by omega) (by simp; omega) (by simp; omega)]
  rfl
end Go.Proofs.Ytfflenbfapgilaa
/- The document's frame of a payload; a whole frame is read as its payload; cut off or turned it is none. -/
namespace Go.Proofs.Ytfflenbfapgilaa
open Go.RowKit Go.Proofs.YtfflenbfapgilaaW.PrintWords Go.Proofs.Ytfflenbfapgilaa.GVB

theorem crcB_is (c : Nat) (h : c < 4294967296) : tephraref03_Bytes.f (c : Int) = some (strOfNums (crcB c)) := rbytes_is c h
theorem nats_lt {cs : List Int} (h : ∀ b ∈ cs, 0 ≤ b ∧ b < 256) : ∀ x ∈ nats cs, x < 256 := by
  intro x hx
  obtain ⟨b, hb, rfl⟩ := List.mem_map.1 hx
  have := h b hb; omega
theorem blob_bytes (s : ByteArray) (hs : s.size < 18446744073709551616) : ∀ x ∈ blob s, 0 ≤ x ∧ x < 256 := by
  intro x hx
  rcases List.mem_append.1 hx with hx | hx
  · exact ints_bytes _ (vb_bytes _ hs) x hx
  · exact bytesOf_byte s x hx
def frameS (s : ByteArray) : List Int := blob s ++ crcB (Crc.sum (nats (blob s)))
theorem frameL_is (l : List Int) : frameL l = frameS (strOfNums l) := rfl
set_option maxRecDepth 100000 in
set_option maxHeartbeats 1000000 in
theorem rfput_ok (s : ByteArray) (hs : 1 ≤ s.size ∧ s.size ≤ 2048) (w : World) :
    Calls Try.prog 20 #[.string s] w fun e w' => e = .returned (.tuple #[.string (strOfNums (frameS s)), .int .i64 0]) ∧ Below w.heap.size w w' := by
  have hs1 : s.toList.isEmpty = false := toList_empty (by omega)
  have d2 : decide (2048 < (s.size : Int)) = false := decide_eq_false (by omega)
  have hbb := blob_bytes s (by omega)
  have hbl : (blob s).length ≤ 3000 := by
    have := vb_len10 s.size (by omega)
    rw [blob_len]; omega
  have HP := Lib.hid (fun (W : World) => rbput_any s (by omega) W)
  have HS := Lib.hid (fun (W : World) => rsum_any (blob s) hbb (by omega) W)
  have hlt := Crc.sum_lt (nats (blob s)) (nats_lt hbb)
  have HB := Lib.hid (fun (W : World) => tephraref03_Bytes.calls _ _ W (rbytes_is (Crc.sum (nats (blob s))) hlt))
  have hadd := fun (W : World) => run_string_add_sum (P := Try.prog) (w := W) (strOfNums (blob s)) (strOfNums (crcB (Crc.sum (nats (blob s))))) (by rw [strOfNums_size, strOfNums_size]; show _ + 4 ≤ 9223372036854775807; omega)
  rw [← strOfNums_app] at hadd
  change ∀ W, _ = Result.ok (Value.string (strOfNums (frameS s))) W at hadd
  obtain ⟨fr, hfr⟩ : ∃ fr, strOfNums (frameS s) = fr := ⟨_, rfl⟩
  rw [hfr] at hadd ⊢
  generalize ((Crc.sum (nats (blob s)) : Nat) : Int) = sm at *
  generalize crcB (Crc.sum (nats (blob s))) = cb at *
  generalize blob s = bl at *
  clear hbb hbl hlt hfr
  go_enter Try.func20, Try.ntmps20
  go_wp2_with fail
  refine (HP.out _).mono ?_
  rintro e w1 ⟨rfl, hb1⟩
  have HB1 := Lib.hid hb1
  clear hb1
  go_wp2_with fail
  refine (HS.out _).mono ?_
  rintro e w2 ⟨rfl, hb2⟩
  have HB2 := Lib.hid (HB1.out.trans (hb2.mono HB1.out.size))
  clear hb2
  go_wp2_with fail
  refine (HB.out _).mono ?_
  rintro e w3 ⟨rfl, hb3⟩
  have HB3 := Lib.hid (HB2.out.trans (hb3.mono HB2.out.size))
  clear hb3
  go_wp2_with fail
  go_ret2
  exact ⟨rfl, HB3.out⟩
theorem rfput_bad (s : ByteArray) (hs : ¬ (1 ≤ s.size ∧ s.size ≤ 2048)) (hm : s.size ≤ 9223372036854775807) (w : World) :
    Calls Try.prog 20 #[.string s] w fun e w' => e = .returned (.tuple #[.string ⟨#[]⟩, .int .i64 1]) ∧ Below w.heap.size w w' := by
  by_cases h : s.size = 0
  · have hz : s = ⟨#[]⟩ := ByteArray.ext (Array.eq_empty_of_size_eq_zero h)
    subst hz
    go_enter Try.func20, Try.ntmps20
    go_wp2_with fail
    go_ret2
    exact ⟨rfl, Below.refl _ _⟩
  · have hs1 : s.toList.isEmpty = false := toList_empty h
    have d2 : decide (2048 < (s.size : Int)) = true := decide_eq_true (by omega)
    go_enter Try.func20, Try.ntmps20
    go_wp2_with fail
    go_ret2
    exact ⟨rfl, Below.refl _ _⟩
end Go.Proofs.Ytfflenbfapgilaa
