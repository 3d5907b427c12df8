/- For every sum, all bytes and every place crc.Bytes and crc.Read answer as the document's text does, and what is laid is read again (up to 300 bytes): the law CrcBytes returns true, and writes nothing that was there. -/
import Derived.Test.YthojcapdbjmneaaGCrcBytesx1
import Derived.Test.YthojcapdbjmneaaCrcX
import Derived.Test.YthojcapdbjmneaaReg
set_option linter.unusedVariables false
set_option linter.unusedSimpArgs false
namespace Go.Proofs.Ythojcapdbjmneaa.WCrcBytes
open Go.RowKit Go.Proofs.YthojcapdbjmneaaW.PrintWords Go.Proofs.YthojcapdbjmneaaW.PrintLast Go.Proofs.Ythojcapdbjmneaa.GCrcBytes

theorem u32or (x y : Int) (h1 : 0 ≤ x) (h2 : x < 16777216) (h3 : 0 ≤ y) (h4 : y < 256) : Go.bits .or .u32 ((x * 256) % 4294967296) (y % 4294967296) = x * 256 + y := by
  obtain ⟨a, rfl⟩ := Int.eq_ofNat_of_zero_le h1
  obtain ⟨b, rfl⟩ := Int.eq_ofNat_of_zero_le h3
  rw [show ((a : Int) * 256) % 4294967296 = ((a * 256 : Nat) : Int) by omega, show ((b : Int)) % 4294967296 = ((b : Nat) : Int) by omega, u32_or_nat _ _ (by omega) (by omega), nat_join 8 (a * 256) b (by omega) (by omega)]
  omega
/-- the sum at a place -/
def at4 (l : List Int) (a : Int) : Int := rd l a + 256 * rd l (a + 1) + 65536 * rd l (a + 2) + 16777216 * rd l (a + 3)
theorem rd_lt (l : List Int) (h : ∀ x ∈ l, (Lit.int .u8 x).wf = true) (i : Int) : 0 ≤ rd l i ∧ rd l i < 256 := by
  unfold rd
  rw [List.getD_eq_getElem?_getD]
  cases e : l[i.toNat]? with
  | none => simp
  | some v =>
    have := h v (List.mem_of_getElem? e)
    simp [Lit.wf, IntKind.min, IntKind.max, IntKind.signed, IntKind.bits] at this
    simp; omega
theorem read_eq (k : Nat) (hk : 7 ≤ k) (l : List Int) (a : Int) (hl : l.length ≤ 1000000) (h : ∀ x ∈ l, (Lit.int .u8 x).wf = true) (ha : -9223372036854775808 ≤ a ∧ a ≤ 9223372036854775807) :
    crc_Read.f k l a = some (if 0 ≤ a ∧ a + 4 ≤ l.length then (at4 l a, true) else (0, false)) := by
  obtain ⟨k, rfl⟩ : ∃ m, k = m + 7 := ⟨k - 7, by omega⟩
  unfold crc_Read.f
  by_cases h1 : a < 0
  · rw [if_pos h1, if_neg (by omega)]; simp only [crc_Read.j0, if_true]
  rw [if_neg h1]
  by_cases h2 : a > (l.length : Int)
  · rw [if_pos h2, if_neg (by omega)]; simp only [crc_Read.j0, if_true]
  rw [if_neg h2, w64 _ (by omega) (by omega)]
  simp only [crc_Read.j0]
  by_cases h3 : (l.length : Int) - a < 4
  · rw [if_pos (decide_eq_true h3), if_neg (by omega)]
  rw [if_neg (by simpa using h3), if_pos (by omega)]
  have b0 := rd_lt l h a
  have b1 := rd_lt l h (a + 1)
  have b2 := rd_lt l h (a + 2)
  have b3 := rd_lt l h (a + 3)
  simp only [crc_Read.l0]
  rw [if_pos (by omega), w64 (a + 3) (by omega) (by omega), if_pos (by omega), if_pos (by omega), u32or 0 _ (by omega) (by omega) b3.1 b3.2]
  rw [w64 (3 - 1) (by omega) (by omega), if_pos (by omega), show a + (3 - 1) = a + 2 by omega, w64 (a + 2) (by omega) (by omega), if_pos (by omega), if_pos (by omega), u32or _ _ (by omega) (by omega) b2.1 b2.2]
  rw [w64 (3 - 1 - 1) (by omega) (by omega), if_pos (by omega), show a + (3 - 1 - 1) = a + 1 by omega, w64 (a + 1) (by omega) (by omega), if_pos (by omega), if_pos (by omega), u32or _ _ (by omega) (by omega) b1.1 b1.2]
  rw [w64 (3 - 1 - 1 - 1) (by omega) (by omega), if_pos (by omega), show a + (3 - 1 - 1 - 1) = a by omega, w64 a (by omega) (by omega), if_pos (by omega), if_pos (by omega), u32or _ _ (by omega) (by omega) b0.1 b0.2]
  rw [w64 (3 - 1 - 1 - 1 - 1) (by omega) (by omega), if_neg (by omega)]
  unfold at4
  congr 2
  omega
theorem bt_str (l : List Int) (h : ∀ x ∈ l, (Lit.int .u8 x).wf = true) (i : Int) (hi : i.toNat < l.length) : bt (strOfNums l) i = rd l i := by
  have hs : (strOfNums l).size = l.length := by simp [strOfNums, ByteArray.size]
  unfold bt rd
  rw [dif_pos (by omega)]
  have h1 := h (l[i.toNat]) (by simp)
  simp [Lit.wf, IntKind.min, IntKind.max, IntKind.signed, IntKind.bits] at h1
  rw [List.getD_eq_getElem?_getD, List.getElem?_eq_getElem hi]
  show (((strOfNums l).data[i.toNat]'_).toNat : Int) = _
  simp only [strOfNums, List.getElem_toArray, List.getElem_map, UInt8.toNat_ofNat', Option.getD_some]
  omega
theorem ref_eq (l : List Int) (a : Int) (hl : l.length ≤ 1000000) (h : ∀ x ∈ l, (Lit.int .u8 x).wf = true) (ha : -9223372036854775808 ≤ a ∧ a ≤ 9223372036854775807) :
    tephraref03_Read.f (strOfNums l) a = some (if 0 ≤ a ∧ a + 4 ≤ l.length then (at4 l a, true) else (0, false)) := by
  have hs : (strOfNums l).size = l.length := by simp [strOfNums, ByteArray.size]
  unfold tephraref03_Read.f
  rw [hs]
  by_cases h1 : a < 0
  · rw [if_pos h1, if_neg (by omega)]
  rw [if_neg h1, w64 ((l.length : Int) - 4) (by omega) (by omega)]
  by_cases h2 : a > (l.length : Int) - 4
  · rw [if_pos h2, if_neg (by omega)]
  rw [if_neg h2, if_pos (by omega), if_pos (by omega), w64 (a + 1) (by omega) (by omega), w64 (a + 2) (by omega) (by omega), w64 (a + 3) (by omega) (by omega)]
  rw [if_pos (by omega), if_pos (by omega), if_pos (by omega), if_pos (by omega), if_pos (by omega), if_pos (by omega), if_pos (by omega)]
  rw [bt_str l h a (by omega), bt_str l h (a + 1) (by omega), bt_str l h (a + 2) (by omega), bt_str l h (a + 3) (by omega)]
  have b0 := rd_lt l h a
  have b1 := rd_lt l h (a + 1)
  have b2 := rd_lt l h (a + 2)
  have b3 := rd_lt l h (a + 3)
  unfold at4
  congr 2
  omega
theorem rd_app (l m : List Int) (i j : Int) (h : i = l.length + j) (hj : 0 ≤ j) : rd (l ++ m) i = rd m j := by
  unfold rd
  rw [List.getD_eq_getElem?_getD, List.getD_eq_getElem?_getD, List.getElem?_append_right (by omega)]
  congr 2; omega

set_option maxHeartbeats 1000000 in
set_option maxRecDepth 100000 in
theorem crcBytes_main (k : Nat) (A1 : Option Addr) (c1 : Nat) (a0 : Int) (l1 : List Int) (a2 : Int) (w : World) (x : Int) (ok : Bool) (bs : List Int)
    (hr1 : Kd.C (Kd.int .u8) w A1 l1.length l1) (hc1 : l1.length ≤ c1) (hle : (l1.length : Int) ≤ 300)
    (h1 : crc_Read.f k l1 a2 = some (x, ok)) (h2 : tephraref03_Read.f (strOfNums l1) a2 = some (x, ok)) (h3 : crc_Bytes.f a0 = some bs) (hbs : bs.length = 4)
    (h4 : crc_Read.f k (l1 ++ bs) (l1.length : Int) = some (a0, true)) (h5 : tephraref03_Bytes.f a0 = some (strOfNums bs)) :
    Calls Try.prog 13 #[.int .u32 a0, .slice A1 l1.length c1, .int .i64 a2] w fun e w' => e = .returned (.bool true) ∧ Below w.heap.size w w' := by
  have H1 := Lib.hid h1
  have H2 := Lib.hid h2
  have H3 := Lib.hid h3
  have H4 := Lib.hid h4
  have H5 := Lib.hid h5
  have HC := Lib.hid hr1
  have HBS := Lib.hid hbs
  clear h1 h2 h3 h4 h5 hr1 hbs
  have hle2 : l1.length ≤ 300 := by omega
  go_enter Try.func13, Try.ntmps13
  go_wp2_with fail
  refine (crc_Read.calls k _ _ l1 a2 x ok _ HC.out hc1 H1.out).mono ?_
  rintro e w1 ⟨rfl, hd⟩
  have hb1 := hd.below
  clear hd
  have hcv := Kd.C_string (P := Try.prog) (A := A1) (c := c1) Try.underlying22 Try.underlying5 Try.underlying9 (Kd.C_below HC.out hb1)
  go_wp2_with fail
  refine (tephraref03_Read.calls _ a2 x ok _ H2.out).mono ?_
  rintro e w2 ⟨rfl, hd⟩
  have hb2 := hb1.trans (hd.below.mono hb1.size)
  clear hd hcv hb1
  have HC2 := Lib.hid (Kd.C_below HC.out hb2)
  go_wp2_with (at_builtin; refine Halt.mk ?_)
  have HO := Lib.hid (R_block .u8 (w2.alloc (.cells #[] 5)) w.heap.size w2.heap.size 5 [] (fun _ => True) (heap_new _ _) hb2.size (by simp) trivial)
  have hb3 := hb2.alloc hb2.size (.cells #[] 5)
  refine Halt.of ?_
  refine Kd.R_append_rows (Kd.int .u8) (w0 := w) w.heap.size rfl (.tmp 31) (.tmp 32) 22 5 (.int .u8 0) 1 rfl Try.underlying22 info_u8 rfl (by decide) (by omega) _ [] l1 _ _ _ (fun _ => True) (fun _ => False) rfl rfl HO.out (Kd.C_below HC.out hb3) (fun _ _ h => h) (fun _ h => h.elim) (fun _ _ => trivial) hb3 hb3.size (by simp; omega) ?_
  intro v1 w3 HO1 hb4 _ _
  clear HO hb3
  have HO1 := Lib.hid HO1
  go_wp2_with (first | (at_builtin; refine Halt.mk ?_) | fail)
  refine (crc_Bytes.calls a0 bs _ H3.out).mono ?_
  rintro e w4 ⟨v2, rfl, HO2, hb5⟩
  obtain ⟨A2, c2, rfl⟩ := Kd.R_slice HO2
  have HR2 := Lib.hid (Kd.R_reads' HO2)
  have HO3 := Lib.hid (Kd.R_below HO1.out hb5)
  have hb6 := hb4.trans (hb5.mono hb4.size)
  clear HO1 HO2 hb5 hb4
  go_wp2_with (first | (at_builtin; refine Halt.mk ?_) | fail)
  refine Halt.of ?_
  refine Kd.R_append_rows (Kd.int .u8) (w0 := w) w.heap.size rfl (.tmp 33) (.tmp 35) 22 5 (.int .u8 0) 1 rfl Try.underlying22 info_u8 rfl (by decide) (by omega) _ _ bs _ _ _ (fun _ => True) (fun _ => False) rfl rfl HO3.out HR2.out.2.2 (fun _ _ h => h) (fun _ h => h.elim) (fun _ _ => trivial) hb6 hb6.size (by have := HBS.out; simp; omega) ?_
  intro v3 w5 HO4 hb7 _ _
  clear HO3 HR2 hb6
  rw [List.nil_append] at HO4
  obtain ⟨l3, HL3⟩ : ∃ l3, Hid (l1 ++ bs = l3) := ⟨_, rfl⟩
  rw [HL3.out] at HO4
  have H4' := Lib.hid (show crc_Read.f k l3 (l1.length : Int) = some (a0, true) by rw [← HL3.out]; exact H4.out)
  clear H4
  obtain ⟨A3, c3, rfl⟩ := Kd.R_slice HO4
  have HR4 := Lib.hid (Kd.R_reads' HO4)
  clear HO4
  go_wp2_with fail
  refine (crc_Read.calls k _ _ l3 l1.length a0 true _ HR4.out.2.2 HR4.out.2.1 H4'.out).mono ?_
  rintro e w6 ⟨rfl, hd⟩
  have hb8 := hb7.trans (hd.below.mono hb7.size)
  clear hd hb7
  go_wp2_with fail
  refine region_calm (n := 28) (byList [isV (.bool true), isV (.bool true), isV (.int .u32 a0), (isC (Kd.int .u8) bs), isV (.string (strOfNums bs)), isV (.int .u32 a0), isV (.string (strOfNums bs)), isV (.bool true), isV (.bool true), isV (.bool true), isV (.int .u32 x), isV (.int .u32 x), isV (.bool true), isV (.bool true), isV (.bool true), isV (.bool ok), isV (.bool ok), isV (.bool true), isV (.bool true), isV (.bool true), isV (.int .u32 a0), isV (.int .u32 a0), isV (.bool true), isV (.bool true), isV (.bool true), isV (.bool true), isV (.bool true), isV (.bool true)]) (by kernel_rfl) rfl (byList_lasts ?_) (by kernel_rfl) (by kernel_rfl) (by kernel_rfl) (show AllLt 28 _ from ?_) ?_
  · intro p hp
    simp only [List.mem_cons, List.not_mem_nil, or_false] at hp
    rcases hp with rfl | rfl | rfl | rfl | rfl | rfl | rfl | rfl | rfl | rfl | rfl | rfl | rfl | rfl | rfl | rfl | rfl | rfl | rfl | rfl | rfl | rfl | rfl | rfl | rfl | rfl | rfl | rfl <;> first | exact isV_lasts | exact isC_lasts
  · refine allLt_succ (allLt_succ (allLt_succ (allLt_succ (allLt_succ (allLt_succ (allLt_succ (allLt_succ (allLt_succ (allLt_succ (allLt_succ (allLt_succ (allLt_succ (allLt_succ (allLt_succ (allLt_succ (allLt_succ (allLt_succ (allLt_succ (allLt_succ (allLt_succ (allLt_succ (allLt_succ (allLt_succ (allLt_succ (allLt_succ (allLt_succ (allLt_succ (allLt_zero _) ?_) ?_) ?_) ?_) ?_) ?_) ?_) ?_) ?_) ?_) ?_) ?_) ?_) ?_) ?_) ?_) ?_) ?_) ?_) ?_) ?_) ?_) ?_) ?_) ?_) ?_) ?_) ?_
    · refine StepOk.run (o := ?o0) ?ho0 ?hg0 ?h0
      case ho0 => simp only [List.getElem?_toArray, List.getElem?_cons_succ, List.getElem?_cons_zero]; rfl
      case hg0 => rfl
      case h0 =>
      intro a W hS hB hd
      refine wp_called Try.func28 (by kernel_rfl) rfl #[] rfl (by simp [Act.eval, *]) ?_
      refine (fixed3_any _).mono ?_
      rintro e w9 ⟨rfl, hb9⟩
      exact ⟨_, rfl, rfl, hb9⟩
    · refine StepOk.run (o := ?o1) ?ho1 ?hg1 ?h1
      case ho1 => simp only [List.getElem?_toArray, List.getElem?_cons_succ, List.getElem?_cons_zero]; rfl
      case hg1 => rfl
      case h1 =>
      intro a W hS hB hd
      have e42 : a.tmps[42]? = some (.bool true) := (hd 0 rfl).bool rfl rfl rfl
      refine wp_value (c := .bool true) ?_ rfl
      go_simp
    · refine StepOk.on (o := ?o2) (g := 1) (u := true) ?ho2 ?hg2 rfl rfl ?hw2 rfl ?h2
      case ho2 => simp only [List.getElem?_toArray, List.getElem?_cons_succ, List.getElem?_cons_zero]; rfl
      case hg2 => rfl
      case hw2 => rfl
      case h2 =>
      intro a W hS hB hd
      have e0 : a.tmps[0]? = some (.int .u32 a0) := hS.get rfl rfl
      refine wp_value (c := .int .u32 a0) ?_ rfl
      go_simp
    · refine StepOk.on (o := ?o3) (g := 1) (u := true) ?ho3 ?hg3 rfl rfl ?hw3 rfl ?h3
      case ho3 => simp only [List.getElem?_toArray, List.getElem?_cons_succ, List.getElem?_cons_zero]; rfl
      case hg3 => rfl
      case hw3 => rfl
      case h3 =>
      intro a W hS hB hd
      have e44 : a.tmps[44]? = some (.int .u32 a0) := (hd 2 rfl).bool rfl rfl rfl
      refine wp_called Try.func33 (by kernel_rfl) rfl #[.int .u32 a0] rfl (by simp [Act.eval, *]) ?_
      refine (crc_Bytes.calls a0 bs _ H3.out).mono ?_
      rintro e w9 ⟨v, rfl, ho9, hb9⟩
      obtain ⟨A9, c9, rfl⟩ := Kd.R_slice ho9
      exact ⟨_, rfl, ⟨A9, c9, rfl, (Kd.R_reads' ho9).2⟩, hb9⟩
    · refine StepOk.on (o := ?o4) (g := 1) (u := true) ?ho4 ?hg4 rfl rfl ?hw4 rfl ?h4
      case ho4 => simp only [List.getElem?_toArray, List.getElem?_cons_succ, List.getElem?_cons_zero]; rfl
      case hg4 => rfl
      case hw4 => rfl
      case h4 =>
      intro a W hS hB hd
      obtain ⟨u45, e45, p45⟩ := (hd 3 rfl).get rfl rfl
      replace p45 : (isC (Kd.int .u8) bs) u45 W := p45
      obtain ⟨A45, c45, rfl, hl45, hC45⟩ := p45
      refine wp_value (c := .string (strOfNums bs)) ?_ rfl
      have hcv := Kd.C_string (P := Try.prog) (A := A45) (c := c45) Try.underlying22 Try.underlying5 Try.underlying9 hC45
      go_simp
    · refine StepOk.on (o := ?o5) (g := 1) (u := true) ?ho5 ?hg5 rfl rfl ?hw5 rfl ?h5
      case ho5 => simp only [List.getElem?_toArray, List.getElem?_cons_succ, List.getElem?_cons_zero]; rfl
      case hg5 => rfl
      case hw5 => rfl
      case h5 =>
      intro a W hS hB hd
      have e0 : a.tmps[0]? = some (.int .u32 a0) := hS.get rfl rfl
      refine wp_value (c := .int .u32 a0) ?_ rfl
      go_simp
    · refine StepOk.on (o := ?o6) (g := 1) (u := true) ?ho6 ?hg6 rfl rfl ?hw6 rfl ?h6
      case ho6 => simp only [List.getElem?_toArray, List.getElem?_cons_succ, List.getElem?_cons_zero]; rfl
      case hg6 => rfl
      case hw6 => rfl
      case h6 =>
      intro a W hS hB hd
      have e47 : a.tmps[47]? = some (.int .u32 a0) := (hd 5 rfl).bool rfl rfl rfl
      refine wp_called Try.func34 (by kernel_rfl) rfl #[.int .u32 a0] rfl (by simp [Act.eval, *]) ?_
      refine (tephraref03_Bytes.calls a0 _ _ H5.out).mono ?_
      rintro e w9 ⟨rfl, hb9⟩
      exact ⟨_, rfl, rfl, hb9⟩
    · refine StepOk.on (o := ?o7) (g := 1) (u := true) ?ho7 ?hg7 rfl rfl ?hw7 rfl ?h7
      case ho7 => simp only [List.getElem?_toArray, List.getElem?_cons_succ, List.getElem?_cons_zero]; rfl
      case hg7 => rfl
      case hw7 => rfl
      case h7 =>
      intro a W hS hB hd
      have e46 : a.tmps[46]? = some (.string (strOfNums bs)) := (hd 4 rfl).bool rfl rfl rfl
      have e48 : a.tmps[48]? = some (.string (strOfNums bs)) := (hd 6 rfl).bool rfl rfl rfl
      refine wp_value (c := .bool true) ?_ rfl
      go_simp
    · refine StepOk.run (o := ?o8) ?ho8 ?hg8 ?h8
      case ho8 => simp only [List.getElem?_toArray, List.getElem?_cons_succ, List.getElem?_cons_zero]; rfl
      case hg8 => rfl
      case h8 =>
      intro a W hS hB hd
      have e43 : a.tmps[43]? = some (.bool true) := (hd 1 rfl).bool rfl rfl rfl
      have e49 : a.tmps[49]? = some (.bool true) := (hd 7 rfl).bool rfl rfl rfl
      refine wp_value (c := .bool true) ?_ rfl
      go_simp
    · refine StepOk.run (o := ?o9) ?ho9 ?hg9 ?h9
      case ho9 => simp only [List.getElem?_toArray, List.getElem?_cons_succ, List.getElem?_cons_zero]; rfl
      case hg9 => rfl
      case h9 =>
      intro a W hS hB hd
      have e50 : a.tmps[50]? = some (.bool true) := (hd 8 rfl).bool rfl rfl rfl
      refine wp_value (c := .bool true) ?_ rfl
      go_simp
    · refine StepOk.on (o := ?o10) (g := 9) (u := true) ?ho10 ?hg10 rfl rfl ?hw10 rfl ?h10
      case ho10 => simp only [List.getElem?_toArray, List.getElem?_cons_succ, List.getElem?_cons_zero]; rfl
      case hg10 => rfl
      case hw10 => rfl
      case h10 =>
      intro a W hS hB hd
      have e7 : a.tmps[7]? = some (.int .u32 x) := hS.get rfl rfl
      refine wp_value (c := .int .u32 x) ?_ rfl
      go_simp
    · refine StepOk.on (o := ?o11) (g := 9) (u := true) ?ho11 ?hg11 rfl rfl ?hw11 rfl ?h11
      case ho11 => simp only [List.getElem?_toArray, List.getElem?_cons_succ, List.getElem?_cons_zero]; rfl
      case hg11 => rfl
      case hw11 => rfl
      case h11 =>
      intro a W hS hB hd
      have e9 : a.tmps[9]? = some (.int .u32 x) := hS.get rfl rfl
      refine wp_value (c := .int .u32 x) ?_ rfl
      go_simp
    · refine StepOk.on (o := ?o12) (g := 9) (u := true) ?ho12 ?hg12 rfl rfl ?hw12 rfl ?h12
      case ho12 => simp only [List.getElem?_toArray, List.getElem?_cons_succ, List.getElem?_cons_zero]; rfl
      case hg12 => rfl
      case hw12 => rfl
      case h12 =>
      intro a W hS hB hd
      have e52 : a.tmps[52]? = some (.int .u32 x) := (hd 10 rfl).bool rfl rfl rfl
      have e53 : a.tmps[53]? = some (.int .u32 x) := (hd 11 rfl).bool rfl rfl rfl
      refine wp_value (c := .bool true) ?_ rfl
      go_simp
    · refine StepOk.run (o := ?o13) ?ho13 ?hg13 ?h13
      case ho13 => simp only [List.getElem?_toArray, List.getElem?_cons_succ, List.getElem?_cons_zero]; rfl
      case hg13 => rfl
      case h13 =>
      intro a W hS hB hd
      have e51 : a.tmps[51]? = some (.bool true) := (hd 9 rfl).bool rfl rfl rfl
      have e54 : a.tmps[54]? = some (.bool true) := (hd 12 rfl).bool rfl rfl rfl
      refine wp_value (c := .bool true) ?_ rfl
      go_simp
    · refine StepOk.run (o := ?o14) ?ho14 ?hg14 ?h14
      case ho14 => simp only [List.getElem?_toArray, List.getElem?_cons_succ, List.getElem?_cons_zero]; rfl
      case hg14 => rfl
      case h14 =>
      intro a W hS hB hd
      have e55 : a.tmps[55]? = some (.bool true) := (hd 13 rfl).bool rfl rfl rfl
      refine wp_value (c := .bool true) ?_ rfl
      go_simp
    · refine StepOk.on (o := ?o15) (g := 14) (u := true) ?ho15 ?hg15 rfl rfl ?hw15 rfl ?h15
      case ho15 => simp only [List.getElem?_toArray, List.getElem?_cons_succ, List.getElem?_cons_zero]; rfl
      case hg15 => rfl
      case hw15 => rfl
      case h15 =>
      intro a W hS hB hd
      have e8 : a.tmps[8]? = some (.bool ok) := hS.get rfl rfl
      refine wp_value (c := .bool ok) ?_ rfl
      go_simp
    · refine StepOk.on (o := ?o16) (g := 14) (u := true) ?ho16 ?hg16 rfl rfl ?hw16 rfl ?h16
      case ho16 => simp only [List.getElem?_toArray, List.getElem?_cons_succ, List.getElem?_cons_zero]; rfl
      case hg16 => rfl
      case hw16 => rfl
      case h16 =>
      intro a W hS hB hd
      have e10 : a.tmps[10]? = some (.bool ok) := hS.get rfl rfl
      refine wp_value (c := .bool ok) ?_ rfl
      go_simp
    · refine StepOk.on (o := ?o17) (g := 14) (u := true) ?ho17 ?hg17 rfl rfl ?hw17 rfl ?h17
      case ho17 => simp only [List.getElem?_toArray, List.getElem?_cons_succ, List.getElem?_cons_zero]; rfl
      case hg17 => rfl
      case hw17 => rfl
      case h17 =>
      intro a W hS hB hd
      have e57 : a.tmps[57]? = some (.bool ok) := (hd 15 rfl).bool rfl rfl rfl
      have e58 : a.tmps[58]? = some (.bool ok) := (hd 16 rfl).bool rfl rfl rfl
      refine wp_value (c := .bool true) ?_ rfl
      go_simp
    · refine StepOk.run (o := ?o18) ?ho18 ?hg18 ?h18
      case ho18 => simp only [List.getElem?_toArray, List.getElem?_cons_succ, List.getElem?_cons_zero]; rfl
      case hg18 => rfl
      case h18 =>
      intro a W hS hB hd
      have e56 : a.tmps[56]? = some (.bool true) := (hd 14 rfl).bool rfl rfl rfl
      have e59 : a.tmps[59]? = some (.bool true) := (hd 17 rfl).bool rfl rfl rfl
      refine wp_value (c := .bool true) ?_ rfl
      go_simp
    · refine StepOk.run (o := ?o19) ?ho19 ?hg19 ?h19
      case ho19 => simp only [List.getElem?_toArray, List.getElem?_cons_succ, List.getElem?_cons_zero]; rfl
      case hg19 => rfl
      case h19 =>
      intro a W hS hB hd
      have e60 : a.tmps[60]? = some (.bool true) := (hd 18 rfl).bool rfl rfl rfl
      refine wp_value (c := .bool true) ?_ rfl
      go_simp
    · refine StepOk.on (o := ?o20) (g := 19) (u := true) ?ho20 ?hg20 rfl rfl ?hw20 rfl ?h20
      case ho20 => simp only [List.getElem?_toArray, List.getElem?_cons_succ, List.getElem?_cons_zero]; rfl
      case hg20 => rfl
      case hw20 => rfl
      case h20 =>
      intro a W hS hB hd
      have e11 : a.tmps[11]? = some (.int .u32 a0) := hS.get rfl rfl
      refine wp_value (c := .int .u32 a0) ?_ rfl
      go_simp
    · refine StepOk.on (o := ?o21) (g := 19) (u := true) ?ho21 ?hg21 rfl rfl ?hw21 rfl ?h21
      case ho21 => simp only [List.getElem?_toArray, List.getElem?_cons_succ, List.getElem?_cons_zero]; rfl
      case hg21 => rfl
      case hw21 => rfl
      case h21 =>
      intro a W hS hB hd
      have e0 : a.tmps[0]? = some (.int .u32 a0) := hS.get rfl rfl
      refine wp_value (c := .int .u32 a0) ?_ rfl
      go_simp
    · refine StepOk.on (o := ?o22) (g := 19) (u := true) ?ho22 ?hg22 rfl rfl ?hw22 rfl ?h22
      case ho22 => simp only [List.getElem?_toArray, List.getElem?_cons_succ, List.getElem?_cons_zero]; rfl
      case hg22 => rfl
      case hw22 => rfl
      case h22 =>
      intro a W hS hB hd
      have e62 : a.tmps[62]? = some (.int .u32 a0) := (hd 20 rfl).bool rfl rfl rfl
      have e63 : a.tmps[63]? = some (.int .u32 a0) := (hd 21 rfl).bool rfl rfl rfl
      refine wp_value (c := .bool true) ?_ rfl
      go_simp
    · refine StepOk.run (o := ?o23) ?ho23 ?hg23 ?h23
      case ho23 => simp only [List.getElem?_toArray, List.getElem?_cons_succ, List.getElem?_cons_zero]; rfl
      case hg23 => rfl
      case h23 =>
      intro a W hS hB hd
      have e61 : a.tmps[61]? = some (.bool true) := (hd 19 rfl).bool rfl rfl rfl
      have e64 : a.tmps[64]? = some (.bool true) := (hd 22 rfl).bool rfl rfl rfl
      refine wp_value (c := .bool true) ?_ rfl
      go_simp
    · refine StepOk.run (o := ?o24) ?ho24 ?hg24 ?h24
      case ho24 => simp only [List.getElem?_toArray, List.getElem?_cons_succ, List.getElem?_cons_zero]; rfl
      case hg24 => rfl
      case h24 =>
      intro a W hS hB hd
      have e65 : a.tmps[65]? = some (.bool true) := (hd 23 rfl).bool rfl rfl rfl
      refine wp_value (c := .bool true) ?_ rfl
      go_simp
    · refine StepOk.on (o := ?o25) (g := 24) (u := true) ?ho25 ?hg25 rfl rfl ?hw25 rfl ?h25
      case ho25 => simp only [List.getElem?_toArray, List.getElem?_cons_succ, List.getElem?_cons_zero]; rfl
      case hg25 => rfl
      case hw25 => rfl
      case h25 =>
      intro a W hS hB hd
      have e12 : a.tmps[12]? = some (.bool true) := hS.get rfl rfl
      refine wp_value (c := .bool true) ?_ rfl
      go_simp
    · refine StepOk.run (o := ?o26) ?ho26 ?hg26 ?h26
      case ho26 => simp only [List.getElem?_toArray, List.getElem?_cons_succ, List.getElem?_cons_zero]; rfl
      case hg26 => rfl
      case h26 =>
      intro a W hS hB hd
      have e66 : a.tmps[66]? = some (.bool true) := (hd 24 rfl).bool rfl rfl rfl
      have e67 : a.tmps[67]? = some (.bool true) := (hd 25 rfl).bool rfl rfl rfl
      refine wp_value (c := .bool true) ?_ rfl
      go_simp
    · refine StepOk.run (o := ?o27) ?ho27 ?hg27 ?h27
      case ho27 => simp only [List.getElem?_toArray, List.getElem?_cons_succ, List.getElem?_cons_zero]; rfl
      case hg27 => rfl
      case h27 =>
      intro a W hS hB hd
      have e68 : a.tmps[68]? = some (.bool true) := (hd 26 rfl).bool rfl rfl rfl
      refine wp_value (c := .bool true) ?_ rfl
      go_simp
  · intro a W hS hB hh
    go_wp2
    have hr := (hh 27 (by omega)).bool rfl rfl rfl
    exact bodyPost_ret (v := .bool true) (by simp [results, Try.results13, hr, go_sem]) hS.2.1 ⟨rfl, hb8.trans (hB.mono hb8.size)⟩

set_option maxHeartbeats 400000 in
theorem crcBytes_great (A1 : Option Addr) (c1 : Nat) (a0 : Int) (l1 : List Int) (a2 : Int) (w : World) (hle : 300 < (l1.length : Int)) (hm : l1.length ≤ 9223372036854775807) :
    Calls Try.prog 13 #[.int .u32 a0, .slice A1 l1.length c1, .int .i64 a2] w fun e w' => e = .returned (.bool true) ∧ Below w.heap.size w w' := by
  go_enter Try.func13, Try.ntmps13
  have hd : decide (300 < (l1.length : Int)) = true := decide_eq_true hle
  go_wp2_with (go_at_call 28; refine (fixed3_any _).mono ?_; rintro e w1 ⟨rfl, hb⟩)
  go_ret
  exact ⟨rfl, hb⟩
theorem walk (a0 : Int) (a1 : Option Addr) (len1 cap1 : Nat) (z1 : List Int) (a2 : Int) (w : World) (w0 : (Lit.int .u32 a0).wf = true) (w1 : (a1 = none ∧ len1 = 0 ∧ cap1 = 0 ∧ z1 = []) ∨ ∃ x, a1 = some x ∧ len1 ≤ cap1 ∧ cap1 ≤ maxLen ∧ z1.length = cap1 ∧ (∀ i, i < z1.length → w.cell? (x.add i) = some (.int .u8 (z1.getD i 0))) ∧ ∀ n ∈ z1, (Lit.int .u8 n).wf = true) (y1 : len1 * 1 ≤ 140737488351232) (w2 : (Lit.int .i64 a2).wf = true) :
    Calls Try.prog 13 #[.int .u32 a0, .slice a1 len1 cap1, .int .i64 a2] w fun e w' => e = .returned (.bool true) ∧ Below w.heap.size w w' := by
  obtain ⟨l, rfl, hr, hm, hb, hc⟩ := ReadsInt.ofRowC w1
  have hr := Kd.C_of_reads (d := (0 : Int)) (h1 := fun _ => rfl) hr
  have hs' : 0 ≤ a0 ∧ a0 < 4294967296 := by simp [Lit.wf, IntKind.min, IntKind.max, IntKind.signed, IntKind.bits] at w0; omega
  have ha' : -9223372036854775808 ≤ a2 ∧ a2 ≤ 9223372036854775807 := by simp [Lit.wf, IntKind.min, IntKind.max, IntKind.signed, IntKind.bits] at w2; omega
  by_cases hle : (l.length : Int) ≤ 300
  · have hb2 : ∀ x ∈ l ++ [a0 % 256, a0 / 256 % 256, a0 / 65536 % 256, a0 / 16777216 % 256], (Lit.int .u8 x).wf = true := by
      intro x hx
      rcases List.mem_append.1 hx with hx | hx
      · exact hb x hx
      · simp at hx
        simp [Lit.wf, IntKind.min, IntKind.max, IntKind.signed, IntKind.bits]; omega
    refine crcBytes_main 7 a1 cap1 a0 l a2 w _ _ [a0 % 256, a0 / 256 % 256, a0 / 65536 % 256, a0 / 16777216 % 256] hr hc hle (read_eq 7 (by omega) l a2 (by omega) hb ha') (ref_eq l a2 (by omega) hb ha') rfl rfl ?_ ?_
    · rw [read_eq 7 (by omega) _ (l.length : Int) (by simp; omega) hb2 (by omega), if_pos (by simp)]
      have h4 : at4 (l ++ [a0 % 256, a0 / 256 % 256, a0 / 65536 % 256, a0 / 16777216 % 256]) (l.length : Int) = a0 := by
        unfold at4
        rw [rd_app l _ (l.length : Int) 0 (by omega) (by omega), rd_app l _ _ 1 (by omega) (by omega), rd_app l _ _ 2 (by omega) (by omega), rd_app l _ _ 3 (by omega) (by omega)]
        simp [rd]; omega
      rw [h4]
    · unfold tephraref03_Bytes.f
      rw [Int.tmod_eq_emod_of_nonneg hs'.1, Int.tdiv_eq_ediv_of_nonneg hs'.1, Int.tdiv_eq_ediv_of_nonneg hs'.1, Int.tdiv_eq_ediv_of_nonneg hs'.1]
      rw [show a0 % 256 % 256 = a0 % 256 by omega, show a0 / 256 % 4294967296 % 256 = a0 / 256 % 256 by omega, show a0 / 65536 % 4294967296 % 256 = a0 / 65536 % 256 by omega, show a0 / 16777216 % 4294967296 % 256 = a0 / 16777216 % 256 by omega]
  · exact crcBytes_great a1 cap1 a0 l a2 w (by omega) (by have := hr.2.1; omega)
end Go.Proofs.Ythojcapdbjmneaa.WCrcBytes
