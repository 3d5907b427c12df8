/- A step of the cursor and the document's: they agree. -/
import Derived.Test.YthpbkhagjgggjaaCuO
set_option linter.unusedVariables false
set_option linter.unusedSimpArgs false
namespace Go.Proofs.Ythpbkhagjgggjaa
open Go.RowKit Go.Proofs.YthpbkhagjgggjaaW.PrintWords Go.Proofs.Ythpbkhagjgggjaa.GVB

theorem blk_of_grown {w w' : World} {g : Nat} {o : Obj} {row : Option Nat} (h : w.heap[g]? = some o) (hg : w.grownBy w' row) (hne : some g ≠ row) : w'.heap[g]? = some o := blk_grown h hg hne
theorem grown_after {w w1 w2 : World} {row : Option Nat} (h : w.grownBy w1 none) (h2 : w1.grownBy w2 row) : w.grownBy w2 row :=
  ⟨h2.os.trans h.os, h2.tape.trans h.tape, h2.output.trans h.output, Nat.le_trans h.size h2.size, fun k hk hne => (h2.block k (Nat.lt_of_lt_of_le hk h.size) hne).trans (h.block k hk (by simp))⟩
def StepPost (w0 w : World) (g : Nat) (l : List Int) (aa ee : Int) (en : Ending) (w' : World) : Prop :=
  en = .returned (.tuple #[.agg #[.pointer (some ⟨g, 0, none⟩), .string (strOfNums l), .int .i64 aa, .int .i64 ee], .bool true]) ∧ IsCu w0 w' g l aa ee ∧ w.grownBy w' (some g) ∧ Below w0.heap.size w0 w'
theorem same_nums (l : List Int) (hll : l.length ≤ 1000000) : ∀ (m k i : Nat), l.length - i < m → i ≤ l.length → m ≤ k → tephraref04_SameNumbers.l0 k l l (i : Int) = some true := by
  intro m
  induction m with
  | zero => intro k i h; omega
  | succ m ih =>
    intro k i hi hl hk
    obtain ⟨k, rfl⟩ : ∃ n, k = n + 1 := ⟨k - 1, by omega⟩
    unfold tephraref04_SameNumbers.l0
    by_cases h : i < l.length
    · rw [if_pos (by omega), if_pos (by omega), if_pos (by omega), if_pos rfl, w64 ((i : Int) + 1) (by omega) (by omega)]
      have := ih k (i + 1) (by omega) (by omega) (by omega)
      simpa using this
    · rw [if_neg (by omega)]
theorem same_strs (l : List ByteArray) (hll : l.length ≤ 1000000) : ∀ (m k i : Nat), l.length - i < m → i ≤ l.length → m ≤ k → tephraref04_Same.l0 k l l (i : Int) = some true := by
  intro m
  induction m with
  | zero => intro k i h; omega
  | succ m ih =>
    intro k i hi hl hk
    obtain ⟨k, rfl⟩ : ∃ n, k = n + 1 := ⟨k - 1, by omega⟩
    unfold tephraref04_Same.l0
    by_cases h : i < l.length
    · rw [if_pos (by omega), if_pos (by omega), if_pos (by omega), if_pos rfl, w64 ((i : Int) + 1) (by omega) (by omega)]
      have := ih k (i + 1) (by omega) (by omega) (by omega)
      simpa using this
    · rw [if_neg (by omega)]
theorem same_nums_f (l : List Int) (hll : l.length ≤ 1000000) : tephraref04_SameNumbers.f 1000001 l l = some true := by
  unfold tephraref04_SameNumbers.f
  rw [if_pos rfl]
  exact same_nums l hll (l.length + 1) 1000001 0 (by omega) (by omega) (by omega)
theorem same_strs_f (l : List ByteArray) (hll : l.length ≤ 1000000) : tephraref04_Same.f 1000001 l l = some true := by
  unfold tephraref04_Same.f
  rw [if_pos rfl]
  exact same_strs l hll (l.length + 1) 1000001 0 (by omega) (by omega) (by omega)
theorem put4_keep {W : World} {g k : Nat} (h : k ≠ g) (v1 v2 v3 : Value) : (((W.setCell ⟨g, 1, none⟩ v1).setCell ⟨g, 2, none⟩ v2).setCell ⟨g, 3, none⟩ v3).heap[k]? = W.heap[k]? := by
  rw [Below.heap_setCell _ _ _ _ h, Below.heap_setCell _ _ _ _ h, Below.heap_setCell _ _ _ _ h]
theorem grown_then {w w1 w2 : World} {row : Option Nat} (h : w.grownBy w1 row) (h2 : Below w1.heap.size w1 w2) : w.grownBy w2 row :=
  ⟨h2.os.trans h.os, h2.tape.trans h.tape, h2.output.trans h.output, Nat.le_trans h.size h2.size, fun k hk hne => (h2.block k (Nat.lt_of_lt_of_le hk h.size)).trans (h.block k hk hne)⟩
set_option maxRecDepth 100000 in
set_option maxHeartbeats 4000000 in
theorem step_0 (w0 w : World) (g : Nat) (l : List Int) (a e kd most each : Int) (hI : IsCu w0 w g l a e) (hB : Below w0.heap.size w0 w) (hb : ∀ x ∈ l, 0 ≤ x ∧ x < 256) (hl : l.length ≤ 1000000) (ha : 0 ≤ a ∧ a ≤ l.length) (hmost : -9223372036854775808 ≤ most ∧ most ≤ 9223372036854775807) (heach : -9223372036854775808 ≤ each ∧ each ≤ 9223372036854775807) :
    Calls Try.prog 25 #[.agg #[.pointer (some ⟨g, 0, none⟩), .string (strOfNums l), .int .i64 a, .int .i64 e], .agg #[.int .i64 0, .int .i64 most, .int .i64 each]] w fun en w' => ∃ aa ee : Int, 0 ≤ aa ∧ aa ≤ (l.length : Int) ∧ StepPost w0 w g l aa ee en w' := by
  have HR := Lib.hid (fun (W : World) => tephraref04_Cursor_Byte.calls _ _ _ _ _ _ _ W (rbyte_is l hb hl a e ha))
  have HC := Lib.hid (fun (W : World) h1 h2 => byte_any w0 W g l a e h1 h2 hl ha)
  have hst := (cuByte_step l hb a e ha)
  obtain ⟨R, hR⟩ : ∃ R, cuByte l a e = R := ⟨_, rfl⟩
  rw [hR] at HR HC hst
  obtain ⟨x, aa, ee⟩ := R
  dsimp only at hst
  have ha2 : 0 ≤ aa ∧ aa ≤ l.length := ⟨by omega, hst.1⟩
  clear hst hR
  obtain ⟨w1, hw1⟩ : ∃ w1, ((w.alloc (.cells #[.pointer (some ⟨g, 0, none⟩), .string (strOfNums l), .int .i64 a, .int .i64 e] 42)).alloc (.cells #[.int .i64 0, .int .i64 most, .int .i64 each] 44)).alloc (.cells #[.pointer none, .string ⟨#[]⟩, .int .i64 0, .int .i64 0] 42) = w1 := ⟨_, rfl⟩
  have hgw : g < w.heap.size := by obtain ⟨_, _, h, _⟩ := hI; exact blk_lt h
  obtain ⟨b2, hb2⟩ : ∃ b, w.heap.size = b := ⟨_, rfl⟩
  obtain ⟨b3, hb3⟩ : ∃ b, b2 + 1 = b := ⟨_, rfl⟩
  obtain ⟨b4, hb4⟩ : ∃ b, b3 + 1 = b := ⟨_, rfl⟩
  obtain ⟨hk2, hk3, hk4, hb01⟩ : w1.heap[b2]? = some (.cells #[.pointer (some ⟨g, 0, none⟩), .string (strOfNums l), .int .i64 a, .int .i64 e] 42 (0, 0)) ∧ w1.heap[b3]? = some (.cells #[.int .i64 0, .int .i64 most, .int .i64 each] 44 (0, 0)) ∧ w1.heap[b4]? = some (.cells #[.pointer none, .string ⟨#[]⟩, .int .i64 0, .int .i64 0] 42 (0, 0)) ∧ Below w.heap.size w w1 := by
    rw [← hw1, ← hb4, ← hb3, ← hb2]
    have s1 := blk_new w (.cells #[.pointer (some ⟨g, 0, none⟩), .string (strOfNums l), .int .i64 a, .int .i64 e] 42 (0, 0))
    have s2 := blk_new (w.alloc (.cells #[.pointer (some ⟨g, 0, none⟩), .string (strOfNums l), .int .i64 a, .int .i64 e] 42 (0, 0))) (.cells #[.int .i64 0, .int .i64 most, .int .i64 each] 44 (0, 0))
    have s3 := blk_new ((w.alloc (.cells #[.pointer (some ⟨g, 0, none⟩), .string (strOfNums l), .int .i64 a, .int .i64 e] 42 (0, 0))).alloc (.cells #[.int .i64 0, .int .i64 most, .int .i64 each] 44 (0, 0))) (.cells #[.pointer none, .string ⟨#[]⟩, .int .i64 0, .int .i64 0] 42 (0, 0))
    rw [heap_size_alloc] at s2 s3
    rw [heap_size_alloc] at s3
    have al := fun (W : World) (o : Obj) => (Below.refl W.heap.size W).alloc (Nat.le_refl _) o
    exact ⟨blk_below (blk_below s1 (al _ _)) (al _ _), blk_below s2 (al _ _), s3, ((Below.refl _ _).alloc (Nat.le_refl _) _).alloc (by rw [heap_size_alloc]; omega) _ |>.alloc (by rw [heap_size_alloc, heap_size_alloc]; omega) _⟩
  have hs2 : b4 < w1.heap.size := blk_lt hk4
  have HBW := Lib.hid (And.intro hI (And.intro hB (And.intro hb01 (And.intro hs2 hgw))))
  have HK := Lib.hid (And.intro hk2 (And.intro hk3 hk4))
  have x0 := (blk_cell hk2 0).trans rfl
  have x1 := (blk_cell hk2 1).trans rfl
  have x2 := (blk_cell hk2 2).trans rfl
  have x3 := (blk_cell hk2 3).trans rfl
  have x4 := (blk_cell hk3 0).trans rfl
  have x5 := (blk_cell hk3 1).trans rfl
  have x6 := (blk_cell hk3 2).trans rfl
  clear hI hB hgw hb01 hs2 hk2 hk3 hk4
  go_enter Try.func25, Try.ntmps25
  go_wp2_with fail
  refine (HR.out _).mono ?_
  rintro en w2 ⟨rfl, hb12⟩
  obtain ⟨wA, hwA⟩ : ∃ wA, w2.alloc (.cells #[.string (strOfNums l), .int .i64 aa, .int .i64 ee] 39) = wA := ⟨_, rfl⟩
  have hbA : Below w1.heap.size w1 wA := by rw [← hwA]; exact hb12.alloc hb12.size _
  have nA := (blk_new w2 (.cells #[.string (strOfNums l), .int .i64 aa, .int .i64 ee] 39 (0, 0)))
  rw [hwA] at nA
  obtain ⟨hk2, hk3, hk4⟩ := HK.out
  have kA2 := blk_below hk2 hbA
  have kA3 := blk_below hk3 hbA
  have kA4 := blk_below hk4 hbA
  clear hk2 hk3 hk4 x0 x1 x2 x3 x4 x5 x6
  obtain ⟨w3, hw3⟩ : ∃ w3, ((wA.setCell ⟨b2, 1, none⟩ (.string (strOfNums l))).setCell ⟨b2, 2, none⟩ (.int .i64 aa)).setCell ⟨b2, 3, none⟩ (.int .i64 ee) = w3 := ⟨_, rfl⟩
  have HK3 := Lib.hid (show w3.heap[b2]? = some (.cells #[.pointer (some ⟨g, 0, none⟩), .string (strOfNums l), .int .i64 aa, .int .i64 ee] 42 (0, 0)) ∧ w3.heap[b3]? = some (.cells #[.int .i64 0, .int .i64 most, .int .i64 each] 44 (0, 0)) ∧ w3.heap[b4]? = some (.cells #[.pointer none, .string ⟨#[]⟩, .int .i64 0, .int .i64 0] 42 (0, 0)) ∧ Below w.heap.size w w3 by
    rw [← hw3]
    refine ⟨blk_put4 kA2 _ _ _, ?_, ?_, below_put4 (HBW.out.2.2.1.trans (hbA.mono HBW.out.2.2.1.size)) (by omega) _ _ _⟩
    · rw [Below.heap_setCell _ _ _ _ (by show b3 ≠ b2; omega), Below.heap_setCell _ _ _ _ (by show b3 ≠ b2; omega), Below.heap_setCell _ _ _ _ (by show b3 ≠ b2; omega)]; exact kA3
    · rw [Below.heap_setCell _ _ _ _ (by show b4 ≠ b2; omega), Below.heap_setCell _ _ _ _ (by show b4 ≠ b2; omega), Below.heap_setCell _ _ _ _ (by show b4 ≠ b2; omega)]; exact kA4)
  have y1 := (blk_cell kA2 1).trans rfl
  have y2 := (blk_cell kA2 2).trans rfl
  have y3 := (blk_cell kA2 3).trans rfl
  have z1 := blk_frozen kA2 1
  have z2 := blk_frozen kA2 2
  have z3 := blk_frozen kA2 3
  have n0 := (blk_cell nA 0).trans rfl
  have n1 := (blk_cell nA 1).trans rfl
  have n2 := (blk_cell nA 2).trans rfl
  have x0 := (blk_cell HK3.out.1 0).trans rfl
  have x5 := (blk_cell HK3.out.2.1 1).trans rfl
  have x6 := (blk_cell HK3.out.2.1 2).trans rfl
  have HIB := Lib.hid (And.intro (HBW.out.1.keep HK3.out.2.2.2) (HBW.out.2.1.trans (HK3.out.2.2.2.mono HBW.out.2.1.size)))
  clear kA2 kA3 kA4 nA hbA hb12
  go_wp2_with fail
  clear y1 y2 y3 z1 z2 z3 n0 n1 n2 hwA hw3
  refine (HC.out _ HIB.out.1 HIB.out.2).mono ?_
  rintro en wT ⟨rfl, hI4, hg4, hB4⟩
  obtain ⟨kT2, kT4, hbT⟩ : wT.heap[b2]? = some (.cells #[.pointer (some ⟨g, 0, none⟩), .string (strOfNums l), .int .i64 aa, .int .i64 ee] 42 (0, 0)) ∧ wT.heap[b4]? = some (.cells #[.pointer none, .string ⟨#[]⟩, .int .i64 0, .int .i64 0] 42 (0, 0)) ∧ w.grownBy wT (some g) := by
    obtain ⟨h1, h2, h3, h4⟩ := HK3.out
    have hgw := HBW.out.2.2.2.2
    exact ⟨blk_grown h1 hg4 (by intro h; cases h; omega), blk_grown h3 hg4 (by intro h; cases h; omega), grown_after (grownBy_none h4) hg4⟩
  clear hg4
  go_wp2_with fail
  have hne2 : b2 ≠ b4 := by omega
  have hneg : g ≠ b4 := by have := HBW.out.2.2.2.2; omega
  have hsz4 : w.heap.size ≤ wT.heap.size := hbT.size
  have HU := Lib.hid Try.underlying42
  have hb24 : w.heap.size ≤ b4 := by omega
  clear hb2 hb3 hb4
  have HW4 := Lib.hid (And.intro hB4 hbT)
  clear hB4 hbT HK HK3 HIB HR HC x0 x5 x6 hw1
  refine region_one (n := 36) (base := w.heap.size) (w0 := wT) (b := b4) (jw := 34) (byList [isV (.agg #[.pointer (some ⟨g, 0, none⟩), .string (strOfNums l), .int .i64 aa, .int .i64 ee]), isV (.bool true), isV (.bool true), isV (.pointer (some ⟨b2, 0, none⟩)), isV (.pointer (some ⟨g, 0, none⟩)), isV (.int .i64 ee), isV (.pointer (some ⟨b2, 1, none⟩)), isV (.pointer (some ⟨b2, 3, none⟩)), isV (.int .i64 ee), isV (.bool true), isV (.bool true), isV (.bool true), isV (.pointer (some ⟨b2, 0, none⟩)), isV (.pointer (some ⟨g, 0, none⟩)), isV (.int .i64 aa), isV (.pointer (some ⟨b2, 1, none⟩)), isV (.pointer (some ⟨b2, 2, none⟩)), isV (.int .i64 aa), isV (.bool true), isV (.bool true), isV (.bool true), isV (.pointer (some ⟨b2, 0, none⟩)), isV (.pointer (some ⟨g, 0, none⟩)), isV (.int .i64 ((l.length : Int) - aa)), isV (.pointer (some ⟨b2, 1, none⟩)), isV (.pointer (some ⟨b2, 1, none⟩)), isV (.string (strOfNums l)), isV (.int .i64 (l.length : Int)), isV (.pointer (some ⟨b2, 1, none⟩)), isV (.pointer (some ⟨b2, 2, none⟩)), isV (.int .i64 aa), isV (.int .i64 ((l.length : Int) - aa)), isV (.bool true), isV (.bool true), (fun _ _ => True), isV (.bool true)]) (fun W => W.heap[b2]? = some (.cells #[.pointer (some ⟨g, 0, none⟩), .string (strOfNums l), .int .i64 aa, .int .i64 ee] 42 (0, 0)) ∧ IsCu w0 W g l aa ee) (fun W => W.heap[b4]? = some (.cells #[.pointer none, .string ⟨#[]⟩, .int .i64 0, .int .i64 0] 42 (0, 0))) (fun W => W.heap[b4]? = some (.cells #[.pointer (some ⟨g, 0, none⟩), .string (strOfNums l), .int .i64 aa, .int .i64 ee] 42 (0, 0))) (by kernel_rfl) rfl (by omega) (byList_any ?_) (by kernel_rfl) (by kernel_rfl) (by omega) (fun W W' row hrow h hg => ⟨blk_grown h.1 hg (by rcases hrow with rfl | rfl <;> simp <;> omega), h.2.grown hg (by rcases hrow with rfl | rfl <;> simp <;> omega)⟩) (fun W W' h hg => blk_below h (below_none hg)) (fun W W' h hg => blk_below h (below_none hg)) (Below.refl _ _) hsz4 ⟨kT2, hI4⟩ kT4 (show AllLt 36 _ from ?_) ?_
  · intro p hp
    simp only [List.mem_cons, List.not_mem_nil, or_false] at hp
    rcases hp with rfl | rfl | rfl | rfl | rfl | rfl | rfl | rfl | rfl | rfl | rfl | rfl | rfl | rfl | rfl | rfl | rfl | rfl | rfl | rfl | rfl | rfl | rfl | rfl | rfl | rfl | rfl | rfl | rfl | rfl | rfl | rfl | rfl | rfl | rfl | rfl <;> exact fun _ _ _ h => h
  · refine allLt_succ (allLt_succ (allLt_succ (allLt_succ (allLt_succ (allLt_succ (allLt_succ (allLt_succ (allLt_succ (allLt_succ (allLt_succ (allLt_succ (allLt_succ (allLt_succ (allLt_succ (allLt_succ (allLt_succ (allLt_succ (allLt_succ (allLt_succ (allLt_succ (allLt_succ (allLt_succ (allLt_succ (allLt_succ (allLt_succ (allLt_succ (allLt_succ (allLt_succ (allLt_succ (allLt_succ (allLt_succ (allLt_succ (allLt_succ (allLt_succ (allLt_succ (allLt_zero _) ?_) ?_) ?_) ?_) ?_) ?_) ?_) ?_) ?_) ?_) ?_) ?_) ?_) ?_) ?_) ?_) ?_) ?_) ?_) ?_) ?_) ?_) ?_) ?_) ?_) ?_) ?_) ?_) ?_) ?_) ?_) ?_) ?_) ?_) ?_) ?_
    · refine StepOkO.run (o := ?o0) ?ho0 ?hg0 (by omega) ?h0
      case ho0 => simp only [List.getElem?_toArray, List.getElem?_cons_succ, List.getElem?_cons_zero]; rfl
      case hg0 => rfl
      case h0 =>
      intro a W hS hB hd hR
      have e2 : a.tmps[2]? = some (.pointer (some ⟨b2, 0, none⟩)) := hS.get rfl rfl
      refine wp_value (c := .agg #[.pointer (some ⟨g, 0, none⟩), .string (strOfNums l), .int .i64 aa, .int .i64 ee]) ?_ rfl
      have c0 : W.cell? ⟨b2, 0, none⟩ = some (.pointer (some ⟨g, 0, none⟩)) := (blk_cell hR.1 0).trans rfl
      have c1 : W.cell? ⟨b2, 1, none⟩ = some (.string (strOfNums l)) := (blk_cell hR.1 1).trans rfl
      have c2 : W.cell? ⟨b2, 2, none⟩ = some (.int .i64 aa) := (blk_cell hR.1 2).trans rfl
      have c3 : W.cell? ⟨b2, 3, none⟩ = some (.int .i64 ee) := (blk_cell hR.1 3).trans rfl
      go_simp
    · refine StepOkO.run (o := ?o1) ?ho1 ?hg1 (by omega) ?h1
      case ho1 => simp only [List.getElem?_toArray, List.getElem?_cons_succ, List.getElem?_cons_zero]; rfl
      case hg1 => rfl
      case h1 =>
      intro a W hS hB hd hR
      have e6 : a.tmps[6]? = some (.bool true) := hS.get rfl rfl
      refine wp_value (c := .bool true) ?_ rfl
      go_simp
    · refine StepOkO.run (o := ?o2) ?ho2 ?hg2 (by omega) ?h2
      case ho2 => simp only [List.getElem?_toArray, List.getElem?_cons_succ, List.getElem?_cons_zero]; rfl
      case hg2 => rfl
      case h2 =>
      intro a W hS hB hd hR
      have e124 : a.tmps[124]? = some (.bool true) := (hd 1 rfl).bool rfl rfl rfl
      refine wp_value (c := .bool true) ?_ rfl
      go_simp
    · refine StepOkO.on (o := ?o3) (g := 2) (u := true) ?ho3 ?hg3 (by omega) rfl rfl ?hw3 rfl ?h3
      case ho3 => simp only [List.getElem?_toArray, List.getElem?_cons_succ, List.getElem?_cons_zero]; rfl
      case hg3 => rfl
      case hw3 => rfl
      case h3 =>
      intro a W hS hB hd hR
      have e2 : a.tmps[2]? = some (.pointer (some ⟨b2, 0, none⟩)) := hS.get rfl rfl
      refine wp_value (c := .pointer (some ⟨b2, 0, none⟩)) ?_ rfl
      go_simp
    · refine StepOkO.on (o := ?o4) (g := 2) (u := true) ?ho4 ?hg4 (by omega) rfl rfl ?hw4 rfl ?h4
      case ho4 => simp only [List.getElem?_toArray, List.getElem?_cons_succ, List.getElem?_cons_zero]; rfl
      case hg4 => rfl
      case hw4 => rfl
      case h4 =>
      intro a W hS hB hd hR
      have e126 : a.tmps[126]? = some (.pointer (some ⟨b2, 0, none⟩)) := (hd 3 rfl).bool rfl rfl rfl
      refine wp_value (c := .pointer (some ⟨g, 0, none⟩)) ?_ rfl
      have c0 : W.cell? ⟨b2, 0, none⟩ = some (.pointer (some ⟨g, 0, none⟩)) := (blk_cell hR.1 0).trans rfl
      have c1 : W.cell? ⟨b2, 1, none⟩ = some (.string (strOfNums l)) := (blk_cell hR.1 1).trans rfl
      have c2 : W.cell? ⟨b2, 2, none⟩ = some (.int .i64 aa) := (blk_cell hR.1 2).trans rfl
      have c3 : W.cell? ⟨b2, 3, none⟩ = some (.int .i64 ee) := (blk_cell hR.1 3).trans rfl
      go_simp
    · refine StepOkO.on (o := ?o5) (g := 2) (u := true) ?ho5 ?hg5 (by omega) rfl rfl ?hw5 rfl ?h5
      case ho5 => simp only [List.getElem?_toArray, List.getElem?_cons_succ, List.getElem?_cons_zero]; rfl
      case hg5 => rfl
      case hw5 => rfl
      case h5 =>
      intro a W hS hB hd hR
      have e127 : a.tmps[127]? = some (.pointer (some ⟨g, 0, none⟩)) := (hd 4 rfl).bool rfl rfl rfl
      refine wp_called Try.func20 (by kernel_rfl) rfl #[.pointer (some ⟨g, 0, none⟩)] rfl (by simp [Act.eval, *]) ?_
      refine (err_any w0 W g l aa ee hR.2).mono ?_
      rintro e9 w9 ⟨rfl, rfl⟩
      exact ⟨_, rfl, rfl, Below.refl _ _⟩
    · refine StepOkO.on (o := ?o6) (g := 2) (u := true) ?ho6 ?hg6 (by omega) rfl rfl ?hw6 rfl ?h6
      case ho6 => simp only [List.getElem?_toArray, List.getElem?_cons_succ, List.getElem?_cons_zero]; rfl
      case hg6 => rfl
      case hw6 => rfl
      case h6 =>
      intro a W hS hB hd hR
      have e2 : a.tmps[2]? = some (.pointer (some ⟨b2, 0, none⟩)) := hS.get rfl rfl
      refine wp_value (c := .pointer (some ⟨b2, 1, none⟩)) ?_ rfl
      go_simp
    · refine StepOkO.on (o := ?o7) (g := 2) (u := true) ?ho7 ?hg7 (by omega) rfl rfl ?hw7 rfl ?h7
      case ho7 => simp only [List.getElem?_toArray, List.getElem?_cons_succ, List.getElem?_cons_zero]; rfl
      case hg7 => rfl
      case hw7 => rfl
      case h7 =>
      intro a W hS hB hd hR
      have e129 : a.tmps[129]? = some (.pointer (some ⟨b2, 1, none⟩)) := (hd 6 rfl).bool rfl rfl rfl
      refine wp_value (c := .pointer (some ⟨b2, 3, none⟩)) ?_ rfl
      go_simp
    · refine StepOkO.on (o := ?o8) (g := 2) (u := true) ?ho8 ?hg8 (by omega) rfl rfl ?hw8 rfl ?h8
      case ho8 => simp only [List.getElem?_toArray, List.getElem?_cons_succ, List.getElem?_cons_zero]; rfl
      case hg8 => rfl
      case hw8 => rfl
      case h8 =>
      intro a W hS hB hd hR
      have e130 : a.tmps[130]? = some (.pointer (some ⟨b2, 3, none⟩)) := (hd 7 rfl).bool rfl rfl rfl
      refine wp_value (c := .int .i64 ee) ?_ rfl
      have c0 : W.cell? ⟨b2, 0, none⟩ = some (.pointer (some ⟨g, 0, none⟩)) := (blk_cell hR.1 0).trans rfl
      have c1 : W.cell? ⟨b2, 1, none⟩ = some (.string (strOfNums l)) := (blk_cell hR.1 1).trans rfl
      have c2 : W.cell? ⟨b2, 2, none⟩ = some (.int .i64 aa) := (blk_cell hR.1 2).trans rfl
      have c3 : W.cell? ⟨b2, 3, none⟩ = some (.int .i64 ee) := (blk_cell hR.1 3).trans rfl
      go_simp
    · refine StepOkO.on (o := ?o9) (g := 2) (u := true) ?ho9 ?hg9 (by omega) rfl rfl ?hw9 rfl ?h9
      case ho9 => simp only [List.getElem?_toArray, List.getElem?_cons_succ, List.getElem?_cons_zero]; rfl
      case hg9 => rfl
      case hw9 => rfl
      case h9 =>
      intro a W hS hB hd hR
      have e128 : a.tmps[128]? = some (.int .i64 ee) := (hd 5 rfl).bool rfl rfl rfl
      have e131 : a.tmps[131]? = some (.int .i64 ee) := (hd 8 rfl).bool rfl rfl rfl
      refine wp_value (c := .bool true) ?_ rfl
      go_simp
    · refine StepOkO.run (o := ?o10) ?ho10 ?hg10 (by omega) ?h10
      case ho10 => simp only [List.getElem?_toArray, List.getElem?_cons_succ, List.getElem?_cons_zero]; rfl
      case hg10 => rfl
      case h10 =>
      intro a W hS hB hd hR
      have e125 : a.tmps[125]? = some (.bool true) := (hd 2 rfl).bool rfl rfl rfl
      have e132 : a.tmps[132]? = some (.bool true) := (hd 9 rfl).bool rfl rfl rfl
      refine wp_value (c := .bool true) ?_ rfl
      go_simp
    · refine StepOkO.run (o := ?o11) ?ho11 ?hg11 (by omega) ?h11
      case ho11 => simp only [List.getElem?_toArray, List.getElem?_cons_succ, List.getElem?_cons_zero]; rfl
      case hg11 => rfl
      case h11 =>
      intro a W hS hB hd hR
      have e133 : a.tmps[133]? = some (.bool true) := (hd 10 rfl).bool rfl rfl rfl
      refine wp_value (c := .bool true) ?_ rfl
      go_simp
    · refine StepOkO.on (o := ?o12) (g := 11) (u := true) ?ho12 ?hg12 (by omega) rfl rfl ?hw12 rfl ?h12
      case ho12 => simp only [List.getElem?_toArray, List.getElem?_cons_succ, List.getElem?_cons_zero]; rfl
      case hg12 => rfl
      case hw12 => rfl
      case h12 =>
      intro a W hS hB hd hR
      have e2 : a.tmps[2]? = some (.pointer (some ⟨b2, 0, none⟩)) := hS.get rfl rfl
      refine wp_value (c := .pointer (some ⟨b2, 0, none⟩)) ?_ rfl
      go_simp
    · refine StepOkO.on (o := ?o13) (g := 11) (u := true) ?ho13 ?hg13 (by omega) rfl rfl ?hw13 rfl ?h13
      case ho13 => simp only [List.getElem?_toArray, List.getElem?_cons_succ, List.getElem?_cons_zero]; rfl
      case hg13 => rfl
      case hw13 => rfl
      case h13 =>
      intro a W hS hB hd hR
      have e135 : a.tmps[135]? = some (.pointer (some ⟨b2, 0, none⟩)) := (hd 12 rfl).bool rfl rfl rfl
      refine wp_value (c := .pointer (some ⟨g, 0, none⟩)) ?_ rfl
      have c0 : W.cell? ⟨b2, 0, none⟩ = some (.pointer (some ⟨g, 0, none⟩)) := (blk_cell hR.1 0).trans rfl
      have c1 : W.cell? ⟨b2, 1, none⟩ = some (.string (strOfNums l)) := (blk_cell hR.1 1).trans rfl
      have c2 : W.cell? ⟨b2, 2, none⟩ = some (.int .i64 aa) := (blk_cell hR.1 2).trans rfl
      have c3 : W.cell? ⟨b2, 3, none⟩ = some (.int .i64 ee) := (blk_cell hR.1 3).trans rfl
      go_simp
    · refine StepOkO.on (o := ?o14) (g := 11) (u := true) ?ho14 ?hg14 (by omega) rfl rfl ?hw14 rfl ?h14
      case ho14 => simp only [List.getElem?_toArray, List.getElem?_cons_succ, List.getElem?_cons_zero]; rfl
      case hg14 => rfl
      case hw14 => rfl
      case h14 =>
      intro a W hS hB hd hR
      have e136 : a.tmps[136]? = some (.pointer (some ⟨g, 0, none⟩)) := (hd 13 rfl).bool rfl rfl rfl
      refine wp_called Try.func26 (by kernel_rfl) rfl #[.pointer (some ⟨g, 0, none⟩)] rfl (by simp [Act.eval, *]) ?_
      refine (at_any w0 W g l aa ee hR.2).mono ?_
      rintro e9 w9 ⟨rfl, rfl⟩
      exact ⟨_, rfl, rfl, Below.refl _ _⟩
    · refine StepOkO.on (o := ?o15) (g := 11) (u := true) ?ho15 ?hg15 (by omega) rfl rfl ?hw15 rfl ?h15
      case ho15 => simp only [List.getElem?_toArray, List.getElem?_cons_succ, List.getElem?_cons_zero]; rfl
      case hg15 => rfl
      case hw15 => rfl
      case h15 =>
      intro a W hS hB hd hR
      have e2 : a.tmps[2]? = some (.pointer (some ⟨b2, 0, none⟩)) := hS.get rfl rfl
      refine wp_value (c := .pointer (some ⟨b2, 1, none⟩)) ?_ rfl
      go_simp
    · refine StepOkO.on (o := ?o16) (g := 11) (u := true) ?ho16 ?hg16 (by omega) rfl rfl ?hw16 rfl ?h16
      case ho16 => simp only [List.getElem?_toArray, List.getElem?_cons_succ, List.getElem?_cons_zero]; rfl
      case hg16 => rfl
      case hw16 => rfl
      case h16 =>
      intro a W hS hB hd hR
      have e138 : a.tmps[138]? = some (.pointer (some ⟨b2, 1, none⟩)) := (hd 15 rfl).bool rfl rfl rfl
      refine wp_value (c := .pointer (some ⟨b2, 2, none⟩)) ?_ rfl
      go_simp
    · refine StepOkO.on (o := ?o17) (g := 11) (u := true) ?ho17 ?hg17 (by omega) rfl rfl ?hw17 rfl ?h17
      case ho17 => simp only [List.getElem?_toArray, List.getElem?_cons_succ, List.getElem?_cons_zero]; rfl
      case hg17 => rfl
      case hw17 => rfl
      case h17 =>
      intro a W hS hB hd hR
      have e139 : a.tmps[139]? = some (.pointer (some ⟨b2, 2, none⟩)) := (hd 16 rfl).bool rfl rfl rfl
      refine wp_value (c := .int .i64 aa) ?_ rfl
      have c0 : W.cell? ⟨b2, 0, none⟩ = some (.pointer (some ⟨g, 0, none⟩)) := (blk_cell hR.1 0).trans rfl
      have c1 : W.cell? ⟨b2, 1, none⟩ = some (.string (strOfNums l)) := (blk_cell hR.1 1).trans rfl
      have c2 : W.cell? ⟨b2, 2, none⟩ = some (.int .i64 aa) := (blk_cell hR.1 2).trans rfl
      have c3 : W.cell? ⟨b2, 3, none⟩ = some (.int .i64 ee) := (blk_cell hR.1 3).trans rfl
      go_simp
    · refine StepOkO.on (o := ?o18) (g := 11) (u := true) ?ho18 ?hg18 (by omega) rfl rfl ?hw18 rfl ?h18
      case ho18 => simp only [List.getElem?_toArray, List.getElem?_cons_succ, List.getElem?_cons_zero]; rfl
      case hg18 => rfl
      case hw18 => rfl
      case h18 =>
      intro a W hS hB hd hR
      have e137 : a.tmps[137]? = some (.int .i64 aa) := (hd 14 rfl).bool rfl rfl rfl
      have e140 : a.tmps[140]? = some (.int .i64 aa) := (hd 17 rfl).bool rfl rfl rfl
      refine wp_value (c := .bool true) ?_ rfl
      go_simp
    · refine StepOkO.run (o := ?o19) ?ho19 ?hg19 (by omega) ?h19
      case ho19 => simp only [List.getElem?_toArray, List.getElem?_cons_succ, List.getElem?_cons_zero]; rfl
      case hg19 => rfl
      case h19 =>
      intro a W hS hB hd hR
      have e134 : a.tmps[134]? = some (.bool true) := (hd 11 rfl).bool rfl rfl rfl
      have e141 : a.tmps[141]? = some (.bool true) := (hd 18 rfl).bool rfl rfl rfl
      refine wp_value (c := .bool true) ?_ rfl
      go_simp
    · refine StepOkO.run (o := ?o20) ?ho20 ?hg20 (by omega) ?h20
      case ho20 => simp only [List.getElem?_toArray, List.getElem?_cons_succ, List.getElem?_cons_zero]; rfl
      case hg20 => rfl
      case h20 =>
      intro a W hS hB hd hR
      have e142 : a.tmps[142]? = some (.bool true) := (hd 19 rfl).bool rfl rfl rfl
      refine wp_value (c := .bool true) ?_ rfl
      go_simp
    · refine StepOkO.on (o := ?o21) (g := 20) (u := true) ?ho21 ?hg21 (by omega) rfl rfl ?hw21 rfl ?h21
      case ho21 => simp only [List.getElem?_toArray, List.getElem?_cons_succ, List.getElem?_cons_zero]; rfl
      case hg21 => rfl
      case hw21 => rfl
      case h21 =>
      intro a W hS hB hd hR
      have e2 : a.tmps[2]? = some (.pointer (some ⟨b2, 0, none⟩)) := hS.get rfl rfl
      refine wp_value (c := .pointer (some ⟨b2, 0, none⟩)) ?_ rfl
      go_simp
    · refine StepOkO.on (o := ?o22) (g := 20) (u := true) ?ho22 ?hg22 (by omega) rfl rfl ?hw22 rfl ?h22
      case ho22 => simp only [List.getElem?_toArray, List.getElem?_cons_succ, List.getElem?_cons_zero]; rfl
      case hg22 => rfl
      case hw22 => rfl
      case h22 =>
      intro a W hS hB hd hR
      have e144 : a.tmps[144]? = some (.pointer (some ⟨b2, 0, none⟩)) := (hd 21 rfl).bool rfl rfl rfl
      refine wp_value (c := .pointer (some ⟨g, 0, none⟩)) ?_ rfl
      have c0 : W.cell? ⟨b2, 0, none⟩ = some (.pointer (some ⟨g, 0, none⟩)) := (blk_cell hR.1 0).trans rfl
      have c1 : W.cell? ⟨b2, 1, none⟩ = some (.string (strOfNums l)) := (blk_cell hR.1 1).trans rfl
      have c2 : W.cell? ⟨b2, 2, none⟩ = some (.int .i64 aa) := (blk_cell hR.1 2).trans rfl
      have c3 : W.cell? ⟨b2, 3, none⟩ = some (.int .i64 ee) := (blk_cell hR.1 3).trans rfl
      go_simp
    · refine StepOkO.on (o := ?o23) (g := 20) (u := true) ?ho23 ?hg23 (by omega) rfl rfl ?hw23 rfl ?h23
      case ho23 => simp only [List.getElem?_toArray, List.getElem?_cons_succ, List.getElem?_cons_zero]; rfl
      case hg23 => rfl
      case hw23 => rfl
      case h23 =>
      intro a W hS hB hd hR
      have e145 : a.tmps[145]? = some (.pointer (some ⟨g, 0, none⟩)) := (hd 22 rfl).bool rfl rfl rfl
      refine wp_called Try.func21 (by kernel_rfl) rfl #[.pointer (some ⟨g, 0, none⟩)] rfl (by simp [Act.eval, *]) ?_
      refine (left_any w0 W g l aa ee hR.2 hl ha2).mono ?_
      rintro e9 w9 ⟨rfl, hb9⟩
      exact ⟨_, rfl, rfl, hb9⟩
    · refine StepOkO.on (o := ?o24) (g := 20) (u := true) ?ho24 ?hg24 (by omega) rfl rfl ?hw24 rfl ?h24
      case ho24 => simp only [List.getElem?_toArray, List.getElem?_cons_succ, List.getElem?_cons_zero]; rfl
      case hg24 => rfl
      case hw24 => rfl
      case h24 =>
      intro a W hS hB hd hR
      have e2 : a.tmps[2]? = some (.pointer (some ⟨b2, 0, none⟩)) := hS.get rfl rfl
      refine wp_value (c := .pointer (some ⟨b2, 1, none⟩)) ?_ rfl
      go_simp
    · refine StepOkO.on (o := ?o25) (g := 20) (u := true) ?ho25 ?hg25 (by omega) rfl rfl ?hw25 rfl ?h25
      case ho25 => simp only [List.getElem?_toArray, List.getElem?_cons_succ, List.getElem?_cons_zero]; rfl
      case hg25 => rfl
      case hw25 => rfl
      case h25 =>
      intro a W hS hB hd hR
      have e147 : a.tmps[147]? = some (.pointer (some ⟨b2, 1, none⟩)) := (hd 24 rfl).bool rfl rfl rfl
      refine wp_value (c := .pointer (some ⟨b2, 1, none⟩)) ?_ rfl
      go_simp
    · refine StepOkO.on (o := ?o26) (g := 20) (u := true) ?ho26 ?hg26 (by omega) rfl rfl ?hw26 rfl ?h26
      case ho26 => simp only [List.getElem?_toArray, List.getElem?_cons_succ, List.getElem?_cons_zero]; rfl
      case hg26 => rfl
      case hw26 => rfl
      case h26 =>
      intro a W hS hB hd hR
      have e148 : a.tmps[148]? = some (.pointer (some ⟨b2, 1, none⟩)) := (hd 25 rfl).bool rfl rfl rfl
      refine wp_value (c := .string (strOfNums l)) ?_ rfl
      have c0 : W.cell? ⟨b2, 0, none⟩ = some (.pointer (some ⟨g, 0, none⟩)) := (blk_cell hR.1 0).trans rfl
      have c1 : W.cell? ⟨b2, 1, none⟩ = some (.string (strOfNums l)) := (blk_cell hR.1 1).trans rfl
      have c2 : W.cell? ⟨b2, 2, none⟩ = some (.int .i64 aa) := (blk_cell hR.1 2).trans rfl
      have c3 : W.cell? ⟨b2, 3, none⟩ = some (.int .i64 ee) := (blk_cell hR.1 3).trans rfl
      go_simp
    · refine StepOkO.on (o := ?o27) (g := 20) (u := true) ?ho27 ?hg27 (by omega) rfl rfl ?hw27 rfl ?h27
      case ho27 => simp only [List.getElem?_toArray, List.getElem?_cons_succ, List.getElem?_cons_zero]; rfl
      case hg27 => rfl
      case hw27 => rfl
      case h27 =>
      intro a W hS hB hd hR
      have e149 : a.tmps[149]? = some (.string (strOfNums l)) := (hd 26 rfl).bool rfl rfl rfl
      refine wp_value (c := .int .i64 (l.length : Int)) ?_ rfl
      have hs : (strOfNums l).size = l.length := strOfNums_size l
      go_simp
    · refine StepOkO.on (o := ?o28) (g := 20) (u := true) ?ho28 ?hg28 (by omega) rfl rfl ?hw28 rfl ?h28
      case ho28 => simp only [List.getElem?_toArray, List.getElem?_cons_succ, List.getElem?_cons_zero]; rfl
      case hg28 => rfl
      case hw28 => rfl
      case h28 =>
      intro a W hS hB hd hR
      have e2 : a.tmps[2]? = some (.pointer (some ⟨b2, 0, none⟩)) := hS.get rfl rfl
      refine wp_value (c := .pointer (some ⟨b2, 1, none⟩)) ?_ rfl
      go_simp
    · refine StepOkO.on (o := ?o29) (g := 20) (u := true) ?ho29 ?hg29 (by omega) rfl rfl ?hw29 rfl ?h29
      case ho29 => simp only [List.getElem?_toArray, List.getElem?_cons_succ, List.getElem?_cons_zero]; rfl
      case hg29 => rfl
      case hw29 => rfl
      case h29 =>
      intro a W hS hB hd hR
      have e151 : a.tmps[151]? = some (.pointer (some ⟨b2, 1, none⟩)) := (hd 28 rfl).bool rfl rfl rfl
      refine wp_value (c := .pointer (some ⟨b2, 2, none⟩)) ?_ rfl
      go_simp
    · refine StepOkO.on (o := ?o30) (g := 20) (u := true) ?ho30 ?hg30 (by omega) rfl rfl ?hw30 rfl ?h30
      case ho30 => simp only [List.getElem?_toArray, List.getElem?_cons_succ, List.getElem?_cons_zero]; rfl
      case hg30 => rfl
      case hw30 => rfl
      case h30 =>
      intro a W hS hB hd hR
      have e152 : a.tmps[152]? = some (.pointer (some ⟨b2, 2, none⟩)) := (hd 29 rfl).bool rfl rfl rfl
      refine wp_value (c := .int .i64 aa) ?_ rfl
      have c0 : W.cell? ⟨b2, 0, none⟩ = some (.pointer (some ⟨g, 0, none⟩)) := (blk_cell hR.1 0).trans rfl
      have c1 : W.cell? ⟨b2, 1, none⟩ = some (.string (strOfNums l)) := (blk_cell hR.1 1).trans rfl
      have c2 : W.cell? ⟨b2, 2, none⟩ = some (.int .i64 aa) := (blk_cell hR.1 2).trans rfl
      have c3 : W.cell? ⟨b2, 3, none⟩ = some (.int .i64 ee) := (blk_cell hR.1 3).trans rfl
      go_simp
    · refine StepOkO.on (o := ?o31) (g := 20) (u := true) ?ho31 ?hg31 (by omega) rfl rfl ?hw31 rfl ?h31
      case ho31 => simp only [List.getElem?_toArray, List.getElem?_cons_succ, List.getElem?_cons_zero]; rfl
      case hg31 => rfl
      case hw31 => rfl
      case h31 =>
      intro a W hS hB hd hR
      have e150 : a.tmps[150]? = some (.int .i64 (l.length : Int)) := (hd 27 rfl).bool rfl rfl rfl
      have e153 : a.tmps[153]? = some (.int .i64 aa) := (hd 30 rfl).bool rfl rfl rfl
      refine wp_value (c := .int .i64 ((l.length : Int) - aa)) ?_ rfl
      have hw : IntKind.i64.wrap ((l.length : Int) - aa) = (l.length : Int) - aa := by rw [IntKind.wrap_i64]; omega
      go_simp
    · refine StepOkO.on (o := ?o32) (g := 20) (u := true) ?ho32 ?hg32 (by omega) rfl rfl ?hw32 rfl ?h32
      case ho32 => simp only [List.getElem?_toArray, List.getElem?_cons_succ, List.getElem?_cons_zero]; rfl
      case hg32 => rfl
      case hw32 => rfl
      case h32 =>
      intro a W hS hB hd hR
      have e146 : a.tmps[146]? = some (.int .i64 ((l.length : Int) - aa)) := (hd 23 rfl).bool rfl rfl rfl
      have e154 : a.tmps[154]? = some (.int .i64 ((l.length : Int) - aa)) := (hd 31 rfl).bool rfl rfl rfl
      refine wp_value (c := .bool true) ?_ rfl
      go_simp
    · refine StepOkO.run (o := ?o33) ?ho33 ?hg33 (by omega) ?h33
      case ho33 => simp only [List.getElem?_toArray, List.getElem?_cons_succ, List.getElem?_cons_zero]; rfl
      case hg33 => rfl
      case h33 =>
      intro a W hS hB hd hR
      have e143 : a.tmps[143]? = some (.bool true) := (hd 20 rfl).bool rfl rfl rfl
      have e155 : a.tmps[155]? = some (.bool true) := (hd 32 rfl).bool rfl rfl rfl
      refine wp_value (c := .bool true) ?_ rfl
      go_simp
    · refine StepOkO.write (o := ?o34) ?ho34 ?hg34 ?hw34 rfl ?h34
      case ho34 => simp only [List.getElem?_toArray, List.getElem?_cons_succ, List.getElem?_cons_zero]; rfl
      case hg34 => rfl
      case hw34 => rfl
      case h34 =>
      intro a W hS hB hd hR hP
      have e4 : a.tmps[4]? = some (.pointer (some ⟨b4, 0, none⟩)) := hS.get rfl rfl
      have e123 : a.tmps[123]? = some (.agg #[.pointer (some ⟨g, 0, none⟩), .string (strOfNums l), .int .i64 aa, .int .i64 ee]) := (hd 0 rfl).bool rfl rfl rfl
      have c0 : W.cell? ⟨b4, 0, none⟩ = some (.pointer none) := (blk_cell hP 0).trans rfl
      have c1 : W.cell? ⟨b4, 1, none⟩ = some (.string ⟨#[]⟩) := (blk_cell hP 1).trans rfl
      have c2 : W.cell? ⟨b4, 2, none⟩ = some (.int .i64 0) := (blk_cell hP 2).trans rfl
      have c3 : W.cell? ⟨b4, 3, none⟩ = some (.int .i64 0) := (blk_cell hP 3).trans rfl
      have f0 := blk_frozen hP 0
      have f1 := blk_frozen hP 1
      have f2 := blk_frozen hP 2
      have f3 := blk_frozen hP 3
      have q0 := blk_put (cs' := #[.pointer (some ⟨g, 0, none⟩), .string ⟨#[]⟩, .int .i64 0, .int .i64 0]) hP 0 (.pointer (some ⟨g, 0, none⟩)) rfl
      refine ⟨_, ?_, grown_put (grown_put (grown_put (grown_put (World.grownBy.refl _ _) (.pointer (some ⟨g, 0, none⟩))) (.string (strOfNums l))) (.int .i64 aa)) (.int .i64 ee), blk_put4 q0 _ _ _⟩
      go_simp
    · refine StepOkO.run (o := ?o35) ?ho35 ?hg35 (by omega) ?h35
      case ho35 => simp only [List.getElem?_toArray, List.getElem?_cons_succ, List.getElem?_cons_zero]; rfl
      case hg35 => rfl
      case h35 =>
      intro a W hS hB hd hR
      have e156 : a.tmps[156]? = some (.bool true) := (hd 33 rfl).bool rfl rfl rfl
      refine wp_value (c := .bool true) ?_ rfl
      go_simp
  · intro a W hS hB hh hRD hFD
    have e5 : a.tmps[5]? = some (.bool true) := (hh 35 (by omega)).bool rfl rfl rfl
    have HBR := Lib.hid hB
    have hlit := same_lit hS
    clear hh hS hB
    simp only [List.filterMap_cons, List.filterMap_nil, List.foldl_cons, List.foldl_nil, List.setIfInBounds_toArray, List.set_cons_zero, List.set_cons_succ] at hlit
    rw [show a.tmps.getD 5 undef = .bool true by simp [Array.getD_eq_getD_getElem?, e5]] at hlit
    generalize a.tmps.getD 123 undef = z123 at hlit
    generalize a.tmps.getD 124 undef = z124 at hlit
    generalize a.tmps.getD 125 undef = z125 at hlit
    generalize a.tmps.getD 126 undef = z126 at hlit
    generalize a.tmps.getD 127 undef = z127 at hlit
    generalize a.tmps.getD 128 undef = z128 at hlit
    generalize a.tmps.getD 129 undef = z129 at hlit
    generalize a.tmps.getD 130 undef = z130 at hlit
    generalize a.tmps.getD 131 undef = z131 at hlit
    generalize a.tmps.getD 132 undef = z132 at hlit
    generalize a.tmps.getD 133 undef = z133 at hlit
    generalize a.tmps.getD 134 undef = z134 at hlit
    generalize a.tmps.getD 135 undef = z135 at hlit
    generalize a.tmps.getD 136 undef = z136 at hlit
    generalize a.tmps.getD 137 undef = z137 at hlit
    generalize a.tmps.getD 138 undef = z138 at hlit
    generalize a.tmps.getD 139 undef = z139 at hlit
    generalize a.tmps.getD 140 undef = z140 at hlit
    generalize a.tmps.getD 141 undef = z141 at hlit
    generalize a.tmps.getD 142 undef = z142 at hlit
    generalize a.tmps.getD 143 undef = z143 at hlit
    generalize a.tmps.getD 144 undef = z144 at hlit
    generalize a.tmps.getD 145 undef = z145 at hlit
    generalize a.tmps.getD 146 undef = z146 at hlit
    generalize a.tmps.getD 147 undef = z147 at hlit
    generalize a.tmps.getD 148 undef = z148 at hlit
    generalize a.tmps.getD 149 undef = z149 at hlit
    generalize a.tmps.getD 150 undef = z150 at hlit
    generalize a.tmps.getD 151 undef = z151 at hlit
    generalize a.tmps.getD 152 undef = z152 at hlit
    generalize a.tmps.getD 153 undef = z153 at hlit
    generalize a.tmps.getD 154 undef = z154 at hlit
    generalize a.tmps.getD 155 undef = z155 at hlit
    generalize a.tmps.getD 156 undef = z156 at hlit
    clear e5
    subst hlit
    go_wp2_with fail
    refine bodyPost_ret (results_ct rfl _ _ b4 42 #[_, _, _, _] (0, 0) _ rfl hFD HU.out rfl (by kernel_rfl)) rfl ?_
    refine ⟨aa, ee, ha2.1, ha2.2, rfl, hRD.2, ?_, HW4.out.1.trans (HBR.out.mono (Nat.le_trans HBW.out.2.1.size (Nat.le_refl _)))⟩
    obtain ⟨g1, g2, g3, g4, g5⟩ := HW4.out.2
    obtain ⟨r1, r2, r3, r4, r5⟩ := HBR.out
    exact ⟨r1.trans g1, r2.trans g2, r3.trans g3, Nat.le_trans g4 r4, fun k hk hne => (r5 k hk).trans (g5 k hk hne)⟩
set_option maxRecDepth 100000 in
set_option maxHeartbeats 4000000 in
theorem step_1 (w0 w : World) (g : Nat) (l : List Int) (a e kd most each : Int) (hI : IsCu w0 w g l a e) (hB : Below w0.heap.size w0 w) (hb : ∀ x ∈ l, 0 ≤ x ∧ x < 256) (hl : l.length ≤ 1000000) (ha : 0 ≤ a ∧ a ≤ l.length) (hmost : -9223372036854775808 ≤ most ∧ most ≤ 9223372036854775807) (heach : -9223372036854775808 ≤ each ∧ each ≤ 9223372036854775807) :
    Calls Try.prog 25 #[.agg #[.pointer (some ⟨g, 0, none⟩), .string (strOfNums l), .int .i64 a, .int .i64 e], .agg #[.int .i64 1, .int .i64 most, .int .i64 each]] w fun en w' => ∃ aa ee : Int, 0 ≤ aa ∧ aa ≤ (l.length : Int) ∧ StepPost w0 w g l aa ee en w' := by
  have HR := Lib.hid (fun (W : World) => tephraref04_Cursor_Number.calls 30 _ _ _ _ _ _ _ W (rnum_is l hb hl a e 30 (Nat.le_refl _)))
  have HC := Lib.hid (fun (W : World) h1 h2 => num_any w0 W g l a e h1 h2 hb hl)
  have hst := (cuNum_step l hb a e ha)
  obtain ⟨R, hR⟩ : ∃ R, cuNum l a e = R := ⟨_, rfl⟩
  rw [hR] at HR HC hst
  obtain ⟨x, aa, ee⟩ := R
  dsimp only at hst
  have ha2 : 0 ≤ aa ∧ aa ≤ l.length := ⟨by omega, hst.1⟩
  clear hst hR
  obtain ⟨w1, hw1⟩ : ∃ w1, ((w.alloc (.cells #[.pointer (some ⟨g, 0, none⟩), .string (strOfNums l), .int .i64 a, .int .i64 e] 42)).alloc (.cells #[.int .i64 1, .int .i64 most, .int .i64 each] 44)).alloc (.cells #[.pointer none, .string ⟨#[]⟩, .int .i64 0, .int .i64 0] 42) = w1 := ⟨_, rfl⟩
  have hgw : g < w.heap.size := by obtain ⟨_, _, h, _⟩ := hI; exact blk_lt h
  obtain ⟨b2, hb2⟩ : ∃ b, w.heap.size = b := ⟨_, rfl⟩
  obtain ⟨b3, hb3⟩ : ∃ b, b2 + 1 = b := ⟨_, rfl⟩
  obtain ⟨b4, hb4⟩ : ∃ b, b3 + 1 = b := ⟨_, rfl⟩
  obtain ⟨hk2, hk3, hk4, hb01⟩ : w1.heap[b2]? = some (.cells #[.pointer (some ⟨g, 0, none⟩), .string (strOfNums l), .int .i64 a, .int .i64 e] 42 (0, 0)) ∧ w1.heap[b3]? = some (.cells #[.int .i64 1, .int .i64 most, .int .i64 each] 44 (0, 0)) ∧ w1.heap[b4]? = some (.cells #[.pointer none, .string ⟨#[]⟩, .int .i64 0, .int .i64 0] 42 (0, 0)) ∧ Below w.heap.size w w1 := by
    rw [← hw1, ← hb4, ← hb3, ← hb2]
    have s1 := blk_new w (.cells #[.pointer (some ⟨g, 0, none⟩), .string (strOfNums l), .int .i64 a, .int .i64 e] 42 (0, 0))
    have s2 := blk_new (w.alloc (.cells #[.pointer (some ⟨g, 0, none⟩), .string (strOfNums l), .int .i64 a, .int .i64 e] 42 (0, 0))) (.cells #[.int .i64 1, .int .i64 most, .int .i64 each] 44 (0, 0))
    have s3 := blk_new ((w.alloc (.cells #[.pointer (some ⟨g, 0, none⟩), .string (strOfNums l), .int .i64 a, .int .i64 e] 42 (0, 0))).alloc (.cells #[.int .i64 1, .int .i64 most, .int .i64 each] 44 (0, 0))) (.cells #[.pointer none, .string ⟨#[]⟩, .int .i64 0, .int .i64 0] 42 (0, 0))
    rw [heap_size_alloc] at s2 s3
    rw [heap_size_alloc] at s3
    have al := fun (W : World) (o : Obj) => (Below.refl W.heap.size W).alloc (Nat.le_refl _) o
    exact ⟨blk_below (blk_below s1 (al _ _)) (al _ _), blk_below s2 (al _ _), s3, ((Below.refl _ _).alloc (Nat.le_refl _) _).alloc (by rw [heap_size_alloc]; omega) _ |>.alloc (by rw [heap_size_alloc, heap_size_alloc]; omega) _⟩
  have hs2 : b4 < w1.heap.size := blk_lt hk4
  have HBW := Lib.hid (And.intro hI (And.intro hB (And.intro hb01 (And.intro hs2 hgw))))
  have HK := Lib.hid (And.intro hk2 (And.intro hk3 hk4))
  have x0 := (blk_cell hk2 0).trans rfl
  have x1 := (blk_cell hk2 1).trans rfl
  have x2 := (blk_cell hk2 2).trans rfl
  have x3 := (blk_cell hk2 3).trans rfl
  have x4 := (blk_cell hk3 0).trans rfl
  have x5 := (blk_cell hk3 1).trans rfl
  have x6 := (blk_cell hk3 2).trans rfl
  clear hI hB hgw hb01 hs2 hk2 hk3 hk4
  go_enter Try.func25, Try.ntmps25
  go_wp2_with fail
  refine (HR.out _).mono ?_
  rintro en w2 ⟨rfl, hb12⟩
  obtain ⟨wA, hwA⟩ : ∃ wA, w2.alloc (.cells #[.string (strOfNums l), .int .i64 aa, .int .i64 ee] 39) = wA := ⟨_, rfl⟩
  have hbA : Below w1.heap.size w1 wA := by rw [← hwA]; exact hb12.alloc hb12.size _
  have nA := (blk_new w2 (.cells #[.string (strOfNums l), .int .i64 aa, .int .i64 ee] 39 (0, 0)))
  rw [hwA] at nA
  obtain ⟨hk2, hk3, hk4⟩ := HK.out
  have kA2 := blk_below hk2 hbA
  have kA3 := blk_below hk3 hbA
  have kA4 := blk_below hk4 hbA
  clear hk2 hk3 hk4 x0 x1 x2 x3 x4 x5 x6
  obtain ⟨w3, hw3⟩ : ∃ w3, ((wA.setCell ⟨b2, 1, none⟩ (.string (strOfNums l))).setCell ⟨b2, 2, none⟩ (.int .i64 aa)).setCell ⟨b2, 3, none⟩ (.int .i64 ee) = w3 := ⟨_, rfl⟩
  have HK3 := Lib.hid (show w3.heap[b2]? = some (.cells #[.pointer (some ⟨g, 0, none⟩), .string (strOfNums l), .int .i64 aa, .int .i64 ee] 42 (0, 0)) ∧ w3.heap[b3]? = some (.cells #[.int .i64 1, .int .i64 most, .int .i64 each] 44 (0, 0)) ∧ w3.heap[b4]? = some (.cells #[.pointer none, .string ⟨#[]⟩, .int .i64 0, .int .i64 0] 42 (0, 0)) ∧ Below w.heap.size w w3 by
    rw [← hw3]
    refine ⟨blk_put4 kA2 _ _ _, ?_, ?_, below_put4 (HBW.out.2.2.1.trans (hbA.mono HBW.out.2.2.1.size)) (by omega) _ _ _⟩
    · rw [Below.heap_setCell _ _ _ _ (by show b3 ≠ b2; omega), Below.heap_setCell _ _ _ _ (by show b3 ≠ b2; omega), Below.heap_setCell _ _ _ _ (by show b3 ≠ b2; omega)]; exact kA3
    · rw [Below.heap_setCell _ _ _ _ (by show b4 ≠ b2; omega), Below.heap_setCell _ _ _ _ (by show b4 ≠ b2; omega), Below.heap_setCell _ _ _ _ (by show b4 ≠ b2; omega)]; exact kA4)
  have y1 := (blk_cell kA2 1).trans rfl
  have y2 := (blk_cell kA2 2).trans rfl
  have y3 := (blk_cell kA2 3).trans rfl
  have z1 := blk_frozen kA2 1
  have z2 := blk_frozen kA2 2
  have z3 := blk_frozen kA2 3
  have n0 := (blk_cell nA 0).trans rfl
  have n1 := (blk_cell nA 1).trans rfl
  have n2 := (blk_cell nA 2).trans rfl
  have x0 := (blk_cell HK3.out.1 0).trans rfl
  have x5 := (blk_cell HK3.out.2.1 1).trans rfl
  have x6 := (blk_cell HK3.out.2.1 2).trans rfl
  have HIB := Lib.hid (And.intro (HBW.out.1.keep HK3.out.2.2.2) (HBW.out.2.1.trans (HK3.out.2.2.2.mono HBW.out.2.1.size)))
  clear kA2 kA3 kA4 nA hbA hb12
  go_wp2_with fail
  clear y1 y2 y3 z1 z2 z3 n0 n1 n2 hwA hw3
  refine (HC.out _ HIB.out.1 HIB.out.2).mono ?_
  rintro en wT ⟨rfl, hI4, hg4, hB4⟩
  obtain ⟨kT2, kT4, hbT⟩ : wT.heap[b2]? = some (.cells #[.pointer (some ⟨g, 0, none⟩), .string (strOfNums l), .int .i64 aa, .int .i64 ee] 42 (0, 0)) ∧ wT.heap[b4]? = some (.cells #[.pointer none, .string ⟨#[]⟩, .int .i64 0, .int .i64 0] 42 (0, 0)) ∧ w.grownBy wT (some g) := by
    obtain ⟨h1, h2, h3, h4⟩ := HK3.out
    have hgw := HBW.out.2.2.2.2
    exact ⟨blk_grown h1 hg4 (by intro h; cases h; omega), blk_grown h3 hg4 (by intro h; cases h; omega), grown_after (grownBy_none h4) hg4⟩
  clear hg4
  go_wp2_with fail
  have hne2 : b2 ≠ b4 := by omega
  have hneg : g ≠ b4 := by have := HBW.out.2.2.2.2; omega
  have hsz4 : w.heap.size ≤ wT.heap.size := hbT.size
  have HU := Lib.hid Try.underlying42
  have hb24 : w.heap.size ≤ b4 := by omega
  clear hb2 hb3 hb4
  have HW4 := Lib.hid (And.intro hB4 hbT)
  clear hB4 hbT HK HK3 HIB HR HC x0 x5 x6 hw1
  refine region_one (n := 36) (base := w.heap.size) (w0 := wT) (b := b4) (jw := 34) (byList [isV (.agg #[.pointer (some ⟨g, 0, none⟩), .string (strOfNums l), .int .i64 aa, .int .i64 ee]), isV (.bool true), isV (.bool true), isV (.pointer (some ⟨b2, 0, none⟩)), isV (.pointer (some ⟨g, 0, none⟩)), isV (.int .i64 ee), isV (.pointer (some ⟨b2, 1, none⟩)), isV (.pointer (some ⟨b2, 3, none⟩)), isV (.int .i64 ee), isV (.bool true), isV (.bool true), isV (.bool true), isV (.pointer (some ⟨b2, 0, none⟩)), isV (.pointer (some ⟨g, 0, none⟩)), isV (.int .i64 aa), isV (.pointer (some ⟨b2, 1, none⟩)), isV (.pointer (some ⟨b2, 2, none⟩)), isV (.int .i64 aa), isV (.bool true), isV (.bool true), isV (.bool true), isV (.pointer (some ⟨b2, 0, none⟩)), isV (.pointer (some ⟨g, 0, none⟩)), isV (.int .i64 ((l.length : Int) - aa)), isV (.pointer (some ⟨b2, 1, none⟩)), isV (.pointer (some ⟨b2, 1, none⟩)), isV (.string (strOfNums l)), isV (.int .i64 (l.length : Int)), isV (.pointer (some ⟨b2, 1, none⟩)), isV (.pointer (some ⟨b2, 2, none⟩)), isV (.int .i64 aa), isV (.int .i64 ((l.length : Int) - aa)), isV (.bool true), isV (.bool true), (fun _ _ => True), isV (.bool true)]) (fun W => W.heap[b2]? = some (.cells #[.pointer (some ⟨g, 0, none⟩), .string (strOfNums l), .int .i64 aa, .int .i64 ee] 42 (0, 0)) ∧ IsCu w0 W g l aa ee) (fun W => W.heap[b4]? = some (.cells #[.pointer none, .string ⟨#[]⟩, .int .i64 0, .int .i64 0] 42 (0, 0))) (fun W => W.heap[b4]? = some (.cells #[.pointer (some ⟨g, 0, none⟩), .string (strOfNums l), .int .i64 aa, .int .i64 ee] 42 (0, 0))) (by kernel_rfl) rfl (by omega) (byList_any ?_) (by kernel_rfl) (by kernel_rfl) (by omega) (fun W W' row hrow h hg => ⟨blk_grown h.1 hg (by rcases hrow with rfl | rfl <;> simp <;> omega), h.2.grown hg (by rcases hrow with rfl | rfl <;> simp <;> omega)⟩) (fun W W' h hg => blk_below h (below_none hg)) (fun W W' h hg => blk_below h (below_none hg)) (Below.refl _ _) hsz4 ⟨kT2, hI4⟩ kT4 (show AllLt 36 _ from ?_) ?_
  · intro p hp
    simp only [List.mem_cons, List.not_mem_nil, or_false] at hp
    rcases hp with rfl | rfl | rfl | rfl | rfl | rfl | rfl | rfl | rfl | rfl | rfl | rfl | rfl | rfl | rfl | rfl | rfl | rfl | rfl | rfl | rfl | rfl | rfl | rfl | rfl | rfl | rfl | rfl | rfl | rfl | rfl | rfl | rfl | rfl | rfl | rfl <;> exact fun _ _ _ h => h
  · refine allLt_succ (allLt_succ (allLt_succ (allLt_succ (allLt_succ (allLt_succ (allLt_succ (allLt_succ (allLt_succ (allLt_succ (allLt_succ (allLt_succ (allLt_succ (allLt_succ (allLt_succ (allLt_succ (allLt_succ (allLt_succ (allLt_succ (allLt_succ (allLt_succ (allLt_succ (allLt_succ (allLt_succ (allLt_succ (allLt_succ (allLt_succ (allLt_succ (allLt_succ (allLt_succ (allLt_succ (allLt_succ (allLt_succ (allLt_succ (allLt_succ (allLt_succ (allLt_zero _) ?_) ?_) ?_) ?_) ?_) ?_) ?_) ?_) ?_) ?_) ?_) ?_) ?_) ?_) ?_) ?_) ?_) ?_) ?_) ?_) ?_) ?_) ?_) ?_) ?_) ?_) ?_) ?_) ?_) ?_) ?_) ?_) ?_) ?_) ?_) ?_
    · refine StepOkO.run (o := ?o0) ?ho0 ?hg0 (by omega) ?h0
      case ho0 => simp only [List.getElem?_toArray, List.getElem?_cons_succ, List.getElem?_cons_zero]; rfl
      case hg0 => rfl
      case h0 =>
      intro a W hS hB hd hR
      have e2 : a.tmps[2]? = some (.pointer (some ⟨b2, 0, none⟩)) := hS.get rfl rfl
      refine wp_value (c := .agg #[.pointer (some ⟨g, 0, none⟩), .string (strOfNums l), .int .i64 aa, .int .i64 ee]) ?_ rfl
      have c0 : W.cell? ⟨b2, 0, none⟩ = some (.pointer (some ⟨g, 0, none⟩)) := (blk_cell hR.1 0).trans rfl
      have c1 : W.cell? ⟨b2, 1, none⟩ = some (.string (strOfNums l)) := (blk_cell hR.1 1).trans rfl
      have c2 : W.cell? ⟨b2, 2, none⟩ = some (.int .i64 aa) := (blk_cell hR.1 2).trans rfl
      have c3 : W.cell? ⟨b2, 3, none⟩ = some (.int .i64 ee) := (blk_cell hR.1 3).trans rfl
      go_simp
    · refine StepOkO.run (o := ?o1) ?ho1 ?hg1 (by omega) ?h1
      case ho1 => simp only [List.getElem?_toArray, List.getElem?_cons_succ, List.getElem?_cons_zero]; rfl
      case hg1 => rfl
      case h1 =>
      intro a W hS hB hd hR
      have e6 : a.tmps[6]? = some (.bool true) := hS.get rfl rfl
      refine wp_value (c := .bool true) ?_ rfl
      go_simp
    · refine StepOkO.run (o := ?o2) ?ho2 ?hg2 (by omega) ?h2
      case ho2 => simp only [List.getElem?_toArray, List.getElem?_cons_succ, List.getElem?_cons_zero]; rfl
      case hg2 => rfl
      case h2 =>
      intro a W hS hB hd hR
      have e124 : a.tmps[124]? = some (.bool true) := (hd 1 rfl).bool rfl rfl rfl
      refine wp_value (c := .bool true) ?_ rfl
      go_simp
    · refine StepOkO.on (o := ?o3) (g := 2) (u := true) ?ho3 ?hg3 (by omega) rfl rfl ?hw3 rfl ?h3
      case ho3 => simp only [List.getElem?_toArray, List.getElem?_cons_succ, List.getElem?_cons_zero]; rfl
      case hg3 => rfl
      case hw3 => rfl
      case h3 =>
      intro a W hS hB hd hR
      have e2 : a.tmps[2]? = some (.pointer (some ⟨b2, 0, none⟩)) := hS.get rfl rfl
      refine wp_value (c := .pointer (some ⟨b2, 0, none⟩)) ?_ rfl
      go_simp
    · refine StepOkO.on (o := ?o4) (g := 2) (u := true) ?ho4 ?hg4 (by omega) rfl rfl ?hw4 rfl ?h4
      case ho4 => simp only [List.getElem?_toArray, List.getElem?_cons_succ, List.getElem?_cons_zero]; rfl
      case hg4 => rfl
      case hw4 => rfl
      case h4 =>
      intro a W hS hB hd hR
      have e126 : a.tmps[126]? = some (.pointer (some ⟨b2, 0, none⟩)) := (hd 3 rfl).bool rfl rfl rfl
      refine wp_value (c := .pointer (some ⟨g, 0, none⟩)) ?_ rfl
      have c0 : W.cell? ⟨b2, 0, none⟩ = some (.pointer (some ⟨g, 0, none⟩)) := (blk_cell hR.1 0).trans rfl
      have c1 : W.cell? ⟨b2, 1, none⟩ = some (.string (strOfNums l)) := (blk_cell hR.1 1).trans rfl
      have c2 : W.cell? ⟨b2, 2, none⟩ = some (.int .i64 aa) := (blk_cell hR.1 2).trans rfl
      have c3 : W.cell? ⟨b2, 3, none⟩ = some (.int .i64 ee) := (blk_cell hR.1 3).trans rfl
      go_simp
    · refine StepOkO.on (o := ?o5) (g := 2) (u := true) ?ho5 ?hg5 (by omega) rfl rfl ?hw5 rfl ?h5
      case ho5 => simp only [List.getElem?_toArray, List.getElem?_cons_succ, List.getElem?_cons_zero]; rfl
      case hg5 => rfl
      case hw5 => rfl
      case h5 =>
      intro a W hS hB hd hR
      have e127 : a.tmps[127]? = some (.pointer (some ⟨g, 0, none⟩)) := (hd 4 rfl).bool rfl rfl rfl
      refine wp_called Try.func20 (by kernel_rfl) rfl #[.pointer (some ⟨g, 0, none⟩)] rfl (by simp [Act.eval, *]) ?_
      refine (err_any w0 W g l aa ee hR.2).mono ?_
      rintro e9 w9 ⟨rfl, rfl⟩
      exact ⟨_, rfl, rfl, Below.refl _ _⟩
    · refine StepOkO.on (o := ?o6) (g := 2) (u := true) ?ho6 ?hg6 (by omega) rfl rfl ?hw6 rfl ?h6
      case ho6 => simp only [List.getElem?_toArray, List.getElem?_cons_succ, List.getElem?_cons_zero]; rfl
      case hg6 => rfl
      case hw6 => rfl
      case h6 =>
      intro a W hS hB hd hR
      have e2 : a.tmps[2]? = some (.pointer (some ⟨b2, 0, none⟩)) := hS.get rfl rfl
      refine wp_value (c := .pointer (some ⟨b2, 1, none⟩)) ?_ rfl
      go_simp
    · refine StepOkO.on (o := ?o7) (g := 2) (u := true) ?ho7 ?hg7 (by omega) rfl rfl ?hw7 rfl ?h7
      case ho7 => simp only [List.getElem?_toArray, List.getElem?_cons_succ, List.getElem?_cons_zero]; rfl
      case hg7 => rfl
      case hw7 => rfl
      case h7 =>
      intro a W hS hB hd hR
      have e129 : a.tmps[129]? = some (.pointer (some ⟨b2, 1, none⟩)) := (hd 6 rfl).bool rfl rfl rfl
      refine wp_value (c := .pointer (some ⟨b2, 3, none⟩)) ?_ rfl
      go_simp
    · refine StepOkO.on (o := ?o8) (g := 2) (u := true) ?ho8 ?hg8 (by omega) rfl rfl ?hw8 rfl ?h8
      case ho8 => simp only [List.getElem?_toArray, List.getElem?_cons_succ, List.getElem?_cons_zero]; rfl
      case hg8 => rfl
      case hw8 => rfl
      case h8 =>
      intro a W hS hB hd hR
      have e130 : a.tmps[130]? = some (.pointer (some ⟨b2, 3, none⟩)) := (hd 7 rfl).bool rfl rfl rfl
      refine wp_value (c := .int .i64 ee) ?_ rfl
      have c0 : W.cell? ⟨b2, 0, none⟩ = some (.pointer (some ⟨g, 0, none⟩)) := (blk_cell hR.1 0).trans rfl
      have c1 : W.cell? ⟨b2, 1, none⟩ = some (.string (strOfNums l)) := (blk_cell hR.1 1).trans rfl
      have c2 : W.cell? ⟨b2, 2, none⟩ = some (.int .i64 aa) := (blk_cell hR.1 2).trans rfl
      have c3 : W.cell? ⟨b2, 3, none⟩ = some (.int .i64 ee) := (blk_cell hR.1 3).trans rfl
      go_simp
    · refine StepOkO.on (o := ?o9) (g := 2) (u := true) ?ho9 ?hg9 (by omega) rfl rfl ?hw9 rfl ?h9
      case ho9 => simp only [List.getElem?_toArray, List.getElem?_cons_succ, List.getElem?_cons_zero]; rfl
      case hg9 => rfl
      case hw9 => rfl
      case h9 =>
      intro a W hS hB hd hR
      have e128 : a.tmps[128]? = some (.int .i64 ee) := (hd 5 rfl).bool rfl rfl rfl
      have e131 : a.tmps[131]? = some (.int .i64 ee) := (hd 8 rfl).bool rfl rfl rfl
      refine wp_value (c := .bool true) ?_ rfl
      go_simp
    · refine StepOkO.run (o := ?o10) ?ho10 ?hg10 (by omega) ?h10
      case ho10 => simp only [List.getElem?_toArray, List.getElem?_cons_succ, List.getElem?_cons_zero]; rfl
      case hg10 => rfl
      case h10 =>
      intro a W hS hB hd hR
      have e125 : a.tmps[125]? = some (.bool true) := (hd 2 rfl).bool rfl rfl rfl
      have e132 : a.tmps[132]? = some (.bool true) := (hd 9 rfl).bool rfl rfl rfl
      refine wp_value (c := .bool true) ?_ rfl
      go_simp
    · refine StepOkO.run (o := ?o11) ?ho11 ?hg11 (by omega) ?h11
      case ho11 => simp only [List.getElem?_toArray, List.getElem?_cons_succ, List.getElem?_cons_zero]; rfl
      case hg11 => rfl
      case h11 =>
      intro a W hS hB hd hR
      have e133 : a.tmps[133]? = some (.bool true) := (hd 10 rfl).bool rfl rfl rfl
      refine wp_value (c := .bool true) ?_ rfl
      go_simp
    · refine StepOkO.on (o := ?o12) (g := 11) (u := true) ?ho12 ?hg12 (by omega) rfl rfl ?hw12 rfl ?h12
      case ho12 => simp only [List.getElem?_toArray, List.getElem?_cons_succ, List.getElem?_cons_zero]; rfl
      case hg12 => rfl
      case hw12 => rfl
      case h12 =>
      intro a W hS hB hd hR
      have e2 : a.tmps[2]? = some (.pointer (some ⟨b2, 0, none⟩)) := hS.get rfl rfl
      refine wp_value (c := .pointer (some ⟨b2, 0, none⟩)) ?_ rfl
      go_simp
    · refine StepOkO.on (o := ?o13) (g := 11) (u := true) ?ho13 ?hg13 (by omega) rfl rfl ?hw13 rfl ?h13
      case ho13 => simp only [List.getElem?_toArray, List.getElem?_cons_succ, List.getElem?_cons_zero]; rfl
      case hg13 => rfl
      case hw13 => rfl
      case h13 =>
      intro a W hS hB hd hR
      have e135 : a.tmps[135]? = some (.pointer (some ⟨b2, 0, none⟩)) := (hd 12 rfl).bool rfl rfl rfl
      refine wp_value (c := .pointer (some ⟨g, 0, none⟩)) ?_ rfl
      have c0 : W.cell? ⟨b2, 0, none⟩ = some (.pointer (some ⟨g, 0, none⟩)) := (blk_cell hR.1 0).trans rfl
      have c1 : W.cell? ⟨b2, 1, none⟩ = some (.string (strOfNums l)) := (blk_cell hR.1 1).trans rfl
      have c2 : W.cell? ⟨b2, 2, none⟩ = some (.int .i64 aa) := (blk_cell hR.1 2).trans rfl
      have c3 : W.cell? ⟨b2, 3, none⟩ = some (.int .i64 ee) := (blk_cell hR.1 3).trans rfl
      go_simp
    · refine StepOkO.on (o := ?o14) (g := 11) (u := true) ?ho14 ?hg14 (by omega) rfl rfl ?hw14 rfl ?h14
      case ho14 => simp only [List.getElem?_toArray, List.getElem?_cons_succ, List.getElem?_cons_zero]; rfl
      case hg14 => rfl
      case hw14 => rfl
      case h14 =>
      intro a W hS hB hd hR
      have e136 : a.tmps[136]? = some (.pointer (some ⟨g, 0, none⟩)) := (hd 13 rfl).bool rfl rfl rfl
      refine wp_called Try.func26 (by kernel_rfl) rfl #[.pointer (some ⟨g, 0, none⟩)] rfl (by simp [Act.eval, *]) ?_
      refine (at_any w0 W g l aa ee hR.2).mono ?_
      rintro e9 w9 ⟨rfl, rfl⟩
      exact ⟨_, rfl, rfl, Below.refl _ _⟩
    · refine StepOkO.on (o := ?o15) (g := 11) (u := true) ?ho15 ?hg15 (by omega) rfl rfl ?hw15 rfl ?h15
      case ho15 => simp only [List.getElem?_toArray, List.getElem?_cons_succ, List.getElem?_cons_zero]; rfl
      case hg15 => rfl
      case hw15 => rfl
      case h15 =>
      intro a W hS hB hd hR
      have e2 : a.tmps[2]? = some (.pointer (some ⟨b2, 0, none⟩)) := hS.get rfl rfl
      refine wp_value (c := .pointer (some ⟨b2, 1, none⟩)) ?_ rfl
      go_simp
    · refine StepOkO.on (o := ?o16) (g := 11) (u := true) ?ho16 ?hg16 (by omega) rfl rfl ?hw16 rfl ?h16
      case ho16 => simp only [List.getElem?_toArray, List.getElem?_cons_succ, List.getElem?_cons_zero]; rfl
      case hg16 => rfl
      case hw16 => rfl
      case h16 =>
      intro a W hS hB hd hR
      have e138 : a.tmps[138]? = some (.pointer (some ⟨b2, 1, none⟩)) := (hd 15 rfl).bool rfl rfl rfl
      refine wp_value (c := .pointer (some ⟨b2, 2, none⟩)) ?_ rfl
      go_simp
    · refine StepOkO.on (o := ?o17) (g := 11) (u := true) ?ho17 ?hg17 (by omega) rfl rfl ?hw17 rfl ?h17
      case ho17 => simp only [List.getElem?_toArray, List.getElem?_cons_succ, List.getElem?_cons_zero]; rfl
      case hg17 => rfl
      case hw17 => rfl
      case h17 =>
      intro a W hS hB hd hR
      have e139 : a.tmps[139]? = some (.pointer (some ⟨b2, 2, none⟩)) := (hd 16 rfl).bool rfl rfl rfl
      refine wp_value (c := .int .i64 aa) ?_ rfl
      have c0 : W.cell? ⟨b2, 0, none⟩ = some (.pointer (some ⟨g, 0, none⟩)) := (blk_cell hR.1 0).trans rfl
      have c1 : W.cell? ⟨b2, 1, none⟩ = some (.string (strOfNums l)) := (blk_cell hR.1 1).trans rfl
      have c2 : W.cell? ⟨b2, 2, none⟩ = some (.int .i64 aa) := (blk_cell hR.1 2).trans rfl
      have c3 : W.cell? ⟨b2, 3, none⟩ = some (.int .i64 ee) := (blk_cell hR.1 3).trans rfl
      go_simp
    · refine StepOkO.on (o := ?o18) (g := 11) (u := true) ?ho18 ?hg18 (by omega) rfl rfl ?hw18 rfl ?h18
      case ho18 => simp only [List.getElem?_toArray, List.getElem?_cons_succ, List.getElem?_cons_zero]; rfl
      case hg18 => rfl
      case hw18 => rfl
      case h18 =>
      intro a W hS hB hd hR
      have e137 : a.tmps[137]? = some (.int .i64 aa) := (hd 14 rfl).bool rfl rfl rfl
      have e140 : a.tmps[140]? = some (.int .i64 aa) := (hd 17 rfl).bool rfl rfl rfl
      refine wp_value (c := .bool true) ?_ rfl
      go_simp
    · refine StepOkO.run (o := ?o19) ?ho19 ?hg19 (by omega) ?h19
      case ho19 => simp only [List.getElem?_toArray, List.getElem?_cons_succ, List.getElem?_cons_zero]; rfl
      case hg19 => rfl
      case h19 =>
      intro a W hS hB hd hR
      have e134 : a.tmps[134]? = some (.bool true) := (hd 11 rfl).bool rfl rfl rfl
      have e141 : a.tmps[141]? = some (.bool true) := (hd 18 rfl).bool rfl rfl rfl
      refine wp_value (c := .bool true) ?_ rfl
      go_simp
    · refine StepOkO.run (o := ?o20) ?ho20 ?hg20 (by omega) ?h20
      case ho20 => simp only [List.getElem?_toArray, List.getElem?_cons_succ, List.getElem?_cons_zero]; rfl
      case hg20 => rfl
      case h20 =>
      intro a W hS hB hd hR
      have e142 : a.tmps[142]? = some (.bool true) := (hd 19 rfl).bool rfl rfl rfl
      refine wp_value (c := .bool true) ?_ rfl
      go_simp
    · refine StepOkO.on (o := ?o21) (g := 20) (u := true) ?ho21 ?hg21 (by omega) rfl rfl ?hw21 rfl ?h21
      case ho21 => simp only [List.getElem?_toArray, List.getElem?_cons_succ, List.getElem?_cons_zero]; rfl
      case hg21 => rfl
      case hw21 => rfl
      case h21 =>
      intro a W hS hB hd hR
      have e2 : a.tmps[2]? = some (.pointer (some ⟨b2, 0, none⟩)) := hS.get rfl rfl
      refine wp_value (c := .pointer (some ⟨b2, 0, none⟩)) ?_ rfl
      go_simp
    · refine StepOkO.on (o := ?o22) (g := 20) (u := true) ?ho22 ?hg22 (by omega) rfl rfl ?hw22 rfl ?h22
      case ho22 => simp only [List.getElem?_toArray, List.getElem?_cons_succ, List.getElem?_cons_zero]; rfl
      case hg22 => rfl
      case hw22 => rfl
      case h22 =>
      intro a W hS hB hd hR
      have e144 : a.tmps[144]? = some (.pointer (some ⟨b2, 0, none⟩)) := (hd 21 rfl).bool rfl rfl rfl
      refine wp_value (c := .pointer (some ⟨g, 0, none⟩)) ?_ rfl
      have c0 : W.cell? ⟨b2, 0, none⟩ = some (.pointer (some ⟨g, 0, none⟩)) := (blk_cell hR.1 0).trans rfl
      have c1 : W.cell? ⟨b2, 1, none⟩ = some (.string (strOfNums l)) := (blk_cell hR.1 1).trans rfl
      have c2 : W.cell? ⟨b2, 2, none⟩ = some (.int .i64 aa) := (blk_cell hR.1 2).trans rfl
      have c3 : W.cell? ⟨b2, 3, none⟩ = some (.int .i64 ee) := (blk_cell hR.1 3).trans rfl
      go_simp
    · refine StepOkO.on (o := ?o23) (g := 20) (u := true) ?ho23 ?hg23 (by omega) rfl rfl ?hw23 rfl ?h23
      case ho23 => simp only [List.getElem?_toArray, List.getElem?_cons_succ, List.getElem?_cons_zero]; rfl
      case hg23 => rfl
      case hw23 => rfl
      case h23 =>
      intro a W hS hB hd hR
      have e145 : a.tmps[145]? = some (.pointer (some ⟨g, 0, none⟩)) := (hd 22 rfl).bool rfl rfl rfl
      refine wp_called Try.func21 (by kernel_rfl) rfl #[.pointer (some ⟨g, 0, none⟩)] rfl (by simp [Act.eval, *]) ?_
      refine (left_any w0 W g l aa ee hR.2 hl ha2).mono ?_
      rintro e9 w9 ⟨rfl, hb9⟩
      exact ⟨_, rfl, rfl, hb9⟩
    · refine StepOkO.on (o := ?o24) (g := 20) (u := true) ?ho24 ?hg24 (by omega) rfl rfl ?hw24 rfl ?h24
      case ho24 => simp only [List.getElem?_toArray, List.getElem?_cons_succ, List.getElem?_cons_zero]; rfl
      case hg24 => rfl
      case hw24 => rfl
      case h24 =>
      intro a W hS hB hd hR
      have e2 : a.tmps[2]? = some (.pointer (some ⟨b2, 0, none⟩)) := hS.get rfl rfl
      refine wp_value (c := .pointer (some ⟨b2, 1, none⟩)) ?_ rfl
      go_simp
    · refine StepOkO.on (o := ?o25) (g := 20) (u := true) ?ho25 ?hg25 (by omega) rfl rfl ?hw25 rfl ?h25
      case ho25 => simp only [List.getElem?_toArray, List.getElem?_cons_succ, List.getElem?_cons_zero]; rfl
      case hg25 => rfl
      case hw25 => rfl
      case h25 =>
      intro a W hS hB hd hR
      have e147 : a.tmps[147]? = some (.pointer (some ⟨b2, 1, none⟩)) := (hd 24 rfl).bool rfl rfl rfl
      refine wp_value (c := .pointer (some ⟨b2, 1, none⟩)) ?_ rfl
      go_simp
    · refine StepOkO.on (o := ?o26) (g := 20) (u := true) ?ho26 ?hg26 (by omega) rfl rfl ?hw26 rfl ?h26
      case ho26 => simp only [List.getElem?_toArray, List.getElem?_cons_succ, List.getElem?_cons_zero]; rfl
      case hg26 => rfl
      case hw26 => rfl
      case h26 =>
      intro a W hS hB hd hR
      have e148 : a.tmps[148]? = some (.pointer (some ⟨b2, 1, none⟩)) := (hd 25 rfl).bool rfl rfl rfl
      refine wp_value (c := .string (strOfNums l)) ?_ rfl
      have c0 : W.cell? ⟨b2, 0, none⟩ = some (.pointer (some ⟨g, 0, none⟩)) := (blk_cell hR.1 0).trans rfl
      have c1 : W.cell? ⟨b2, 1, none⟩ = some (.string (strOfNums l)) := (blk_cell hR.1 1).trans rfl
      have c2 : W.cell? ⟨b2, 2, none⟩ = some (.int .i64 aa) := (blk_cell hR.1 2).trans rfl
      have c3 : W.cell? ⟨b2, 3, none⟩ = some (.int .i64 ee) := (blk_cell hR.1 3).trans rfl
      go_simp
    · refine StepOkO.on (o := ?o27) (g := 20) (u := true) ?ho27 ?hg27 (by omega) rfl rfl ?hw27 rfl ?h27
      case ho27 => simp only [List.getElem?_toArray, List.getElem?_cons_succ, List.getElem?_cons_zero]; rfl
      case hg27 => rfl
      case hw27 => rfl
      case h27 =>
      intro a W hS hB hd hR
      have e149 : a.tmps[149]? = some (.string (strOfNums l)) := (hd 26 rfl).bool rfl rfl rfl
      refine wp_value (c := .int .i64 (l.length : Int)) ?_ rfl
      have hs : (strOfNums l).size = l.length := strOfNums_size l
      go_simp
    · refine StepOkO.on (o := ?o28) (g := 20) (u := true) ?ho28 ?hg28 (by omega) rfl rfl ?hw28 rfl ?h28
      case ho28 => simp only [List.getElem?_toArray, List.getElem?_cons_succ, List.getElem?_cons_zero]; rfl
      case hg28 => rfl
      case hw28 => rfl
      case h28 =>
      intro a W hS hB hd hR
      have e2 : a.tmps[2]? = some (.pointer (some ⟨b2, 0, none⟩)) := hS.get rfl rfl
      refine wp_value (c := .pointer (some ⟨b2, 1, none⟩)) ?_ rfl
      go_simp
    · refine StepOkO.on (o := ?o29) (g := 20) (u := true) ?ho29 ?hg29 (by omega) rfl rfl ?hw29 rfl ?h29
      case ho29 => simp only [List.getElem?_toArray, List.getElem?_cons_succ, List.getElem?_cons_zero]; rfl
      case hg29 => rfl
      case hw29 => rfl
      case h29 =>
      intro a W hS hB hd hR
      have e151 : a.tmps[151]? = some (.pointer (some ⟨b2, 1, none⟩)) := (hd 28 rfl).bool rfl rfl rfl
      refine wp_value (c := .pointer (some ⟨b2, 2, none⟩)) ?_ rfl
      go_simp
    · refine StepOkO.on (o := ?o30) (g := 20) (u := true) ?ho30 ?hg30 (by omega) rfl rfl ?hw30 rfl ?h30
      case ho30 => simp only [List.getElem?_toArray, List.getElem?_cons_succ, List.getElem?_cons_zero]; rfl
      case hg30 => rfl
      case hw30 => rfl
      case h30 =>
      intro a W hS hB hd hR
      have e152 : a.tmps[152]? = some (.pointer (some ⟨b2, 2, none⟩)) := (hd 29 rfl).bool rfl rfl rfl
      refine wp_value (c := .int .i64 aa) ?_ rfl
      have c0 : W.cell? ⟨b2, 0, none⟩ = some (.pointer (some ⟨g, 0, none⟩)) := (blk_cell hR.1 0).trans rfl
      have c1 : W.cell? ⟨b2, 1, none⟩ = some (.string (strOfNums l)) := (blk_cell hR.1 1).trans rfl
      have c2 : W.cell? ⟨b2, 2, none⟩ = some (.int .i64 aa) := (blk_cell hR.1 2).trans rfl
      have c3 : W.cell? ⟨b2, 3, none⟩ = some (.int .i64 ee) := (blk_cell hR.1 3).trans rfl
      go_simp
    · refine StepOkO.on (o := ?o31) (g := 20) (u := true) ?ho31 ?hg31 (by omega) rfl rfl ?hw31 rfl ?h31
      case ho31 => simp only [List.getElem?_toArray, List.getElem?_cons_succ, List.getElem?_cons_zero]; rfl
      case hg31 => rfl
      case hw31 => rfl
      case h31 =>
      intro a W hS hB hd hR
      have e150 : a.tmps[150]? = some (.int .i64 (l.length : Int)) := (hd 27 rfl).bool rfl rfl rfl
      have e153 : a.tmps[153]? = some (.int .i64 aa) := (hd 30 rfl).bool rfl rfl rfl
      refine wp_value (c := .int .i64 ((l.length : Int) - aa)) ?_ rfl
      have hw : IntKind.i64.wrap ((l.length : Int) - aa) = (l.length : Int) - aa := by rw [IntKind.wrap_i64]; omega
      go_simp
    · refine StepOkO.on (o := ?o32) (g := 20) (u := true) ?ho32 ?hg32 (by omega) rfl rfl ?hw32 rfl ?h32
      case ho32 => simp only [List.getElem?_toArray, List.getElem?_cons_succ, List.getElem?_cons_zero]; rfl
      case hg32 => rfl
      case hw32 => rfl
      case h32 =>
      intro a W hS hB hd hR
      have e146 : a.tmps[146]? = some (.int .i64 ((l.length : Int) - aa)) := (hd 23 rfl).bool rfl rfl rfl
      have e154 : a.tmps[154]? = some (.int .i64 ((l.length : Int) - aa)) := (hd 31 rfl).bool rfl rfl rfl
      refine wp_value (c := .bool true) ?_ rfl
      go_simp
    · refine StepOkO.run (o := ?o33) ?ho33 ?hg33 (by omega) ?h33
      case ho33 => simp only [List.getElem?_toArray, List.getElem?_cons_succ, List.getElem?_cons_zero]; rfl
      case hg33 => rfl
      case h33 =>
      intro a W hS hB hd hR
      have e143 : a.tmps[143]? = some (.bool true) := (hd 20 rfl).bool rfl rfl rfl
      have e155 : a.tmps[155]? = some (.bool true) := (hd 32 rfl).bool rfl rfl rfl
      refine wp_value (c := .bool true) ?_ rfl
      go_simp
    · refine StepOkO.write (o := ?o34) ?ho34 ?hg34 ?hw34 rfl ?h34
      case ho34 => simp only [List.getElem?_toArray, List.getElem?_cons_succ, List.getElem?_cons_zero]; rfl
      case hg34 => rfl
      case hw34 => rfl
      case h34 =>
      intro a W hS hB hd hR hP
      have e4 : a.tmps[4]? = some (.pointer (some ⟨b4, 0, none⟩)) := hS.get rfl rfl
      have e123 : a.tmps[123]? = some (.agg #[.pointer (some ⟨g, 0, none⟩), .string (strOfNums l), .int .i64 aa, .int .i64 ee]) := (hd 0 rfl).bool rfl rfl rfl
      have c0 : W.cell? ⟨b4, 0, none⟩ = some (.pointer none) := (blk_cell hP 0).trans rfl
      have c1 : W.cell? ⟨b4, 1, none⟩ = some (.string ⟨#[]⟩) := (blk_cell hP 1).trans rfl
      have c2 : W.cell? ⟨b4, 2, none⟩ = some (.int .i64 0) := (blk_cell hP 2).trans rfl
      have c3 : W.cell? ⟨b4, 3, none⟩ = some (.int .i64 0) := (blk_cell hP 3).trans rfl
      have f0 := blk_frozen hP 0
      have f1 := blk_frozen hP 1
      have f2 := blk_frozen hP 2
      have f3 := blk_frozen hP 3
      have q0 := blk_put (cs' := #[.pointer (some ⟨g, 0, none⟩), .string ⟨#[]⟩, .int .i64 0, .int .i64 0]) hP 0 (.pointer (some ⟨g, 0, none⟩)) rfl
      refine ⟨_, ?_, grown_put (grown_put (grown_put (grown_put (World.grownBy.refl _ _) (.pointer (some ⟨g, 0, none⟩))) (.string (strOfNums l))) (.int .i64 aa)) (.int .i64 ee), blk_put4 q0 _ _ _⟩
      go_simp
    · refine StepOkO.run (o := ?o35) ?ho35 ?hg35 (by omega) ?h35
      case ho35 => simp only [List.getElem?_toArray, List.getElem?_cons_succ, List.getElem?_cons_zero]; rfl
      case hg35 => rfl
      case h35 =>
      intro a W hS hB hd hR
      have e156 : a.tmps[156]? = some (.bool true) := (hd 33 rfl).bool rfl rfl rfl
      refine wp_value (c := .bool true) ?_ rfl
      go_simp
  · intro a W hS hB hh hRD hFD
    have e5 : a.tmps[5]? = some (.bool true) := (hh 35 (by omega)).bool rfl rfl rfl
    have HBR := Lib.hid hB
    have hlit := same_lit hS
    clear hh hS hB
    simp only [List.filterMap_cons, List.filterMap_nil, List.foldl_cons, List.foldl_nil, List.setIfInBounds_toArray, List.set_cons_zero, List.set_cons_succ] at hlit
    rw [show a.tmps.getD 5 undef = .bool true by simp [Array.getD_eq_getD_getElem?, e5]] at hlit
    generalize a.tmps.getD 123 undef = z123 at hlit
    generalize a.tmps.getD 124 undef = z124 at hlit
    generalize a.tmps.getD 125 undef = z125 at hlit
    generalize a.tmps.getD 126 undef = z126 at hlit
    generalize a.tmps.getD 127 undef = z127 at hlit
    generalize a.tmps.getD 128 undef = z128 at hlit
    generalize a.tmps.getD 129 undef = z129 at hlit
    generalize a.tmps.getD 130 undef = z130 at hlit
    generalize a.tmps.getD 131 undef = z131 at hlit
    generalize a.tmps.getD 132 undef = z132 at hlit
    generalize a.tmps.getD 133 undef = z133 at hlit
    generalize a.tmps.getD 134 undef = z134 at hlit
    generalize a.tmps.getD 135 undef = z135 at hlit
    generalize a.tmps.getD 136 undef = z136 at hlit
    generalize a.tmps.getD 137 undef = z137 at hlit
    generalize a.tmps.getD 138 undef = z138 at hlit
    generalize a.tmps.getD 139 undef = z139 at hlit
    generalize a.tmps.getD 140 undef = z140 at hlit
    generalize a.tmps.getD 141 undef = z141 at hlit
    generalize a.tmps.getD 142 undef = z142 at hlit
    generalize a.tmps.getD 143 undef = z143 at hlit
    generalize a.tmps.getD 144 undef = z144 at hlit
    generalize a.tmps.getD 145 undef = z145 at hlit
    generalize a.tmps.getD 146 undef = z146 at hlit
    generalize a.tmps.getD 147 undef = z147 at hlit
    generalize a.tmps.getD 148 undef = z148 at hlit
    generalize a.tmps.getD 149 undef = z149 at hlit
    generalize a.tmps.getD 150 undef = z150 at hlit
    generalize a.tmps.getD 151 undef = z151 at hlit
    generalize a.tmps.getD 152 undef = z152 at hlit
    generalize a.tmps.getD 153 undef = z153 at hlit
    generalize a.tmps.getD 154 undef = z154 at hlit
    generalize a.tmps.getD 155 undef = z155 at hlit
    generalize a.tmps.getD 156 undef = z156 at hlit
    clear e5
    subst hlit
    go_wp2_with fail
    refine bodyPost_ret (results_ct rfl _ _ b4 42 #[_, _, _, _] (0, 0) _ rfl hFD HU.out rfl (by kernel_rfl)) rfl ?_
    refine ⟨aa, ee, ha2.1, ha2.2, rfl, hRD.2, ?_, HW4.out.1.trans (HBR.out.mono (Nat.le_trans HBW.out.2.1.size (Nat.le_refl _)))⟩
    obtain ⟨g1, g2, g3, g4, g5⟩ := HW4.out.2
    obtain ⟨r1, r2, r3, r4, r5⟩ := HBR.out
    exact ⟨r1.trans g1, r2.trans g2, r3.trans g3, Nat.le_trans g4 r4, fun k hk hne => (r5 k hk).trans (g5 k hk hne)⟩
set_option maxRecDepth 100000 in
set_option maxHeartbeats 4000000 in
theorem step_2 (w0 w : World) (g : Nat) (l : List Int) (a e kd most each : Int) (hI : IsCu w0 w g l a e) (hB : Below w0.heap.size w0 w) (hb : ∀ x ∈ l, 0 ≤ x ∧ x < 256) (hl : l.length ≤ 1000000) (ha : 0 ≤ a ∧ a ≤ l.length) (hmost : -9223372036854775808 ≤ most ∧ most ≤ 9223372036854775807) (heach : -9223372036854775808 ≤ each ∧ each ≤ 9223372036854775807) :
    Calls Try.prog 25 #[.agg #[.pointer (some ⟨g, 0, none⟩), .string (strOfNums l), .int .i64 a, .int .i64 e], .agg #[.int .i64 2, .int .i64 most, .int .i64 each]] w fun en w' => ∃ aa ee : Int, 0 ≤ aa ∧ aa ≤ (l.length : Int) ∧ StepPost w0 w g l aa ee en w' := by
  have HR := Lib.hid (fun (W : World) => tephraref04_Cursor_Text.calls 31 _ _ _ _ _ _ _ _ W (rtext_is l hb hl a e most hmost 31 (Nat.le_refl _)))
  have HC := Lib.hid (fun (W : World) h1 h2 => text_any w0 W g l a e most h1 h2 hb hl hmost)
  have hst := (cuText_step l hb most a e ha)
  obtain ⟨R, hR⟩ : ∃ R, cuText l most a e = R := ⟨_, rfl⟩
  rw [hR] at HR HC hst
  obtain ⟨x, aa, ee⟩ := R
  dsimp only at hst
  have ha2 : 0 ≤ aa ∧ aa ≤ l.length := ⟨by omega, hst.1⟩
  clear hst hR
  obtain ⟨w1, hw1⟩ : ∃ w1, ((w.alloc (.cells #[.pointer (some ⟨g, 0, none⟩), .string (strOfNums l), .int .i64 a, .int .i64 e] 42)).alloc (.cells #[.int .i64 2, .int .i64 most, .int .i64 each] 44)).alloc (.cells #[.pointer none, .string ⟨#[]⟩, .int .i64 0, .int .i64 0] 42) = w1 := ⟨_, rfl⟩
  have hgw : g < w.heap.size := by obtain ⟨_, _, h, _⟩ := hI; exact blk_lt h
  obtain ⟨b2, hb2⟩ : ∃ b, w.heap.size = b := ⟨_, rfl⟩
  obtain ⟨b3, hb3⟩ : ∃ b, b2 + 1 = b := ⟨_, rfl⟩
  obtain ⟨b4, hb4⟩ : ∃ b, b3 + 1 = b := ⟨_, rfl⟩
  obtain ⟨hk2, hk3, hk4, hb01⟩ : w1.heap[b2]? = some (.cells #[.pointer (some ⟨g, 0, none⟩), .string (strOfNums l), .int .i64 a, .int .i64 e] 42 (0, 0)) ∧ w1.heap[b3]? = some (.cells #[.int .i64 2, .int .i64 most, .int .i64 each] 44 (0, 0)) ∧ w1.heap[b4]? = some (.cells #[.pointer none, .string ⟨#[]⟩, .int .i64 0, .int .i64 0] 42 (0, 0)) ∧ Below w.heap.size w w1 := by
    rw [← hw1, ← hb4, ← hb3, ← hb2]
    have s1 := blk_new w (.cells #[.pointer (some ⟨g, 0, none⟩), .string (strOfNums l), .int .i64 a, .int .i64 e] 42 (0, 0))
    have s2 := blk_new (w.alloc (.cells #[.pointer (some ⟨g, 0, none⟩), .string (strOfNums l), .int .i64 a, .int .i64 e] 42 (0, 0))) (.cells #[.int .i64 2, .int .i64 most, .int .i64 each] 44 (0, 0))
    have s3 := blk_new ((w.alloc (.cells #[.pointer (some ⟨g, 0, none⟩), .string (strOfNums l), .int .i64 a, .int .i64 e] 42 (0, 0))).alloc (.cells #[.int .i64 2, .int .i64 most, .int .i64 each] 44 (0, 0))) (.cells #[.pointer none, .string ⟨#[]⟩, .int .i64 0, .int .i64 0] 42 (0, 0))
    rw [heap_size_alloc] at s2 s3
    rw [heap_size_alloc] at s3
    have al := fun (W : World) (o : Obj) => (Below.refl W.heap.size W).alloc (Nat.le_refl _) o
    exact ⟨blk_below (blk_below s1 (al _ _)) (al _ _), blk_below s2 (al _ _), s3, ((Below.refl _ _).alloc (Nat.le_refl _) _).alloc (by rw [heap_size_alloc]; omega) _ |>.alloc (by rw [heap_size_alloc, heap_size_alloc]; omega) _⟩
  have hs2 : b4 < w1.heap.size := blk_lt hk4
  have HBW := Lib.hid (And.intro hI (And.intro hB (And.intro hb01 (And.intro hs2 hgw))))
  have HK := Lib.hid (And.intro hk2 (And.intro hk3 hk4))
  have x0 := (blk_cell hk2 0).trans rfl
  have x1 := (blk_cell hk2 1).trans rfl
  have x2 := (blk_cell hk2 2).trans rfl
  have x3 := (blk_cell hk2 3).trans rfl
  have x4 := (blk_cell hk3 0).trans rfl
  have x5 := (blk_cell hk3 1).trans rfl
  have x6 := (blk_cell hk3 2).trans rfl
  clear hI hB hgw hb01 hs2 hk2 hk3 hk4
  go_enter Try.func25, Try.ntmps25
  go_wp2_with fail
  refine (HR.out _).mono ?_
  rintro en w2 ⟨rfl, hb12⟩
  obtain ⟨wA, hwA⟩ : ∃ wA, w2.alloc (.cells #[.string (strOfNums l), .int .i64 aa, .int .i64 ee] 39) = wA := ⟨_, rfl⟩
  have hbA : Below w1.heap.size w1 wA := by rw [← hwA]; exact hb12.alloc hb12.size _
  have nA := (blk_new w2 (.cells #[.string (strOfNums l), .int .i64 aa, .int .i64 ee] 39 (0, 0)))
  rw [hwA] at nA
  obtain ⟨hk2, hk3, hk4⟩ := HK.out
  have kA2 := blk_below hk2 hbA
  have kA3 := blk_below hk3 hbA
  have kA4 := blk_below hk4 hbA
  clear hk2 hk3 hk4 x0 x1 x2 x3 x4 x5 x6
  obtain ⟨w3, hw3⟩ : ∃ w3, ((wA.setCell ⟨b2, 1, none⟩ (.string (strOfNums l))).setCell ⟨b2, 2, none⟩ (.int .i64 aa)).setCell ⟨b2, 3, none⟩ (.int .i64 ee) = w3 := ⟨_, rfl⟩
  have HK3 := Lib.hid (show w3.heap[b2]? = some (.cells #[.pointer (some ⟨g, 0, none⟩), .string (strOfNums l), .int .i64 aa, .int .i64 ee] 42 (0, 0)) ∧ w3.heap[b3]? = some (.cells #[.int .i64 2, .int .i64 most, .int .i64 each] 44 (0, 0)) ∧ w3.heap[b4]? = some (.cells #[.pointer none, .string ⟨#[]⟩, .int .i64 0, .int .i64 0] 42 (0, 0)) ∧ Below w.heap.size w w3 by
    rw [← hw3]
    refine ⟨blk_put4 kA2 _ _ _, ?_, ?_, below_put4 (HBW.out.2.2.1.trans (hbA.mono HBW.out.2.2.1.size)) (by omega) _ _ _⟩
    · rw [Below.heap_setCell _ _ _ _ (by show b3 ≠ b2; omega), Below.heap_setCell _ _ _ _ (by show b3 ≠ b2; omega), Below.heap_setCell _ _ _ _ (by show b3 ≠ b2; omega)]; exact kA3
    · rw [Below.heap_setCell _ _ _ _ (by show b4 ≠ b2; omega), Below.heap_setCell _ _ _ _ (by show b4 ≠ b2; omega), Below.heap_setCell _ _ _ _ (by show b4 ≠ b2; omega)]; exact kA4)
  have y1 := (blk_cell kA2 1).trans rfl
  have y2 := (blk_cell kA2 2).trans rfl
  have y3 := (blk_cell kA2 3).trans rfl
  have z1 := blk_frozen kA2 1
  have z2 := blk_frozen kA2 2
  have z3 := blk_frozen kA2 3
  have n0 := (blk_cell nA 0).trans rfl
  have n1 := (blk_cell nA 1).trans rfl
  have n2 := (blk_cell nA 2).trans rfl
  have x0 := (blk_cell HK3.out.1 0).trans rfl
  have x5 := (blk_cell HK3.out.2.1 1).trans rfl
  have x6 := (blk_cell HK3.out.2.1 2).trans rfl
  have HIB := Lib.hid (And.intro (HBW.out.1.keep HK3.out.2.2.2) (HBW.out.2.1.trans (HK3.out.2.2.2.mono HBW.out.2.1.size)))
  clear kA2 kA3 kA4 nA hbA hb12
  go_wp2_with fail
  clear y1 y2 y3 z1 z2 z3 n0 n1 n2 hwA hw3
  refine (HC.out _ HIB.out.1 HIB.out.2).mono ?_
  rintro en wT ⟨rfl, hI4, hg4, hB4⟩
  obtain ⟨kT2, kT4, hbT⟩ : wT.heap[b2]? = some (.cells #[.pointer (some ⟨g, 0, none⟩), .string (strOfNums l), .int .i64 aa, .int .i64 ee] 42 (0, 0)) ∧ wT.heap[b4]? = some (.cells #[.pointer none, .string ⟨#[]⟩, .int .i64 0, .int .i64 0] 42 (0, 0)) ∧ w.grownBy wT (some g) := by
    obtain ⟨h1, h2, h3, h4⟩ := HK3.out
    have hgw := HBW.out.2.2.2.2
    exact ⟨blk_grown h1 hg4 (by intro h; cases h; omega), blk_grown h3 hg4 (by intro h; cases h; omega), grown_after (grownBy_none h4) hg4⟩
  clear hg4
  go_wp2_with fail
  have hne2 : b2 ≠ b4 := by omega
  have hneg : g ≠ b4 := by have := HBW.out.2.2.2.2; omega
  have hsz4 : w.heap.size ≤ wT.heap.size := hbT.size
  have HU := Lib.hid Try.underlying42
  have hb24 : w.heap.size ≤ b4 := by omega
  clear hb2 hb3 hb4
  have HW4 := Lib.hid (And.intro hB4 hbT)
  clear hB4 hbT HK HK3 HIB HR HC x0 x5 x6 hw1
  refine region_one (n := 36) (base := w.heap.size) (w0 := wT) (b := b4) (jw := 34) (byList [isV (.agg #[.pointer (some ⟨g, 0, none⟩), .string (strOfNums l), .int .i64 aa, .int .i64 ee]), isV (.bool true), isV (.bool true), isV (.pointer (some ⟨b2, 0, none⟩)), isV (.pointer (some ⟨g, 0, none⟩)), isV (.int .i64 ee), isV (.pointer (some ⟨b2, 1, none⟩)), isV (.pointer (some ⟨b2, 3, none⟩)), isV (.int .i64 ee), isV (.bool true), isV (.bool true), isV (.bool true), isV (.pointer (some ⟨b2, 0, none⟩)), isV (.pointer (some ⟨g, 0, none⟩)), isV (.int .i64 aa), isV (.pointer (some ⟨b2, 1, none⟩)), isV (.pointer (some ⟨b2, 2, none⟩)), isV (.int .i64 aa), isV (.bool true), isV (.bool true), isV (.bool true), isV (.pointer (some ⟨b2, 0, none⟩)), isV (.pointer (some ⟨g, 0, none⟩)), isV (.int .i64 ((l.length : Int) - aa)), isV (.pointer (some ⟨b2, 1, none⟩)), isV (.pointer (some ⟨b2, 1, none⟩)), isV (.string (strOfNums l)), isV (.int .i64 (l.length : Int)), isV (.pointer (some ⟨b2, 1, none⟩)), isV (.pointer (some ⟨b2, 2, none⟩)), isV (.int .i64 aa), isV (.int .i64 ((l.length : Int) - aa)), isV (.bool true), isV (.bool true), (fun _ _ => True), isV (.bool true)]) (fun W => W.heap[b2]? = some (.cells #[.pointer (some ⟨g, 0, none⟩), .string (strOfNums l), .int .i64 aa, .int .i64 ee] 42 (0, 0)) ∧ IsCu w0 W g l aa ee) (fun W => W.heap[b4]? = some (.cells #[.pointer none, .string ⟨#[]⟩, .int .i64 0, .int .i64 0] 42 (0, 0))) (fun W => W.heap[b4]? = some (.cells #[.pointer (some ⟨g, 0, none⟩), .string (strOfNums l), .int .i64 aa, .int .i64 ee] 42 (0, 0))) (by kernel_rfl) rfl (by omega) (byList_any ?_) (by kernel_rfl) (by kernel_rfl) (by omega) (fun W W' row hrow h hg => ⟨blk_grown h.1 hg (by rcases hrow with rfl | rfl <;> simp <;> omega), h.2.grown hg (by rcases hrow with rfl | rfl <;> simp <;> omega)⟩) (fun W W' h hg => blk_below h (below_none hg)) (fun W W' h hg => blk_below h (below_none hg)) (Below.refl _ _) hsz4 ⟨kT2, hI4⟩ kT4 (show AllLt 36 _ from ?_) ?_
  · intro p hp
    simp only [List.mem_cons, List.not_mem_nil, or_false] at hp
    rcases hp with rfl | rfl | rfl | rfl | rfl | rfl | rfl | rfl | rfl | rfl | rfl | rfl | rfl | rfl | rfl | rfl | rfl | rfl | rfl | rfl | rfl | rfl | rfl | rfl | rfl | rfl | rfl | rfl | rfl | rfl | rfl | rfl | rfl | rfl | rfl | rfl <;> exact fun _ _ _ h => h
  · refine allLt_succ (allLt_succ (allLt_succ (allLt_succ (allLt_succ (allLt_succ (allLt_succ (allLt_succ (allLt_succ (allLt_succ (allLt_succ (allLt_succ (allLt_succ (allLt_succ (allLt_succ (allLt_succ (allLt_succ (allLt_succ (allLt_succ (allLt_succ (allLt_succ (allLt_succ (allLt_succ (allLt_succ (allLt_succ (allLt_succ (allLt_succ (allLt_succ (allLt_succ (allLt_succ (allLt_succ (allLt_succ (allLt_succ (allLt_succ (allLt_succ (allLt_succ (allLt_zero _) ?_) ?_) ?_) ?_) ?_) ?_) ?_) ?_) ?_) ?_) ?_) ?_) ?_) ?_) ?_) ?_) ?_) ?_) ?_) ?_) ?_) ?_) ?_) ?_) ?_) ?_) ?_) ?_) ?_) ?_) ?_) ?_) ?_) ?_) ?_) ?_
    · refine StepOkO.run (o := ?o0) ?ho0 ?hg0 (by omega) ?h0
      case ho0 => simp only [List.getElem?_toArray, List.getElem?_cons_succ, List.getElem?_cons_zero]; rfl
      case hg0 => rfl
      case h0 =>
      intro a W hS hB hd hR
      have e2 : a.tmps[2]? = some (.pointer (some ⟨b2, 0, none⟩)) := hS.get rfl rfl
      refine wp_value (c := .agg #[.pointer (some ⟨g, 0, none⟩), .string (strOfNums l), .int .i64 aa, .int .i64 ee]) ?_ rfl
      have c0 : W.cell? ⟨b2, 0, none⟩ = some (.pointer (some ⟨g, 0, none⟩)) := (blk_cell hR.1 0).trans rfl
      have c1 : W.cell? ⟨b2, 1, none⟩ = some (.string (strOfNums l)) := (blk_cell hR.1 1).trans rfl
      have c2 : W.cell? ⟨b2, 2, none⟩ = some (.int .i64 aa) := (blk_cell hR.1 2).trans rfl
      have c3 : W.cell? ⟨b2, 3, none⟩ = some (.int .i64 ee) := (blk_cell hR.1 3).trans rfl
      go_simp
    · refine StepOkO.run (o := ?o1) ?ho1 ?hg1 (by omega) ?h1
      case ho1 => simp only [List.getElem?_toArray, List.getElem?_cons_succ, List.getElem?_cons_zero]; rfl
      case hg1 => rfl
      case h1 =>
      intro a W hS hB hd hR
      have e6 : a.tmps[6]? = some (.bool true) := hS.get rfl rfl
      refine wp_value (c := .bool true) ?_ rfl
      go_simp
    · refine StepOkO.run (o := ?o2) ?ho2 ?hg2 (by omega) ?h2
      case ho2 => simp only [List.getElem?_toArray, List.getElem?_cons_succ, List.getElem?_cons_zero]; rfl
      case hg2 => rfl
      case h2 =>
      intro a W hS hB hd hR
      have e124 : a.tmps[124]? = some (.bool true) := (hd 1 rfl).bool rfl rfl rfl
      refine wp_value (c := .bool true) ?_ rfl
      go_simp
    · refine StepOkO.on (o := ?o3) (g := 2) (u := true) ?ho3 ?hg3 (by omega) rfl rfl ?hw3 rfl ?h3
      case ho3 => simp only [List.getElem?_toArray, List.getElem?_cons_succ, List.getElem?_cons_zero]; rfl
      case hg3 => rfl
      case hw3 => rfl
      case h3 =>
      intro a W hS hB hd hR
      have e2 : a.tmps[2]? = some (.pointer (some ⟨b2, 0, none⟩)) := hS.get rfl rfl
      refine wp_value (c := .pointer (some ⟨b2, 0, none⟩)) ?_ rfl
      go_simp
    · refine StepOkO.on (o := ?o4) (g := 2) (u := true) ?ho4 ?hg4 (by omega) rfl rfl ?hw4 rfl ?h4
      case ho4 => simp only [List.getElem?_toArray, List.getElem?_cons_succ, List.getElem?_cons_zero]; rfl
      case hg4 => rfl
      case hw4 => rfl
      case h4 =>
      intro a W hS hB hd hR
      have e126 : a.tmps[126]? = some (.pointer (some ⟨b2, 0, none⟩)) := (hd 3 rfl).bool rfl rfl rfl
      refine wp_value (c := .pointer (some ⟨g, 0, none⟩)) ?_ rfl
      have c0 : W.cell? ⟨b2, 0, none⟩ = some (.pointer (some ⟨g, 0, none⟩)) := (blk_cell hR.1 0).trans rfl
      have c1 : W.cell? ⟨b2, 1, none⟩ = some (.string (strOfNums l)) := (blk_cell hR.1 1).trans rfl
      have c2 : W.cell? ⟨b2, 2, none⟩ = some (.int .i64 aa) := (blk_cell hR.1 2).trans rfl
      have c3 : W.cell? ⟨b2, 3, none⟩ = some (.int .i64 ee) := (blk_cell hR.1 3).trans rfl
      go_simp
    · refine StepOkO.on (o := ?o5) (g := 2) (u := true) ?ho5 ?hg5 (by omega) rfl rfl ?hw5 rfl ?h5
      case ho5 => simp only [List.getElem?_toArray, List.getElem?_cons_succ, List.getElem?_cons_zero]; rfl
      case hg5 => rfl
      case hw5 => rfl
      case h5 =>
      intro a W hS hB hd hR
      have e127 : a.tmps[127]? = some (.pointer (some ⟨g, 0, none⟩)) := (hd 4 rfl).bool rfl rfl rfl
      refine wp_called Try.func20 (by kernel_rfl) rfl #[.pointer (some ⟨g, 0, none⟩)] rfl (by simp [Act.eval, *]) ?_
      refine (err_any w0 W g l aa ee hR.2).mono ?_
      rintro e9 w9 ⟨rfl, rfl⟩
      exact ⟨_, rfl, rfl, Below.refl _ _⟩
    · refine StepOkO.on (o := ?o6) (g := 2) (u := true) ?ho6 ?hg6 (by omega) rfl rfl ?hw6 rfl ?h6
      case ho6 => simp only [List.getElem?_toArray, List.getElem?_cons_succ, List.getElem?_cons_zero]; rfl
      case hg6 => rfl
      case hw6 => rfl
      case h6 =>
      intro a W hS hB hd hR
      have e2 : a.tmps[2]? = some (.pointer (some ⟨b2, 0, none⟩)) := hS.get rfl rfl
      refine wp_value (c := .pointer (some ⟨b2, 1, none⟩)) ?_ rfl
      go_simp
    · refine StepOkO.on (o := ?o7) (g := 2) (u := true) ?ho7 ?hg7 (by omega) rfl rfl ?hw7 rfl ?h7
      case ho7 => simp only [List.getElem?_toArray, List.getElem?_cons_succ, List.getElem?_cons_zero]; rfl
      case hg7 => rfl
      case hw7 => rfl
      case h7 =>
      intro a W hS hB hd hR
      have e129 : a.tmps[129]? = some (.pointer (some ⟨b2, 1, none⟩)) := (hd 6 rfl).bool rfl rfl rfl
      refine wp_value (c := .pointer (some ⟨b2, 3, none⟩)) ?_ rfl
      go_simp
    · refine StepOkO.on (o := ?o8) (g := 2) (u := true) ?ho8 ?hg8 (by omega) rfl rfl ?hw8 rfl ?h8
      case ho8 => simp only [List.getElem?_toArray, List.getElem?_cons_succ, List.getElem?_cons_zero]; rfl
      case hg8 => rfl
      case hw8 => rfl
      case h8 =>
      intro a W hS hB hd hR
      have e130 : a.tmps[130]? = some (.pointer (some ⟨b2, 3, none⟩)) := (hd 7 rfl).bool rfl rfl rfl
      refine wp_value (c := .int .i64 ee) ?_ rfl
      have c0 : W.cell? ⟨b2, 0, none⟩ = some (.pointer (some ⟨g, 0, none⟩)) := (blk_cell hR.1 0).trans rfl
      have c1 : W.cell? ⟨b2, 1, none⟩ = some (.string (strOfNums l)) := (blk_cell hR.1 1).trans rfl
      have c2 : W.cell? ⟨b2, 2, none⟩ = some (.int .i64 aa) := (blk_cell hR.1 2).trans rfl
      have c3 : W.cell? ⟨b2, 3, none⟩ = some (.int .i64 ee) := (blk_cell hR.1 3).trans rfl
      go_simp
    · refine StepOkO.on (o := ?o9) (g := 2) (u := true) ?ho9 ?hg9 (by omega) rfl rfl ?hw9 rfl ?h9
      case ho9 => simp only [List.getElem?_toArray, List.getElem?_cons_succ, List.getElem?_cons_zero]; rfl
      case hg9 => rfl
      case hw9 => rfl
      case h9 =>
      intro a W hS hB hd hR
      have e128 : a.tmps[128]? = some (.int .i64 ee) := (hd 5 rfl).bool rfl rfl rfl
      have e131 : a.tmps[131]? = some (.int .i64 ee) := (hd 8 rfl).bool rfl rfl rfl
      refine wp_value (c := .bool true) ?_ rfl
      go_simp
    · refine StepOkO.run (o := ?o10) ?ho10 ?hg10 (by omega) ?h10
      case ho10 => simp only [List.getElem?_toArray, List.getElem?_cons_succ, List.getElem?_cons_zero]; rfl
      case hg10 => rfl
      case h10 =>
      intro a W hS hB hd hR
      have e125 : a.tmps[125]? = some (.bool true) := (hd 2 rfl).bool rfl rfl rfl
      have e132 : a.tmps[132]? = some (.bool true) := (hd 9 rfl).bool rfl rfl rfl
      refine wp_value (c := .bool true) ?_ rfl
      go_simp
    · refine StepOkO.run (o := ?o11) ?ho11 ?hg11 (by omega) ?h11
      case ho11 => simp only [List.getElem?_toArray, List.getElem?_cons_succ, List.getElem?_cons_zero]; rfl
      case hg11 => rfl
      case h11 =>
      intro a W hS hB hd hR
      have e133 : a.tmps[133]? = some (.bool true) := (hd 10 rfl).bool rfl rfl rfl
      refine wp_value (c := .bool true) ?_ rfl
      go_simp
    · refine StepOkO.on (o := ?o12) (g := 11) (u := true) ?ho12 ?hg12 (by omega) rfl rfl ?hw12 rfl ?h12
      case ho12 => simp only [List.getElem?_toArray, List.getElem?_cons_succ, List.getElem?_cons_zero]; rfl
      case hg12 => rfl
      case hw12 => rfl
      case h12 =>
      intro a W hS hB hd hR
      have e2 : a.tmps[2]? = some (.pointer (some ⟨b2, 0, none⟩)) := hS.get rfl rfl
      refine wp_value (c := .pointer (some ⟨b2, 0, none⟩)) ?_ rfl
      go_simp
    · refine StepOkO.on (o := ?o13) (g := 11) (u := true) ?ho13 ?hg13 (by omega) rfl rfl ?hw13 rfl ?h13
      case ho13 => simp only [List.getElem?_toArray, List.getElem?_cons_succ, List.getElem?_cons_zero]; rfl
      case hg13 => rfl
      case hw13 => rfl
      case h13 =>
      intro a W hS hB hd hR
      have e135 : a.tmps[135]? = some (.pointer (some ⟨b2, 0, none⟩)) := (hd 12 rfl).bool rfl rfl rfl
      refine wp_value (c := .pointer (some ⟨g, 0, none⟩)) ?_ rfl
      have c0 : W.cell? ⟨b2, 0, none⟩ = some (.pointer (some ⟨g, 0, none⟩)) := (blk_cell hR.1 0).trans rfl
      have c1 : W.cell? ⟨b2, 1, none⟩ = some (.string (strOfNums l)) := (blk_cell hR.1 1).trans rfl
      have c2 : W.cell? ⟨b2, 2, none⟩ = some (.int .i64 aa) := (blk_cell hR.1 2).trans rfl
      have c3 : W.cell? ⟨b2, 3, none⟩ = some (.int .i64 ee) := (blk_cell hR.1 3).trans rfl
      go_simp
    · refine StepOkO.on (o := ?o14) (g := 11) (u := true) ?ho14 ?hg14 (by omega) rfl rfl ?hw14 rfl ?h14
      case ho14 => simp only [List.getElem?_toArray, List.getElem?_cons_succ, List.getElem?_cons_zero]; rfl
      case hg14 => rfl
      case hw14 => rfl
      case h14 =>
      intro a W hS hB hd hR
      have e136 : a.tmps[136]? = some (.pointer (some ⟨g, 0, none⟩)) := (hd 13 rfl).bool rfl rfl rfl
      refine wp_called Try.func26 (by kernel_rfl) rfl #[.pointer (some ⟨g, 0, none⟩)] rfl (by simp [Act.eval, *]) ?_
      refine (at_any w0 W g l aa ee hR.2).mono ?_
      rintro e9 w9 ⟨rfl, rfl⟩
      exact ⟨_, rfl, rfl, Below.refl _ _⟩
    · refine StepOkO.on (o := ?o15) (g := 11) (u := true) ?ho15 ?hg15 (by omega) rfl rfl ?hw15 rfl ?h15
      case ho15 => simp only [List.getElem?_toArray, List.getElem?_cons_succ, List.getElem?_cons_zero]; rfl
      case hg15 => rfl
      case hw15 => rfl
      case h15 =>
      intro a W hS hB hd hR
      have e2 : a.tmps[2]? = some (.pointer (some ⟨b2, 0, none⟩)) := hS.get rfl rfl
      refine wp_value (c := .pointer (some ⟨b2, 1, none⟩)) ?_ rfl
      go_simp
    · refine StepOkO.on (o := ?o16) (g := 11) (u := true) ?ho16 ?hg16 (by omega) rfl rfl ?hw16 rfl ?h16
      case ho16 => simp only [List.getElem?_toArray, List.getElem?_cons_succ, List.getElem?_cons_zero]; rfl
      case hg16 => rfl
      case hw16 => rfl
      case h16 =>
      intro a W hS hB hd hR
      have e138 : a.tmps[138]? = some (.pointer (some ⟨b2, 1, none⟩)) := (hd 15 rfl).bool rfl rfl rfl
      refine wp_value (c := .pointer (some ⟨b2, 2, none⟩)) ?_ rfl
      go_simp
    · refine StepOkO.on (o := ?o17) (g := 11) (u := true) ?ho17 ?hg17 (by omega) rfl rfl ?hw17 rfl ?h17
      case ho17 => simp only [List.getElem?_toArray, List.getElem?_cons_succ, List.getElem?_cons_zero]; rfl
      case hg17 => rfl
      case hw17 => rfl
      case h17 =>
      intro a W hS hB hd hR
      have e139 : a.tmps[139]? = some (.pointer (some ⟨b2, 2, none⟩)) := (hd 16 rfl).bool rfl rfl rfl
      refine wp_value (c := .int .i64 aa) ?_ rfl
      have c0 : W.cell? ⟨b2, 0, none⟩ = some (.pointer (some ⟨g, 0, none⟩)) := (blk_cell hR.1 0).trans rfl
      have c1 : W.cell? ⟨b2, 1, none⟩ = some (.string (strOfNums l)) := (blk_cell hR.1 1).trans rfl
      have c2 : W.cell? ⟨b2, 2, none⟩ = some (.int .i64 aa) := (blk_cell hR.1 2).trans rfl
      have c3 : W.cell? ⟨b2, 3, none⟩ = some (.int .i64 ee) := (blk_cell hR.1 3).trans rfl
      go_simp
    · refine StepOkO.on (o := ?o18) (g := 11) (u := true) ?ho18 ?hg18 (by omega) rfl rfl ?hw18 rfl ?h18
      case ho18 => simp only [List.getElem?_toArray, List.getElem?_cons_succ, List.getElem?_cons_zero]; rfl
      case hg18 => rfl
      case hw18 => rfl
      case h18 =>
      intro a W hS hB hd hR
      have e137 : a.tmps[137]? = some (.int .i64 aa) := (hd 14 rfl).bool rfl rfl rfl
      have e140 : a.tmps[140]? = some (.int .i64 aa) := (hd 17 rfl).bool rfl rfl rfl
      refine wp_value (c := .bool true) ?_ rfl
      go_simp
    · refine StepOkO.run (o := ?o19) ?ho19 ?hg19 (by omega) ?h19
      case ho19 => simp only [List.getElem?_toArray, List.getElem?_cons_succ, List.getElem?_cons_zero]; rfl
      case hg19 => rfl
      case h19 =>
      intro a W hS hB hd hR
      have e134 : a.tmps[134]? = some (.bool true) := (hd 11 rfl).bool rfl rfl rfl
      have e141 : a.tmps[141]? = some (.bool true) := (hd 18 rfl).bool rfl rfl rfl
      refine wp_value (c := .bool true) ?_ rfl
      go_simp
    · refine StepOkO.run (o := ?o20) ?ho20 ?hg20 (by omega) ?h20
      case ho20 => simp only [List.getElem?_toArray, List.getElem?_cons_succ, List.getElem?_cons_zero]; rfl
      case hg20 => rfl
      case h20 =>
      intro a W hS hB hd hR
      have e142 : a.tmps[142]? = some (.bool true) := (hd 19 rfl).bool rfl rfl rfl
      refine wp_value (c := .bool true) ?_ rfl
      go_simp
    · refine StepOkO.on (o := ?o21) (g := 20) (u := true) ?ho21 ?hg21 (by omega) rfl rfl ?hw21 rfl ?h21
      case ho21 => simp only [List.getElem?_toArray, List.getElem?_cons_succ, List.getElem?_cons_zero]; rfl
      case hg21 => rfl
      case hw21 => rfl
      case h21 =>
      intro a W hS hB hd hR
      have e2 : a.tmps[2]? = some (.pointer (some ⟨b2, 0, none⟩)) := hS.get rfl rfl
      refine wp_value (c := .pointer (some ⟨b2, 0, none⟩)) ?_ rfl
      go_simp
    · refine StepOkO.on (o := ?o22) (g := 20) (u := true) ?ho22 ?hg22 (by omega) rfl rfl ?hw22 rfl ?h22
      case ho22 => simp only [List.getElem?_toArray, List.getElem?_cons_succ, List.getElem?_cons_zero]; rfl
      case hg22 => rfl
      case hw22 => rfl
      case h22 =>
      intro a W hS hB hd hR
      have e144 : a.tmps[144]? = some (.pointer (some ⟨b2, 0, none⟩)) := (hd 21 rfl).bool rfl rfl rfl
      refine wp_value (c := .pointer (some ⟨g, 0, none⟩)) ?_ rfl
      have c0 : W.cell? ⟨b2, 0, none⟩ = some (.pointer (some ⟨g, 0, none⟩)) := (blk_cell hR.1 0).trans rfl
      have c1 : W.cell? ⟨b2, 1, none⟩ = some (.string (strOfNums l)) := (blk_cell hR.1 1).trans rfl
      have c2 : W.cell? ⟨b2, 2, none⟩ = some (.int .i64 aa) := (blk_cell hR.1 2).trans rfl
      have c3 : W.cell? ⟨b2, 3, none⟩ = some (.int .i64 ee) := (blk_cell hR.1 3).trans rfl
      go_simp
    · refine StepOkO.on (o := ?o23) (g := 20) (u := true) ?ho23 ?hg23 (by omega) rfl rfl ?hw23 rfl ?h23
      case ho23 => simp only [List.getElem?_toArray, List.getElem?_cons_succ, List.getElem?_cons_zero]; rfl
      case hg23 => rfl
      case hw23 => rfl
      case h23 =>
      intro a W hS hB hd hR
      have e145 : a.tmps[145]? = some (.pointer (some ⟨g, 0, none⟩)) := (hd 22 rfl).bool rfl rfl rfl
      refine wp_called Try.func21 (by kernel_rfl) rfl #[.pointer (some ⟨g, 0, none⟩)] rfl (by simp [Act.eval, *]) ?_
      refine (left_any w0 W g l aa ee hR.2 hl ha2).mono ?_
      rintro e9 w9 ⟨rfl, hb9⟩
      exact ⟨_, rfl, rfl, hb9⟩
    · refine StepOkO.on (o := ?o24) (g := 20) (u := true) ?ho24 ?hg24 (by omega) rfl rfl ?hw24 rfl ?h24
      case ho24 => simp only [List.getElem?_toArray, List.getElem?_cons_succ, List.getElem?_cons_zero]; rfl
      case hg24 => rfl
      case hw24 => rfl
      case h24 =>
      intro a W hS hB hd hR
      have e2 : a.tmps[2]? = some (.pointer (some ⟨b2, 0, none⟩)) := hS.get rfl rfl
      refine wp_value (c := .pointer (some ⟨b2, 1, none⟩)) ?_ rfl
      go_simp
    · refine StepOkO.on (o := ?o25) (g := 20) (u := true) ?ho25 ?hg25 (by omega) rfl rfl ?hw25 rfl ?h25
      case ho25 => simp only [List.getElem?_toArray, List.getElem?_cons_succ, List.getElem?_cons_zero]; rfl
      case hg25 => rfl
      case hw25 => rfl
      case h25 =>
      intro a W hS hB hd hR
      have e147 : a.tmps[147]? = some (.pointer (some ⟨b2, 1, none⟩)) := (hd 24 rfl).bool rfl rfl rfl
      refine wp_value (c := .pointer (some ⟨b2, 1, none⟩)) ?_ rfl
      go_simp
    · refine StepOkO.on (o := ?o26) (g := 20) (u := true) ?ho26 ?hg26 (by omega) rfl rfl ?hw26 rfl ?h26
      case ho26 => simp only [List.getElem?_toArray, List.getElem?_cons_succ, List.getElem?_cons_zero]; rfl
      case hg26 => rfl
      case hw26 => rfl
      case h26 =>
      intro a W hS hB hd hR
      have e148 : a.tmps[148]? = some (.pointer (some ⟨b2, 1, none⟩)) := (hd 25 rfl).bool rfl rfl rfl
      refine wp_value (c := .string (strOfNums l)) ?_ rfl
      have c0 : W.cell? ⟨b2, 0, none⟩ = some (.pointer (some ⟨g, 0, none⟩)) := (blk_cell hR.1 0).trans rfl
      have c1 : W.cell? ⟨b2, 1, none⟩ = some (.string (strOfNums l)) := (blk_cell hR.1 1).trans rfl
      have c2 : W.cell? ⟨b2, 2, none⟩ = some (.int .i64 aa) := (blk_cell hR.1 2).trans rfl
      have c3 : W.cell? ⟨b2, 3, none⟩ = some (.int .i64 ee) := (blk_cell hR.1 3).trans rfl
      go_simp
    · refine StepOkO.on (o := ?o27) (g := 20) (u := true) ?ho27 ?hg27 (by omega) rfl rfl ?hw27 rfl ?h27
      case ho27 => simp only [List.getElem?_toArray, List.getElem?_cons_succ, List.getElem?_cons_zero]; rfl
      case hg27 => rfl
      case hw27 => rfl
      case h27 =>
      intro a W hS hB hd hR
      have e149 : a.tmps[149]? = some (.string (strOfNums l)) := (hd 26 rfl).bool rfl rfl rfl
      refine wp_value (c := .int .i64 (l.length : Int)) ?_ rfl
      have hs : (strOfNums l).size = l.length := strOfNums_size l
      go_simp
    · refine StepOkO.on (o := ?o28) (g := 20) (u := true) ?ho28 ?hg28 (by omega) rfl rfl ?hw28 rfl ?h28
      case ho28 => simp only [List.getElem?_toArray, List.getElem?_cons_succ, List.getElem?_cons_zero]; rfl
      case hg28 => rfl
      case hw28 => rfl
      case h28 =>
      intro a W hS hB hd hR
      have e2 : a.tmps[2]? = some (.pointer (some ⟨b2, 0, none⟩)) := hS.get rfl rfl
      refine wp_value (c := .pointer (some ⟨b2, 1, none⟩)) ?_ rfl
      go_simp
    · refine StepOkO.on (o := ?o29) (g := 20) (u := true) ?ho29 ?hg29 (by omega) rfl rfl ?hw29 rfl ?h29
      case ho29 => simp only [List.getElem?_toArray, List.getElem?_cons_succ, List.getElem?_cons_zero]; rfl
      case hg29 => rfl
      case hw29 => rfl
      case h29 =>
      intro a W hS hB hd hR
      have e151 : a.tmps[151]? = some (.pointer (some ⟨b2, 1, none⟩)) := (hd 28 rfl).bool rfl rfl rfl
      refine wp_value (c := .pointer (some ⟨b2, 2, none⟩)) ?_ rfl
      go_simp
    · refine StepOkO.on (o := ?o30) (g := 20) (u := true) ?ho30 ?hg30 (by omega) rfl rfl ?hw30 rfl ?h30
      case ho30 => simp only [List.getElem?_toArray, List.getElem?_cons_succ, List.getElem?_cons_zero]; rfl
      case hg30 => rfl
      case hw30 => rfl
      case h30 =>
      intro a W hS hB hd hR
      have e152 : a.tmps[152]? = some (.pointer (some ⟨b2, 2, none⟩)) := (hd 29 rfl).bool rfl rfl rfl
      refine wp_value (c := .int .i64 aa) ?_ rfl
      have c0 : W.cell? ⟨b2, 0, none⟩ = some (.pointer (some ⟨g, 0, none⟩)) := (blk_cell hR.1 0).trans rfl
      have c1 : W.cell? ⟨b2, 1, none⟩ = some (.string (strOfNums l)) := (blk_cell hR.1 1).trans rfl
      have c2 : W.cell? ⟨b2, 2, none⟩ = some (.int .i64 aa) := (blk_cell hR.1 2).trans rfl
      have c3 : W.cell? ⟨b2, 3, none⟩ = some (.int .i64 ee) := (blk_cell hR.1 3).trans rfl
      go_simp
    · refine StepOkO.on (o := ?o31) (g := 20) (u := true) ?ho31 ?hg31 (by omega) rfl rfl ?hw31 rfl ?h31
      case ho31 => simp only [List.getElem?_toArray, List.getElem?_cons_succ, List.getElem?_cons_zero]; rfl
      case hg31 => rfl
      case hw31 => rfl
      case h31 =>
      intro a W hS hB hd hR
      have e150 : a.tmps[150]? = some (.int .i64 (l.length : Int)) := (hd 27 rfl).bool rfl rfl rfl
      have e153 : a.tmps[153]? = some (.int .i64 aa) := (hd 30 rfl).bool rfl rfl rfl
      refine wp_value (c := .int .i64 ((l.length : Int) - aa)) ?_ rfl
      have hw : IntKind.i64.wrap ((l.length : Int) - aa) = (l.length : Int) - aa := by rw [IntKind.wrap_i64]; omega
      go_simp
    · refine StepOkO.on (o := ?o32) (g := 20) (u := true) ?ho32 ?hg32 (by omega) rfl rfl ?hw32 rfl ?h32
      case ho32 => simp only [List.getElem?_toArray, List.getElem?_cons_succ, List.getElem?_cons_zero]; rfl
      case hg32 => rfl
      case hw32 => rfl
      case h32 =>
      intro a W hS hB hd hR
      have e146 : a.tmps[146]? = some (.int .i64 ((l.length : Int) - aa)) := (hd 23 rfl).bool rfl rfl rfl
      have e154 : a.tmps[154]? = some (.int .i64 ((l.length : Int) - aa)) := (hd 31 rfl).bool rfl rfl rfl
      refine wp_value (c := .bool true) ?_ rfl
      go_simp
    · refine StepOkO.run (o := ?o33) ?ho33 ?hg33 (by omega) ?h33
      case ho33 => simp only [List.getElem?_toArray, List.getElem?_cons_succ, List.getElem?_cons_zero]; rfl
      case hg33 => rfl
      case h33 =>
      intro a W hS hB hd hR
      have e143 : a.tmps[143]? = some (.bool true) := (hd 20 rfl).bool rfl rfl rfl
      have e155 : a.tmps[155]? = some (.bool true) := (hd 32 rfl).bool rfl rfl rfl
      refine wp_value (c := .bool true) ?_ rfl
      go_simp
    · refine StepOkO.write (o := ?o34) ?ho34 ?hg34 ?hw34 rfl ?h34
      case ho34 => simp only [List.getElem?_toArray, List.getElem?_cons_succ, List.getElem?_cons_zero]; rfl
      case hg34 => rfl
      case hw34 => rfl
      case h34 =>
      intro a W hS hB hd hR hP
      have e4 : a.tmps[4]? = some (.pointer (some ⟨b4, 0, none⟩)) := hS.get rfl rfl
      have e123 : a.tmps[123]? = some (.agg #[.pointer (some ⟨g, 0, none⟩), .string (strOfNums l), .int .i64 aa, .int .i64 ee]) := (hd 0 rfl).bool rfl rfl rfl
      have c0 : W.cell? ⟨b4, 0, none⟩ = some (.pointer none) := (blk_cell hP 0).trans rfl
      have c1 : W.cell? ⟨b4, 1, none⟩ = some (.string ⟨#[]⟩) := (blk_cell hP 1).trans rfl
      have c2 : W.cell? ⟨b4, 2, none⟩ = some (.int .i64 0) := (blk_cell hP 2).trans rfl
      have c3 : W.cell? ⟨b4, 3, none⟩ = some (.int .i64 0) := (blk_cell hP 3).trans rfl
      have f0 := blk_frozen hP 0
      have f1 := blk_frozen hP 1
      have f2 := blk_frozen hP 2
      have f3 := blk_frozen hP 3
      have q0 := blk_put (cs' := #[.pointer (some ⟨g, 0, none⟩), .string ⟨#[]⟩, .int .i64 0, .int .i64 0]) hP 0 (.pointer (some ⟨g, 0, none⟩)) rfl
      refine ⟨_, ?_, grown_put (grown_put (grown_put (grown_put (World.grownBy.refl _ _) (.pointer (some ⟨g, 0, none⟩))) (.string (strOfNums l))) (.int .i64 aa)) (.int .i64 ee), blk_put4 q0 _ _ _⟩
      go_simp
    · refine StepOkO.run (o := ?o35) ?ho35 ?hg35 (by omega) ?h35
      case ho35 => simp only [List.getElem?_toArray, List.getElem?_cons_succ, List.getElem?_cons_zero]; rfl
      case hg35 => rfl
      case h35 =>
      intro a W hS hB hd hR
      have e156 : a.tmps[156]? = some (.bool true) := (hd 33 rfl).bool rfl rfl rfl
      refine wp_value (c := .bool true) ?_ rfl
      go_simp
  · intro a W hS hB hh hRD hFD
    have e5 : a.tmps[5]? = some (.bool true) := (hh 35 (by omega)).bool rfl rfl rfl
    have HBR := Lib.hid hB
    have hlit := same_lit hS
    clear hh hS hB
    simp only [List.filterMap_cons, List.filterMap_nil, List.foldl_cons, List.foldl_nil, List.setIfInBounds_toArray, List.set_cons_zero, List.set_cons_succ] at hlit
    rw [show a.tmps.getD 5 undef = .bool true by simp [Array.getD_eq_getD_getElem?, e5]] at hlit
    generalize a.tmps.getD 123 undef = z123 at hlit
    generalize a.tmps.getD 124 undef = z124 at hlit
    generalize a.tmps.getD 125 undef = z125 at hlit
    generalize a.tmps.getD 126 undef = z126 at hlit
    generalize a.tmps.getD 127 undef = z127 at hlit
    generalize a.tmps.getD 128 undef = z128 at hlit
    generalize a.tmps.getD 129 undef = z129 at hlit
    generalize a.tmps.getD 130 undef = z130 at hlit
    generalize a.tmps.getD 131 undef = z131 at hlit
    generalize a.tmps.getD 132 undef = z132 at hlit
    generalize a.tmps.getD 133 undef = z133 at hlit
    generalize a.tmps.getD 134 undef = z134 at hlit
    generalize a.tmps.getD 135 undef = z135 at hlit
    generalize a.tmps.getD 136 undef = z136 at hlit
    generalize a.tmps.getD 137 undef = z137 at hlit
    generalize a.tmps.getD 138 undef = z138 at hlit
    generalize a.tmps.getD 139 undef = z139 at hlit
    generalize a.tmps.getD 140 undef = z140 at hlit
    generalize a.tmps.getD 141 undef = z141 at hlit
    generalize a.tmps.getD 142 undef = z142 at hlit
    generalize a.tmps.getD 143 undef = z143 at hlit
    generalize a.tmps.getD 144 undef = z144 at hlit
    generalize a.tmps.getD 145 undef = z145 at hlit
    generalize a.tmps.getD 146 undef = z146 at hlit
    generalize a.tmps.getD 147 undef = z147 at hlit
    generalize a.tmps.getD 148 undef = z148 at hlit
    generalize a.tmps.getD 149 undef = z149 at hlit
    generalize a.tmps.getD 150 undef = z150 at hlit
    generalize a.tmps.getD 151 undef = z151 at hlit
    generalize a.tmps.getD 152 undef = z152 at hlit
    generalize a.tmps.getD 153 undef = z153 at hlit
    generalize a.tmps.getD 154 undef = z154 at hlit
    generalize a.tmps.getD 155 undef = z155 at hlit
    generalize a.tmps.getD 156 undef = z156 at hlit
    clear e5
    subst hlit
    go_wp2_with fail
    refine bodyPost_ret (results_ct rfl _ _ b4 42 #[_, _, _, _] (0, 0) _ rfl hFD HU.out rfl (by kernel_rfl)) rfl ?_
    refine ⟨aa, ee, ha2.1, ha2.2, rfl, hRD.2, ?_, HW4.out.1.trans (HBR.out.mono (Nat.le_trans HBW.out.2.1.size (Nat.le_refl _)))⟩
    obtain ⟨g1, g2, g3, g4, g5⟩ := HW4.out.2
    obtain ⟨r1, r2, r3, r4, r5⟩ := HBR.out
    exact ⟨r1.trans g1, r2.trans g2, r3.trans g3, Nat.le_trans g4 r4, fun k hk hne => (r5 k hk).trans (g5 k hk hne)⟩
set_option maxRecDepth 100000 in
set_option maxHeartbeats 4000000 in
theorem step_3 (w0 w : World) (g : Nat) (l : List Int) (a e kd most each : Int) (hI : IsCu w0 w g l a e) (hB : Below w0.heap.size w0 w) (hb : ∀ x ∈ l, 0 ≤ x ∧ x < 256) (hl : l.length ≤ 1000000) (ha : 0 ≤ a ∧ a ≤ l.length) (hmost : -9223372036854775808 ≤ most ∧ most ≤ 9223372036854775807) (heach : -9223372036854775808 ≤ each ∧ each ≤ 9223372036854775807) :
    Calls Try.prog 25 #[.agg #[.pointer (some ⟨g, 0, none⟩), .string (strOfNums l), .int .i64 a, .int .i64 e], .agg #[.int .i64 3, .int .i64 most, .int .i64 each]] w fun en w' => ∃ aa ee : Int, 0 ≤ aa ∧ aa ≤ (l.length : Int) ∧ StepPost w0 w g l aa ee en w' := by
  have HR := Lib.hid (fun (W : World) => tephraref04_Cursor_Numbers.calls 1000100 _ _ _ _ _ _ _ _ W (rcuNums_is l hb hl 1000100 (Nat.le_refl _) a e most ha hmost))
  have HC := Lib.hid (fun (W : World) h1 h2 => numbers_any w0 W g l a e most h1 h2 hb hl ha hmost)
  have hst := (cuNums_step l hb most a e ha)
  obtain ⟨R, hR⟩ : ∃ R, cuNums l most a e = R := ⟨_, rfl⟩
  rw [hR] at HR HC hst
  obtain ⟨x, aa, ee⟩ := R
  dsimp only at hst
  have ha2 : 0 ≤ aa ∧ aa ≤ l.length := ⟨by omega, hst.1⟩
  have hxl : x.length ≤ 1000000 := by have := hst.2.2.1; omega
  clear hst hR
  obtain ⟨w1, hw1⟩ : ∃ w1, ((w.alloc (.cells #[.pointer (some ⟨g, 0, none⟩), .string (strOfNums l), .int .i64 a, .int .i64 e] 42)).alloc (.cells #[.int .i64 3, .int .i64 most, .int .i64 each] 44)).alloc (.cells #[.pointer none, .string ⟨#[]⟩, .int .i64 0, .int .i64 0] 42) = w1 := ⟨_, rfl⟩
  have hgw : g < w.heap.size := by obtain ⟨_, _, h, _⟩ := hI; exact blk_lt h
  obtain ⟨b2, hb2⟩ : ∃ b, w.heap.size = b := ⟨_, rfl⟩
  obtain ⟨b3, hb3⟩ : ∃ b, b2 + 1 = b := ⟨_, rfl⟩
  obtain ⟨b4, hb4⟩ : ∃ b, b3 + 1 = b := ⟨_, rfl⟩
  obtain ⟨hk2, hk3, hk4, hb01⟩ : w1.heap[b2]? = some (.cells #[.pointer (some ⟨g, 0, none⟩), .string (strOfNums l), .int .i64 a, .int .i64 e] 42 (0, 0)) ∧ w1.heap[b3]? = some (.cells #[.int .i64 3, .int .i64 most, .int .i64 each] 44 (0, 0)) ∧ w1.heap[b4]? = some (.cells #[.pointer none, .string ⟨#[]⟩, .int .i64 0, .int .i64 0] 42 (0, 0)) ∧ Below w.heap.size w w1 := by
    rw [← hw1, ← hb4, ← hb3, ← hb2]
    have s1 := blk_new w (.cells #[.pointer (some ⟨g, 0, none⟩), .string (strOfNums l), .int .i64 a, .int .i64 e] 42 (0, 0))
    have s2 := blk_new (w.alloc (.cells #[.pointer (some ⟨g, 0, none⟩), .string (strOfNums l), .int .i64 a, .int .i64 e] 42 (0, 0))) (.cells #[.int .i64 3, .int .i64 most, .int .i64 each] 44 (0, 0))
    have s3 := blk_new ((w.alloc (.cells #[.pointer (some ⟨g, 0, none⟩), .string (strOfNums l), .int .i64 a, .int .i64 e] 42 (0, 0))).alloc (.cells #[.int .i64 3, .int .i64 most, .int .i64 each] 44 (0, 0))) (.cells #[.pointer none, .string ⟨#[]⟩, .int .i64 0, .int .i64 0] 42 (0, 0))
    rw [heap_size_alloc] at s2 s3
    rw [heap_size_alloc] at s3
    have al := fun (W : World) (o : Obj) => (Below.refl W.heap.size W).alloc (Nat.le_refl _) o
    exact ⟨blk_below (blk_below s1 (al _ _)) (al _ _), blk_below s2 (al _ _), s3, ((Below.refl _ _).alloc (Nat.le_refl _) _).alloc (by rw [heap_size_alloc]; omega) _ |>.alloc (by rw [heap_size_alloc, heap_size_alloc]; omega) _⟩
  have hs2 : b4 < w1.heap.size := blk_lt hk4
  have HBW := Lib.hid (And.intro hI (And.intro hB (And.intro hb01 (And.intro hs2 hgw))))
  have HK := Lib.hid (And.intro hk2 (And.intro hk3 hk4))
  have x0 := (blk_cell hk2 0).trans rfl
  have x1 := (blk_cell hk2 1).trans rfl
  have x2 := (blk_cell hk2 2).trans rfl
  have x3 := (blk_cell hk2 3).trans rfl
  have x4 := (blk_cell hk3 0).trans rfl
  have x5 := (blk_cell hk3 1).trans rfl
  have x6 := (blk_cell hk3 2).trans rfl
  clear hI hB hgw hb01 hs2 hk2 hk3 hk4
  go_enter Try.func25, Try.ntmps25
  go_wp2_with fail
  refine (HR.out _).mono ?_
  rintro en w2 ⟨v0, rfl, hR2, hb12⟩
  obtain ⟨A3, c3, rfl⟩ := Kd.R_slice hR2
  have HR2 := Lib.hid (Kd.R_mono (Kd.R_bound hR2) (fun k h => h.2.1))
  clear hR2
  obtain ⟨wA, hwA⟩ : ∃ wA, w2.alloc (.cells #[.string (strOfNums l), .int .i64 aa, .int .i64 ee] 39) = wA := ⟨_, rfl⟩
  have hbA : Below w1.heap.size w1 wA := by rw [← hwA]; exact hb12.alloc hb12.size _
  have nA := (blk_new w2 (.cells #[.string (strOfNums l), .int .i64 aa, .int .i64 ee] 39 (0, 0)))
  rw [hwA] at nA
  obtain ⟨hk2, hk3, hk4⟩ := HK.out
  have kA2 := blk_below hk2 hbA
  have kA3 := blk_below hk3 hbA
  have kA4 := blk_below hk4 hbA
  clear hk2 hk3 hk4 x0 x1 x2 x3 x4 x5 x6
  obtain ⟨w3, hw3⟩ : ∃ w3, ((wA.setCell ⟨b2, 1, none⟩ (.string (strOfNums l))).setCell ⟨b2, 2, none⟩ (.int .i64 aa)).setCell ⟨b2, 3, none⟩ (.int .i64 ee) = w3 := ⟨_, rfl⟩
  have HK3 := Lib.hid (show w3.heap[b2]? = some (.cells #[.pointer (some ⟨g, 0, none⟩), .string (strOfNums l), .int .i64 aa, .int .i64 ee] 42 (0, 0)) ∧ w3.heap[b3]? = some (.cells #[.int .i64 3, .int .i64 most, .int .i64 each] 44 (0, 0)) ∧ w3.heap[b4]? = some (.cells #[.pointer none, .string ⟨#[]⟩, .int .i64 0, .int .i64 0] 42 (0, 0)) ∧ Below w.heap.size w w3 by
    rw [← hw3]
    refine ⟨blk_put4 kA2 _ _ _, ?_, ?_, below_put4 (HBW.out.2.2.1.trans (hbA.mono HBW.out.2.2.1.size)) (by omega) _ _ _⟩
    · rw [Below.heap_setCell _ _ _ _ (by show b3 ≠ b2; omega), Below.heap_setCell _ _ _ _ (by show b3 ≠ b2; omega), Below.heap_setCell _ _ _ _ (by show b3 ≠ b2; omega)]; exact kA3
    · rw [Below.heap_setCell _ _ _ _ (by show b4 ≠ b2; omega), Below.heap_setCell _ _ _ _ (by show b4 ≠ b2; omega), Below.heap_setCell _ _ _ _ (by show b4 ≠ b2; omega)]; exact kA4)
  have y1 := (blk_cell kA2 1).trans rfl
  have y2 := (blk_cell kA2 2).trans rfl
  have y3 := (blk_cell kA2 3).trans rfl
  have z1 := blk_frozen kA2 1
  have z2 := blk_frozen kA2 2
  have z3 := blk_frozen kA2 3
  have n0 := (blk_cell nA 0).trans rfl
  have n1 := (blk_cell nA 1).trans rfl
  have n2 := (blk_cell nA 2).trans rfl
  have x0 := (blk_cell HK3.out.1 0).trans rfl
  have x5 := (blk_cell HK3.out.2.1 1).trans rfl
  have x6 := (blk_cell HK3.out.2.1 2).trans rfl
  have HRA := Lib.hid (Kd.R_step (w1 := w3) (Kd.R_below HR2.out (w1 := wA) (by rw [← hwA]; exact (Below.refl _ _).alloc (Nat.le_refl _) _)) (fun k ho hk => by rw [← hw3]; exact put4_keep (by have h9 : w1.heap.size ≤ k := ho; have := HBW.out.2.2.2.1; omega) _ _ _))
  have HIB := Lib.hid (And.intro (HBW.out.1.keep HK3.out.2.2.2) (HBW.out.2.1.trans (HK3.out.2.2.2.mono HBW.out.2.1.size)))
  clear kA2 kA3 kA4 nA hbA hb12
  clear HR2
  go_wp2_with fail
  clear y1 y2 y3 z1 z2 z3 n0 n1 n2 hwA hw3
  unfold NumsPost at HC
  refine (HC.out _ HIB.out.1 HIB.out.2).mono ?_
  rintro en w4 ⟨v4, rfl, hR4, hI4, hg4, hB4⟩
  obtain ⟨A4, c4, rfl, hc4, hC4⟩ := Kd.R_reads hR4
  obtain ⟨kT2, kT4, hbT⟩ : w4.heap[b2]? = some (.cells #[.pointer (some ⟨g, 0, none⟩), .string (strOfNums l), .int .i64 aa, .int .i64 ee] 42 (0, 0)) ∧ w4.heap[b4]? = some (.cells #[.pointer none, .string ⟨#[]⟩, .int .i64 0, .int .i64 0] 42 (0, 0)) ∧ w.grownBy w4 (some g) := by
    obtain ⟨h1, h2, h3, h4⟩ := HK3.out
    have hgw := HBW.out.2.2.2.2
    exact ⟨blk_grown h1 hg4 (by intro h; cases h; omega), blk_grown h3 hg4 (by intro h; cases h; omega), grown_after (grownBy_none h4) hg4⟩
  have HV := Lib.hid (Kd.R_reads' (Kd.R_grown HRA.out hg4 (fun k hk => by intro h9; cases h9; have := HBW.out.2.2.2; have h9 : w1.heap.size ≤ g := hk; omega)))
  clear hR4 hg4 HRA
  have HC4 := Lib.hid (And.intro hC4 hc4)
  clear hC4 hc4
  go_wp2_with fail
  obtain ⟨hC4, hc4⟩ := HC4.out
  refine (tephraref04_SameNumbers.calls 1000001 _ _ x _ _ x true w4 hC4 hc4 HV.out.2.2 HV.out.2.1 (same_nums_f x hxl)).mono ?_
  rintro en wT ⟨rfl, hd5⟩
  replace kT2 := blk_below kT2 hd5.below
  replace kT4 := blk_below kT4 hd5.below
  replace hI4 := hI4.keep hd5.below
  replace hB4 := hB4.trans (hd5.below.mono hB4.size)
  replace hbT := grown_then hbT hd5.below
  clear hd5 hC4 hc4 HC4 HV
  go_wp2_with fail
  have hne2 : b2 ≠ b4 := by omega
  have hneg : g ≠ b4 := by have := HBW.out.2.2.2.2; omega
  have hsz4 : w.heap.size ≤ wT.heap.size := hbT.size
  have HU := Lib.hid Try.underlying42
  have hb24 : w.heap.size ≤ b4 := by omega
  clear hb2 hb3 hb4
  have HW4 := Lib.hid (And.intro hB4 hbT)
  clear hB4 hbT HK HK3 HIB HR HC x0 x5 x6 hw1
  refine region_one (n := 36) (base := w.heap.size) (w0 := wT) (b := b4) (jw := 34) (byList [isV (.agg #[.pointer (some ⟨g, 0, none⟩), .string (strOfNums l), .int .i64 aa, .int .i64 ee]), isV (.bool true), isV (.bool true), isV (.pointer (some ⟨b2, 0, none⟩)), isV (.pointer (some ⟨g, 0, none⟩)), isV (.int .i64 ee), isV (.pointer (some ⟨b2, 1, none⟩)), isV (.pointer (some ⟨b2, 3, none⟩)), isV (.int .i64 ee), isV (.bool true), isV (.bool true), isV (.bool true), isV (.pointer (some ⟨b2, 0, none⟩)), isV (.pointer (some ⟨g, 0, none⟩)), isV (.int .i64 aa), isV (.pointer (some ⟨b2, 1, none⟩)), isV (.pointer (some ⟨b2, 2, none⟩)), isV (.int .i64 aa), isV (.bool true), isV (.bool true), isV (.bool true), isV (.pointer (some ⟨b2, 0, none⟩)), isV (.pointer (some ⟨g, 0, none⟩)), isV (.int .i64 ((l.length : Int) - aa)), isV (.pointer (some ⟨b2, 1, none⟩)), isV (.pointer (some ⟨b2, 1, none⟩)), isV (.string (strOfNums l)), isV (.int .i64 (l.length : Int)), isV (.pointer (some ⟨b2, 1, none⟩)), isV (.pointer (some ⟨b2, 2, none⟩)), isV (.int .i64 aa), isV (.int .i64 ((l.length : Int) - aa)), isV (.bool true), isV (.bool true), (fun _ _ => True), isV (.bool true)]) (fun W => W.heap[b2]? = some (.cells #[.pointer (some ⟨g, 0, none⟩), .string (strOfNums l), .int .i64 aa, .int .i64 ee] 42 (0, 0)) ∧ IsCu w0 W g l aa ee) (fun W => W.heap[b4]? = some (.cells #[.pointer none, .string ⟨#[]⟩, .int .i64 0, .int .i64 0] 42 (0, 0))) (fun W => W.heap[b4]? = some (.cells #[.pointer (some ⟨g, 0, none⟩), .string (strOfNums l), .int .i64 aa, .int .i64 ee] 42 (0, 0))) (by kernel_rfl) rfl (by omega) (byList_any ?_) (by kernel_rfl) (by kernel_rfl) (by omega) (fun W W' row hrow h hg => ⟨blk_grown h.1 hg (by rcases hrow with rfl | rfl <;> simp <;> omega), h.2.grown hg (by rcases hrow with rfl | rfl <;> simp <;> omega)⟩) (fun W W' h hg => blk_below h (below_none hg)) (fun W W' h hg => blk_below h (below_none hg)) (Below.refl _ _) hsz4 ⟨kT2, hI4⟩ kT4 (show AllLt 36 _ from ?_) ?_
  · intro p hp
    simp only [List.mem_cons, List.not_mem_nil, or_false] at hp
    rcases hp with rfl | rfl | rfl | rfl | rfl | rfl | rfl | rfl | rfl | rfl | rfl | rfl | rfl | rfl | rfl | rfl | rfl | rfl | rfl | rfl | rfl | rfl | rfl | rfl | rfl | rfl | rfl | rfl | rfl | rfl | rfl | rfl | rfl | rfl | rfl | rfl <;> exact fun _ _ _ h => h
  · refine allLt_succ (allLt_succ (allLt_succ (allLt_succ (allLt_succ (allLt_succ (allLt_succ (allLt_succ (allLt_succ (allLt_succ (allLt_succ (allLt_succ (allLt_succ (allLt_succ (allLt_succ (allLt_succ (allLt_succ (allLt_succ (allLt_succ (allLt_succ (allLt_succ (allLt_succ (allLt_succ (allLt_succ (allLt_succ (allLt_succ (allLt_succ (allLt_succ (allLt_succ (allLt_succ (allLt_succ (allLt_succ (allLt_succ (allLt_succ (allLt_succ (allLt_succ (allLt_zero _) ?_) ?_) ?_) ?_) ?_) ?_) ?_) ?_) ?_) ?_) ?_) ?_) ?_) ?_) ?_) ?_) ?_) ?_) ?_) ?_) ?_) ?_) ?_) ?_) ?_) ?_) ?_) ?_) ?_) ?_) ?_) ?_) ?_) ?_) ?_) ?_
    · refine StepOkO.run (o := ?o0) ?ho0 ?hg0 (by omega) ?h0
      case ho0 => simp only [List.getElem?_toArray, List.getElem?_cons_succ, List.getElem?_cons_zero]; rfl
      case hg0 => rfl
      case h0 =>
      intro a W hS hB hd hR
      have e2 : a.tmps[2]? = some (.pointer (some ⟨b2, 0, none⟩)) := hS.get rfl rfl
      refine wp_value (c := .agg #[.pointer (some ⟨g, 0, none⟩), .string (strOfNums l), .int .i64 aa, .int .i64 ee]) ?_ rfl
      have c0 : W.cell? ⟨b2, 0, none⟩ = some (.pointer (some ⟨g, 0, none⟩)) := (blk_cell hR.1 0).trans rfl
      have c1 : W.cell? ⟨b2, 1, none⟩ = some (.string (strOfNums l)) := (blk_cell hR.1 1).trans rfl
      have c2 : W.cell? ⟨b2, 2, none⟩ = some (.int .i64 aa) := (blk_cell hR.1 2).trans rfl
      have c3 : W.cell? ⟨b2, 3, none⟩ = some (.int .i64 ee) := (blk_cell hR.1 3).trans rfl
      go_simp
    · refine StepOkO.run (o := ?o1) ?ho1 ?hg1 (by omega) ?h1
      case ho1 => simp only [List.getElem?_toArray, List.getElem?_cons_succ, List.getElem?_cons_zero]; rfl
      case hg1 => rfl
      case h1 =>
      intro a W hS hB hd hR
      have e6 : a.tmps[6]? = some (.bool true) := hS.get rfl rfl
      refine wp_value (c := .bool true) ?_ rfl
      go_simp
    · refine StepOkO.run (o := ?o2) ?ho2 ?hg2 (by omega) ?h2
      case ho2 => simp only [List.getElem?_toArray, List.getElem?_cons_succ, List.getElem?_cons_zero]; rfl
      case hg2 => rfl
      case h2 =>
      intro a W hS hB hd hR
      have e124 : a.tmps[124]? = some (.bool true) := (hd 1 rfl).bool rfl rfl rfl
      refine wp_value (c := .bool true) ?_ rfl
      go_simp
    · refine StepOkO.on (o := ?o3) (g := 2) (u := true) ?ho3 ?hg3 (by omega) rfl rfl ?hw3 rfl ?h3
      case ho3 => simp only [List.getElem?_toArray, List.getElem?_cons_succ, List.getElem?_cons_zero]; rfl
      case hg3 => rfl
      case hw3 => rfl
      case h3 =>
      intro a W hS hB hd hR
      have e2 : a.tmps[2]? = some (.pointer (some ⟨b2, 0, none⟩)) := hS.get rfl rfl
      refine wp_value (c := .pointer (some ⟨b2, 0, none⟩)) ?_ rfl
      go_simp
    · refine StepOkO.on (o := ?o4) (g := 2) (u := true) ?ho4 ?hg4 (by omega) rfl rfl ?hw4 rfl ?h4
      case ho4 => simp only [List.getElem?_toArray, List.getElem?_cons_succ, List.getElem?_cons_zero]; rfl
      case hg4 => rfl
      case hw4 => rfl
      case h4 =>
      intro a W hS hB hd hR
      have e126 : a.tmps[126]? = some (.pointer (some ⟨b2, 0, none⟩)) := (hd 3 rfl).bool rfl rfl rfl
      refine wp_value (c := .pointer (some ⟨g, 0, none⟩)) ?_ rfl
      have c0 : W.cell? ⟨b2, 0, none⟩ = some (.pointer (some ⟨g, 0, none⟩)) := (blk_cell hR.1 0).trans rfl
      have c1 : W.cell? ⟨b2, 1, none⟩ = some (.string (strOfNums l)) := (blk_cell hR.1 1).trans rfl
      have c2 : W.cell? ⟨b2, 2, none⟩ = some (.int .i64 aa) := (blk_cell hR.1 2).trans rfl
      have c3 : W.cell? ⟨b2, 3, none⟩ = some (.int .i64 ee) := (blk_cell hR.1 3).trans rfl
      go_simp
    · refine StepOkO.on (o := ?o5) (g := 2) (u := true) ?ho5 ?hg5 (by omega) rfl rfl ?hw5 rfl ?h5
      case ho5 => simp only [List.getElem?_toArray, List.getElem?_cons_succ, List.getElem?_cons_zero]; rfl
      case hg5 => rfl
      case hw5 => rfl
      case h5 =>
      intro a W hS hB hd hR
      have e127 : a.tmps[127]? = some (.pointer (some ⟨g, 0, none⟩)) := (hd 4 rfl).bool rfl rfl rfl
      refine wp_called Try.func20 (by kernel_rfl) rfl #[.pointer (some ⟨g, 0, none⟩)] rfl (by simp [Act.eval, *]) ?_
      refine (err_any w0 W g l aa ee hR.2).mono ?_
      rintro e9 w9 ⟨rfl, rfl⟩
      exact ⟨_, rfl, rfl, Below.refl _ _⟩
    · refine StepOkO.on (o := ?o6) (g := 2) (u := true) ?ho6 ?hg6 (by omega) rfl rfl ?hw6 rfl ?h6
      case ho6 => simp only [List.getElem?_toArray, List.getElem?_cons_succ, List.getElem?_cons_zero]; rfl
      case hg6 => rfl
      case hw6 => rfl
      case h6 =>
      intro a W hS hB hd hR
      have e2 : a.tmps[2]? = some (.pointer (some ⟨b2, 0, none⟩)) := hS.get rfl rfl
      refine wp_value (c := .pointer (some ⟨b2, 1, none⟩)) ?_ rfl
      go_simp
    · refine StepOkO.on (o := ?o7) (g := 2) (u := true) ?ho7 ?hg7 (by omega) rfl rfl ?hw7 rfl ?h7
      case ho7 => simp only [List.getElem?_toArray, List.getElem?_cons_succ, List.getElem?_cons_zero]; rfl
      case hg7 => rfl
      case hw7 => rfl
      case h7 =>
      intro a W hS hB hd hR
      have e129 : a.tmps[129]? = some (.pointer (some ⟨b2, 1, none⟩)) := (hd 6 rfl).bool rfl rfl rfl
      refine wp_value (c := .pointer (some ⟨b2, 3, none⟩)) ?_ rfl
      go_simp
    · refine StepOkO.on (o := ?o8) (g := 2) (u := true) ?ho8 ?hg8 (by omega) rfl rfl ?hw8 rfl ?h8
      case ho8 => simp only [List.getElem?_toArray, List.getElem?_cons_succ, List.getElem?_cons_zero]; rfl
      case hg8 => rfl
      case hw8 => rfl
      case h8 =>
      intro a W hS hB hd hR
      have e130 : a.tmps[130]? = some (.pointer (some ⟨b2, 3, none⟩)) := (hd 7 rfl).bool rfl rfl rfl
      refine wp_value (c := .int .i64 ee) ?_ rfl
      have c0 : W.cell? ⟨b2, 0, none⟩ = some (.pointer (some ⟨g, 0, none⟩)) := (blk_cell hR.1 0).trans rfl
      have c1 : W.cell? ⟨b2, 1, none⟩ = some (.string (strOfNums l)) := (blk_cell hR.1 1).trans rfl
      have c2 : W.cell? ⟨b2, 2, none⟩ = some (.int .i64 aa) := (blk_cell hR.1 2).trans rfl
      have c3 : W.cell? ⟨b2, 3, none⟩ = some (.int .i64 ee) := (blk_cell hR.1 3).trans rfl
      go_simp
    · refine StepOkO.on (o := ?o9) (g := 2) (u := true) ?ho9 ?hg9 (by omega) rfl rfl ?hw9 rfl ?h9
      case ho9 => simp only [List.getElem?_toArray, List.getElem?_cons_succ, List.getElem?_cons_zero]; rfl
      case hg9 => rfl
      case hw9 => rfl
      case h9 =>
      intro a W hS hB hd hR
      have e128 : a.tmps[128]? = some (.int .i64 ee) := (hd 5 rfl).bool rfl rfl rfl
      have e131 : a.tmps[131]? = some (.int .i64 ee) := (hd 8 rfl).bool rfl rfl rfl
      refine wp_value (c := .bool true) ?_ rfl
      go_simp
    · refine StepOkO.run (o := ?o10) ?ho10 ?hg10 (by omega) ?h10
      case ho10 => simp only [List.getElem?_toArray, List.getElem?_cons_succ, List.getElem?_cons_zero]; rfl
      case hg10 => rfl
      case h10 =>
      intro a W hS hB hd hR
      have e125 : a.tmps[125]? = some (.bool true) := (hd 2 rfl).bool rfl rfl rfl
      have e132 : a.tmps[132]? = some (.bool true) := (hd 9 rfl).bool rfl rfl rfl
      refine wp_value (c := .bool true) ?_ rfl
      go_simp
    · refine StepOkO.run (o := ?o11) ?ho11 ?hg11 (by omega) ?h11
      case ho11 => simp only [List.getElem?_toArray, List.getElem?_cons_succ, List.getElem?_cons_zero]; rfl
      case hg11 => rfl
      case h11 =>
      intro a W hS hB hd hR
      have e133 : a.tmps[133]? = some (.bool true) := (hd 10 rfl).bool rfl rfl rfl
      refine wp_value (c := .bool true) ?_ rfl
      go_simp
    · refine StepOkO.on (o := ?o12) (g := 11) (u := true) ?ho12 ?hg12 (by omega) rfl rfl ?hw12 rfl ?h12
      case ho12 => simp only [List.getElem?_toArray, List.getElem?_cons_succ, List.getElem?_cons_zero]; rfl
      case hg12 => rfl
      case hw12 => rfl
      case h12 =>
      intro a W hS hB hd hR
      have e2 : a.tmps[2]? = some (.pointer (some ⟨b2, 0, none⟩)) := hS.get rfl rfl
      refine wp_value (c := .pointer (some ⟨b2, 0, none⟩)) ?_ rfl
      go_simp
    · refine StepOkO.on (o := ?o13) (g := 11) (u := true) ?ho13 ?hg13 (by omega) rfl rfl ?hw13 rfl ?h13
      case ho13 => simp only [List.getElem?_toArray, List.getElem?_cons_succ, List.getElem?_cons_zero]; rfl
      case hg13 => rfl
      case hw13 => rfl
      case h13 =>
      intro a W hS hB hd hR
      have e135 : a.tmps[135]? = some (.pointer (some ⟨b2, 0, none⟩)) := (hd 12 rfl).bool rfl rfl rfl
      refine wp_value (c := .pointer (some ⟨g, 0, none⟩)) ?_ rfl
      have c0 : W.cell? ⟨b2, 0, none⟩ = some (.pointer (some ⟨g, 0, none⟩)) := (blk_cell hR.1 0).trans rfl
      have c1 : W.cell? ⟨b2, 1, none⟩ = some (.string (strOfNums l)) := (blk_cell hR.1 1).trans rfl
      have c2 : W.cell? ⟨b2, 2, none⟩ = some (.int .i64 aa) := (blk_cell hR.1 2).trans rfl
      have c3 : W.cell? ⟨b2, 3, none⟩ = some (.int .i64 ee) := (blk_cell hR.1 3).trans rfl
      go_simp
    · refine StepOkO.on (o := ?o14) (g := 11) (u := true) ?ho14 ?hg14 (by omega) rfl rfl ?hw14 rfl ?h14
      case ho14 => simp only [List.getElem?_toArray, List.getElem?_cons_succ, List.getElem?_cons_zero]; rfl
      case hg14 => rfl
      case hw14 => rfl
      case h14 =>
      intro a W hS hB hd hR
      have e136 : a.tmps[136]? = some (.pointer (some ⟨g, 0, none⟩)) := (hd 13 rfl).bool rfl rfl rfl
      refine wp_called Try.func26 (by kernel_rfl) rfl #[.pointer (some ⟨g, 0, none⟩)] rfl (by simp [Act.eval, *]) ?_
      refine (at_any w0 W g l aa ee hR.2).mono ?_
      rintro e9 w9 ⟨rfl, rfl⟩
      exact ⟨_, rfl, rfl, Below.refl _ _⟩
    · refine StepOkO.on (o := ?o15) (g := 11) (u := true) ?ho15 ?hg15 (by omega) rfl rfl ?hw15 rfl ?h15
      case ho15 => simp only [List.getElem?_toArray, List.getElem?_cons_succ, List.getElem?_cons_zero]; rfl
      case hg15 => rfl
      case hw15 => rfl
      case h15 =>
      intro a W hS hB hd hR
      have e2 : a.tmps[2]? = some (.pointer (some ⟨b2, 0, none⟩)) := hS.get rfl rfl
      refine wp_value (c := .pointer (some ⟨b2, 1, none⟩)) ?_ rfl
      go_simp
    · refine StepOkO.on (o := ?o16) (g := 11) (u := true) ?ho16 ?hg16 (by omega) rfl rfl ?hw16 rfl ?h16
      case ho16 => simp only [List.getElem?_toArray, List.getElem?_cons_succ, List.getElem?_cons_zero]; rfl
      case hg16 => rfl
      case hw16 => rfl
      case h16 =>
      intro a W hS hB hd hR
      have e138 : a.tmps[138]? = some (.pointer (some ⟨b2, 1, none⟩)) := (hd 15 rfl).bool rfl rfl rfl
      refine wp_value (c := .pointer (some ⟨b2, 2, none⟩)) ?_ rfl
      go_simp
    · refine StepOkO.on (o := ?o17) (g := 11) (u := true) ?ho17 ?hg17 (by omega) rfl rfl ?hw17 rfl ?h17
      case ho17 => simp only [List.getElem?_toArray, List.getElem?_cons_succ, List.getElem?_cons_zero]; rfl
      case hg17 => rfl
      case hw17 => rfl
      case h17 =>
      intro a W hS hB hd hR
      have e139 : a.tmps[139]? = some (.pointer (some ⟨b2, 2, none⟩)) := (hd 16 rfl).bool rfl rfl rfl
      refine wp_value (c := .int .i64 aa) ?_ rfl
      have c0 : W.cell? ⟨b2, 0, none⟩ = some (.pointer (some ⟨g, 0, none⟩)) := (blk_cell hR.1 0).trans rfl
      have c1 : W.cell? ⟨b2, 1, none⟩ = some (.string (strOfNums l)) := (blk_cell hR.1 1).trans rfl
      have c2 : W.cell? ⟨b2, 2, none⟩ = some (.int .i64 aa) := (blk_cell hR.1 2).trans rfl
      have c3 : W.cell? ⟨b2, 3, none⟩ = some (.int .i64 ee) := (blk_cell hR.1 3).trans rfl
      go_simp
    · refine StepOkO.on (o := ?o18) (g := 11) (u := true) ?ho18 ?hg18 (by omega) rfl rfl ?hw18 rfl ?h18
      case ho18 => simp only [List.getElem?_toArray, List.getElem?_cons_succ, List.getElem?_cons_zero]; rfl
      case hg18 => rfl
      case hw18 => rfl
      case h18 =>
      intro a W hS hB hd hR
      have e137 : a.tmps[137]? = some (.int .i64 aa) := (hd 14 rfl).bool rfl rfl rfl
      have e140 : a.tmps[140]? = some (.int .i64 aa) := (hd 17 rfl).bool rfl rfl rfl
      refine wp_value (c := .bool true) ?_ rfl
      go_simp
    · refine StepOkO.run (o := ?o19) ?ho19 ?hg19 (by omega) ?h19
      case ho19 => simp only [List.getElem?_toArray, List.getElem?_cons_succ, List.getElem?_cons_zero]; rfl
      case hg19 => rfl
      case h19 =>
      intro a W hS hB hd hR
      have e134 : a.tmps[134]? = some (.bool true) := (hd 11 rfl).bool rfl rfl rfl
      have e141 : a.tmps[141]? = some (.bool true) := (hd 18 rfl).bool rfl rfl rfl
      refine wp_value (c := .bool true) ?_ rfl
      go_simp
    · refine StepOkO.run (o := ?o20) ?ho20 ?hg20 (by omega) ?h20
      case ho20 => simp only [List.getElem?_toArray, List.getElem?_cons_succ, List.getElem?_cons_zero]; rfl
      case hg20 => rfl
      case h20 =>
      intro a W hS hB hd hR
      have e142 : a.tmps[142]? = some (.bool true) := (hd 19 rfl).bool rfl rfl rfl
      refine wp_value (c := .bool true) ?_ rfl
      go_simp
    · refine StepOkO.on (o := ?o21) (g := 20) (u := true) ?ho21 ?hg21 (by omega) rfl rfl ?hw21 rfl ?h21
      case ho21 => simp only [List.getElem?_toArray, List.getElem?_cons_succ, List.getElem?_cons_zero]; rfl
      case hg21 => rfl
      case hw21 => rfl
      case h21 =>
      intro a W hS hB hd hR
      have e2 : a.tmps[2]? = some (.pointer (some ⟨b2, 0, none⟩)) := hS.get rfl rfl
      refine wp_value (c := .pointer (some ⟨b2, 0, none⟩)) ?_ rfl
      go_simp
    · refine StepOkO.on (o := ?o22) (g := 20) (u := true) ?ho22 ?hg22 (by omega) rfl rfl ?hw22 rfl ?h22
      case ho22 => simp only [List.getElem?_toArray, List.getElem?_cons_succ, List.getElem?_cons_zero]; rfl
      case hg22 => rfl
      case hw22 => rfl
      case h22 =>
      intro a W hS hB hd hR
      have e144 : a.tmps[144]? = some (.pointer (some ⟨b2, 0, none⟩)) := (hd 21 rfl).bool rfl rfl rfl
      refine wp_value (c := .pointer (some ⟨g, 0, none⟩)) ?_ rfl
      have c0 : W.cell? ⟨b2, 0, none⟩ = some (.pointer (some ⟨g, 0, none⟩)) := (blk_cell hR.1 0).trans rfl
      have c1 : W.cell? ⟨b2, 1, none⟩ = some (.string (strOfNums l)) := (blk_cell hR.1 1).trans rfl
      have c2 : W.cell? ⟨b2, 2, none⟩ = some (.int .i64 aa) := (blk_cell hR.1 2).trans rfl
      have c3 : W.cell? ⟨b2, 3, none⟩ = some (.int .i64 ee) := (blk_cell hR.1 3).trans rfl
      go_simp
    · refine StepOkO.on (o := ?o23) (g := 20) (u := true) ?ho23 ?hg23 (by omega) rfl rfl ?hw23 rfl ?h23
      case ho23 => simp only [List.getElem?_toArray, List.getElem?_cons_succ, List.getElem?_cons_zero]; rfl
      case hg23 => rfl
      case hw23 => rfl
      case h23 =>
      intro a W hS hB hd hR
      have e145 : a.tmps[145]? = some (.pointer (some ⟨g, 0, none⟩)) := (hd 22 rfl).bool rfl rfl rfl
      refine wp_called Try.func21 (by kernel_rfl) rfl #[.pointer (some ⟨g, 0, none⟩)] rfl (by simp [Act.eval, *]) ?_
      refine (left_any w0 W g l aa ee hR.2 hl ha2).mono ?_
      rintro e9 w9 ⟨rfl, hb9⟩
      exact ⟨_, rfl, rfl, hb9⟩
    · refine StepOkO.on (o := ?o24) (g := 20) (u := true) ?ho24 ?hg24 (by omega) rfl rfl ?hw24 rfl ?h24
      case ho24 => simp only [List.getElem?_toArray, List.getElem?_cons_succ, List.getElem?_cons_zero]; rfl
      case hg24 => rfl
      case hw24 => rfl
      case h24 =>
      intro a W hS hB hd hR
      have e2 : a.tmps[2]? = some (.pointer (some ⟨b2, 0, none⟩)) := hS.get rfl rfl
      refine wp_value (c := .pointer (some ⟨b2, 1, none⟩)) ?_ rfl
      go_simp
    · refine StepOkO.on (o := ?o25) (g := 20) (u := true) ?ho25 ?hg25 (by omega) rfl rfl ?hw25 rfl ?h25
      case ho25 => simp only [List.getElem?_toArray, List.getElem?_cons_succ, List.getElem?_cons_zero]; rfl
      case hg25 => rfl
      case hw25 => rfl
      case h25 =>
      intro a W hS hB hd hR
      have e147 : a.tmps[147]? = some (.pointer (some ⟨b2, 1, none⟩)) := (hd 24 rfl).bool rfl rfl rfl
      refine wp_value (c := .pointer (some ⟨b2, 1, none⟩)) ?_ rfl
      go_simp
    · refine StepOkO.on (o := ?o26) (g := 20) (u := true) ?ho26 ?hg26 (by omega) rfl rfl ?hw26 rfl ?h26
      case ho26 => simp only [List.getElem?_toArray, List.getElem?_cons_succ, List.getElem?_cons_zero]; rfl
      case hg26 => rfl
      case hw26 => rfl
      case h26 =>
      intro a W hS hB hd hR
      have e148 : a.tmps[148]? = some (.pointer (some ⟨b2, 1, none⟩)) := (hd 25 rfl).bool rfl rfl rfl
      refine wp_value (c := .string (strOfNums l)) ?_ rfl
      have c0 : W.cell? ⟨b2, 0, none⟩ = some (.pointer (some ⟨g, 0, none⟩)) := (blk_cell hR.1 0).trans rfl
      have c1 : W.cell? ⟨b2, 1, none⟩ = some (.string (strOfNums l)) := (blk_cell hR.1 1).trans rfl
      have c2 : W.cell? ⟨b2, 2, none⟩ = some (.int .i64 aa) := (blk_cell hR.1 2).trans rfl
      have c3 : W.cell? ⟨b2, 3, none⟩ = some (.int .i64 ee) := (blk_cell hR.1 3).trans rfl
      go_simp
    · refine StepOkO.on (o := ?o27) (g := 20) (u := true) ?ho27 ?hg27 (by omega) rfl rfl ?hw27 rfl ?h27
      case ho27 => simp only [List.getElem?_toArray, List.getElem?_cons_succ, List.getElem?_cons_zero]; rfl
      case hg27 => rfl
      case hw27 => rfl
      case h27 =>
      intro a W hS hB hd hR
      have e149 : a.tmps[149]? = some (.string (strOfNums l)) := (hd 26 rfl).bool rfl rfl rfl
      refine wp_value (c := .int .i64 (l.length : Int)) ?_ rfl
      have hs : (strOfNums l).size = l.length := strOfNums_size l
      go_simp
    · refine StepOkO.on (o := ?o28) (g := 20) (u := true) ?ho28 ?hg28 (by omega) rfl rfl ?hw28 rfl ?h28
      case ho28 => simp only [List.getElem?_toArray, List.getElem?_cons_succ, List.getElem?_cons_zero]; rfl
      case hg28 => rfl
      case hw28 => rfl
      case h28 =>
      intro a W hS hB hd hR
      have e2 : a.tmps[2]? = some (.pointer (some ⟨b2, 0, none⟩)) := hS.get rfl rfl
      refine wp_value (c := .pointer (some ⟨b2, 1, none⟩)) ?_ rfl
      go_simp
    · refine StepOkO.on (o := ?o29) (g := 20) (u := true) ?ho29 ?hg29 (by omega) rfl rfl ?hw29 rfl ?h29
      case ho29 => simp only [List.getElem?_toArray, List.getElem?_cons_succ, List.getElem?_cons_zero]; rfl
      case hg29 => rfl
      case hw29 => rfl
      case h29 =>
      intro a W hS hB hd hR
      have e151 : a.tmps[151]? = some (.pointer (some ⟨b2, 1, none⟩)) := (hd 28 rfl).bool rfl rfl rfl
      refine wp_value (c := .pointer (some ⟨b2, 2, none⟩)) ?_ rfl
      go_simp
    · refine StepOkO.on (o := ?o30) (g := 20) (u := true) ?ho30 ?hg30 (by omega) rfl rfl ?hw30 rfl ?h30
      case ho30 => simp only [List.getElem?_toArray, List.getElem?_cons_succ, List.getElem?_cons_zero]; rfl
      case hg30 => rfl
      case hw30 => rfl
      case h30 =>
      intro a W hS hB hd hR
      have e152 : a.tmps[152]? = some (.pointer (some ⟨b2, 2, none⟩)) := (hd 29 rfl).bool rfl rfl rfl
      refine wp_value (c := .int .i64 aa) ?_ rfl
      have c0 : W.cell? ⟨b2, 0, none⟩ = some (.pointer (some ⟨g, 0, none⟩)) := (blk_cell hR.1 0).trans rfl
      have c1 : W.cell? ⟨b2, 1, none⟩ = some (.string (strOfNums l)) := (blk_cell hR.1 1).trans rfl
      have c2 : W.cell? ⟨b2, 2, none⟩ = some (.int .i64 aa) := (blk_cell hR.1 2).trans rfl
      have c3 : W.cell? ⟨b2, 3, none⟩ = some (.int .i64 ee) := (blk_cell hR.1 3).trans rfl
      go_simp
    · refine StepOkO.on (o := ?o31) (g := 20) (u := true) ?ho31 ?hg31 (by omega) rfl rfl ?hw31 rfl ?h31
      case ho31 => simp only [List.getElem?_toArray, List.getElem?_cons_succ, List.getElem?_cons_zero]; rfl
      case hg31 => rfl
      case hw31 => rfl
      case h31 =>
      intro a W hS hB hd hR
      have e150 : a.tmps[150]? = some (.int .i64 (l.length : Int)) := (hd 27 rfl).bool rfl rfl rfl
      have e153 : a.tmps[153]? = some (.int .i64 aa) := (hd 30 rfl).bool rfl rfl rfl
      refine wp_value (c := .int .i64 ((l.length : Int) - aa)) ?_ rfl
      have hw : IntKind.i64.wrap ((l.length : Int) - aa) = (l.length : Int) - aa := by rw [IntKind.wrap_i64]; omega
      go_simp
    · refine StepOkO.on (o := ?o32) (g := 20) (u := true) ?ho32 ?hg32 (by omega) rfl rfl ?hw32 rfl ?h32
      case ho32 => simp only [List.getElem?_toArray, List.getElem?_cons_succ, List.getElem?_cons_zero]; rfl
      case hg32 => rfl
      case hw32 => rfl
      case h32 =>
      intro a W hS hB hd hR
      have e146 : a.tmps[146]? = some (.int .i64 ((l.length : Int) - aa)) := (hd 23 rfl).bool rfl rfl rfl
      have e154 : a.tmps[154]? = some (.int .i64 ((l.length : Int) - aa)) := (hd 31 rfl).bool rfl rfl rfl
      refine wp_value (c := .bool true) ?_ rfl
      go_simp
    · refine StepOkO.run (o := ?o33) ?ho33 ?hg33 (by omega) ?h33
      case ho33 => simp only [List.getElem?_toArray, List.getElem?_cons_succ, List.getElem?_cons_zero]; rfl
      case hg33 => rfl
      case h33 =>
      intro a W hS hB hd hR
      have e143 : a.tmps[143]? = some (.bool true) := (hd 20 rfl).bool rfl rfl rfl
      have e155 : a.tmps[155]? = some (.bool true) := (hd 32 rfl).bool rfl rfl rfl
      refine wp_value (c := .bool true) ?_ rfl
      go_simp
    · refine StepOkO.write (o := ?o34) ?ho34 ?hg34 ?hw34 rfl ?h34
      case ho34 => simp only [List.getElem?_toArray, List.getElem?_cons_succ, List.getElem?_cons_zero]; rfl
      case hg34 => rfl
      case hw34 => rfl
      case h34 =>
      intro a W hS hB hd hR hP
      have e4 : a.tmps[4]? = some (.pointer (some ⟨b4, 0, none⟩)) := hS.get rfl rfl
      have e123 : a.tmps[123]? = some (.agg #[.pointer (some ⟨g, 0, none⟩), .string (strOfNums l), .int .i64 aa, .int .i64 ee]) := (hd 0 rfl).bool rfl rfl rfl
      have c0 : W.cell? ⟨b4, 0, none⟩ = some (.pointer none) := (blk_cell hP 0).trans rfl
      have c1 : W.cell? ⟨b4, 1, none⟩ = some (.string ⟨#[]⟩) := (blk_cell hP 1).trans rfl
      have c2 : W.cell? ⟨b4, 2, none⟩ = some (.int .i64 0) := (blk_cell hP 2).trans rfl
      have c3 : W.cell? ⟨b4, 3, none⟩ = some (.int .i64 0) := (blk_cell hP 3).trans rfl
      have f0 := blk_frozen hP 0
      have f1 := blk_frozen hP 1
      have f2 := blk_frozen hP 2
      have f3 := blk_frozen hP 3
      have q0 := blk_put (cs' := #[.pointer (some ⟨g, 0, none⟩), .string ⟨#[]⟩, .int .i64 0, .int .i64 0]) hP 0 (.pointer (some ⟨g, 0, none⟩)) rfl
      refine ⟨_, ?_, grown_put (grown_put (grown_put (grown_put (World.grownBy.refl _ _) (.pointer (some ⟨g, 0, none⟩))) (.string (strOfNums l))) (.int .i64 aa)) (.int .i64 ee), blk_put4 q0 _ _ _⟩
      go_simp
    · refine StepOkO.run (o := ?o35) ?ho35 ?hg35 (by omega) ?h35
      case ho35 => simp only [List.getElem?_toArray, List.getElem?_cons_succ, List.getElem?_cons_zero]; rfl
      case hg35 => rfl
      case h35 =>
      intro a W hS hB hd hR
      have e156 : a.tmps[156]? = some (.bool true) := (hd 33 rfl).bool rfl rfl rfl
      refine wp_value (c := .bool true) ?_ rfl
      go_simp
  · intro a W hS hB hh hRD hFD
    have e5 : a.tmps[5]? = some (.bool true) := (hh 35 (by omega)).bool rfl rfl rfl
    have HBR := Lib.hid hB
    have hlit := same_lit hS
    clear hh hS hB
    simp only [List.filterMap_cons, List.filterMap_nil, List.foldl_cons, List.foldl_nil, List.setIfInBounds_toArray, List.set_cons_zero, List.set_cons_succ] at hlit
    rw [show a.tmps.getD 5 undef = .bool true by simp [Array.getD_eq_getD_getElem?, e5]] at hlit
    generalize a.tmps.getD 123 undef = z123 at hlit
    generalize a.tmps.getD 124 undef = z124 at hlit
    generalize a.tmps.getD 125 undef = z125 at hlit
    generalize a.tmps.getD 126 undef = z126 at hlit
    generalize a.tmps.getD 127 undef = z127 at hlit
    generalize a.tmps.getD 128 undef = z128 at hlit
    generalize a.tmps.getD 129 undef = z129 at hlit
    generalize a.tmps.getD 130 undef = z130 at hlit
    generalize a.tmps.getD 131 undef = z131 at hlit
    generalize a.tmps.getD 132 undef = z132 at hlit
    generalize a.tmps.getD 133 undef = z133 at hlit
    generalize a.tmps.getD 134 undef = z134 at hlit
    generalize a.tmps.getD 135 undef = z135 at hlit
    generalize a.tmps.getD 136 undef = z136 at hlit
    generalize a.tmps.getD 137 undef = z137 at hlit
    generalize a.tmps.getD 138 undef = z138 at hlit
    generalize a.tmps.getD 139 undef = z139 at hlit
    generalize a.tmps.getD 140 undef = z140 at hlit
    generalize a.tmps.getD 141 undef = z141 at hlit
    generalize a.tmps.getD 142 undef = z142 at hlit
    generalize a.tmps.getD 143 undef = z143 at hlit
    generalize a.tmps.getD 144 undef = z144 at hlit
    generalize a.tmps.getD 145 undef = z145 at hlit
    generalize a.tmps.getD 146 undef = z146 at hlit
    generalize a.tmps.getD 147 undef = z147 at hlit
    generalize a.tmps.getD 148 undef = z148 at hlit
    generalize a.tmps.getD 149 undef = z149 at hlit
    generalize a.tmps.getD 150 undef = z150 at hlit
    generalize a.tmps.getD 151 undef = z151 at hlit
    generalize a.tmps.getD 152 undef = z152 at hlit
    generalize a.tmps.getD 153 undef = z153 at hlit
    generalize a.tmps.getD 154 undef = z154 at hlit
    generalize a.tmps.getD 155 undef = z155 at hlit
    generalize a.tmps.getD 156 undef = z156 at hlit
    clear e5
    subst hlit
    go_wp2_with fail
    refine bodyPost_ret (results_ct rfl _ _ b4 42 #[_, _, _, _] (0, 0) _ rfl hFD HU.out rfl (by kernel_rfl)) rfl ?_
    refine ⟨aa, ee, ha2.1, ha2.2, rfl, hRD.2, ?_, HW4.out.1.trans (HBR.out.mono (Nat.le_trans HBW.out.2.1.size (Nat.le_refl _)))⟩
    obtain ⟨g1, g2, g3, g4, g5⟩ := HW4.out.2
    obtain ⟨r1, r2, r3, r4, r5⟩ := HBR.out
    exact ⟨r1.trans g1, r2.trans g2, r3.trans g3, Nat.le_trans g4 r4, fun k hk hne => (r5 k hk).trans (g5 k hk hne)⟩
set_option maxRecDepth 100000 in
set_option maxHeartbeats 4000000 in
theorem step_4 (w0 w : World) (g : Nat) (l : List Int) (a e kd most each : Int) (hI : IsCu w0 w g l a e) (hB : Below w0.heap.size w0 w) (hb : ∀ x ∈ l, 0 ≤ x ∧ x < 256) (hl : l.length ≤ 1000000) (ha : 0 ≤ a ∧ a ≤ l.length) (hmost : -9223372036854775808 ≤ most ∧ most ≤ 9223372036854775807) (heach : -9223372036854775808 ≤ each ∧ each ≤ 9223372036854775807) :
    Calls Try.prog 25 #[.agg #[.pointer (some ⟨g, 0, none⟩), .string (strOfNums l), .int .i64 a, .int .i64 e], .agg #[.int .i64 4, .int .i64 most, .int .i64 each]] w fun en w' => ∃ aa ee : Int, 0 ≤ aa ∧ aa ≤ (l.length : Int) ∧ StepPost w0 w g l aa ee en w' := by
  have HR := Lib.hid (fun (W : World) => tephraref04_Cursor_Texts.calls 1000100 _ _ _ _ _ _ _ _ _ W (rcuTexts_is l hb hl 1000100 (Nat.le_refl _) a e most each ha hmost heach))
  have HC := Lib.hid (fun (W : World) h1 h2 => texts_any w0 W g l a e most each h1 h2 hb hl ha hmost heach)
  have hst := (cuTexts_step l hb each most a e ha)
  obtain ⟨R, hR⟩ : ∃ R, cuTexts l each most a e = R := ⟨_, rfl⟩
  rw [hR] at HR HC hst
  obtain ⟨x, aa, ee⟩ := R
  dsimp only at hst
  have ha2 : 0 ≤ aa ∧ aa ≤ l.length := ⟨by omega, hst.1⟩
  have hxl : x.length ≤ 1000000 := by have := hst.2.2.1; omega
  clear hst hR
  obtain ⟨w1, hw1⟩ : ∃ w1, ((w.alloc (.cells #[.pointer (some ⟨g, 0, none⟩), .string (strOfNums l), .int .i64 a, .int .i64 e] 42)).alloc (.cells #[.int .i64 4, .int .i64 most, .int .i64 each] 44)).alloc (.cells #[.pointer none, .string ⟨#[]⟩, .int .i64 0, .int .i64 0] 42) = w1 := ⟨_, rfl⟩
  have hgw : g < w.heap.size := by obtain ⟨_, _, h, _⟩ := hI; exact blk_lt h
  obtain ⟨b2, hb2⟩ : ∃ b, w.heap.size = b := ⟨_, rfl⟩
  obtain ⟨b3, hb3⟩ : ∃ b, b2 + 1 = b := ⟨_, rfl⟩
  obtain ⟨b4, hb4⟩ : ∃ b, b3 + 1 = b := ⟨_, rfl⟩
  obtain ⟨hk2, hk3, hk4, hb01⟩ : w1.heap[b2]? = some (.cells #[.pointer (some ⟨g, 0, none⟩), .string (strOfNums l), .int .i64 a, .int .i64 e] 42 (0, 0)) ∧ w1.heap[b3]? = some (.cells #[.int .i64 4, .int .i64 most, .int .i64 each] 44 (0, 0)) ∧ w1.heap[b4]? = some (.cells #[.pointer none, .string ⟨#[]⟩, .int .i64 0, .int .i64 0] 42 (0, 0)) ∧ Below w.heap.size w w1 := by
    rw [← hw1, ← hb4, ← hb3, ← hb2]
    have s1 := blk_new w (.cells #[.pointer (some ⟨g, 0, none⟩), .string (strOfNums l), .int .i64 a, .int .i64 e] 42 (0, 0))
    have s2 := blk_new (w.alloc (.cells #[.pointer (some ⟨g, 0, none⟩), .string (strOfNums l), .int .i64 a, .int .i64 e] 42 (0, 0))) (.cells #[.int .i64 4, .int .i64 most, .int .i64 each] 44 (0, 0))
    have s3 := blk_new ((w.alloc (.cells #[.pointer (some ⟨g, 0, none⟩), .string (strOfNums l), .int .i64 a, .int .i64 e] 42 (0, 0))).alloc (.cells #[.int .i64 4, .int .i64 most, .int .i64 each] 44 (0, 0))) (.cells #[.pointer none, .string ⟨#[]⟩, .int .i64 0, .int .i64 0] 42 (0, 0))
    rw [heap_size_alloc] at s2 s3
    rw [heap_size_alloc] at s3
    have al := fun (W : World) (o : Obj) => (Below.refl W.heap.size W).alloc (Nat.le_refl _) o
    exact ⟨blk_below (blk_below s1 (al _ _)) (al _ _), blk_below s2 (al _ _), s3, ((Below.refl _ _).alloc (Nat.le_refl _) _).alloc (by rw [heap_size_alloc]; omega) _ |>.alloc (by rw [heap_size_alloc, heap_size_alloc]; omega) _⟩
  have hs2 : b4 < w1.heap.size := blk_lt hk4
  have HBW := Lib.hid (And.intro hI (And.intro hB (And.intro hb01 (And.intro hs2 hgw))))
  have HK := Lib.hid (And.intro hk2 (And.intro hk3 hk4))
  have x0 := (blk_cell hk2 0).trans rfl
  have x1 := (blk_cell hk2 1).trans rfl
  have x2 := (blk_cell hk2 2).trans rfl
  have x3 := (blk_cell hk2 3).trans rfl
  have x4 := (blk_cell hk3 0).trans rfl
  have x5 := (blk_cell hk3 1).trans rfl
  have x6 := (blk_cell hk3 2).trans rfl
  clear hI hB hgw hb01 hs2 hk2 hk3 hk4
  go_enter Try.func25, Try.ntmps25
  go_wp2_with fail
  refine (HR.out _).mono ?_
  rintro en w2 ⟨v0, rfl, hR2, hb12⟩
  obtain ⟨A3, c3, rfl⟩ := Kd.R_slice hR2
  have HR2 := Lib.hid (Kd.R_mono (Kd.R_bound hR2) (fun k h => h.2.1))
  clear hR2
  obtain ⟨wA, hwA⟩ : ∃ wA, w2.alloc (.cells #[.string (strOfNums l), .int .i64 aa, .int .i64 ee] 39) = wA := ⟨_, rfl⟩
  have hbA : Below w1.heap.size w1 wA := by rw [← hwA]; exact hb12.alloc hb12.size _
  have nA := (blk_new w2 (.cells #[.string (strOfNums l), .int .i64 aa, .int .i64 ee] 39 (0, 0)))
  rw [hwA] at nA
  obtain ⟨hk2, hk3, hk4⟩ := HK.out
  have kA2 := blk_below hk2 hbA
  have kA3 := blk_below hk3 hbA
  have kA4 := blk_below hk4 hbA
  clear hk2 hk3 hk4 x0 x1 x2 x3 x4 x5 x6
  obtain ⟨w3, hw3⟩ : ∃ w3, ((wA.setCell ⟨b2, 1, none⟩ (.string (strOfNums l))).setCell ⟨b2, 2, none⟩ (.int .i64 aa)).setCell ⟨b2, 3, none⟩ (.int .i64 ee) = w3 := ⟨_, rfl⟩
  have HK3 := Lib.hid (show w3.heap[b2]? = some (.cells #[.pointer (some ⟨g, 0, none⟩), .string (strOfNums l), .int .i64 aa, .int .i64 ee] 42 (0, 0)) ∧ w3.heap[b3]? = some (.cells #[.int .i64 4, .int .i64 most, .int .i64 each] 44 (0, 0)) ∧ w3.heap[b4]? = some (.cells #[.pointer none, .string ⟨#[]⟩, .int .i64 0, .int .i64 0] 42 (0, 0)) ∧ Below w.heap.size w w3 by
    rw [← hw3]
    refine ⟨blk_put4 kA2 _ _ _, ?_, ?_, below_put4 (HBW.out.2.2.1.trans (hbA.mono HBW.out.2.2.1.size)) (by omega) _ _ _⟩
    · rw [Below.heap_setCell _ _ _ _ (by show b3 ≠ b2; omega), Below.heap_setCell _ _ _ _ (by show b3 ≠ b2; omega), Below.heap_setCell _ _ _ _ (by show b3 ≠ b2; omega)]; exact kA3
    · rw [Below.heap_setCell _ _ _ _ (by show b4 ≠ b2; omega), Below.heap_setCell _ _ _ _ (by show b4 ≠ b2; omega), Below.heap_setCell _ _ _ _ (by show b4 ≠ b2; omega)]; exact kA4)
  have y1 := (blk_cell kA2 1).trans rfl
  have y2 := (blk_cell kA2 2).trans rfl
  have y3 := (blk_cell kA2 3).trans rfl
  have z1 := blk_frozen kA2 1
  have z2 := blk_frozen kA2 2
  have z3 := blk_frozen kA2 3
  have n0 := (blk_cell nA 0).trans rfl
  have n1 := (blk_cell nA 1).trans rfl
  have n2 := (blk_cell nA 2).trans rfl
  have x0 := (blk_cell HK3.out.1 0).trans rfl
  have x5 := (blk_cell HK3.out.2.1 1).trans rfl
  have x6 := (blk_cell HK3.out.2.1 2).trans rfl
  have HRA := Lib.hid (Kd.R_step (w1 := w3) (Kd.R_below HR2.out (w1 := wA) (by rw [← hwA]; exact (Below.refl _ _).alloc (Nat.le_refl _) _)) (fun k ho hk => by rw [← hw3]; exact put4_keep (by have h9 : w1.heap.size ≤ k := ho; have := HBW.out.2.2.2.1; omega) _ _ _))
  have HIB := Lib.hid (And.intro (HBW.out.1.keep HK3.out.2.2.2) (HBW.out.2.1.trans (HK3.out.2.2.2.mono HBW.out.2.1.size)))
  clear kA2 kA3 kA4 nA hbA hb12
  clear HR2
  go_wp2_with fail
  clear y1 y2 y3 z1 z2 z3 n0 n1 n2 hwA hw3
  unfold TextsPost at HC
  refine (HC.out _ HIB.out.1 HIB.out.2).mono ?_
  rintro en w4 ⟨v4, rfl, hR4, hI4, hg4, hB4⟩
  obtain ⟨A4, c4, rfl, hc4, hC4⟩ := Kd.R_reads hR4
  obtain ⟨kT2, kT4, hbT⟩ : w4.heap[b2]? = some (.cells #[.pointer (some ⟨g, 0, none⟩), .string (strOfNums l), .int .i64 aa, .int .i64 ee] 42 (0, 0)) ∧ w4.heap[b4]? = some (.cells #[.pointer none, .string ⟨#[]⟩, .int .i64 0, .int .i64 0] 42 (0, 0)) ∧ w.grownBy w4 (some g) := by
    obtain ⟨h1, h2, h3, h4⟩ := HK3.out
    have hgw := HBW.out.2.2.2.2
    exact ⟨blk_grown h1 hg4 (by intro h; cases h; omega), blk_grown h3 hg4 (by intro h; cases h; omega), grown_after (grownBy_none h4) hg4⟩
  have HV := Lib.hid (Kd.R_reads' (Kd.R_grown HRA.out hg4 (fun k hk => by intro h9; cases h9; have := HBW.out.2.2.2; have h9 : w1.heap.size ≤ g := hk; omega)))
  clear hR4 hg4 HRA
  have HC4 := Lib.hid (And.intro hC4 hc4)
  clear hC4 hc4
  go_wp2_with fail
  obtain ⟨hC4, hc4⟩ := HC4.out
  refine (tephraref04_Same.calls 1000001 _ _ x _ _ x true w4 hC4 hc4 HV.out.2.2 HV.out.2.1 (same_strs_f x hxl)).mono ?_
  rintro en wT ⟨rfl, hd5⟩
  replace kT2 := blk_below kT2 hd5.below
  replace kT4 := blk_below kT4 hd5.below
  replace hI4 := hI4.keep hd5.below
  replace hB4 := hB4.trans (hd5.below.mono hB4.size)
  replace hbT := grown_then hbT hd5.below
  clear hd5 hC4 hc4 HC4 HV
  go_wp2_with fail
  have hne2 : b2 ≠ b4 := by omega
  have hneg : g ≠ b4 := by have := HBW.out.2.2.2.2; omega
  have hsz4 : w.heap.size ≤ wT.heap.size := hbT.size
  have HU := Lib.hid Try.underlying42
  have hb24 : w.heap.size ≤ b4 := by omega
  clear hb2 hb3 hb4
  have HW4 := Lib.hid (And.intro hB4 hbT)
  clear hB4 hbT HK HK3 HIB HR HC x0 x5 x6 hw1
  refine region_one (n := 36) (base := w.heap.size) (w0 := wT) (b := b4) (jw := 34) (byList [isV (.agg #[.pointer (some ⟨g, 0, none⟩), .string (strOfNums l), .int .i64 aa, .int .i64 ee]), isV (.bool true), isV (.bool true), isV (.pointer (some ⟨b2, 0, none⟩)), isV (.pointer (some ⟨g, 0, none⟩)), isV (.int .i64 ee), isV (.pointer (some ⟨b2, 1, none⟩)), isV (.pointer (some ⟨b2, 3, none⟩)), isV (.int .i64 ee), isV (.bool true), isV (.bool true), isV (.bool true), isV (.pointer (some ⟨b2, 0, none⟩)), isV (.pointer (some ⟨g, 0, none⟩)), isV (.int .i64 aa), isV (.pointer (some ⟨b2, 1, none⟩)), isV (.pointer (some ⟨b2, 2, none⟩)), isV (.int .i64 aa), isV (.bool true), isV (.bool true), isV (.bool true), isV (.pointer (some ⟨b2, 0, none⟩)), isV (.pointer (some ⟨g, 0, none⟩)), isV (.int .i64 ((l.length : Int) - aa)), isV (.pointer (some ⟨b2, 1, none⟩)), isV (.pointer (some ⟨b2, 1, none⟩)), isV (.string (strOfNums l)), isV (.int .i64 (l.length : Int)), isV (.pointer (some ⟨b2, 1, none⟩)), isV (.pointer (some ⟨b2, 2, none⟩)), isV (.int .i64 aa), isV (.int .i64 ((l.length : Int) - aa)), isV (.bool true), isV (.bool true), (fun _ _ => True), isV (.bool true)]) (fun W => W.heap[b2]? = some (.cells #[.pointer (some ⟨g, 0, none⟩), .string (strOfNums l), .int .i64 aa, .int .i64 ee] 42 (0, 0)) ∧ IsCu w0 W g l aa ee) (fun W => W.heap[b4]? = some (.cells #[.pointer none, .string ⟨#[]⟩, .int .i64 0, .int .i64 0] 42 (0, 0))) (fun W => W.heap[b4]? = some (.cells #[.pointer (some ⟨g, 0, none⟩), .string (strOfNums l), .int .i64 aa, .int .i64 ee] 42 (0, 0))) (by kernel_rfl) rfl (by omega) (byList_any ?_) (by kernel_rfl) (by kernel_rfl) (by omega) (fun W W' row hrow h hg => ⟨blk_grown h.1 hg (by rcases hrow with rfl | rfl <;> simp <;> omega), h.2.grown hg (by rcases hrow with rfl | rfl <;> simp <;> omega)⟩) (fun W W' h hg => blk_below h (below_none hg)) (fun W W' h hg => blk_below h (below_none hg)) (Below.refl _ _) hsz4 ⟨kT2, hI4⟩ kT4 (show AllLt 36 _ from ?_) ?_
  · intro p hp
    simp only [List.mem_cons, List.not_mem_nil, or_false] at hp
    rcases hp with rfl | rfl | rfl | rfl | rfl | rfl | rfl | rfl | rfl | rfl | rfl | rfl | rfl | rfl | rfl | rfl | rfl | rfl | rfl | rfl | rfl | rfl | rfl | rfl | rfl | rfl | rfl | rfl | rfl | rfl | rfl | rfl | rfl | rfl | rfl | rfl <;> exact fun _ _ _ h => h
  · refine allLt_succ (allLt_succ (allLt_succ (allLt_succ (allLt_succ (allLt_succ (allLt_succ (allLt_succ (allLt_succ (allLt_succ (allLt_succ (allLt_succ (allLt_succ (allLt_succ (allLt_succ (allLt_succ (allLt_succ (allLt_succ (allLt_succ (allLt_succ (allLt_succ (allLt_succ (allLt_succ (allLt_succ (allLt_succ (allLt_succ (allLt_succ (allLt_succ (allLt_succ (allLt_succ (allLt_succ (allLt_succ (allLt_succ (allLt_succ (allLt_succ (allLt_succ (allLt_zero _) ?_) ?_) ?_) ?_) ?_) ?_) ?_) ?_) ?_) ?_) ?_) ?_) ?_) ?_) ?_) ?_) ?_) ?_) ?_) ?_) ?_) ?_) ?_) ?_) ?_) ?_) ?_) ?_) ?_) ?_) ?_) ?_) ?_) ?_) ?_) ?_
    · refine StepOkO.run (o := ?o0) ?ho0 ?hg0 (by omega) ?h0
      case ho0 => simp only [List.getElem?_toArray, List.getElem?_cons_succ, List.getElem?_cons_zero]; rfl
      case hg0 => rfl
      case h0 =>
      intro a W hS hB hd hR
      have e2 : a.tmps[2]? = some (.pointer (some ⟨b2, 0, none⟩)) := hS.get rfl rfl
      refine wp_value (c := .agg #[.pointer (some ⟨g, 0, none⟩), .string (strOfNums l), .int .i64 aa, .int .i64 ee]) ?_ rfl
      have c0 : W.cell? ⟨b2, 0, none⟩ = some (.pointer (some ⟨g, 0, none⟩)) := (blk_cell hR.1 0).trans rfl
      have c1 : W.cell? ⟨b2, 1, none⟩ = some (.string (strOfNums l)) := (blk_cell hR.1 1).trans rfl
      have c2 : W.cell? ⟨b2, 2, none⟩ = some (.int .i64 aa) := (blk_cell hR.1 2).trans rfl
      have c3 : W.cell? ⟨b2, 3, none⟩ = some (.int .i64 ee) := (blk_cell hR.1 3).trans rfl
      go_simp
    · refine StepOkO.run (o := ?o1) ?ho1 ?hg1 (by omega) ?h1
      case ho1 => simp only [List.getElem?_toArray, List.getElem?_cons_succ, List.getElem?_cons_zero]; rfl
      case hg1 => rfl
      case h1 =>
      intro a W hS hB hd hR
      have e6 : a.tmps[6]? = some (.bool true) := hS.get rfl rfl
      refine wp_value (c := .bool true) ?_ rfl
      go_simp
    · refine StepOkO.run (o := ?o2) ?ho2 ?hg2 (by omega) ?h2
      case ho2 => simp only [List.getElem?_toArray, List.getElem?_cons_succ, List.getElem?_cons_zero]; rfl
      case hg2 => rfl
      case h2 =>
      intro a W hS hB hd hR
      have e124 : a.tmps[124]? = some (.bool true) := (hd 1 rfl).bool rfl rfl rfl
      refine wp_value (c := .bool true) ?_ rfl
      go_simp
    · refine StepOkO.on (o := ?o3) (g := 2) (u := true) ?ho3 ?hg3 (by omega) rfl rfl ?hw3 rfl ?h3
      case ho3 => simp only [List.getElem?_toArray, List.getElem?_cons_succ, List.getElem?_cons_zero]; rfl
      case hg3 => rfl
      case hw3 => rfl
      case h3 =>
      intro a W hS hB hd hR
      have e2 : a.tmps[2]? = some (.pointer (some ⟨b2, 0, none⟩)) := hS.get rfl rfl
      refine wp_value (c := .pointer (some ⟨b2, 0, none⟩)) ?_ rfl
      go_simp
    · refine StepOkO.on (o := ?o4) (g := 2) (u := true) ?ho4 ?hg4 (by omega) rfl rfl ?hw4 rfl ?h4
      case ho4 => simp only [List.getElem?_toArray, List.getElem?_cons_succ, List.getElem?_cons_zero]; rfl
      case hg4 => rfl
      case hw4 => rfl
      case h4 =>
      intro a W hS hB hd hR
      have e126 : a.tmps[126]? = some (.pointer (some ⟨b2, 0, none⟩)) := (hd 3 rfl).bool rfl rfl rfl
      refine wp_value (c := .pointer (some ⟨g, 0, none⟩)) ?_ rfl
      have c0 : W.cell? ⟨b2, 0, none⟩ = some (.pointer (some ⟨g, 0, none⟩)) := (blk_cell hR.1 0).trans rfl
      have c1 : W.cell? ⟨b2, 1, none⟩ = some (.string (strOfNums l)) := (blk_cell hR.1 1).trans rfl
      have c2 : W.cell? ⟨b2, 2, none⟩ = some (.int .i64 aa) := (blk_cell hR.1 2).trans rfl
      have c3 : W.cell? ⟨b2, 3, none⟩ = some (.int .i64 ee) := (blk_cell hR.1 3).trans rfl
      go_simp
    · refine StepOkO.on (o := ?o5) (g := 2) (u := true) ?ho5 ?hg5 (by omega) rfl rfl ?hw5 rfl ?h5
      case ho5 => simp only [List.getElem?_toArray, List.getElem?_cons_succ, List.getElem?_cons_zero]; rfl
      case hg5 => rfl
      case hw5 => rfl
      case h5 =>
      intro a W hS hB hd hR
      have e127 : a.tmps[127]? = some (.pointer (some ⟨g, 0, none⟩)) := (hd 4 rfl).bool rfl rfl rfl
      refine wp_called Try.func20 (by kernel_rfl) rfl #[.pointer (some ⟨g, 0, none⟩)] rfl (by simp [Act.eval, *]) ?_
      refine (err_any w0 W g l aa ee hR.2).mono ?_
      rintro e9 w9 ⟨rfl, rfl⟩
      exact ⟨_, rfl, rfl, Below.refl _ _⟩
    · refine StepOkO.on (o := ?o6) (g := 2) (u := true) ?ho6 ?hg6 (by omega) rfl rfl ?hw6 rfl ?h6
      case ho6 => simp only [List.getElem?_toArray, List.getElem?_cons_succ, List.getElem?_cons_zero]; rfl
      case hg6 => rfl
      case hw6 => rfl
      case h6 =>
      intro a W hS hB hd hR
      have e2 : a.tmps[2]? = some (.pointer (some ⟨b2, 0, none⟩)) := hS.get rfl rfl
      refine wp_value (c := .pointer (some ⟨b2, 1, none⟩)) ?_ rfl
      go_simp
    · refine StepOkO.on (o := ?o7) (g := 2) (u := true) ?ho7 ?hg7 (by omega) rfl rfl ?hw7 rfl ?h7
      case ho7 => simp only [List.getElem?_toArray, List.getElem?_cons_succ, List.getElem?_cons_zero]; rfl
      case hg7 => rfl
      case hw7 => rfl
      case h7 =>
      intro a W hS hB hd hR
      have e129 : a.tmps[129]? = some (.pointer (some ⟨b2, 1, none⟩)) := (hd 6 rfl).bool rfl rfl rfl
      refine wp_value (c := .pointer (some ⟨b2, 3, none⟩)) ?_ rfl
      go_simp
    · refine StepOkO.on (o := ?o8) (g := 2) (u := true) ?ho8 ?hg8 (by omega) rfl rfl ?hw8 rfl ?h8
      case ho8 => simp only [List.getElem?_toArray, List.getElem?_cons_succ, List.getElem?_cons_zero]; rfl
      case hg8 => rfl
      case hw8 => rfl
      case h8 =>
      intro a W hS hB hd hR
      have e130 : a.tmps[130]? = some (.pointer (some ⟨b2, 3, none⟩)) := (hd 7 rfl).bool rfl rfl rfl
      refine wp_value (c := .int .i64 ee) ?_ rfl
      have c0 : W.cell? ⟨b2, 0, none⟩ = some (.pointer (some ⟨g, 0, none⟩)) := (blk_cell hR.1 0).trans rfl
      have c1 : W.cell? ⟨b2, 1, none⟩ = some (.string (strOfNums l)) := (blk_cell hR.1 1).trans rfl
      have c2 : W.cell? ⟨b2, 2, none⟩ = some (.int .i64 aa) := (blk_cell hR.1 2).trans rfl
      have c3 : W.cell? ⟨b2, 3, none⟩ = some (.int .i64 ee) := (blk_cell hR.1 3).trans rfl
      go_simp
    · refine StepOkO.on (o := ?o9) (g := 2) (u := true) ?ho9 ?hg9 (by omega) rfl rfl ?hw9 rfl ?h9
      case ho9 => simp only [List.getElem?_toArray, List.getElem?_cons_succ, List.getElem?_cons_zero]; rfl
      case hg9 => rfl
      case hw9 => rfl
      case h9 =>
      intro a W hS hB hd hR
      have e128 : a.tmps[128]? = some (.int .i64 ee) := (hd 5 rfl).bool rfl rfl rfl
      have e131 : a.tmps[131]? = some (.int .i64 ee) := (hd 8 rfl).bool rfl rfl rfl
      refine wp_value (c := .bool true) ?_ rfl
      go_simp
    · refine StepOkO.run (o := ?o10) ?ho10 ?hg10 (by omega) ?h10
      case ho10 => simp only [List.getElem?_toArray, List.getElem?_cons_succ, List.getElem?_cons_zero]; rfl
      case hg10 => rfl
      case h10 =>
      intro a W hS hB hd hR
      have e125 : a.tmps[125]? = some (.bool true) := (hd 2 rfl).bool rfl rfl rfl
      have e132 : a.tmps[132]? = some (.bool true) := (hd 9 rfl).bool rfl rfl rfl
      refine wp_value (c := .bool true) ?_ rfl
      go_simp
    · refine StepOkO.run (o := ?o11) ?ho11 ?hg11 (by omega) ?h11
      case ho11 => simp only [List.getElem?_toArray, List.getElem?_cons_succ, List.getElem?_cons_zero]; rfl
      case hg11 => rfl
      case h11 =>
      intro a W hS hB hd hR
      have e133 : a.tmps[133]? = some (.bool true) := (hd 10 rfl).bool rfl rfl rfl
      refine wp_value (c := .bool true) ?_ rfl
      go_simp
    · refine StepOkO.on (o := ?o12) (g := 11) (u := true) ?ho12 ?hg12 (by omega) rfl rfl ?hw12 rfl ?h12
      case ho12 => simp only [List.getElem?_toArray, List.getElem?_cons_succ, List.getElem?_cons_zero]; rfl
      case hg12 => rfl
      case hw12 => rfl
      case h12 =>
      intro a W hS hB hd hR
      have e2 : a.tmps[2]? = some (.pointer (some ⟨b2, 0, none⟩)) := hS.get rfl rfl
      refine wp_value (c := .pointer (some ⟨b2, 0, none⟩)) ?_ rfl
      go_simp
    · refine StepOkO.on (o := ?o13) (g := 11) (u := true) ?ho13 ?hg13 (by omega) rfl rfl ?hw13 rfl ?h13
      case ho13 => simp only [List.getElem?_toArray, List.getElem?_cons_succ, List.getElem?_cons_zero]; rfl
      case hg13 => rfl
      case hw13 => rfl
      case h13 =>
      intro a W hS hB hd hR
      have e135 : a.tmps[135]? = some (.pointer (some ⟨b2, 0, none⟩)) := (hd 12 rfl).bool rfl rfl rfl
      refine wp_value (c := .pointer (some ⟨g, 0, none⟩)) ?_ rfl
      have c0 : W.cell? ⟨b2, 0, none⟩ = some (.pointer (some ⟨g, 0, none⟩)) := (blk_cell hR.1 0).trans rfl
      have c1 : W.cell? ⟨b2, 1, none⟩ = some (.string (strOfNums l)) := (blk_cell hR.1 1).trans rfl
      have c2 : W.cell? ⟨b2, 2, none⟩ = some (.int .i64 aa) := (blk_cell hR.1 2).trans rfl
      have c3 : W.cell? ⟨b2, 3, none⟩ = some (.int .i64 ee) := (blk_cell hR.1 3).trans rfl
      go_simp
    · refine StepOkO.on (o := ?o14) (g := 11) (u := true) ?ho14 ?hg14 (by omega) rfl rfl ?hw14 rfl ?h14
      case ho14 => simp only [List.getElem?_toArray, List.getElem?_cons_succ, List.getElem?_cons_zero]; rfl
      case hg14 => rfl
      case hw14 => rfl
      case h14 =>
      intro a W hS hB hd hR
      have e136 : a.tmps[136]? = some (.pointer (some ⟨g, 0, none⟩)) := (hd 13 rfl).bool rfl rfl rfl
      refine wp_called Try.func26 (by kernel_rfl) rfl #[.pointer (some ⟨g, 0, none⟩)] rfl (by simp [Act.eval, *]) ?_
      refine (at_any w0 W g l aa ee hR.2).mono ?_
      rintro e9 w9 ⟨rfl, rfl⟩
      exact ⟨_, rfl, rfl, Below.refl _ _⟩
    · refine StepOkO.on (o := ?o15) (g := 11) (u := true) ?ho15 ?hg15 (by omega) rfl rfl ?hw15 rfl ?h15
      case ho15 => simp only [List.getElem?_toArray, List.getElem?_cons_succ, List.getElem?_cons_zero]; rfl
      case hg15 => rfl
      case hw15 => rfl
      case h15 =>
      intro a W hS hB hd hR
      have e2 : a.tmps[2]? = some (.pointer (some ⟨b2, 0, none⟩)) := hS.get rfl rfl
      refine wp_value (c := .pointer (some ⟨b2, 1, none⟩)) ?_ rfl
      go_simp
    · refine StepOkO.on (o := ?o16) (g := 11) (u := true) ?ho16 ?hg16 (by omega) rfl rfl ?hw16 rfl ?h16
      case ho16 => simp only [List.getElem?_toArray, List.getElem?_cons_succ, List.getElem?_cons_zero]; rfl
      case hg16 => rfl
      case hw16 => rfl
      case h16 =>
      intro a W hS hB hd hR
      have e138 : a.tmps[138]? = some (.pointer (some ⟨b2, 1, none⟩)) := (hd 15 rfl).bool rfl rfl rfl
      refine wp_value (c := .pointer (some ⟨b2, 2, none⟩)) ?_ rfl
      go_simp
    · refine StepOkO.on (o := ?o17) (g := 11) (u := true) ?ho17 ?hg17 (by omega) rfl rfl ?hw17 rfl ?h17
      case ho17 => simp only [List.getElem?_toArray, List.getElem?_cons_succ, List.getElem?_cons_zero]; rfl
      case hg17 => rfl
      case hw17 => rfl
      case h17 =>
      intro a W hS hB hd hR
      have e139 : a.tmps[139]? = some (.pointer (some ⟨b2, 2, none⟩)) := (hd 16 rfl).bool rfl rfl rfl
      refine wp_value (c := .int .i64 aa) ?_ rfl
      have c0 : W.cell? ⟨b2, 0, none⟩ = some (.pointer (some ⟨g, 0, none⟩)) := (blk_cell hR.1 0).trans rfl
      have c1 : W.cell? ⟨b2, 1, none⟩ = some (.string (strOfNums l)) := (blk_cell hR.1 1).trans rfl
      have c2 : W.cell? ⟨b2, 2, none⟩ = some (.int .i64 aa) := (blk_cell hR.1 2).trans rfl
      have c3 : W.cell? ⟨b2, 3, none⟩ = some (.int .i64 ee) := (blk_cell hR.1 3).trans rfl
      go_simp
    · refine StepOkO.on (o := ?o18) (g := 11) (u := true) ?ho18 ?hg18 (by omega) rfl rfl ?hw18 rfl ?h18
      case ho18 => simp only [List.getElem?_toArray, List.getElem?_cons_succ, List.getElem?_cons_zero]; rfl
      case hg18 => rfl
      case hw18 => rfl
      case h18 =>
      intro a W hS hB hd hR
      have e137 : a.tmps[137]? = some (.int .i64 aa) := (hd 14 rfl).bool rfl rfl rfl
      have e140 : a.tmps[140]? = some (.int .i64 aa) := (hd 17 rfl).bool rfl rfl rfl
      refine wp_value (c := .bool true) ?_ rfl
      go_simp
    · refine StepOkO.run (o := ?o19) ?ho19 ?hg19 (by omega) ?h19
      case ho19 => simp only [List.getElem?_toArray, List.getElem?_cons_succ, List.getElem?_cons_zero]; rfl
      case hg19 => rfl
      case h19 =>
      intro a W hS hB hd hR
      have e134 : a.tmps[134]? = some (.bool true) := (hd 11 rfl).bool rfl rfl rfl
      have e141 : a.tmps[141]? = some (.bool true) := (hd 18 rfl).bool rfl rfl rfl
      refine wp_value (c := .bool true) ?_ rfl
      go_simp
    · refine StepOkO.run (o := ?o20) ?ho20 ?hg20 (by omega) ?h20
      case ho20 => simp only [List.getElem?_toArray, List.getElem?_cons_succ, List.getElem?_cons_zero]; rfl
      case hg20 => rfl
      case h20 =>
      intro a W hS hB hd hR
      have e142 : a.tmps[142]? = some (.bool true) := (hd 19 rfl).bool rfl rfl rfl
      refine wp_value (c := .bool true) ?_ rfl
      go_simp
    · refine StepOkO.on (o := ?o21) (g := 20) (u := true) ?ho21 ?hg21 (by omega) rfl rfl ?hw21 rfl ?h21
      case ho21 => simp only [List.getElem?_toArray, List.getElem?_cons_succ, List.getElem?_cons_zero]; rfl
      case hg21 => rfl
      case hw21 => rfl
      case h21 =>
      intro a W hS hB hd hR
      have e2 : a.tmps[2]? = some (.pointer (some ⟨b2, 0, none⟩)) := hS.get rfl rfl
      refine wp_value (c := .pointer (some ⟨b2, 0, none⟩)) ?_ rfl
      go_simp
    · refine StepOkO.on (o := ?o22) (g := 20) (u := true) ?ho22 ?hg22 (by omega) rfl rfl ?hw22 rfl ?h22
      case ho22 => simp only [List.getElem?_toArray, List.getElem?_cons_succ, List.getElem?_cons_zero]; rfl
      case hg22 => rfl
      case hw22 => rfl
      case h22 =>
      intro a W hS hB hd hR
      have e144 : a.tmps[144]? = some (.pointer (some ⟨b2, 0, none⟩)) := (hd 21 rfl).bool rfl rfl rfl
      refine wp_value (c := .pointer (some ⟨g, 0, none⟩)) ?_ rfl
      have c0 : W.cell? ⟨b2, 0, none⟩ = some (.pointer (some ⟨g, 0, none⟩)) := (blk_cell hR.1 0).trans rfl
      have c1 : W.cell? ⟨b2, 1, none⟩ = some (.string (strOfNums l)) := (blk_cell hR.1 1).trans rfl
      have c2 : W.cell? ⟨b2, 2, none⟩ = some (.int .i64 aa) := (blk_cell hR.1 2).trans rfl
      have c3 : W.cell? ⟨b2, 3, none⟩ = some (.int .i64 ee) := (blk_cell hR.1 3).trans rfl
      go_simp
    · refine StepOkO.on (o := ?o23) (g := 20) (u := true) ?ho23 ?hg23 (by omega) rfl rfl ?hw23 rfl ?h23
      case ho23 => simp only [List.getElem?_toArray, List.getElem?_cons_succ, List.getElem?_cons_zero]; rfl
      case hg23 => rfl
      case hw23 => rfl
      case h23 =>
      intro a W hS hB hd hR
      have e145 : a.tmps[145]? = some (.pointer (some ⟨g, 0, none⟩)) := (hd 22 rfl).bool rfl rfl rfl
      refine wp_called Try.func21 (by kernel_rfl) rfl #[.pointer (some ⟨g, 0, none⟩)] rfl (by simp [Act.eval, *]) ?_
      refine (left_any w0 W g l aa ee hR.2 hl ha2).mono ?_
      rintro e9 w9 ⟨rfl, hb9⟩
      exact ⟨_, rfl, rfl, hb9⟩
    · refine StepOkO.on (o := ?o24) (g := 20) (u := true) ?ho24 ?hg24 (by omega) rfl rfl ?hw24 rfl ?h24
      case ho24 => simp only [List.getElem?_toArray, List.getElem?_cons_succ, List.getElem?_cons_zero]; rfl
      case hg24 => rfl
      case hw24 => rfl
      case h24 =>
      intro a W hS hB hd hR
      have e2 : a.tmps[2]? = some (.pointer (some ⟨b2, 0, none⟩)) := hS.get rfl rfl
      refine wp_value (c := .pointer (some ⟨b2, 1, none⟩)) ?_ rfl
      go_simp
    · refine StepOkO.on (o := ?o25) (g := 20) (u := true) ?ho25 ?hg25 (by omega) rfl rfl ?hw25 rfl ?h25
      case ho25 => simp only [List.getElem?_toArray, List.getElem?_cons_succ, List.getElem?_cons_zero]; rfl
      case hg25 => rfl
      case hw25 => rfl
      case h25 =>
      intro a W hS hB hd hR
      have e147 : a.tmps[147]? = some (.pointer (some ⟨b2, 1, none⟩)) := (hd 24 rfl).bool rfl rfl rfl
      refine wp_value (c := .pointer (some ⟨b2, 1, none⟩)) ?_ rfl
      go_simp
    · refine StepOkO.on (o := ?o26) (g := 20) (u := true) ?ho26 ?hg26 (by omega) rfl rfl ?hw26 rfl ?h26
      case ho26 => simp only [List.getElem?_toArray, List.getElem?_cons_succ, List.getElem?_cons_zero]; rfl
      case hg26 => rfl
      case hw26 => rfl
      case h26 =>
      intro a W hS hB hd hR
      have e148 : a.tmps[148]? = some (.pointer (some ⟨b2, 1, none⟩)) := (hd 25 rfl).bool rfl rfl rfl
      refine wp_value (c := .string (strOfNums l)) ?_ rfl
      have c0 : W.cell? ⟨b2, 0, none⟩ = some (.pointer (some ⟨g, 0, none⟩)) := (blk_cell hR.1 0).trans rfl
      have c1 : W.cell? ⟨b2, 1, none⟩ = some (.string (strOfNums l)) := (blk_cell hR.1 1).trans rfl
      have c2 : W.cell? ⟨b2, 2, none⟩ = some (.int .i64 aa) := (blk_cell hR.1 2).trans rfl
      have c3 : W.cell? ⟨b2, 3, none⟩ = some (.int .i64 ee) := (blk_cell hR.1 3).trans rfl
      go_simp
    · refine StepOkO.on (o := ?o27) (g := 20) (u := true) ?ho27 ?hg27 (by omega) rfl rfl ?hw27 rfl ?h27
      case ho27 => simp only [List.getElem?_toArray, List.getElem?_cons_succ, List.getElem?_cons_zero]; rfl
      case hg27 => rfl
      case hw27 => rfl
      case h27 =>
      intro a W hS hB hd hR
      have e149 : a.tmps[149]? = some (.string (strOfNums l)) := (hd 26 rfl).bool rfl rfl rfl
      refine wp_value (c := .int .i64 (l.length : Int)) ?_ rfl
      have hs : (strOfNums l).size = l.length := strOfNums_size l
      go_simp
    · refine StepOkO.on (o := ?o28) (g := 20) (u := true) ?ho28 ?hg28 (by omega) rfl rfl ?hw28 rfl ?h28
      case ho28 => simp only [List.getElem?_toArray, List.getElem?_cons_succ, List.getElem?_cons_zero]; rfl
      case hg28 => rfl
      case hw28 => rfl
      case h28 =>
      intro a W hS hB hd hR
      have e2 : a.tmps[2]? = some (.pointer (some ⟨b2, 0, none⟩)) := hS.get rfl rfl
      refine wp_value (c := .pointer (some ⟨b2, 1, none⟩)) ?_ rfl
      go_simp
    · refine StepOkO.on (o := ?o29) (g := 20) (u := true) ?ho29 ?hg29 (by omega) rfl rfl ?hw29 rfl ?h29
      case ho29 => simp only [List.getElem?_toArray, List.getElem?_cons_succ, List.getElem?_cons_zero]; rfl
      case hg29 => rfl
      case hw29 => rfl
      case h29 =>
      intro a W hS hB hd hR
      have e151 : a.tmps[151]? = some (.pointer (some ⟨b2, 1, none⟩)) := (hd 28 rfl).bool rfl rfl rfl
      refine wp_value (c := .pointer (some ⟨b2, 2, none⟩)) ?_ rfl
      go_simp
    · refine StepOkO.on (o := ?o30) (g := 20) (u := true) ?ho30 ?hg30 (by omega) rfl rfl ?hw30 rfl ?h30
      case ho30 => simp only [List.getElem?_toArray, List.getElem?_cons_succ, List.getElem?_cons_zero]; rfl
      case hg30 => rfl
      case hw30 => rfl
      case h30 =>
      intro a W hS hB hd hR
      have e152 : a.tmps[152]? = some (.pointer (some ⟨b2, 2, none⟩)) := (hd 29 rfl).bool rfl rfl rfl
      refine wp_value (c := .int .i64 aa) ?_ rfl
      have c0 : W.cell? ⟨b2, 0, none⟩ = some (.pointer (some ⟨g, 0, none⟩)) := (blk_cell hR.1 0).trans rfl
      have c1 : W.cell? ⟨b2, 1, none⟩ = some (.string (strOfNums l)) := (blk_cell hR.1 1).trans rfl
      have c2 : W.cell? ⟨b2, 2, none⟩ = some (.int .i64 aa) := (blk_cell hR.1 2).trans rfl
      have c3 : W.cell? ⟨b2, 3, none⟩ = some (.int .i64 ee) := (blk_cell hR.1 3).trans rfl
      go_simp
    · refine StepOkO.on (o := ?o31) (g := 20) (u := true) ?ho31 ?hg31 (by omega) rfl rfl ?hw31 rfl ?h31
      case ho31 => simp only [List.getElem?_toArray, List.getElem?_cons_succ, List.getElem?_cons_zero]; rfl
      case hg31 => rfl
      case hw31 => rfl
      case h31 =>
      intro a W hS hB hd hR
      have e150 : a.tmps[150]? = some (.int .i64 (l.length : Int)) := (hd 27 rfl).bool rfl rfl rfl
      have e153 : a.tmps[153]? = some (.int .i64 aa) := (hd 30 rfl).bool rfl rfl rfl
      refine wp_value (c := .int .i64 ((l.length : Int) - aa)) ?_ rfl
      have hw : IntKind.i64.wrap ((l.length : Int) - aa) = (l.length : Int) - aa := by rw [IntKind.wrap_i64]; omega
      go_simp
    · refine StepOkO.on (o := ?o32) (g := 20) (u := true) ?ho32 ?hg32 (by omega) rfl rfl ?hw32 rfl ?h32
      case ho32 => simp only [List.getElem?_toArray, List.getElem?_cons_succ, List.getElem?_cons_zero]; rfl
      case hg32 => rfl
      case hw32 => rfl
      case h32 =>
      intro a W hS hB hd hR
      have e146 : a.tmps[146]? = some (.int .i64 ((l.length : Int) - aa)) := (hd 23 rfl).bool rfl rfl rfl
      have e154 : a.tmps[154]? = some (.int .i64 ((l.length : Int) - aa)) := (hd 31 rfl).bool rfl rfl rfl
      refine wp_value (c := .bool true) ?_ rfl
      go_simp
    · refine StepOkO.run (o := ?o33) ?ho33 ?hg33 (by omega) ?h33
      case ho33 => simp only [List.getElem?_toArray, List.getElem?_cons_succ, List.getElem?_cons_zero]; rfl
      case hg33 => rfl
      case h33 =>
      intro a W hS hB hd hR
      have e143 : a.tmps[143]? = some (.bool true) := (hd 20 rfl).bool rfl rfl rfl
      have e155 : a.tmps[155]? = some (.bool true) := (hd 32 rfl).bool rfl rfl rfl
      refine wp_value (c := .bool true) ?_ rfl
      go_simp
    · refine StepOkO.write (o := ?o34) ?ho34 ?hg34 ?hw34 rfl ?h34
      case ho34 => simp only [List.getElem?_toArray, List.getElem?_cons_succ, List.getElem?_cons_zero]; rfl
      case hg34 => rfl
      case hw34 => rfl
      case h34 =>
      intro a W hS hB hd hR hP
      have e4 : a.tmps[4]? = some (.pointer (some ⟨b4, 0, none⟩)) := hS.get rfl rfl
      have e123 : a.tmps[123]? = some (.agg #[.pointer (some ⟨g, 0, none⟩), .string (strOfNums l), .int .i64 aa, .int .i64 ee]) := (hd 0 rfl).bool rfl rfl rfl
      have c0 : W.cell? ⟨b4, 0, none⟩ = some (.pointer none) := (blk_cell hP 0).trans rfl
      have c1 : W.cell? ⟨b4, 1, none⟩ = some (.string ⟨#[]⟩) := (blk_cell hP 1).trans rfl
      have c2 : W.cell? ⟨b4, 2, none⟩ = some (.int .i64 0) := (blk_cell hP 2).trans rfl
      have c3 : W.cell? ⟨b4, 3, none⟩ = some (.int .i64 0) := (blk_cell hP 3).trans rfl
      have f0 := blk_frozen hP 0
      have f1 := blk_frozen hP 1
      have f2 := blk_frozen hP 2
      have f3 := blk_frozen hP 3
      have q0 := blk_put (cs' := #[.pointer (some ⟨g, 0, none⟩), .string ⟨#[]⟩, .int .i64 0, .int .i64 0]) hP 0 (.pointer (some ⟨g, 0, none⟩)) rfl
      refine ⟨_, ?_, grown_put (grown_put (grown_put (grown_put (World.grownBy.refl _ _) (.pointer (some ⟨g, 0, none⟩))) (.string (strOfNums l))) (.int .i64 aa)) (.int .i64 ee), blk_put4 q0 _ _ _⟩
      go_simp
    · refine StepOkO.run (o := ?o35) ?ho35 ?hg35 (by omega) ?h35
      case ho35 => simp only [List.getElem?_toArray, List.getElem?_cons_succ, List.getElem?_cons_zero]; rfl
      case hg35 => rfl
      case h35 =>
      intro a W hS hB hd hR
      have e156 : a.tmps[156]? = some (.bool true) := (hd 33 rfl).bool rfl rfl rfl
      refine wp_value (c := .bool true) ?_ rfl
      go_simp
  · intro a W hS hB hh hRD hFD
    have e5 : a.tmps[5]? = some (.bool true) := (hh 35 (by omega)).bool rfl rfl rfl
    have HBR := Lib.hid hB
    have hlit := same_lit hS
    clear hh hS hB
    simp only [List.filterMap_cons, List.filterMap_nil, List.foldl_cons, List.foldl_nil, List.setIfInBounds_toArray, List.set_cons_zero, List.set_cons_succ] at hlit
    rw [show a.tmps.getD 5 undef = .bool true by simp [Array.getD_eq_getD_getElem?, e5]] at hlit
    generalize a.tmps.getD 123 undef = z123 at hlit
    generalize a.tmps.getD 124 undef = z124 at hlit
    generalize a.tmps.getD 125 undef = z125 at hlit
    generalize a.tmps.getD 126 undef = z126 at hlit
    generalize a.tmps.getD 127 undef = z127 at hlit
    generalize a.tmps.getD 128 undef = z128 at hlit
    generalize a.tmps.getD 129 undef = z129 at hlit
    generalize a.tmps.getD 130 undef = z130 at hlit
    generalize a.tmps.getD 131 undef = z131 at hlit
    generalize a.tmps.getD 132 undef = z132 at hlit
    generalize a.tmps.getD 133 undef = z133 at hlit
    generalize a.tmps.getD 134 undef = z134 at hlit
    generalize a.tmps.getD 135 undef = z135 at hlit
    generalize a.tmps.getD 136 undef = z136 at hlit
    generalize a.tmps.getD 137 undef = z137 at hlit
    generalize a.tmps.getD 138 undef = z138 at hlit
    generalize a.tmps.getD 139 undef = z139 at hlit
    generalize a.tmps.getD 140 undef = z140 at hlit
    generalize a.tmps.getD 141 undef = z141 at hlit
    generalize a.tmps.getD 142 undef = z142 at hlit
    generalize a.tmps.getD 143 undef = z143 at hlit
    generalize a.tmps.getD 144 undef = z144 at hlit
    generalize a.tmps.getD 145 undef = z145 at hlit
    generalize a.tmps.getD 146 undef = z146 at hlit
    generalize a.tmps.getD 147 undef = z147 at hlit
    generalize a.tmps.getD 148 undef = z148 at hlit
    generalize a.tmps.getD 149 undef = z149 at hlit
    generalize a.tmps.getD 150 undef = z150 at hlit
    generalize a.tmps.getD 151 undef = z151 at hlit
    generalize a.tmps.getD 152 undef = z152 at hlit
    generalize a.tmps.getD 153 undef = z153 at hlit
    generalize a.tmps.getD 154 undef = z154 at hlit
    generalize a.tmps.getD 155 undef = z155 at hlit
    generalize a.tmps.getD 156 undef = z156 at hlit
    clear e5
    subst hlit
    go_wp2_with fail
    refine bodyPost_ret (results_ct rfl _ _ b4 42 #[_, _, _, _] (0, 0) _ rfl hFD HU.out rfl (by kernel_rfl)) rfl ?_
    refine ⟨aa, ee, ha2.1, ha2.2, rfl, hRD.2, ?_, HW4.out.1.trans (HBR.out.mono (Nat.le_trans HBW.out.2.1.size (Nat.le_refl _)))⟩
    obtain ⟨g1, g2, g3, g4, g5⟩ := HW4.out.2
    obtain ⟨r1, r2, r3, r4, r5⟩ := HBR.out
    exact ⟨r1.trans g1, r2.trans g2, r3.trans g3, Nat.le_trans g4 r4, fun k hk hne => (r5 k hk).trans (g5 k hk hne)⟩
set_option maxRecDepth 100000 in
set_option maxHeartbeats 4000000 in
theorem step_5 (w0 w : World) (g : Nat) (l : List Int) (a e kd most each : Int) (hI : IsCu w0 w g l a e) (hB : Below w0.heap.size w0 w) (hb : ∀ x ∈ l, 0 ≤ x ∧ x < 256) (hl : l.length ≤ 1000000) (ha : 0 ≤ a ∧ a ≤ l.length) (hmost : -9223372036854775808 ≤ most ∧ most ≤ 9223372036854775807) (heach : -9223372036854775808 ≤ each ∧ each ≤ 9223372036854775807) :
    Calls Try.prog 25 #[.agg #[.pointer (some ⟨g, 0, none⟩), .string (strOfNums l), .int .i64 a, .int .i64 e], .agg #[.int .i64 5, .int .i64 most, .int .i64 each]] w fun en w' => ∃ aa ee : Int, 0 ≤ aa ∧ aa ≤ (l.length : Int) ∧ StepPost w0 w g l aa ee en w' := by
  obtain ⟨aa, haa⟩ : ∃ x, a = x := ⟨_, rfl⟩
  obtain ⟨ee, hee⟩ : ∃ x, (if e = 0 then most else e) = x := ⟨_, rfl⟩
  have hrf : tephraref04_Cursor_Fail.f (strOfNums l) a e most = some (strOfNums l, aa, ee) := by unfold tephraref04_Cursor_Fail.f; rw [← haa, ← hee]; split <;> rfl
  have HR := Lib.hid (fun W => tephraref04_Cursor_Fail.calls _ _ _ _ _ _ _ W hrf)
  have HC := Lib.hid (fun (W : World) h1 h2 => fail_any w0 W g l a e most h1 h2)
  rw [hee] at HC
  have ha2 : 0 ≤ aa ∧ aa ≤ l.length := haa ▸ ha
  have HAA := Lib.hid haa
  clear hrf hee haa
  obtain ⟨w1, hw1⟩ : ∃ w1, ((w.alloc (.cells #[.pointer (some ⟨g, 0, none⟩), .string (strOfNums l), .int .i64 a, .int .i64 e] 42)).alloc (.cells #[.int .i64 5, .int .i64 most, .int .i64 each] 44)).alloc (.cells #[.pointer none, .string ⟨#[]⟩, .int .i64 0, .int .i64 0] 42) = w1 := ⟨_, rfl⟩
  have hgw : g < w.heap.size := by obtain ⟨_, _, h, _⟩ := hI; exact blk_lt h
  obtain ⟨b2, hb2⟩ : ∃ b, w.heap.size = b := ⟨_, rfl⟩
  obtain ⟨b3, hb3⟩ : ∃ b, b2 + 1 = b := ⟨_, rfl⟩
  obtain ⟨b4, hb4⟩ : ∃ b, b3 + 1 = b := ⟨_, rfl⟩
  obtain ⟨hk2, hk3, hk4, hb01⟩ : w1.heap[b2]? = some (.cells #[.pointer (some ⟨g, 0, none⟩), .string (strOfNums l), .int .i64 a, .int .i64 e] 42 (0, 0)) ∧ w1.heap[b3]? = some (.cells #[.int .i64 5, .int .i64 most, .int .i64 each] 44 (0, 0)) ∧ w1.heap[b4]? = some (.cells #[.pointer none, .string ⟨#[]⟩, .int .i64 0, .int .i64 0] 42 (0, 0)) ∧ Below w.heap.size w w1 := by
    rw [← hw1, ← hb4, ← hb3, ← hb2]
    have s1 := blk_new w (.cells #[.pointer (some ⟨g, 0, none⟩), .string (strOfNums l), .int .i64 a, .int .i64 e] 42 (0, 0))
    have s2 := blk_new (w.alloc (.cells #[.pointer (some ⟨g, 0, none⟩), .string (strOfNums l), .int .i64 a, .int .i64 e] 42 (0, 0))) (.cells #[.int .i64 5, .int .i64 most, .int .i64 each] 44 (0, 0))
    have s3 := blk_new ((w.alloc (.cells #[.pointer (some ⟨g, 0, none⟩), .string (strOfNums l), .int .i64 a, .int .i64 e] 42 (0, 0))).alloc (.cells #[.int .i64 5, .int .i64 most, .int .i64 each] 44 (0, 0))) (.cells #[.pointer none, .string ⟨#[]⟩, .int .i64 0, .int .i64 0] 42 (0, 0))
    rw [heap_size_alloc] at s2 s3
    rw [heap_size_alloc] at s3
    have al := fun (W : World) (o : Obj) => (Below.refl W.heap.size W).alloc (Nat.le_refl _) o
    exact ⟨blk_below (blk_below s1 (al _ _)) (al _ _), blk_below s2 (al _ _), s3, ((Below.refl _ _).alloc (Nat.le_refl _) _).alloc (by rw [heap_size_alloc]; omega) _ |>.alloc (by rw [heap_size_alloc, heap_size_alloc]; omega) _⟩
  have hs2 : b4 < w1.heap.size := blk_lt hk4
  have HBW := Lib.hid (And.intro hI (And.intro hB (And.intro hb01 (And.intro hs2 hgw))))
  have HK := Lib.hid (And.intro hk2 (And.intro hk3 hk4))
  have x0 := (blk_cell hk2 0).trans rfl
  have x1 := (blk_cell hk2 1).trans rfl
  have x2 := (blk_cell hk2 2).trans rfl
  have x3 := (blk_cell hk2 3).trans rfl
  have x4 := (blk_cell hk3 0).trans rfl
  have x5 := (blk_cell hk3 1).trans rfl
  have x6 := (blk_cell hk3 2).trans rfl
  clear hI hB hgw hb01 hs2 hk2 hk3 hk4
  go_enter Try.func25, Try.ntmps25
  go_wp2_with fail
  refine (HC.out _ (HBW.out.1.keep HBW.out.2.2.1) (HBW.out.2.1.trans (HBW.out.2.2.1.mono HBW.out.2.1.size))).mono ?_
  rintro en w4 ⟨rfl, hI4, hg4, hB4⟩
  rw [HAA.out] at hI4
  obtain ⟨kA2, kA3, kA4, hbT⟩ : w4.heap[b2]? = some (.cells #[.pointer (some ⟨g, 0, none⟩), .string (strOfNums l), .int .i64 a, .int .i64 e] 42 (0, 0)) ∧ w4.heap[b3]? = some (.cells #[.int .i64 5, .int .i64 most, .int .i64 each] 44 (0, 0)) ∧ w4.heap[b4]? = some (.cells #[.pointer none, .string ⟨#[]⟩, .int .i64 0, .int .i64 0] 42 (0, 0)) ∧ w.grownBy w4 (some g) := by
    obtain ⟨h1, h2, h3⟩ := HK.out
    have hgw := HBW.out.2.2.2.2
    exact ⟨blk_grown h1 hg4 (by intro h; cases h; omega), blk_grown h2 hg4 (by intro h; cases h; omega), blk_grown h3 hg4 (by intro h; cases h; omega), grown_after (grownBy_none HBW.out.2.2.1) hg4⟩
  clear hg4 x0 x1 x2 x3 x4 x5 x6
  have x1 := (blk_cell kA2 1).trans rfl
  have x2 := (blk_cell kA2 2).trans rfl
  have x3 := (blk_cell kA2 3).trans rfl
  have x5 := (blk_cell kA3 1).trans rfl
  go_wp2_with fail
  refine (HR.out _).mono ?_
  rintro en w5 ⟨rfl, hb5⟩
  replace kA2 := blk_below kA2 hb5
  replace kA4 := blk_below kA4 hb5
  replace hI4 := hI4.keep hb5
  replace hB4 := hB4.trans (hb5.mono hB4.size)
  replace hbT := grown_then hbT hb5
  obtain ⟨wT, hwT⟩ : ∃ wT, ((w5.setCell ⟨b2, 1, none⟩ (.string (strOfNums l))).setCell ⟨b2, 2, none⟩ (.int .i64 aa)).setCell ⟨b2, 3, none⟩ (.int .i64 ee) = wT := ⟨_, rfl⟩
  obtain ⟨kT2, kT4, hI4', hB4', hbT'⟩ : wT.heap[b2]? = some (.cells #[.pointer (some ⟨g, 0, none⟩), .string (strOfNums l), .int .i64 aa, .int .i64 ee] 42 (0, 0)) ∧ wT.heap[b4]? = some (.cells #[.pointer none, .string ⟨#[]⟩, .int .i64 0, .int .i64 0] 42 (0, 0)) ∧ IsCu w0 wT g l aa ee ∧ Below w0.heap.size w0 wT ∧ w.grownBy wT (some g) := by
    have hgw := HBW.out.2.2.2.2
    have hs0 := HBW.out.2.1.size
    rw [← hwT]
    have hp : Below b2 w5 (((w5.setCell ⟨b2, 1, none⟩ (.string (strOfNums l))).setCell ⟨b2, 2, none⟩ (.int .i64 aa)).setCell ⟨b2, 3, none⟩ (.int .i64 ee)) := below_put4 (Below.refl _ _) (Nat.le_refl _) _ _ _
    refine ⟨blk_put4 kA2 _ _ _, (put4_keep (by omega) _ _ _).trans kA4, ?_, hB4.trans (hp.mono (by omega)), ?_⟩
    · exact hI4.grown (grown_put (grown_put (grown_put (World.grownBy.refl _ _) _) _) _ : w5.grownBy _ (some b2)) (by simp; omega)
    · exact ⟨hp.os.trans hbT.os, hp.tape.trans hbT.tape, hp.output.trans hbT.output, Nat.le_trans hbT.size hp.size, fun k hk hne => (hp.block k (by omega)).trans (hbT.block k hk hne)⟩
  have y1 := (blk_cell kA2 1).trans rfl
  have y2 := (blk_cell kA2 2).trans rfl
  have y3 := (blk_cell kA2 3).trans rfl
  have z1 := blk_frozen kA2 1
  have z2 := blk_frozen kA2 2
  have z3 := blk_frozen kA2 3
  replace hI4 := hI4'
  replace hB4 := hB4'
  replace hbT := hbT'
  clear hI4' hB4' hbT' hb5 kA2 kA3 kA4 x1 x2 x3 x5
  go_wp2_with fail
  have hne2 : b2 ≠ b4 := by omega
  have hneg : g ≠ b4 := by have := HBW.out.2.2.2.2; omega
  have hsz4 : w.heap.size ≤ wT.heap.size := hbT.size
  have HU := Lib.hid Try.underlying42
  have hb24 : w.heap.size ≤ b4 := by omega
  clear hb2 hb3 hb4
  have HW4 := Lib.hid (And.intro hB4 hbT)
  clear hB4 hbT HK HR HC y1 y2 y3 z1 z2 z3 hwT hw1
  refine region_one (n := 36) (base := w.heap.size) (w0 := wT) (b := b4) (jw := 34) (byList [isV (.agg #[.pointer (some ⟨g, 0, none⟩), .string (strOfNums l), .int .i64 aa, .int .i64 ee]), isV (.bool true), isV (.bool true), isV (.pointer (some ⟨b2, 0, none⟩)), isV (.pointer (some ⟨g, 0, none⟩)), isV (.int .i64 ee), isV (.pointer (some ⟨b2, 1, none⟩)), isV (.pointer (some ⟨b2, 3, none⟩)), isV (.int .i64 ee), isV (.bool true), isV (.bool true), isV (.bool true), isV (.pointer (some ⟨b2, 0, none⟩)), isV (.pointer (some ⟨g, 0, none⟩)), isV (.int .i64 aa), isV (.pointer (some ⟨b2, 1, none⟩)), isV (.pointer (some ⟨b2, 2, none⟩)), isV (.int .i64 aa), isV (.bool true), isV (.bool true), isV (.bool true), isV (.pointer (some ⟨b2, 0, none⟩)), isV (.pointer (some ⟨g, 0, none⟩)), isV (.int .i64 ((l.length : Int) - aa)), isV (.pointer (some ⟨b2, 1, none⟩)), isV (.pointer (some ⟨b2, 1, none⟩)), isV (.string (strOfNums l)), isV (.int .i64 (l.length : Int)), isV (.pointer (some ⟨b2, 1, none⟩)), isV (.pointer (some ⟨b2, 2, none⟩)), isV (.int .i64 aa), isV (.int .i64 ((l.length : Int) - aa)), isV (.bool true), isV (.bool true), (fun _ _ => True), isV (.bool true)]) (fun W => W.heap[b2]? = some (.cells #[.pointer (some ⟨g, 0, none⟩), .string (strOfNums l), .int .i64 aa, .int .i64 ee] 42 (0, 0)) ∧ IsCu w0 W g l aa ee) (fun W => W.heap[b4]? = some (.cells #[.pointer none, .string ⟨#[]⟩, .int .i64 0, .int .i64 0] 42 (0, 0))) (fun W => W.heap[b4]? = some (.cells #[.pointer (some ⟨g, 0, none⟩), .string (strOfNums l), .int .i64 aa, .int .i64 ee] 42 (0, 0))) (by kernel_rfl) rfl (by omega) (byList_any ?_) (by kernel_rfl) (by kernel_rfl) (by omega) (fun W W' row hrow h hg => ⟨blk_grown h.1 hg (by rcases hrow with rfl | rfl <;> simp <;> omega), h.2.grown hg (by rcases hrow with rfl | rfl <;> simp <;> omega)⟩) (fun W W' h hg => blk_below h (below_none hg)) (fun W W' h hg => blk_below h (below_none hg)) (Below.refl _ _) hsz4 ⟨kT2, hI4⟩ kT4 (show AllLt 36 _ from ?_) ?_
  · intro p hp
    simp only [List.mem_cons, List.not_mem_nil, or_false] at hp
    rcases hp with rfl | rfl | rfl | rfl | rfl | rfl | rfl | rfl | rfl | rfl | rfl | rfl | rfl | rfl | rfl | rfl | rfl | rfl | rfl | rfl | rfl | rfl | rfl | rfl | rfl | rfl | rfl | rfl | rfl | rfl | rfl | rfl | rfl | rfl | rfl | rfl <;> exact fun _ _ _ h => h
  · refine allLt_succ (allLt_succ (allLt_succ (allLt_succ (allLt_succ (allLt_succ (allLt_succ (allLt_succ (allLt_succ (allLt_succ (allLt_succ (allLt_succ (allLt_succ (allLt_succ (allLt_succ (allLt_succ (allLt_succ (allLt_succ (allLt_succ (allLt_succ (allLt_succ (allLt_succ (allLt_succ (allLt_succ (allLt_succ (allLt_succ (allLt_succ (allLt_succ (allLt_succ (allLt_succ (allLt_succ (allLt_succ (allLt_succ (allLt_succ (allLt_succ (allLt_succ (allLt_zero _) ?_) ?_) ?_) ?_) ?_) ?_) ?_) ?_) ?_) ?_) ?_) ?_) ?_) ?_) ?_) ?_) ?_) ?_) ?_) ?_) ?_) ?_) ?_) ?_) ?_) ?_) ?_) ?_) ?_) ?_) ?_) ?_) ?_) ?_) ?_) ?_
    · refine StepOkO.run (o := ?o0) ?ho0 ?hg0 (by omega) ?h0
      case ho0 => simp only [List.getElem?_toArray, List.getElem?_cons_succ, List.getElem?_cons_zero]; rfl
      case hg0 => rfl
      case h0 =>
      intro a W hS hB hd hR
      have e2 : a.tmps[2]? = some (.pointer (some ⟨b2, 0, none⟩)) := hS.get rfl rfl
      refine wp_value (c := .agg #[.pointer (some ⟨g, 0, none⟩), .string (strOfNums l), .int .i64 aa, .int .i64 ee]) ?_ rfl
      have c0 : W.cell? ⟨b2, 0, none⟩ = some (.pointer (some ⟨g, 0, none⟩)) := (blk_cell hR.1 0).trans rfl
      have c1 : W.cell? ⟨b2, 1, none⟩ = some (.string (strOfNums l)) := (blk_cell hR.1 1).trans rfl
      have c2 : W.cell? ⟨b2, 2, none⟩ = some (.int .i64 aa) := (blk_cell hR.1 2).trans rfl
      have c3 : W.cell? ⟨b2, 3, none⟩ = some (.int .i64 ee) := (blk_cell hR.1 3).trans rfl
      go_simp
    · refine StepOkO.run (o := ?o1) ?ho1 ?hg1 (by omega) ?h1
      case ho1 => simp only [List.getElem?_toArray, List.getElem?_cons_succ, List.getElem?_cons_zero]; rfl
      case hg1 => rfl
      case h1 =>
      intro a W hS hB hd hR
      have e6 : a.tmps[6]? = some (.bool true) := hS.get rfl rfl
      refine wp_value (c := .bool true) ?_ rfl
      go_simp
    · refine StepOkO.run (o := ?o2) ?ho2 ?hg2 (by omega) ?h2
      case ho2 => simp only [List.getElem?_toArray, List.getElem?_cons_succ, List.getElem?_cons_zero]; rfl
      case hg2 => rfl
      case h2 =>
      intro a W hS hB hd hR
      have e124 : a.tmps[124]? = some (.bool true) := (hd 1 rfl).bool rfl rfl rfl
      refine wp_value (c := .bool true) ?_ rfl
      go_simp
    · refine StepOkO.on (o := ?o3) (g := 2) (u := true) ?ho3 ?hg3 (by omega) rfl rfl ?hw3 rfl ?h3
      case ho3 => simp only [List.getElem?_toArray, List.getElem?_cons_succ, List.getElem?_cons_zero]; rfl
      case hg3 => rfl
      case hw3 => rfl
      case h3 =>
      intro a W hS hB hd hR
      have e2 : a.tmps[2]? = some (.pointer (some ⟨b2, 0, none⟩)) := hS.get rfl rfl
      refine wp_value (c := .pointer (some ⟨b2, 0, none⟩)) ?_ rfl
      go_simp
    · refine StepOkO.on (o := ?o4) (g := 2) (u := true) ?ho4 ?hg4 (by omega) rfl rfl ?hw4 rfl ?h4
      case ho4 => simp only [List.getElem?_toArray, List.getElem?_cons_succ, List.getElem?_cons_zero]; rfl
      case hg4 => rfl
      case hw4 => rfl
      case h4 =>
      intro a W hS hB hd hR
      have e126 : a.tmps[126]? = some (.pointer (some ⟨b2, 0, none⟩)) := (hd 3 rfl).bool rfl rfl rfl
      refine wp_value (c := .pointer (some ⟨g, 0, none⟩)) ?_ rfl
      have c0 : W.cell? ⟨b2, 0, none⟩ = some (.pointer (some ⟨g, 0, none⟩)) := (blk_cell hR.1 0).trans rfl
      have c1 : W.cell? ⟨b2, 1, none⟩ = some (.string (strOfNums l)) := (blk_cell hR.1 1).trans rfl
      have c2 : W.cell? ⟨b2, 2, none⟩ = some (.int .i64 aa) := (blk_cell hR.1 2).trans rfl
      have c3 : W.cell? ⟨b2, 3, none⟩ = some (.int .i64 ee) := (blk_cell hR.1 3).trans rfl
      go_simp
    · refine StepOkO.on (o := ?o5) (g := 2) (u := true) ?ho5 ?hg5 (by omega) rfl rfl ?hw5 rfl ?h5
      case ho5 => simp only [List.getElem?_toArray, List.getElem?_cons_succ, List.getElem?_cons_zero]; rfl
      case hg5 => rfl
      case hw5 => rfl
      case h5 =>
      intro a W hS hB hd hR
      have e127 : a.tmps[127]? = some (.pointer (some ⟨g, 0, none⟩)) := (hd 4 rfl).bool rfl rfl rfl
      refine wp_called Try.func20 (by kernel_rfl) rfl #[.pointer (some ⟨g, 0, none⟩)] rfl (by simp [Act.eval, *]) ?_
      refine (err_any w0 W g l aa ee hR.2).mono ?_
      rintro e9 w9 ⟨rfl, rfl⟩
      exact ⟨_, rfl, rfl, Below.refl _ _⟩
    · refine StepOkO.on (o := ?o6) (g := 2) (u := true) ?ho6 ?hg6 (by omega) rfl rfl ?hw6 rfl ?h6
      case ho6 => simp only [List.getElem?_toArray, List.getElem?_cons_succ, List.getElem?_cons_zero]; rfl
      case hg6 => rfl
      case hw6 => rfl
      case h6 =>
      intro a W hS hB hd hR
      have e2 : a.tmps[2]? = some (.pointer (some ⟨b2, 0, none⟩)) := hS.get rfl rfl
      refine wp_value (c := .pointer (some ⟨b2, 1, none⟩)) ?_ rfl
      go_simp
    · refine StepOkO.on (o := ?o7) (g := 2) (u := true) ?ho7 ?hg7 (by omega) rfl rfl ?hw7 rfl ?h7
      case ho7 => simp only [List.getElem?_toArray, List.getElem?_cons_succ, List.getElem?_cons_zero]; rfl
      case hg7 => rfl
      case hw7 => rfl
      case h7 =>
      intro a W hS hB hd hR
      have e129 : a.tmps[129]? = some (.pointer (some ⟨b2, 1, none⟩)) := (hd 6 rfl).bool rfl rfl rfl
      refine wp_value (c := .pointer (some ⟨b2, 3, none⟩)) ?_ rfl
      go_simp
    · refine StepOkO.on (o := ?o8) (g := 2) (u := true) ?ho8 ?hg8 (by omega) rfl rfl ?hw8 rfl ?h8
      case ho8 => simp only [List.getElem?_toArray, List.getElem?_cons_succ, List.getElem?_cons_zero]; rfl
      case hg8 => rfl
      case hw8 => rfl
      case h8 =>
      intro a W hS hB hd hR
      have e130 : a.tmps[130]? = some (.pointer (some ⟨b2, 3, none⟩)) := (hd 7 rfl).bool rfl rfl rfl
      refine wp_value (c := .int .i64 ee) ?_ rfl
      have c0 : W.cell? ⟨b2, 0, none⟩ = some (.pointer (some ⟨g, 0, none⟩)) := (blk_cell hR.1 0).trans rfl
      have c1 : W.cell? ⟨b2, 1, none⟩ = some (.string (strOfNums l)) := (blk_cell hR.1 1).trans rfl
      have c2 : W.cell? ⟨b2, 2, none⟩ = some (.int .i64 aa) := (blk_cell hR.1 2).trans rfl
      have c3 : W.cell? ⟨b2, 3, none⟩ = some (.int .i64 ee) := (blk_cell hR.1 3).trans rfl
      go_simp
    · refine StepOkO.on (o := ?o9) (g := 2) (u := true) ?ho9 ?hg9 (by omega) rfl rfl ?hw9 rfl ?h9
      case ho9 => simp only [List.getElem?_toArray, List.getElem?_cons_succ, List.getElem?_cons_zero]; rfl
      case hg9 => rfl
      case hw9 => rfl
      case h9 =>
      intro a W hS hB hd hR
      have e128 : a.tmps[128]? = some (.int .i64 ee) := (hd 5 rfl).bool rfl rfl rfl
      have e131 : a.tmps[131]? = some (.int .i64 ee) := (hd 8 rfl).bool rfl rfl rfl
      refine wp_value (c := .bool true) ?_ rfl
      go_simp
    · refine StepOkO.run (o := ?o10) ?ho10 ?hg10 (by omega) ?h10
      case ho10 => simp only [List.getElem?_toArray, List.getElem?_cons_succ, List.getElem?_cons_zero]; rfl
      case hg10 => rfl
      case h10 =>
      intro a W hS hB hd hR
      have e125 : a.tmps[125]? = some (.bool true) := (hd 2 rfl).bool rfl rfl rfl
      have e132 : a.tmps[132]? = some (.bool true) := (hd 9 rfl).bool rfl rfl rfl
      refine wp_value (c := .bool true) ?_ rfl
      go_simp
    · refine StepOkO.run (o := ?o11) ?ho11 ?hg11 (by omega) ?h11
      case ho11 => simp only [List.getElem?_toArray, List.getElem?_cons_succ, List.getElem?_cons_zero]; rfl
      case hg11 => rfl
      case h11 =>
      intro a W hS hB hd hR
      have e133 : a.tmps[133]? = some (.bool true) := (hd 10 rfl).bool rfl rfl rfl
      refine wp_value (c := .bool true) ?_ rfl
      go_simp
    · refine StepOkO.on (o := ?o12) (g := 11) (u := true) ?ho12 ?hg12 (by omega) rfl rfl ?hw12 rfl ?h12
      case ho12 => simp only [List.getElem?_toArray, List.getElem?_cons_succ, List.getElem?_cons_zero]; rfl
      case hg12 => rfl
      case hw12 => rfl
      case h12 =>
      intro a W hS hB hd hR
      have e2 : a.tmps[2]? = some (.pointer (some ⟨b2, 0, none⟩)) := hS.get rfl rfl
      refine wp_value (c := .pointer (some ⟨b2, 0, none⟩)) ?_ rfl
      go_simp
    · refine StepOkO.on (o := ?o13) (g := 11) (u := true) ?ho13 ?hg13 (by omega) rfl rfl ?hw13 rfl ?h13
      case ho13 => simp only [List.getElem?_toArray, List.getElem?_cons_succ, List.getElem?_cons_zero]; rfl
      case hg13 => rfl
      case hw13 => rfl
      case h13 =>
      intro a W hS hB hd hR
      have e135 : a.tmps[135]? = some (.pointer (some ⟨b2, 0, none⟩)) := (hd 12 rfl).bool rfl rfl rfl
      refine wp_value (c := .pointer (some ⟨g, 0, none⟩)) ?_ rfl
      have c0 : W.cell? ⟨b2, 0, none⟩ = some (.pointer (some ⟨g, 0, none⟩)) := (blk_cell hR.1 0).trans rfl
      have c1 : W.cell? ⟨b2, 1, none⟩ = some (.string (strOfNums l)) := (blk_cell hR.1 1).trans rfl
      have c2 : W.cell? ⟨b2, 2, none⟩ = some (.int .i64 aa) := (blk_cell hR.1 2).trans rfl
      have c3 : W.cell? ⟨b2, 3, none⟩ = some (.int .i64 ee) := (blk_cell hR.1 3).trans rfl
      go_simp
    · refine StepOkO.on (o := ?o14) (g := 11) (u := true) ?ho14 ?hg14 (by omega) rfl rfl ?hw14 rfl ?h14
      case ho14 => simp only [List.getElem?_toArray, List.getElem?_cons_succ, List.getElem?_cons_zero]; rfl
      case hg14 => rfl
      case hw14 => rfl
      case h14 =>
      intro a W hS hB hd hR
      have e136 : a.tmps[136]? = some (.pointer (some ⟨g, 0, none⟩)) := (hd 13 rfl).bool rfl rfl rfl
      refine wp_called Try.func26 (by kernel_rfl) rfl #[.pointer (some ⟨g, 0, none⟩)] rfl (by simp [Act.eval, *]) ?_
      refine (at_any w0 W g l aa ee hR.2).mono ?_
      rintro e9 w9 ⟨rfl, rfl⟩
      exact ⟨_, rfl, rfl, Below.refl _ _⟩
    · refine StepOkO.on (o := ?o15) (g := 11) (u := true) ?ho15 ?hg15 (by omega) rfl rfl ?hw15 rfl ?h15
      case ho15 => simp only [List.getElem?_toArray, List.getElem?_cons_succ, List.getElem?_cons_zero]; rfl
      case hg15 => rfl
      case hw15 => rfl
      case h15 =>
      intro a W hS hB hd hR
      have e2 : a.tmps[2]? = some (.pointer (some ⟨b2, 0, none⟩)) := hS.get rfl rfl
      refine wp_value (c := .pointer (some ⟨b2, 1, none⟩)) ?_ rfl
      go_simp
    · refine StepOkO.on (o := ?o16) (g := 11) (u := true) ?ho16 ?hg16 (by omega) rfl rfl ?hw16 rfl ?h16
      case ho16 => simp only [List.getElem?_toArray, List.getElem?_cons_succ, List.getElem?_cons_zero]; rfl
      case hg16 => rfl
      case hw16 => rfl
      case h16 =>
      intro a W hS hB hd hR
      have e138 : a.tmps[138]? = some (.pointer (some ⟨b2, 1, none⟩)) := (hd 15 rfl).bool rfl rfl rfl
      refine wp_value (c := .pointer (some ⟨b2, 2, none⟩)) ?_ rfl
      go_simp
    · refine StepOkO.on (o := ?o17) (g := 11) (u := true) ?ho17 ?hg17 (by omega) rfl rfl ?hw17 rfl ?h17
      case ho17 => simp only [List.getElem?_toArray, List.getElem?_cons_succ, List.getElem?_cons_zero]; rfl
      case hg17 => rfl
      case hw17 => rfl
      case h17 =>
      intro a W hS hB hd hR
      have e139 : a.tmps[139]? = some (.pointer (some ⟨b2, 2, none⟩)) := (hd 16 rfl).bool rfl rfl rfl
      refine wp_value (c := .int .i64 aa) ?_ rfl
      have c0 : W.cell? ⟨b2, 0, none⟩ = some (.pointer (some ⟨g, 0, none⟩)) := (blk_cell hR.1 0).trans rfl
      have c1 : W.cell? ⟨b2, 1, none⟩ = some (.string (strOfNums l)) := (blk_cell hR.1 1).trans rfl
      have c2 : W.cell? ⟨b2, 2, none⟩ = some (.int .i64 aa) := (blk_cell hR.1 2).trans rfl
      have c3 : W.cell? ⟨b2, 3, none⟩ = some (.int .i64 ee) := (blk_cell hR.1 3).trans rfl
      go_simp
    · refine StepOkO.on (o := ?o18) (g := 11) (u := true) ?ho18 ?hg18 (by omega) rfl rfl ?hw18 rfl ?h18
      case ho18 => simp only [List.getElem?_toArray, List.getElem?_cons_succ, List.getElem?_cons_zero]; rfl
      case hg18 => rfl
      case hw18 => rfl
      case h18 =>
      intro a W hS hB hd hR
      have e137 : a.tmps[137]? = some (.int .i64 aa) := (hd 14 rfl).bool rfl rfl rfl
      have e140 : a.tmps[140]? = some (.int .i64 aa) := (hd 17 rfl).bool rfl rfl rfl
      refine wp_value (c := .bool true) ?_ rfl
      go_simp
    · refine StepOkO.run (o := ?o19) ?ho19 ?hg19 (by omega) ?h19
      case ho19 => simp only [List.getElem?_toArray, List.getElem?_cons_succ, List.getElem?_cons_zero]; rfl
      case hg19 => rfl
      case h19 =>
      intro a W hS hB hd hR
      have e134 : a.tmps[134]? = some (.bool true) := (hd 11 rfl).bool rfl rfl rfl
      have e141 : a.tmps[141]? = some (.bool true) := (hd 18 rfl).bool rfl rfl rfl
      refine wp_value (c := .bool true) ?_ rfl
      go_simp
    · refine StepOkO.run (o := ?o20) ?ho20 ?hg20 (by omega) ?h20
      case ho20 => simp only [List.getElem?_toArray, List.getElem?_cons_succ, List.getElem?_cons_zero]; rfl
      case hg20 => rfl
      case h20 =>
      intro a W hS hB hd hR
      have e142 : a.tmps[142]? = some (.bool true) := (hd 19 rfl).bool rfl rfl rfl
      refine wp_value (c := .bool true) ?_ rfl
      go_simp
    · refine StepOkO.on (o := ?o21) (g := 20) (u := true) ?ho21 ?hg21 (by omega) rfl rfl ?hw21 rfl ?h21
      case ho21 => simp only [List.getElem?_toArray, List.getElem?_cons_succ, List.getElem?_cons_zero]; rfl
      case hg21 => rfl
      case hw21 => rfl
      case h21 =>
      intro a W hS hB hd hR
      have e2 : a.tmps[2]? = some (.pointer (some ⟨b2, 0, none⟩)) := hS.get rfl rfl
      refine wp_value (c := .pointer (some ⟨b2, 0, none⟩)) ?_ rfl
      go_simp
    · refine StepOkO.on (o := ?o22) (g := 20) (u := true) ?ho22 ?hg22 (by omega) rfl rfl ?hw22 rfl ?h22
      case ho22 => simp only [List.getElem?_toArray, List.getElem?_cons_succ, List.getElem?_cons_zero]; rfl
      case hg22 => rfl
      case hw22 => rfl
      case h22 =>
      intro a W hS hB hd hR
      have e144 : a.tmps[144]? = some (.pointer (some ⟨b2, 0, none⟩)) := (hd 21 rfl).bool rfl rfl rfl
      refine wp_value (c := .pointer (some ⟨g, 0, none⟩)) ?_ rfl
      have c0 : W.cell? ⟨b2, 0, none⟩ = some (.pointer (some ⟨g, 0, none⟩)) := (blk_cell hR.1 0).trans rfl
      have c1 : W.cell? ⟨b2, 1, none⟩ = some (.string (strOfNums l)) := (blk_cell hR.1 1).trans rfl
      have c2 : W.cell? ⟨b2, 2, none⟩ = some (.int .i64 aa) := (blk_cell hR.1 2).trans rfl
      have c3 : W.cell? ⟨b2, 3, none⟩ = some (.int .i64 ee) := (blk_cell hR.1 3).trans rfl
      go_simp
    · refine StepOkO.on (o := ?o23) (g := 20) (u := true) ?ho23 ?hg23 (by omega) rfl rfl ?hw23 rfl ?h23
      case ho23 => simp only [List.getElem?_toArray, List.getElem?_cons_succ, List.getElem?_cons_zero]; rfl
      case hg23 => rfl
      case hw23 => rfl
      case h23 =>
      intro a W hS hB hd hR
      have e145 : a.tmps[145]? = some (.pointer (some ⟨g, 0, none⟩)) := (hd 22 rfl).bool rfl rfl rfl
      refine wp_called Try.func21 (by kernel_rfl) rfl #[.pointer (some ⟨g, 0, none⟩)] rfl (by simp [Act.eval, *]) ?_
      refine (left_any w0 W g l aa ee hR.2 hl ha2).mono ?_
      rintro e9 w9 ⟨rfl, hb9⟩
      exact ⟨_, rfl, rfl, hb9⟩
    · refine StepOkO.on (o := ?o24) (g := 20) (u := true) ?ho24 ?hg24 (by omega) rfl rfl ?hw24 rfl ?h24
      case ho24 => simp only [List.getElem?_toArray, List.getElem?_cons_succ, List.getElem?_cons_zero]; rfl
      case hg24 => rfl
      case hw24 => rfl
      case h24 =>
      intro a W hS hB hd hR
      have e2 : a.tmps[2]? = some (.pointer (some ⟨b2, 0, none⟩)) := hS.get rfl rfl
      refine wp_value (c := .pointer (some ⟨b2, 1, none⟩)) ?_ rfl
      go_simp
    · refine StepOkO.on (o := ?o25) (g := 20) (u := true) ?ho25 ?hg25 (by omega) rfl rfl ?hw25 rfl ?h25
      case ho25 => simp only [List.getElem?_toArray, List.getElem?_cons_succ, List.getElem?_cons_zero]; rfl
      case hg25 => rfl
      case hw25 => rfl
      case h25 =>
      intro a W hS hB hd hR
      have e147 : a.tmps[147]? = some (.pointer (some ⟨b2, 1, none⟩)) := (hd 24 rfl).bool rfl rfl rfl
      refine wp_value (c := .pointer (some ⟨b2, 1, none⟩)) ?_ rfl
      go_simp
    · refine StepOkO.on (o := ?o26) (g := 20) (u := true) ?ho26 ?hg26 (by omega) rfl rfl ?hw26 rfl ?h26
      case ho26 => simp only [List.getElem?_toArray, List.getElem?_cons_succ, List.getElem?_cons_zero]; rfl
      case hg26 => rfl
      case hw26 => rfl
      case h26 =>
      intro a W hS hB hd hR
      have e148 : a.tmps[148]? = some (.pointer (some ⟨b2, 1, none⟩)) := (hd 25 rfl).bool rfl rfl rfl
      refine wp_value (c := .string (strOfNums l)) ?_ rfl
      have c0 : W.cell? ⟨b2, 0, none⟩ = some (.pointer (some ⟨g, 0, none⟩)) := (blk_cell hR.1 0).trans rfl
      have c1 : W.cell? ⟨b2, 1, none⟩ = some (.string (strOfNums l)) := (blk_cell hR.1 1).trans rfl
      have c2 : W.cell? ⟨b2, 2, none⟩ = some (.int .i64 aa) := (blk_cell hR.1 2).trans rfl
      have c3 : W.cell? ⟨b2, 3, none⟩ = some (.int .i64 ee) := (blk_cell hR.1 3).trans rfl
      go_simp
    · refine StepOkO.on (o := ?o27) (g := 20) (u := true) ?ho27 ?hg27 (by omega) rfl rfl ?hw27 rfl ?h27
      case ho27 => simp only [List.getElem?_toArray, List.getElem?_cons_succ, List.getElem?_cons_zero]; rfl
      case hg27 => rfl
      case hw27 => rfl
      case h27 =>
      intro a W hS hB hd hR
      have e149 : a.tmps[149]? = some (.string (strOfNums l)) := (hd 26 rfl).bool rfl rfl rfl
      refine wp_value (c := .int .i64 (l.length : Int)) ?_ rfl
      have hs : (strOfNums l).size = l.length := strOfNums_size l
      go_simp
    · refine StepOkO.on (o := ?o28) (g := 20) (u := true) ?ho28 ?hg28 (by omega) rfl rfl ?hw28 rfl ?h28
      case ho28 => simp only [List.getElem?_toArray, List.getElem?_cons_succ, List.getElem?_cons_zero]; rfl
      case hg28 => rfl
      case hw28 => rfl
      case h28 =>
      intro a W hS hB hd hR
      have e2 : a.tmps[2]? = some (.pointer (some ⟨b2, 0, none⟩)) := hS.get rfl rfl
      refine wp_value (c := .pointer (some ⟨b2, 1, none⟩)) ?_ rfl
      go_simp
    · refine StepOkO.on (o := ?o29) (g := 20) (u := true) ?ho29 ?hg29 (by omega) rfl rfl ?hw29 rfl ?h29
      case ho29 => simp only [List.getElem?_toArray, List.getElem?_cons_succ, List.getElem?_cons_zero]; rfl
      case hg29 => rfl
      case hw29 => rfl
      case h29 =>
      intro a W hS hB hd hR
      have e151 : a.tmps[151]? = some (.pointer (some ⟨b2, 1, none⟩)) := (hd 28 rfl).bool rfl rfl rfl
      refine wp_value (c := .pointer (some ⟨b2, 2, none⟩)) ?_ rfl
      go_simp
    · refine StepOkO.on (o := ?o30) (g := 20) (u := true) ?ho30 ?hg30 (by omega) rfl rfl ?hw30 rfl ?h30
      case ho30 => simp only [List.getElem?_toArray, List.getElem?_cons_succ, List.getElem?_cons_zero]; rfl
      case hg30 => rfl
      case hw30 => rfl
      case h30 =>
      intro a W hS hB hd hR
      have e152 : a.tmps[152]? = some (.pointer (some ⟨b2, 2, none⟩)) := (hd 29 rfl).bool rfl rfl rfl
      refine wp_value (c := .int .i64 aa) ?_ rfl
      have c0 : W.cell? ⟨b2, 0, none⟩ = some (.pointer (some ⟨g, 0, none⟩)) := (blk_cell hR.1 0).trans rfl
      have c1 : W.cell? ⟨b2, 1, none⟩ = some (.string (strOfNums l)) := (blk_cell hR.1 1).trans rfl
      have c2 : W.cell? ⟨b2, 2, none⟩ = some (.int .i64 aa) := (blk_cell hR.1 2).trans rfl
      have c3 : W.cell? ⟨b2, 3, none⟩ = some (.int .i64 ee) := (blk_cell hR.1 3).trans rfl
      go_simp
    · refine StepOkO.on (o := ?o31) (g := 20) (u := true) ?ho31 ?hg31 (by omega) rfl rfl ?hw31 rfl ?h31
      case ho31 => simp only [List.getElem?_toArray, List.getElem?_cons_succ, List.getElem?_cons_zero]; rfl
      case hg31 => rfl
      case hw31 => rfl
      case h31 =>
      intro a W hS hB hd hR
      have e150 : a.tmps[150]? = some (.int .i64 (l.length : Int)) := (hd 27 rfl).bool rfl rfl rfl
      have e153 : a.tmps[153]? = some (.int .i64 aa) := (hd 30 rfl).bool rfl rfl rfl
      refine wp_value (c := .int .i64 ((l.length : Int) - aa)) ?_ rfl
      have hw : IntKind.i64.wrap ((l.length : Int) - aa) = (l.length : Int) - aa := by rw [IntKind.wrap_i64]; omega
      go_simp
    · refine StepOkO.on (o := ?o32) (g := 20) (u := true) ?ho32 ?hg32 (by omega) rfl rfl ?hw32 rfl ?h32
      case ho32 => simp only [List.getElem?_toArray, List.getElem?_cons_succ, List.getElem?_cons_zero]; rfl
      case hg32 => rfl
      case hw32 => rfl
      case h32 =>
      intro a W hS hB hd hR
      have e146 : a.tmps[146]? = some (.int .i64 ((l.length : Int) - aa)) := (hd 23 rfl).bool rfl rfl rfl
      have e154 : a.tmps[154]? = some (.int .i64 ((l.length : Int) - aa)) := (hd 31 rfl).bool rfl rfl rfl
      refine wp_value (c := .bool true) ?_ rfl
      go_simp
    · refine StepOkO.run (o := ?o33) ?ho33 ?hg33 (by omega) ?h33
      case ho33 => simp only [List.getElem?_toArray, List.getElem?_cons_succ, List.getElem?_cons_zero]; rfl
      case hg33 => rfl
      case h33 =>
      intro a W hS hB hd hR
      have e143 : a.tmps[143]? = some (.bool true) := (hd 20 rfl).bool rfl rfl rfl
      have e155 : a.tmps[155]? = some (.bool true) := (hd 32 rfl).bool rfl rfl rfl
      refine wp_value (c := .bool true) ?_ rfl
      go_simp
    · refine StepOkO.write (o := ?o34) ?ho34 ?hg34 ?hw34 rfl ?h34
      case ho34 => simp only [List.getElem?_toArray, List.getElem?_cons_succ, List.getElem?_cons_zero]; rfl
      case hg34 => rfl
      case hw34 => rfl
      case h34 =>
      intro a W hS hB hd hR hP
      have e4 : a.tmps[4]? = some (.pointer (some ⟨b4, 0, none⟩)) := hS.get rfl rfl
      have e123 : a.tmps[123]? = some (.agg #[.pointer (some ⟨g, 0, none⟩), .string (strOfNums l), .int .i64 aa, .int .i64 ee]) := (hd 0 rfl).bool rfl rfl rfl
      have c0 : W.cell? ⟨b4, 0, none⟩ = some (.pointer none) := (blk_cell hP 0).trans rfl
      have c1 : W.cell? ⟨b4, 1, none⟩ = some (.string ⟨#[]⟩) := (blk_cell hP 1).trans rfl
      have c2 : W.cell? ⟨b4, 2, none⟩ = some (.int .i64 0) := (blk_cell hP 2).trans rfl
      have c3 : W.cell? ⟨b4, 3, none⟩ = some (.int .i64 0) := (blk_cell hP 3).trans rfl
      have f0 := blk_frozen hP 0
      have f1 := blk_frozen hP 1
      have f2 := blk_frozen hP 2
      have f3 := blk_frozen hP 3
      have q0 := blk_put (cs' := #[.pointer (some ⟨g, 0, none⟩), .string ⟨#[]⟩, .int .i64 0, .int .i64 0]) hP 0 (.pointer (some ⟨g, 0, none⟩)) rfl
      refine ⟨_, ?_, grown_put (grown_put (grown_put (grown_put (World.grownBy.refl _ _) (.pointer (some ⟨g, 0, none⟩))) (.string (strOfNums l))) (.int .i64 aa)) (.int .i64 ee), blk_put4 q0 _ _ _⟩
      go_simp
    · refine StepOkO.run (o := ?o35) ?ho35 ?hg35 (by omega) ?h35
      case ho35 => simp only [List.getElem?_toArray, List.getElem?_cons_succ, List.getElem?_cons_zero]; rfl
      case hg35 => rfl
      case h35 =>
      intro a W hS hB hd hR
      have e156 : a.tmps[156]? = some (.bool true) := (hd 33 rfl).bool rfl rfl rfl
      refine wp_value (c := .bool true) ?_ rfl
      go_simp
  · intro a W hS hB hh hRD hFD
    have e5 : a.tmps[5]? = some (.bool true) := (hh 35 (by omega)).bool rfl rfl rfl
    have HBR := Lib.hid hB
    have hlit := same_lit hS
    clear hh hS hB
    simp only [List.filterMap_cons, List.filterMap_nil, List.foldl_cons, List.foldl_nil, List.setIfInBounds_toArray, List.set_cons_zero, List.set_cons_succ] at hlit
    rw [show a.tmps.getD 5 undef = .bool true by simp [Array.getD_eq_getD_getElem?, e5]] at hlit
    generalize a.tmps.getD 123 undef = z123 at hlit
    generalize a.tmps.getD 124 undef = z124 at hlit
    generalize a.tmps.getD 125 undef = z125 at hlit
    generalize a.tmps.getD 126 undef = z126 at hlit
    generalize a.tmps.getD 127 undef = z127 at hlit
    generalize a.tmps.getD 128 undef = z128 at hlit
    generalize a.tmps.getD 129 undef = z129 at hlit
    generalize a.tmps.getD 130 undef = z130 at hlit
    generalize a.tmps.getD 131 undef = z131 at hlit
    generalize a.tmps.getD 132 undef = z132 at hlit
    generalize a.tmps.getD 133 undef = z133 at hlit
    generalize a.tmps.getD 134 undef = z134 at hlit
    generalize a.tmps.getD 135 undef = z135 at hlit
    generalize a.tmps.getD 136 undef = z136 at hlit
    generalize a.tmps.getD 137 undef = z137 at hlit
    generalize a.tmps.getD 138 undef = z138 at hlit
    generalize a.tmps.getD 139 undef = z139 at hlit
    generalize a.tmps.getD 140 undef = z140 at hlit
    generalize a.tmps.getD 141 undef = z141 at hlit
    generalize a.tmps.getD 142 undef = z142 at hlit
    generalize a.tmps.getD 143 undef = z143 at hlit
    generalize a.tmps.getD 144 undef = z144 at hlit
    generalize a.tmps.getD 145 undef = z145 at hlit
    generalize a.tmps.getD 146 undef = z146 at hlit
    generalize a.tmps.getD 147 undef = z147 at hlit
    generalize a.tmps.getD 148 undef = z148 at hlit
    generalize a.tmps.getD 149 undef = z149 at hlit
    generalize a.tmps.getD 150 undef = z150 at hlit
    generalize a.tmps.getD 151 undef = z151 at hlit
    generalize a.tmps.getD 152 undef = z152 at hlit
    generalize a.tmps.getD 153 undef = z153 at hlit
    generalize a.tmps.getD 154 undef = z154 at hlit
    generalize a.tmps.getD 155 undef = z155 at hlit
    generalize a.tmps.getD 156 undef = z156 at hlit
    clear e5
    subst hlit
    go_wp2_with fail
    refine bodyPost_ret (results_ct rfl _ _ b4 42 #[_, _, _, _] (0, 0) _ rfl hFD HU.out rfl (by kernel_rfl)) rfl ?_
    refine ⟨aa, ee, ha2.1, ha2.2, rfl, hRD.2, ?_, HW4.out.1.trans (HBR.out.mono (Nat.le_trans HBW.out.2.1.size (Nat.le_refl _)))⟩
    obtain ⟨g1, g2, g3, g4, g5⟩ := HW4.out.2
    obtain ⟨r1, r2, r3, r4, r5⟩ := HBR.out
    exact ⟨r1.trans g1, r2.trans g2, r3.trans g3, Nat.le_trans g4 r4, fun k hk hne => (r5 k hk).trans (g5 k hk hne)⟩
set_option maxRecDepth 100000 in
set_option maxHeartbeats 4000000 in
theorem step_6 (w0 w : World) (g : Nat) (l : List Int) (a e kd most each : Int) (hkd : kd ≠ 0 ∧ kd ≠ 1 ∧ kd ≠ 2 ∧ kd ≠ 3 ∧ kd ≠ 4 ∧ kd ≠ 5) (hI : IsCu w0 w g l a e) (hB : Below w0.heap.size w0 w) (hb : ∀ x ∈ l, 0 ≤ x ∧ x < 256) (hl : l.length ≤ 1000000) (ha : 0 ≤ a ∧ a ≤ l.length) (hmost : -9223372036854775808 ≤ most ∧ most ≤ 9223372036854775807) (heach : -9223372036854775808 ≤ each ∧ each ≤ 9223372036854775807) :
    Calls Try.prog 25 #[.agg #[.pointer (some ⟨g, 0, none⟩), .string (strOfNums l), .int .i64 a, .int .i64 e], .agg #[.int .i64 kd, .int .i64 most, .int .i64 each]] w fun en w' => ∃ aa ee : Int, 0 ≤ aa ∧ aa ≤ (l.length : Int) ∧ StepPost w0 w g l aa ee en w' := by
  obtain ⟨aa, haa⟩ : ∃ x, a = x := ⟨_, rfl⟩
  obtain ⟨ee, hee⟩ : ∃ x, e = x := ⟨_, rfl⟩
  have ha2 : 0 ≤ aa ∧ aa ≤ l.length := haa ▸ ha
  obtain ⟨d0, d1, d2, d3, d4, d5⟩ : (kd == 0) = false ∧ (kd == 1) = false ∧ (kd == 2) = false ∧ (kd == 3) = false ∧ (kd == 4) = false ∧ (kd == 5) = false := by obtain ⟨h0, h1, h2, h3, h4, h5⟩ := hkd; exact ⟨by simpa using h0, by simpa using h1, by simpa using h2, by simpa using h3, by simpa using h4, by simpa using h5⟩
  clear hkd
  rw [haa, hee] at hI
  rw [haa, hee]
  clear haa hee ha
  obtain ⟨wT, hwT⟩ : ∃ wT, ((w.alloc (.cells #[.pointer (some ⟨g, 0, none⟩), .string (strOfNums l), .int .i64 aa, .int .i64 ee] 42)).alloc (.cells #[.int .i64 kd, .int .i64 most, .int .i64 each] 44)).alloc (.cells #[.pointer none, .string ⟨#[]⟩, .int .i64 0, .int .i64 0] 42) = wT := ⟨_, rfl⟩
  have hgw : g < w.heap.size := by obtain ⟨_, _, h, _⟩ := hI; exact blk_lt h
  obtain ⟨b2, hb2⟩ : ∃ b, w.heap.size = b := ⟨_, rfl⟩
  obtain ⟨b3, hb3⟩ : ∃ b, b2 + 1 = b := ⟨_, rfl⟩
  obtain ⟨b4, hb4⟩ : ∃ b, b3 + 1 = b := ⟨_, rfl⟩
  obtain ⟨hk2, hk3, hk4, hb01⟩ : wT.heap[b2]? = some (.cells #[.pointer (some ⟨g, 0, none⟩), .string (strOfNums l), .int .i64 aa, .int .i64 ee] 42 (0, 0)) ∧ wT.heap[b3]? = some (.cells #[.int .i64 kd, .int .i64 most, .int .i64 each] 44 (0, 0)) ∧ wT.heap[b4]? = some (.cells #[.pointer none, .string ⟨#[]⟩, .int .i64 0, .int .i64 0] 42 (0, 0)) ∧ Below w.heap.size w wT := by
    rw [← hwT, ← hb4, ← hb3, ← hb2]
    have s1 := blk_new w (.cells #[.pointer (some ⟨g, 0, none⟩), .string (strOfNums l), .int .i64 aa, .int .i64 ee] 42 (0, 0))
    have s2 := blk_new (w.alloc (.cells #[.pointer (some ⟨g, 0, none⟩), .string (strOfNums l), .int .i64 aa, .int .i64 ee] 42 (0, 0))) (.cells #[.int .i64 kd, .int .i64 most, .int .i64 each] 44 (0, 0))
    have s3 := blk_new ((w.alloc (.cells #[.pointer (some ⟨g, 0, none⟩), .string (strOfNums l), .int .i64 aa, .int .i64 ee] 42 (0, 0))).alloc (.cells #[.int .i64 kd, .int .i64 most, .int .i64 each] 44 (0, 0))) (.cells #[.pointer none, .string ⟨#[]⟩, .int .i64 0, .int .i64 0] 42 (0, 0))
    rw [heap_size_alloc] at s2 s3
    rw [heap_size_alloc] at s3
    have al := fun (W : World) (o : Obj) => (Below.refl W.heap.size W).alloc (Nat.le_refl _) o
    exact ⟨blk_below (blk_below s1 (al _ _)) (al _ _), blk_below s2 (al _ _), s3, ((Below.refl _ _).alloc (Nat.le_refl _) _).alloc (by rw [heap_size_alloc]; omega) _ |>.alloc (by rw [heap_size_alloc, heap_size_alloc]; omega) _⟩
  have hs2 : b4 < wT.heap.size := blk_lt hk4
  have HBW := Lib.hid (And.intro hI (And.intro hB (And.intro hb01 (And.intro hs2 hgw))))
  have HK := Lib.hid (And.intro hk2 (And.intro hk3 hk4))
  have x0 := (blk_cell hk2 0).trans rfl
  have x1 := (blk_cell hk2 1).trans rfl
  have x2 := (blk_cell hk2 2).trans rfl
  have x3 := (blk_cell hk2 3).trans rfl
  have x4 := (blk_cell hk3 0).trans rfl
  have x5 := (blk_cell hk3 1).trans rfl
  have x6 := (blk_cell hk3 2).trans rfl
  have kT2 := hk2
  have kT4 := hk4
  have hI4 := hI.keep hb01
  have hB4 := hB.trans (hb01.mono hB.size)
  have hbT : w.grownBy wT (some g) := grown_then (World.grownBy.refl _ _) hb01
  clear hI hB hgw hb01 hs2 hk2 hk3 hk4
  go_enter Try.func25, Try.ntmps25
  go_wp2_with fail
  have hne2 : b2 ≠ b4 := by omega
  have hneg : g ≠ b4 := by have := HBW.out.2.2.2.2; omega
  have hsz4 : w.heap.size ≤ wT.heap.size := hbT.size
  have HU := Lib.hid Try.underlying42
  have hb24 : w.heap.size ≤ b4 := by omega
  clear hb2 hb3 hb4
  have HW4 := Lib.hid (And.intro hB4 hbT)
  clear hB4 hbT HK x0 x1 x2 x3 x4 x5 x6 d0 d1 d2 d3 d4 d5 hwT
  refine region_one (n := 36) (base := w.heap.size) (w0 := wT) (b := b4) (jw := 34) (byList [isV (.agg #[.pointer (some ⟨g, 0, none⟩), .string (strOfNums l), .int .i64 aa, .int .i64 ee]), isV (.bool true), isV (.bool true), isV (.pointer (some ⟨b2, 0, none⟩)), isV (.pointer (some ⟨g, 0, none⟩)), isV (.int .i64 ee), isV (.pointer (some ⟨b2, 1, none⟩)), isV (.pointer (some ⟨b2, 3, none⟩)), isV (.int .i64 ee), isV (.bool true), isV (.bool true), isV (.bool true), isV (.pointer (some ⟨b2, 0, none⟩)), isV (.pointer (some ⟨g, 0, none⟩)), isV (.int .i64 aa), isV (.pointer (some ⟨b2, 1, none⟩)), isV (.pointer (some ⟨b2, 2, none⟩)), isV (.int .i64 aa), isV (.bool true), isV (.bool true), isV (.bool true), isV (.pointer (some ⟨b2, 0, none⟩)), isV (.pointer (some ⟨g, 0, none⟩)), isV (.int .i64 ((l.length : Int) - aa)), isV (.pointer (some ⟨b2, 1, none⟩)), isV (.pointer (some ⟨b2, 1, none⟩)), isV (.string (strOfNums l)), isV (.int .i64 (l.length : Int)), isV (.pointer (some ⟨b2, 1, none⟩)), isV (.pointer (some ⟨b2, 2, none⟩)), isV (.int .i64 aa), isV (.int .i64 ((l.length : Int) - aa)), isV (.bool true), isV (.bool true), (fun _ _ => True), isV (.bool true)]) (fun W => W.heap[b2]? = some (.cells #[.pointer (some ⟨g, 0, none⟩), .string (strOfNums l), .int .i64 aa, .int .i64 ee] 42 (0, 0)) ∧ IsCu w0 W g l aa ee) (fun W => W.heap[b4]? = some (.cells #[.pointer none, .string ⟨#[]⟩, .int .i64 0, .int .i64 0] 42 (0, 0))) (fun W => W.heap[b4]? = some (.cells #[.pointer (some ⟨g, 0, none⟩), .string (strOfNums l), .int .i64 aa, .int .i64 ee] 42 (0, 0))) (by kernel_rfl) rfl (by omega) (byList_any ?_) (by kernel_rfl) (by kernel_rfl) (by omega) (fun W W' row hrow h hg => ⟨blk_grown h.1 hg (by rcases hrow with rfl | rfl <;> simp <;> omega), h.2.grown hg (by rcases hrow with rfl | rfl <;> simp <;> omega)⟩) (fun W W' h hg => blk_below h (below_none hg)) (fun W W' h hg => blk_below h (below_none hg)) (Below.refl _ _) hsz4 ⟨kT2, hI4⟩ kT4 (show AllLt 36 _ from ?_) ?_
  · intro p hp
    simp only [List.mem_cons, List.not_mem_nil, or_false] at hp
    rcases hp with rfl | rfl | rfl | rfl | rfl | rfl | rfl | rfl | rfl | rfl | rfl | rfl | rfl | rfl | rfl | rfl | rfl | rfl | rfl | rfl | rfl | rfl | rfl | rfl | rfl | rfl | rfl | rfl | rfl | rfl | rfl | rfl | rfl | rfl | rfl | rfl <;> exact fun _ _ _ h => h
  · refine allLt_succ (allLt_succ (allLt_succ (allLt_succ (allLt_succ (allLt_succ (allLt_succ (allLt_succ (allLt_succ (allLt_succ (allLt_succ (allLt_succ (allLt_succ (allLt_succ (allLt_succ (allLt_succ (allLt_succ (allLt_succ (allLt_succ (allLt_succ (allLt_succ (allLt_succ (allLt_succ (allLt_succ (allLt_succ (allLt_succ (allLt_succ (allLt_succ (allLt_succ (allLt_succ (allLt_succ (allLt_succ (allLt_succ (allLt_succ (allLt_succ (allLt_succ (allLt_zero _) ?_) ?_) ?_) ?_) ?_) ?_) ?_) ?_) ?_) ?_) ?_) ?_) ?_) ?_) ?_) ?_) ?_) ?_) ?_) ?_) ?_) ?_) ?_) ?_) ?_) ?_) ?_) ?_) ?_) ?_) ?_) ?_) ?_) ?_) ?_) ?_
    · refine StepOkO.run (o := ?o0) ?ho0 ?hg0 (by omega) ?h0
      case ho0 => simp only [List.getElem?_toArray, List.getElem?_cons_succ, List.getElem?_cons_zero]; rfl
      case hg0 => rfl
      case h0 =>
      intro a W hS hB hd hR
      have e2 : a.tmps[2]? = some (.pointer (some ⟨b2, 0, none⟩)) := hS.get rfl rfl
      refine wp_value (c := .agg #[.pointer (some ⟨g, 0, none⟩), .string (strOfNums l), .int .i64 aa, .int .i64 ee]) ?_ rfl
      have c0 : W.cell? ⟨b2, 0, none⟩ = some (.pointer (some ⟨g, 0, none⟩)) := (blk_cell hR.1 0).trans rfl
      have c1 : W.cell? ⟨b2, 1, none⟩ = some (.string (strOfNums l)) := (blk_cell hR.1 1).trans rfl
      have c2 : W.cell? ⟨b2, 2, none⟩ = some (.int .i64 aa) := (blk_cell hR.1 2).trans rfl
      have c3 : W.cell? ⟨b2, 3, none⟩ = some (.int .i64 ee) := (blk_cell hR.1 3).trans rfl
      go_simp
    · refine StepOkO.run (o := ?o1) ?ho1 ?hg1 (by omega) ?h1
      case ho1 => simp only [List.getElem?_toArray, List.getElem?_cons_succ, List.getElem?_cons_zero]; rfl
      case hg1 => rfl
      case h1 =>
      intro a W hS hB hd hR
      have e6 : a.tmps[6]? = some (.bool true) := hS.get rfl rfl
      refine wp_value (c := .bool true) ?_ rfl
      go_simp
    · refine StepOkO.run (o := ?o2) ?ho2 ?hg2 (by omega) ?h2
      case ho2 => simp only [List.getElem?_toArray, List.getElem?_cons_succ, List.getElem?_cons_zero]; rfl
      case hg2 => rfl
      case h2 =>
      intro a W hS hB hd hR
      have e124 : a.tmps[124]? = some (.bool true) := (hd 1 rfl).bool rfl rfl rfl
      refine wp_value (c := .bool true) ?_ rfl
      go_simp
    · refine StepOkO.on (o := ?o3) (g := 2) (u := true) ?ho3 ?hg3 (by omega) rfl rfl ?hw3 rfl ?h3
      case ho3 => simp only [List.getElem?_toArray, List.getElem?_cons_succ, List.getElem?_cons_zero]; rfl
      case hg3 => rfl
      case hw3 => rfl
      case h3 =>
      intro a W hS hB hd hR
      have e2 : a.tmps[2]? = some (.pointer (some ⟨b2, 0, none⟩)) := hS.get rfl rfl
      refine wp_value (c := .pointer (some ⟨b2, 0, none⟩)) ?_ rfl
      go_simp
    · refine StepOkO.on (o := ?o4) (g := 2) (u := true) ?ho4 ?hg4 (by omega) rfl rfl ?hw4 rfl ?h4
      case ho4 => simp only [List.getElem?_toArray, List.getElem?_cons_succ, List.getElem?_cons_zero]; rfl
      case hg4 => rfl
      case hw4 => rfl
      case h4 =>
      intro a W hS hB hd hR
      have e126 : a.tmps[126]? = some (.pointer (some ⟨b2, 0, none⟩)) := (hd 3 rfl).bool rfl rfl rfl
      refine wp_value (c := .pointer (some ⟨g, 0, none⟩)) ?_ rfl
      have c0 : W.cell? ⟨b2, 0, none⟩ = some (.pointer (some ⟨g, 0, none⟩)) := (blk_cell hR.1 0).trans rfl
      have c1 : W.cell? ⟨b2, 1, none⟩ = some (.string (strOfNums l)) := (blk_cell hR.1 1).trans rfl
      have c2 : W.cell? ⟨b2, 2, none⟩ = some (.int .i64 aa) := (blk_cell hR.1 2).trans rfl
      have c3 : W.cell? ⟨b2, 3, none⟩ = some (.int .i64 ee) := (blk_cell hR.1 3).trans rfl
      go_simp
    · refine StepOkO.on (o := ?o5) (g := 2) (u := true) ?ho5 ?hg5 (by omega) rfl rfl ?hw5 rfl ?h5
      case ho5 => simp only [List.getElem?_toArray, List.getElem?_cons_succ, List.getElem?_cons_zero]; rfl
      case hg5 => rfl
      case hw5 => rfl
      case h5 =>
      intro a W hS hB hd hR
      have e127 : a.tmps[127]? = some (.pointer (some ⟨g, 0, none⟩)) := (hd 4 rfl).bool rfl rfl rfl
      refine wp_called Try.func20 (by kernel_rfl) rfl #[.pointer (some ⟨g, 0, none⟩)] rfl (by simp [Act.eval, *]) ?_
      refine (err_any w0 W g l aa ee hR.2).mono ?_
      rintro e9 w9 ⟨rfl, rfl⟩
      exact ⟨_, rfl, rfl, Below.refl _ _⟩
    · refine StepOkO.on (o := ?o6) (g := 2) (u := true) ?ho6 ?hg6 (by omega) rfl rfl ?hw6 rfl ?h6
      case ho6 => simp only [List.getElem?_toArray, List.getElem?_cons_succ, List.getElem?_cons_zero]; rfl
      case hg6 => rfl
      case hw6 => rfl
      case h6 =>
      intro a W hS hB hd hR
      have e2 : a.tmps[2]? = some (.pointer (some ⟨b2, 0, none⟩)) := hS.get rfl rfl
      refine wp_value (c := .pointer (some ⟨b2, 1, none⟩)) ?_ rfl
      go_simp
    · refine StepOkO.on (o := ?o7) (g := 2) (u := true) ?ho7 ?hg7 (by omega) rfl rfl ?hw7 rfl ?h7
      case ho7 => simp only [List.getElem?_toArray, List.getElem?_cons_succ, List.getElem?_cons_zero]; rfl
      case hg7 => rfl
      case hw7 => rfl
      case h7 =>
      intro a W hS hB hd hR
      have e129 : a.tmps[129]? = some (.pointer (some ⟨b2, 1, none⟩)) := (hd 6 rfl).bool rfl rfl rfl
      refine wp_value (c := .pointer (some ⟨b2, 3, none⟩)) ?_ rfl
      go_simp
    · refine StepOkO.on (o := ?o8) (g := 2) (u := true) ?ho8 ?hg8 (by omega) rfl rfl ?hw8 rfl ?h8
      case ho8 => simp only [List.getElem?_toArray, List.getElem?_cons_succ, List.getElem?_cons_zero]; rfl
      case hg8 => rfl
      case hw8 => rfl
      case h8 =>
      intro a W hS hB hd hR
      have e130 : a.tmps[130]? = some (.pointer (some ⟨b2, 3, none⟩)) := (hd 7 rfl).bool rfl rfl rfl
      refine wp_value (c := .int .i64 ee) ?_ rfl
      have c0 : W.cell? ⟨b2, 0, none⟩ = some (.pointer (some ⟨g, 0, none⟩)) := (blk_cell hR.1 0).trans rfl
      have c1 : W.cell? ⟨b2, 1, none⟩ = some (.string (strOfNums l)) := (blk_cell hR.1 1).trans rfl
      have c2 : W.cell? ⟨b2, 2, none⟩ = some (.int .i64 aa) := (blk_cell hR.1 2).trans rfl
      have c3 : W.cell? ⟨b2, 3, none⟩ = some (.int .i64 ee) := (blk_cell hR.1 3).trans rfl
      go_simp
    · refine StepOkO.on (o := ?o9) (g := 2) (u := true) ?ho9 ?hg9 (by omega) rfl rfl ?hw9 rfl ?h9
      case ho9 => simp only [List.getElem?_toArray, List.getElem?_cons_succ, List.getElem?_cons_zero]; rfl
      case hg9 => rfl
      case hw9 => rfl
      case h9 =>
      intro a W hS hB hd hR
      have e128 : a.tmps[128]? = some (.int .i64 ee) := (hd 5 rfl).bool rfl rfl rfl
      have e131 : a.tmps[131]? = some (.int .i64 ee) := (hd 8 rfl).bool rfl rfl rfl
      refine wp_value (c := .bool true) ?_ rfl
      go_simp
    · refine StepOkO.run (o := ?o10) ?ho10 ?hg10 (by omega) ?h10
      case ho10 => simp only [List.getElem?_toArray, List.getElem?_cons_succ, List.getElem?_cons_zero]; rfl
      case hg10 => rfl
      case h10 =>
      intro a W hS hB hd hR
      have e125 : a.tmps[125]? = some (.bool true) := (hd 2 rfl).bool rfl rfl rfl
      have e132 : a.tmps[132]? = some (.bool true) := (hd 9 rfl).bool rfl rfl rfl
      refine wp_value (c := .bool true) ?_ rfl
      go_simp
    · refine StepOkO.run (o := ?o11) ?ho11 ?hg11 (by omega) ?h11
      case ho11 => simp only [List.getElem?_toArray, List.getElem?_cons_succ, List.getElem?_cons_zero]; rfl
      case hg11 => rfl
      case h11 =>
      intro a W hS hB hd hR
      have e133 : a.tmps[133]? = some (.bool true) := (hd 10 rfl).bool rfl rfl rfl
      refine wp_value (c := .bool true) ?_ rfl
      go_simp
    · refine StepOkO.on (o := ?o12) (g := 11) (u := true) ?ho12 ?hg12 (by omega) rfl rfl ?hw12 rfl ?h12
      case ho12 => simp only [List.getElem?_toArray, List.getElem?_cons_succ, List.getElem?_cons_zero]; rfl
      case hg12 => rfl
      case hw12 => rfl
      case h12 =>
      intro a W hS hB hd hR
      have e2 : a.tmps[2]? = some (.pointer (some ⟨b2, 0, none⟩)) := hS.get rfl rfl
      refine wp_value (c := .pointer (some ⟨b2, 0, none⟩)) ?_ rfl
      go_simp
    · refine StepOkO.on (o := ?o13) (g := 11) (u := true) ?ho13 ?hg13 (by omega) rfl rfl ?hw13 rfl ?h13
      case ho13 => simp only [List.getElem?_toArray, List.getElem?_cons_succ, List.getElem?_cons_zero]; rfl
      case hg13 => rfl
      case hw13 => rfl
      case h13 =>
      intro a W hS hB hd hR
      have e135 : a.tmps[135]? = some (.pointer (some ⟨b2, 0, none⟩)) := (hd 12 rfl).bool rfl rfl rfl
      refine wp_value (c := .pointer (some ⟨g, 0, none⟩)) ?_ rfl
      have c0 : W.cell? ⟨b2, 0, none⟩ = some (.pointer (some ⟨g, 0, none⟩)) := (blk_cell hR.1 0).trans rfl
      have c1 : W.cell? ⟨b2, 1, none⟩ = some (.string (strOfNums l)) := (blk_cell hR.1 1).trans rfl
      have c2 : W.cell? ⟨b2, 2, none⟩ = some (.int .i64 aa) := (blk_cell hR.1 2).trans rfl
      have c3 : W.cell? ⟨b2, 3, none⟩ = some (.int .i64 ee) := (blk_cell hR.1 3).trans rfl
      go_simp
    · refine StepOkO.on (o := ?o14) (g := 11) (u := true) ?ho14 ?hg14 (by omega) rfl rfl ?hw14 rfl ?h14
      case ho14 => simp only [List.getElem?_toArray, List.getElem?_cons_succ, List.getElem?_cons_zero]; rfl
      case hg14 => rfl
      case hw14 => rfl
      case h14 =>
      intro a W hS hB hd hR
      have e136 : a.tmps[136]? = some (.pointer (some ⟨g, 0, none⟩)) := (hd 13 rfl).bool rfl rfl rfl
      refine wp_called Try.func26 (by kernel_rfl) rfl #[.pointer (some ⟨g, 0, none⟩)] rfl (by simp [Act.eval, *]) ?_
      refine (at_any w0 W g l aa ee hR.2).mono ?_
      rintro e9 w9 ⟨rfl, rfl⟩
      exact ⟨_, rfl, rfl, Below.refl _ _⟩
    · refine StepOkO.on (o := ?o15) (g := 11) (u := true) ?ho15 ?hg15 (by omega) rfl rfl ?hw15 rfl ?h15
      case ho15 => simp only [List.getElem?_toArray, List.getElem?_cons_succ, List.getElem?_cons_zero]; rfl
      case hg15 => rfl
      case hw15 => rfl
      case h15 =>
      intro a W hS hB hd hR
      have e2 : a.tmps[2]? = some (.pointer (some ⟨b2, 0, none⟩)) := hS.get rfl rfl
      refine wp_value (c := .pointer (some ⟨b2, 1, none⟩)) ?_ rfl
      go_simp
    · refine StepOkO.on (o := ?o16) (g := 11) (u := true) ?ho16 ?hg16 (by omega) rfl rfl ?hw16 rfl ?h16
      case ho16 => simp only [List.getElem?_toArray, List.getElem?_cons_succ, List.getElem?_cons_zero]; rfl
      case hg16 => rfl
      case hw16 => rfl
      case h16 =>
      intro a W hS hB hd hR
      have e138 : a.tmps[138]? = some (.pointer (some ⟨b2, 1, none⟩)) := (hd 15 rfl).bool rfl rfl rfl
      refine wp_value (c := .pointer (some ⟨b2, 2, none⟩)) ?_ rfl
      go_simp
    · refine StepOkO.on (o := ?o17) (g := 11) (u := true) ?ho17 ?hg17 (by omega) rfl rfl ?hw17 rfl ?h17
      case ho17 => simp only [List.getElem?_toArray, List.getElem?_cons_succ, List.getElem?_cons_zero]; rfl
      case hg17 => rfl
      case hw17 => rfl
      case h17 =>
      intro a W hS hB hd hR
      have e139 : a.tmps[139]? = some (.pointer (some ⟨b2, 2, none⟩)) := (hd 16 rfl).bool rfl rfl rfl
      refine wp_value (c := .int .i64 aa) ?_ rfl
      have c0 : W.cell? ⟨b2, 0, none⟩ = some (.pointer (some ⟨g, 0, none⟩)) := (blk_cell hR.1 0).trans rfl
      have c1 : W.cell? ⟨b2, 1, none⟩ = some (.string (strOfNums l)) := (blk_cell hR.1 1).trans rfl
      have c2 : W.cell? ⟨b2, 2, none⟩ = some (.int .i64 aa) := (blk_cell hR.1 2).trans rfl
      have c3 : W.cell? ⟨b2, 3, none⟩ = some (.int .i64 ee) := (blk_cell hR.1 3).trans rfl
      go_simp
    · refine StepOkO.on (o := ?o18) (g := 11) (u := true) ?ho18 ?hg18 (by omega) rfl rfl ?hw18 rfl ?h18
      case ho18 => simp only [List.getElem?_toArray, List.getElem?_cons_succ, List.getElem?_cons_zero]; rfl
      case hg18 => rfl
      case hw18 => rfl
      case h18 =>
      intro a W hS hB hd hR
      have e137 : a.tmps[137]? = some (.int .i64 aa) := (hd 14 rfl).bool rfl rfl rfl
      have e140 : a.tmps[140]? = some (.int .i64 aa) := (hd 17 rfl).bool rfl rfl rfl
      refine wp_value (c := .bool true) ?_ rfl
      go_simp
    · refine StepOkO.run (o := ?o19) ?ho19 ?hg19 (by omega) ?h19
      case ho19 => simp only [List.getElem?_toArray, List.getElem?_cons_succ, List.getElem?_cons_zero]; rfl
      case hg19 => rfl
      case h19 =>
      intro a W hS hB hd hR
      have e134 : a.tmps[134]? = some (.bool true) := (hd 11 rfl).bool rfl rfl rfl
      have e141 : a.tmps[141]? = some (.bool true) := (hd 18 rfl).bool rfl rfl rfl
      refine wp_value (c := .bool true) ?_ rfl
      go_simp
    · refine StepOkO.run (o := ?o20) ?ho20 ?hg20 (by omega) ?h20
      case ho20 => simp only [List.getElem?_toArray, List.getElem?_cons_succ, List.getElem?_cons_zero]; rfl
      case hg20 => rfl
      case h20 =>
      intro a W hS hB hd hR
      have e142 : a.tmps[142]? = some (.bool true) := (hd 19 rfl).bool rfl rfl rfl
      refine wp_value (c := .bool true) ?_ rfl
      go_simp
    · refine StepOkO.on (o := ?o21) (g := 20) (u := true) ?ho21 ?hg21 (by omega) rfl rfl ?hw21 rfl ?h21
      case ho21 => simp only [List.getElem?_toArray, List.getElem?_cons_succ, List.getElem?_cons_zero]; rfl
      case hg21 => rfl
      case hw21 => rfl
      case h21 =>
      intro a W hS hB hd hR
      have e2 : a.tmps[2]? = some (.pointer (some ⟨b2, 0, none⟩)) := hS.get rfl rfl
      refine wp_value (c := .pointer (some ⟨b2, 0, none⟩)) ?_ rfl
      go_simp
    · refine StepOkO.on (o := ?o22) (g := 20) (u := true) ?ho22 ?hg22 (by omega) rfl rfl ?hw22 rfl ?h22
      case ho22 => simp only [List.getElem?_toArray, List.getElem?_cons_succ, List.getElem?_cons_zero]; rfl
      case hg22 => rfl
      case hw22 => rfl
      case h22 =>
      intro a W hS hB hd hR
      have e144 : a.tmps[144]? = some (.pointer (some ⟨b2, 0, none⟩)) := (hd 21 rfl).bool rfl rfl rfl
      refine wp_value (c := .pointer (some ⟨g, 0, none⟩)) ?_ rfl
      have c0 : W.cell? ⟨b2, 0, none⟩ = some (.pointer (some ⟨g, 0, none⟩)) := (blk_cell hR.1 0).trans rfl
      have c1 : W.cell? ⟨b2, 1, none⟩ = some (.string (strOfNums l)) := (blk_cell hR.1 1).trans rfl
      have c2 : W.cell? ⟨b2, 2, none⟩ = some (.int .i64 aa) := (blk_cell hR.1 2).trans rfl
      have c3 : W.cell? ⟨b2, 3, none⟩ = some (.int .i64 ee) := (blk_cell hR.1 3).trans rfl
      go_simp
    · refine StepOkO.on (o := ?o23) (g := 20) (u := true) ?ho23 ?hg23 (by omega) rfl rfl ?hw23 rfl ?h23
      case ho23 => simp only [List.getElem?_toArray, List.getElem?_cons_succ, List.getElem?_cons_zero]; rfl
      case hg23 => rfl
      case hw23 => rfl
      case h23 =>
      intro a W hS hB hd hR
      have e145 : a.tmps[145]? = some (.pointer (some ⟨g, 0, none⟩)) := (hd 22 rfl).bool rfl rfl rfl
      refine wp_called Try.func21 (by kernel_rfl) rfl #[.pointer (some ⟨g, 0, none⟩)] rfl (by simp [Act.eval, *]) ?_
      refine (left_any w0 W g l aa ee hR.2 hl ha2).mono ?_
      rintro e9 w9 ⟨rfl, hb9⟩
      exact ⟨_, rfl, rfl, hb9⟩
    · refine StepOkO.on (o := ?o24) (g := 20) (u := true) ?ho24 ?hg24 (by omega) rfl rfl ?hw24 rfl ?h24
      case ho24 => simp only [List.getElem?_toArray, List.getElem?_cons_succ, List.getElem?_cons_zero]; rfl
      case hg24 => rfl
      case hw24 => rfl
      case h24 =>
      intro a W hS hB hd hR
      have e2 : a.tmps[2]? = some (.pointer (some ⟨b2, 0, none⟩)) := hS.get rfl rfl
      refine wp_value (c := .pointer (some ⟨b2, 1, none⟩)) ?_ rfl
      go_simp
    · refine StepOkO.on (o := ?o25) (g := 20) (u := true) ?ho25 ?hg25 (by omega) rfl rfl ?hw25 rfl ?h25
      case ho25 => simp only [List.getElem?_toArray, List.getElem?_cons_succ, List.getElem?_cons_zero]; rfl
      case hg25 => rfl
      case hw25 => rfl
      case h25 =>
      intro a W hS hB hd hR
      have e147 : a.tmps[147]? = some (.pointer (some ⟨b2, 1, none⟩)) := (hd 24 rfl).bool rfl rfl rfl
      refine wp_value (c := .pointer (some ⟨b2, 1, none⟩)) ?_ rfl
      go_simp
    · refine StepOkO.on (o := ?o26) (g := 20) (u := true) ?ho26 ?hg26 (by omega) rfl rfl ?hw26 rfl ?h26
      case ho26 => simp only [List.getElem?_toArray, List.getElem?_cons_succ, List.getElem?_cons_zero]; rfl
      case hg26 => rfl
      case hw26 => rfl
      case h26 =>
      intro a W hS hB hd hR
      have e148 : a.tmps[148]? = some (.pointer (some ⟨b2, 1, none⟩)) := (hd 25 rfl).bool rfl rfl rfl
      refine wp_value (c := .string (strOfNums l)) ?_ rfl
      have c0 : W.cell? ⟨b2, 0, none⟩ = some (.pointer (some ⟨g, 0, none⟩)) := (blk_cell hR.1 0).trans rfl
      have c1 : W.cell? ⟨b2, 1, none⟩ = some (.string (strOfNums l)) := (blk_cell hR.1 1).trans rfl
      have c2 : W.cell? ⟨b2, 2, none⟩ = some (.int .i64 aa) := (blk_cell hR.1 2).trans rfl
      have c3 : W.cell? ⟨b2, 3, none⟩ = some (.int .i64 ee) := (blk_cell hR.1 3).trans rfl
      go_simp
    · refine StepOkO.on (o := ?o27) (g := 20) (u := true) ?ho27 ?hg27 (by omega) rfl rfl ?hw27 rfl ?h27
      case ho27 => simp only [List.getElem?_toArray, List.getElem?_cons_succ, List.getElem?_cons_zero]; rfl
      case hg27 => rfl
      case hw27 => rfl
      case h27 =>
      intro a W hS hB hd hR
      have e149 : a.tmps[149]? = some (.string (strOfNums l)) := (hd 26 rfl).bool rfl rfl rfl
      refine wp_value (c := .int .i64 (l.length : Int)) ?_ rfl
      have hs : (strOfNums l).size = l.length := strOfNums_size l
      go_simp
    · refine StepOkO.on (o := ?o28) (g := 20) (u := true) ?ho28 ?hg28 (by omega) rfl rfl ?hw28 rfl ?h28
      case ho28 => simp only [List.getElem?_toArray, List.getElem?_cons_succ, List.getElem?_cons_zero]; rfl
      case hg28 => rfl
      case hw28 => rfl
      case h28 =>
      intro a W hS hB hd hR
      have e2 : a.tmps[2]? = some (.pointer (some ⟨b2, 0, none⟩)) := hS.get rfl rfl
      refine wp_value (c := .pointer (some ⟨b2, 1, none⟩)) ?_ rfl
      go_simp
    · refine StepOkO.on (o := ?o29) (g := 20) (u := true) ?ho29 ?hg29 (by omega) rfl rfl ?hw29 rfl ?h29
      case ho29 => simp only [List.getElem?_toArray, List.getElem?_cons_succ, List.getElem?_cons_zero]; rfl
      case hg29 => rfl
      case hw29 => rfl
      case h29 =>
      intro a W hS hB hd hR
      have e151 : a.tmps[151]? = some (.pointer (some ⟨b2, 1, none⟩)) := (hd 28 rfl).bool rfl rfl rfl
      refine wp_value (c := .pointer (some ⟨b2, 2, none⟩)) ?_ rfl
      go_simp
    · refine StepOkO.on (o := ?o30) (g := 20) (u := true) ?ho30 ?hg30 (by omega) rfl rfl ?hw30 rfl ?h30
      case ho30 => simp only [List.getElem?_toArray, List.getElem?_cons_succ, List.getElem?_cons_zero]; rfl
      case hg30 => rfl
      case hw30 => rfl
      case h30 =>
      intro a W hS hB hd hR
      have e152 : a.tmps[152]? = some (.pointer (some ⟨b2, 2, none⟩)) := (hd 29 rfl).bool rfl rfl rfl
      refine wp_value (c := .int .i64 aa) ?_ rfl
      have c0 : W.cell? ⟨b2, 0, none⟩ = some (.pointer (some ⟨g, 0, none⟩)) := (blk_cell hR.1 0).trans rfl
      have c1 : W.cell? ⟨b2, 1, none⟩ = some (.string (strOfNums l)) := (blk_cell hR.1 1).trans rfl
      have c2 : W.cell? ⟨b2, 2, none⟩ = some (.int .i64 aa) := (blk_cell hR.1 2).trans rfl
      have c3 : W.cell? ⟨b2, 3, none⟩ = some (.int .i64 ee) := (blk_cell hR.1 3).trans rfl
      go_simp
    · refine StepOkO.on (o := ?o31) (g := 20) (u := true) ?ho31 ?hg31 (by omega) rfl rfl ?hw31 rfl ?h31
      case ho31 => simp only [List.getElem?_toArray, List.getElem?_cons_succ, List.getElem?_cons_zero]; rfl
      case hg31 => rfl
      case hw31 => rfl
      case h31 =>
      intro a W hS hB hd hR
      have e150 : a.tmps[150]? = some (.int .i64 (l.length : Int)) := (hd 27 rfl).bool rfl rfl rfl
      have e153 : a.tmps[153]? = some (.int .i64 aa) := (hd 30 rfl).bool rfl rfl rfl
      refine wp_value (c := .int .i64 ((l.length : Int) - aa)) ?_ rfl
      have hw : IntKind.i64.wrap ((l.length : Int) - aa) = (l.length : Int) - aa := by rw [IntKind.wrap_i64]; omega
      go_simp
    · refine StepOkO.on (o := ?o32) (g := 20) (u := true) ?ho32 ?hg32 (by omega) rfl rfl ?hw32 rfl ?h32
      case ho32 => simp only [List.getElem?_toArray, List.getElem?_cons_succ, List.getElem?_cons_zero]; rfl
      case hg32 => rfl
      case hw32 => rfl
      case h32 =>
      intro a W hS hB hd hR
      have e146 : a.tmps[146]? = some (.int .i64 ((l.length : Int) - aa)) := (hd 23 rfl).bool rfl rfl rfl
      have e154 : a.tmps[154]? = some (.int .i64 ((l.length : Int) - aa)) := (hd 31 rfl).bool rfl rfl rfl
      refine wp_value (c := .bool true) ?_ rfl
      go_simp
    · refine StepOkO.run (o := ?o33) ?ho33 ?hg33 (by omega) ?h33
      case ho33 => simp only [List.getElem?_toArray, List.getElem?_cons_succ, List.getElem?_cons_zero]; rfl
      case hg33 => rfl
      case h33 =>
      intro a W hS hB hd hR
      have e143 : a.tmps[143]? = some (.bool true) := (hd 20 rfl).bool rfl rfl rfl
      have e155 : a.tmps[155]? = some (.bool true) := (hd 32 rfl).bool rfl rfl rfl
      refine wp_value (c := .bool true) ?_ rfl
      go_simp
    · refine StepOkO.write (o := ?o34) ?ho34 ?hg34 ?hw34 rfl ?h34
      case ho34 => simp only [List.getElem?_toArray, List.getElem?_cons_succ, List.getElem?_cons_zero]; rfl
      case hg34 => rfl
      case hw34 => rfl
      case h34 =>
      intro a W hS hB hd hR hP
      have e4 : a.tmps[4]? = some (.pointer (some ⟨b4, 0, none⟩)) := hS.get rfl rfl
      have e123 : a.tmps[123]? = some (.agg #[.pointer (some ⟨g, 0, none⟩), .string (strOfNums l), .int .i64 aa, .int .i64 ee]) := (hd 0 rfl).bool rfl rfl rfl
      have c0 : W.cell? ⟨b4, 0, none⟩ = some (.pointer none) := (blk_cell hP 0).trans rfl
      have c1 : W.cell? ⟨b4, 1, none⟩ = some (.string ⟨#[]⟩) := (blk_cell hP 1).trans rfl
      have c2 : W.cell? ⟨b4, 2, none⟩ = some (.int .i64 0) := (blk_cell hP 2).trans rfl
      have c3 : W.cell? ⟨b4, 3, none⟩ = some (.int .i64 0) := (blk_cell hP 3).trans rfl
      have f0 := blk_frozen hP 0
      have f1 := blk_frozen hP 1
      have f2 := blk_frozen hP 2
      have f3 := blk_frozen hP 3
      have q0 := blk_put (cs' := #[.pointer (some ⟨g, 0, none⟩), .string ⟨#[]⟩, .int .i64 0, .int .i64 0]) hP 0 (.pointer (some ⟨g, 0, none⟩)) rfl
      refine ⟨_, ?_, grown_put (grown_put (grown_put (grown_put (World.grownBy.refl _ _) (.pointer (some ⟨g, 0, none⟩))) (.string (strOfNums l))) (.int .i64 aa)) (.int .i64 ee), blk_put4 q0 _ _ _⟩
      go_simp
    · refine StepOkO.run (o := ?o35) ?ho35 ?hg35 (by omega) ?h35
      case ho35 => simp only [List.getElem?_toArray, List.getElem?_cons_succ, List.getElem?_cons_zero]; rfl
      case hg35 => rfl
      case h35 =>
      intro a W hS hB hd hR
      have e156 : a.tmps[156]? = some (.bool true) := (hd 33 rfl).bool rfl rfl rfl
      refine wp_value (c := .bool true) ?_ rfl
      go_simp
  · intro a W hS hB hh hRD hFD
    have e5 : a.tmps[5]? = some (.bool true) := (hh 35 (by omega)).bool rfl rfl rfl
    have HBR := Lib.hid hB
    have hlit := same_lit hS
    clear hh hS hB
    simp only [List.filterMap_cons, List.filterMap_nil, List.foldl_cons, List.foldl_nil, List.setIfInBounds_toArray, List.set_cons_zero, List.set_cons_succ] at hlit
    rw [show a.tmps.getD 5 undef = .bool true by simp [Array.getD_eq_getD_getElem?, e5]] at hlit
    generalize a.tmps.getD 123 undef = z123 at hlit
    generalize a.tmps.getD 124 undef = z124 at hlit
    generalize a.tmps.getD 125 undef = z125 at hlit
    generalize a.tmps.getD 126 undef = z126 at hlit
    generalize a.tmps.getD 127 undef = z127 at hlit
    generalize a.tmps.getD 128 undef = z128 at hlit
    generalize a.tmps.getD 129 undef = z129 at hlit
    generalize a.tmps.getD 130 undef = z130 at hlit
    generalize a.tmps.getD 131 undef = z131 at hlit
    generalize a.tmps.getD 132 undef = z132 at hlit
    generalize a.tmps.getD 133 undef = z133 at hlit
    generalize a.tmps.getD 134 undef = z134 at hlit
    generalize a.tmps.getD 135 undef = z135 at hlit
    generalize a.tmps.getD 136 undef = z136 at hlit
    generalize a.tmps.getD 137 undef = z137 at hlit
    generalize a.tmps.getD 138 undef = z138 at hlit
    generalize a.tmps.getD 139 undef = z139 at hlit
    generalize a.tmps.getD 140 undef = z140 at hlit
    generalize a.tmps.getD 141 undef = z141 at hlit
    generalize a.tmps.getD 142 undef = z142 at hlit
    generalize a.tmps.getD 143 undef = z143 at hlit
    generalize a.tmps.getD 144 undef = z144 at hlit
    generalize a.tmps.getD 145 undef = z145 at hlit
    generalize a.tmps.getD 146 undef = z146 at hlit
    generalize a.tmps.getD 147 undef = z147 at hlit
    generalize a.tmps.getD 148 undef = z148 at hlit
    generalize a.tmps.getD 149 undef = z149 at hlit
    generalize a.tmps.getD 150 undef = z150 at hlit
    generalize a.tmps.getD 151 undef = z151 at hlit
    generalize a.tmps.getD 152 undef = z152 at hlit
    generalize a.tmps.getD 153 undef = z153 at hlit
    generalize a.tmps.getD 154 undef = z154 at hlit
    generalize a.tmps.getD 155 undef = z155 at hlit
    generalize a.tmps.getD 156 undef = z156 at hlit
    clear e5
    subst hlit
    go_wp2_with fail
    refine bodyPost_ret (results_ct rfl _ _ b4 42 #[_, _, _, _] (0, 0) _ rfl hFD HU.out rfl (by kernel_rfl)) rfl ?_
    refine ⟨aa, ee, ha2.1, ha2.2, rfl, hRD.2, ?_, HW4.out.1.trans (HBR.out.mono (Nat.le_trans HBW.out.2.1.size (Nat.le_refl _)))⟩
    obtain ⟨g1, g2, g3, g4, g5⟩ := HW4.out.2
    obtain ⟨r1, r2, r3, r4, r5⟩ := HBR.out
    exact ⟨r1.trans g1, r2.trans g2, r3.trans g3, Nat.le_trans g4 r4, fun k hk hne => (r5 k hk).trans (g5 k hk hne)⟩
end Go.Proofs.Ythpbkhagjgggjaa
