/- What put does with a text that is not there; the methods above it. -/
import Derived.Test.YthpbkhagjgggjaaTabF
set_option linter.unusedVariables false
set_option linter.unusedSimpArgs false
namespace Go.Proofs.Ythpbkhagjgggjaa
open Go.RowKit Go.Proofs.YthpbkhagjgggjaaW.PrintWords
open Go.Maps (Keyed)

theorem ownsMap_tight {w : World} {b n : Nat} {D : DataW Unit} {R : Value → Option (DataW Unit × List MemPlace)} {k : TypeId} (h : w.ownsMap Try.prog k R b n D) : w.ownsMap Try.prog k R b (Maps.size D) D := by
  obtain ⟨es, clock, hb, F, hs, rfl⟩ := h
  exact ⟨es, clock, hb, F, by simp [Maps.size, length_sorted], rfl⟩
/-- A row of cells is no map. -/
theorem AllR_apart_map {w : World} {b n : Nat} {ok : Nat → Prop} {v : Value} {xs : List ByteArray} {D : DataW Unit} {R : Value → Option (DataW Unit × List MemPlace)} {k : TypeId} (h : AllR w ok v xs) (hm : w.ownsMap Try.prog k R b n D) :
    AllR w (fun k => (ok k ∧ k < w.heap.size) ∧ k ≠ b) v xs :=
  h.typed.mono (fun k hk => ⟨⟨hk.1, hk.2.1⟩, fun e => by
    subst e
    obtain ⟨es, clock, hb, _⟩ := hm
    obtain ⟨_, _, _, hc⟩ := hk.2.2
    rw [hb] at hc; cases hc⟩)
set_option maxHeartbeats 1000000 in
set_option maxRecDepth 100000 in
theorem put_new {w : World} {S : Nat → Prop} {g : Nat} {l : List ByteArray} (h : Tab w S g l) (s : ByteArray) (hs : s ∉ l) (hsz : s.size ≤ maxLen) (hlen : l.length < 1000000) {allv : Value} {b : Nat} {D : DataW Unit}
    (hb : w.heap[g]? = some (.cells #[allv, .map (some b)] 128 (0, 0))) (hr : AllR w (fun k => S k ∧ k ≠ g) allv l) (hSb0 : S b) (ho : w.ownsMap Try.prog 9 (plainElem (H := Unit) Try.prog 3) b (Maps.size D) D) (hp : PlacesOk D l) :
    Calls Try.prog 82 #[.pointer (some ⟨g, 0, none⟩), .string s] w fun e w' => e = .returned (.tuple #[.int .i64 (l.length : Int), .bool true]) ∧ TabDone w w' S g (l ++ [s]) := by
  have hgb : b ≠ g := by
    rintro rfl
    obtain ⟨es, clock, hh, _⟩ := ho
    rw [hb] at hh; cases hh
  obtain ⟨A, c, rfl, _, _⟩ := hr.slice
  have hl := look_run ho hp hsz
  rw [isIn_ne.2 hs, show atI l s = 0 by unfold atI; rw [isIn_ne.2 hs]; rfl] at hl
  have hc0 : w.cell? ⟨g, 0, none⟩ = some (.slice A l.length c) := (cell_of_blk hb 0).trans rfl
  have hc1 : w.cell? ⟨g, 1, none⟩ = some (.map (some b)) := (cell_of_blk hb 1).trans rfl
  have hq : ∀ (w : World), (binOp .eql 124 (.map (some b)) (.map none)).run Try.prog w = .ok (.bool false) w := fun w => run_eql_map_nil w _ _ _ (some b) Try.underlying124
  have hlt := (Array.getElem?_eq_some_iff.1 hb).1
  have HB := Lib.hid hb
  have HR := Lib.hid hr
  have HO := Lib.hid ho
  have HP := Lib.hid hp
  have HS := Lib.hid hs
  have HZ := Lib.hid hsz
  have HKW := Lib.hid (Kp.refl w S)
  have hSb : S b ∨ w.heap.size ≤ b := .inl hSb0
  clear hb hr ho hp hs hsz
  go_enter Try.func82, Try.ntmps82
  go_wp2_with fail
  go_still_tail 10, (by kernel_rfl)
  change wpList _ _ _ _ _ (w).drew
  have hk2 : Kp w (w).drew S := HKW.out.drew
  have HB2 := Lib.hid (show (w).drew.heap[g]? = _ from HB.out)
  have HR2 := Lib.hid (show AllR (w).drew (fun k => S k ∧ k ≠ g) (.slice A l.length c) l from HR.out)
  have HO2 := Lib.hid (show (w).drew.ownsMap Try.prog 9 (plainElem (H := Unit) Try.prog 3) b (Maps.size D) D from HO.out)
  have hc20 : (w).drew.cell? ⟨g, 0, none⟩ = some (.slice A l.length c) := (cell_of_blk HB.out 0).trans rfl
  have hc21 : (w).drew.cell? ⟨g, 1, none⟩ = some (.map (some b)) := (cell_of_blk HB.out 1).trans rfl
  have hk := WideMaps.keyOf_string_mk Try.underlying9 HZ.out
  have hD : Maps.size D < maxLen := by have := HP.out.size; unfold maxLen; omega
  have hbl2 : b < (w).drew.heap.size := HO.out.lt
  clear hc0 hc1 HB HR HO HKW
  generalize (w).drew = w2 at *
  go_wp2_with (at_mapUpdate; refine Halt.mk ?_)
  refine Halt.of ?_
  refine wpList_mapUpdate_own _ rfl (.tmp 31) (.tmp 32) (.tmp 37) 124 rfl 9 3 law9 Try.underlying124 _ b _ D rfl HO2.out hD (.string s) (.int .i64 (l.length : Int)) (litS s) rfl rfl hk _ [] (plainElem_int Try.underlying3 (WalkArith.wf_i64 (by omega))) ?_
  intro w3 ho3 hg3
  have hlt2 := (Array.getElem?_eq_some_iff.1 HB2.out).1
  have hb3 : w3.heap[g]? = _ := (hg3.block g hlt2 (by simp; exact fun e => hgb e.symm)).trans HB2.out
  have hr3 := (AllR_apart_map HR2.out HO2.out).move (fun k hk hlt => hg3.block k hlt (fun e => hk.2 (by injection e)))
  have hk3 : Kp w w3 S := hk2.grown hg3 (fun k e => by injection e with e; subst e; exact hSb)
  have hs2 := hk2.size
  have hs3 := hg3.size
  have hr3' : AllR w3 (fun k => (S k ∨ w.heap.size ≤ k) ∧ k ≠ g ∧ k ≠ b) (.slice A l.length c) l := hr3.mono (fun k hk => ⟨.inl hk.1.1.1, hk.1.1.2, hk.2⟩)
  have hc30 : w3.cell? ⟨g, 0, none⟩ = some (.slice A l.length c) := (cell_of_blk hb3 0).trans rfl
  have HB3 := Lib.hid hb3
  have HR3 := Lib.hid hr3'
  have HO3 := Lib.hid ho3
  have HG3 := Lib.hid hg3
  have HK3 := Lib.hid hk3
  have HC := Lib.hid hc20
  clear hb3 hr3 hr3' ho3 hg3 hk3 hc20 hc21 hk hD hk2 HB2 HR2 HO2 HC
  go_wp2_with (at_builtin; refine Halt.mk ?_)
  refine Halt.of ?_
  refine AllR.append HR3.out (fun k hk => ⟨.inr (by omega), by omega, by omega⟩) rfl (.tmp 42) (.tmp 44) 22 rfl Try.underlying22 info_str s rfl rfl hlen ?_
  intro v4 w4 row hr4 hg4 hne
  obtain ⟨A4, c4, rfl⟩ := Kd.R_slice hr4
  have hlt3 := (Array.getElem?_eq_some_iff.1 HB3.out).1
  have hb4 : w4.heap[g]? = _ := (hg4.block g hlt3 (fun e => (hne g e.symm).2.1 rfl)).trans HB3.out
  have ho4 := HO3.out.kept hg4 (fun e => (hne b e.symm).2.2 rfl)
  have hk4 := HK3.out.grown hg4 (fun k e => (hne k e).1)
  have hc40 : w4.cell? ⟨g, 0, none⟩ = some (.slice A l.length c) := (cell_of_blk hb4 0).trans rfl
  have hf40 := unfrozen_of hb4 0
  have hll : (l ++ [s]).length = l.length + 1 := by simp
  rw [hll]
  have HB4 := Lib.hid hb4
  have HR4 := Lib.hid hr4
  have HO4 := Lib.hid ho4
  have HK4 := Lib.hid hk4
  have HNE := Lib.hid hne
  have hs4 := hg4.size
  have HLL := Lib.hid hll
  clear hb4 hr4 ho4 hk4 hne hg4 hll
  go_wp2_with fail
  go_ret2
  refine ⟨rfl, fun k => S k ∨ (w.heap.size ≤ k ∧ k < w4.heap.size), ⟨?_, .inl h.mem, ?_, ?_, ?_, _, _, blk_set HB4.out 0 _, ?_, .inr ⟨b, _, rfl, hSb.imp id (fun h => ⟨h, by omega⟩), ownsMap_tight (HO4.out.setCell (fun e => hgb e) _), HP.out.put HS.out (HO4.out.tidy law9)⟩⟩, fun k hk => hk.imp id (·.1), HK4.out.setCell (.inl h.mem) _⟩
  · intro k hk
    have := HK4.out.size
    show k < (w4.setCell _ _).heap.size
    have h1 : (w4.setCell ⟨g, 0, none⟩ (.slice A4 (l.length + 1) c4)).heap.size = w4.heap.size := by simp [World.setCell]
    rw [h1]
    rcases hk with hk | hk
    · have := h.lt k hk; omega
    · exact hk.2
  · have := tput_nodup s h.nodup
    rwa [tput_out HS.out] at this
  · rw [HLL.out]; omega
  · intro u hu
    rcases List.mem_append.1 hu with hu | hu
    · exact h.wide u hu
    · simp at hu; subst hu; exact HZ.out
  · rw [← HLL.out]
    exact .inl <| Kd.R_mono (Kd.R_bound (Kd.R_far HR4.out (fun k hk => hk.2.1) _)) (fun k hk => ⟨hk.1.1.imp id (fun h => ⟨h, by have := hk.2.2.1; simpa [World.setCell] using this⟩), hk.1.2.1⟩)
set_option maxHeartbeats 1000000 in
set_option maxRecDepth 100000 in
theorem put_nil {w : World} {S : Nat → Prop} {g : Nat} {l : List ByteArray} (hl0 : l = []) (h : Tab w S g l) (s : ByteArray) (hsz : s.size ≤ maxLen) {allv : Value}
    (hb : w.heap[g]? = some (.cells #[allv, .map none] 128 (0, 0))) (hr : AllR w (fun k => S k ∧ k ≠ g) allv l) :
    Calls Try.prog 82 #[.pointer (some ⟨g, 0, none⟩), .string s] w fun e w' => e = .returned (.tuple #[.int .i64 (l.length : Int), .bool true]) ∧ TabDone w w' S g (l ++ [s]) := by
  have hs : s ∉ l := by rw [hl0]; simp
  have hlen : l.length < 1000000 := by rw [hl0]; decide
  obtain ⟨A, c, rfl, _, _⟩ := hr.slice
  have hl := look_run_nil (w := w) hsz
  have hlt := (Array.getElem?_eq_some_iff.1 hb).1
  have hc0 : w.cell? ⟨g, 0, none⟩ = some (.slice A l.length c) := (cell_of_blk hb 0).trans rfl
  have hc1 : w.cell? ⟨g, 1, none⟩ = some (.map none) := (cell_of_blk hb 1).trans rfl
  have hf1 := unfrozen_of hb 1
  have hq : ∀ (w : World), (binOp .eql 124 (.map none) (.map none)).run Try.prog w = .ok (.bool true) w := fun w => run_eql_map_nil w _ _ _ none Try.underlying124
  have hmm := @run_makeMap Try.prog
  have hba := blk_alloc (blk_set hb 1 (.map (some w.heap.size))) (.map #[] 0)
  have hra : AllR ((w.setCell ⟨g, 1, none⟩ (.map (some w.heap.size))).alloc (.map #[] 0)) (fun k => S k ∧ k ≠ g) (.slice A l.length c) l :=
    (hr.move (W' := w.setCell ⟨g, 1, none⟩ (.map (some w.heap.size))) (fun k hk _ => Below.heap_setCell w ⟨g, 1, none⟩ _ k hk.2)).move (fun k _ hlt => Below.heap_alloc _ _ k hlt)
  have hoa0 := World.ownsMap_made (w.setCell ⟨g, 1, none⟩ (.map (some w.heap.size))) Try.prog 9 (plainElem (H := Unit) Try.prog 3)
  rw [show (w.setCell ⟨g, 1, none⟩ (.map (some w.heap.size))).heap.size = w.heap.size by simp [World.setCell]] at hoa0
  obtain ⟨D, HD⟩ : ∃ D : DataW Unit, Hid (D = .map []) := ⟨_, Lib.hid rfl⟩
  have hpa : PlacesOk D l := by rw [HD.out, hl0]; exact PlacesOk.empty
  have hoa : ((w.setCell ⟨g, 1, none⟩ (.map (some w.heap.size))).alloc (.map #[] 0)).ownsMap Try.prog 9 (plainElem (H := Unit) Try.prog 3) w.heap.size (Maps.size D) D := by rw [HD.out]; exact hoa0
  clear hoa0
  obtain ⟨b, hbdef⟩ : ∃ b, b = w.heap.size := ⟨_, rfl⟩
  have hgb : b ≠ g := by omega
  rw [← hbdef] at hba hra hoa
  have HB := Lib.hid hba
  have HR := Lib.hid hra
  have HO := Lib.hid hoa
  have HP := Lib.hid hpa
  have HS := Lib.hid hs
  have HZ := Lib.hid hsz
  have HKW := Lib.hid (((Kp.refl w S).setCell (p := ⟨g, 1, none⟩) (.inl h.mem) (.map (some b))).alloc (.map #[] 0))
  have hSb : S b ∨ w.heap.size ≤ b := .inr (by omega)
  clear hb hr hoa hra hba hpa hs hsz hl0
  go_enter Try.func82, Try.ntmps82
  go_wp2_with fail
  rw [← hbdef]
  clear hbdef
  generalize (w.setCell ⟨g, 1, none⟩ (.map (some b))).alloc (.map #[] 0) = w1 at *
  have hc10 : w1.cell? ⟨g, 0, none⟩ = some (.slice A l.length c) := (cell_of_blk HB.out 0).trans rfl
  have hc11 : w1.cell? ⟨g, 1, none⟩ = some (.map (some b)) := (cell_of_blk HB.out 1).trans rfl
  clear hf1 hl hq hmm
  go_still_tail 10, (by kernel_rfl)
  change wpList _ _ _ _ _ (w1).drew
  have hk2 : Kp w (w1).drew S := HKW.out.drew
  have HB2 := Lib.hid (show (w1).drew.heap[g]? = _ from HB.out)
  have HR2 := Lib.hid (show AllR (w1).drew (fun k => S k ∧ k ≠ g) (.slice A l.length c) l from HR.out)
  have HO2 := Lib.hid (show (w1).drew.ownsMap Try.prog 9 (plainElem (H := Unit) Try.prog 3) b (Maps.size D) D from HO.out)
  have hc20 : (w1).drew.cell? ⟨g, 0, none⟩ = some (.slice A l.length c) := (cell_of_blk HB.out 0).trans rfl
  have hc21 : (w1).drew.cell? ⟨g, 1, none⟩ = some (.map (some b)) := (cell_of_blk HB.out 1).trans rfl
  have hk := WideMaps.keyOf_string_mk Try.underlying9 HZ.out
  have hD : Maps.size D < maxLen := by have := HP.out.size; unfold maxLen; omega
  have hbl2 : b < (w1).drew.heap.size := HO.out.lt
  clear hc0 hc1 hc10 hc11 HB HR HO HKW
  generalize (w1).drew = w2 at *
  go_wp2_with (at_mapUpdate; refine Halt.mk ?_)
  refine Halt.of ?_
  refine wpList_mapUpdate_own _ rfl (.tmp 31) (.tmp 32) (.tmp 37) 124 rfl 9 3 law9 Try.underlying124 _ b _ D rfl HO2.out hD (.string s) (.int .i64 (l.length : Int)) (litS s) rfl rfl hk _ [] (plainElem_int Try.underlying3 (WalkArith.wf_i64 (by omega))) ?_
  intro w3 ho3 hg3
  have hlt2 := (Array.getElem?_eq_some_iff.1 HB2.out).1
  have hb3 : w3.heap[g]? = _ := (hg3.block g hlt2 (by simp; exact fun e => hgb e.symm)).trans HB2.out
  have hr3 := (AllR_apart_map HR2.out HO2.out).move (fun k hk hlt => hg3.block k hlt (fun e => hk.2 (by injection e)))
  have hk3 : Kp w w3 S := hk2.grown hg3 (fun k e => by injection e with e; subst e; exact hSb)
  have hs2 := hk2.size
  have hs3 := hg3.size
  have hr3' : AllR w3 (fun k => (S k ∨ w.heap.size ≤ k) ∧ k ≠ g ∧ k ≠ b) (.slice A l.length c) l := hr3.mono (fun k hk => ⟨.inl hk.1.1.1, hk.1.1.2, hk.2⟩)
  have hc30 : w3.cell? ⟨g, 0, none⟩ = some (.slice A l.length c) := (cell_of_blk hb3 0).trans rfl
  have HB3 := Lib.hid hb3
  have HR3 := Lib.hid hr3'
  have HO3 := Lib.hid ho3
  have HG3 := Lib.hid hg3
  have HK3 := Lib.hid hk3
  have HC := Lib.hid hc20
  clear hb3 hr3 hr3' ho3 hg3 hk3 hc20 hc21 hk hD hk2 HB2 HR2 HO2 HC
  go_wp2_with (at_builtin; refine Halt.mk ?_)
  refine Halt.of ?_
  refine AllR.append HR3.out (fun k hk => ⟨.inr (by omega), by omega, by omega⟩) rfl (.tmp 42) (.tmp 44) 22 rfl Try.underlying22 info_str s rfl rfl hlen ?_
  intro v4 w4 row hr4 hg4 hne
  obtain ⟨A4, c4, rfl⟩ := Kd.R_slice hr4
  have hlt3 := (Array.getElem?_eq_some_iff.1 HB3.out).1
  have hb4 : w4.heap[g]? = _ := (hg4.block g hlt3 (fun e => (hne g e.symm).2.1 rfl)).trans HB3.out
  have ho4 := HO3.out.kept hg4 (fun e => (hne b e.symm).2.2 rfl)
  have hk4 := HK3.out.grown hg4 (fun k e => (hne k e).1)
  have hc40 : w4.cell? ⟨g, 0, none⟩ = some (.slice A l.length c) := (cell_of_blk hb4 0).trans rfl
  have hf40 := unfrozen_of hb4 0
  have hll : (l ++ [s]).length = l.length + 1 := by simp
  rw [hll]
  have HB4 := Lib.hid hb4
  have HR4 := Lib.hid hr4
  have HO4 := Lib.hid ho4
  have HK4 := Lib.hid hk4
  have HNE := Lib.hid hne
  have hs4 := hg4.size
  have HLL := Lib.hid hll
  clear hb4 hr4 ho4 hk4 hne hg4 hll
  go_wp2_with fail
  go_ret2
  refine ⟨rfl, fun k => S k ∨ (w.heap.size ≤ k ∧ k < w4.heap.size), ⟨?_, .inl h.mem, ?_, ?_, ?_, _, _, blk_set HB4.out 0 _, ?_, .inr ⟨b, _, rfl, hSb.imp id (fun h => ⟨h, by omega⟩), ownsMap_tight (HO4.out.setCell (fun e => hgb e) _), HP.out.put HS.out (HO4.out.tidy law9)⟩⟩, fun k hk => hk.imp id (·.1), HK4.out.setCell (.inl h.mem) _⟩
  · intro k hk
    have := HK4.out.size
    show k < (w4.setCell _ _).heap.size
    have h1 : (w4.setCell ⟨g, 0, none⟩ (.slice A4 (l.length + 1) c4)).heap.size = w4.heap.size := by simp [World.setCell]
    rw [h1]
    rcases hk with hk | hk
    · have := h.lt k hk; omega
    · exact hk.2
  · have := tput_nodup s h.nodup
    rwa [tput_out HS.out] at this
  · rw [HLL.out]; omega
  · intro u hu
    rcases List.mem_append.1 hu with hu | hu
    · exact h.wide u hu
    · simp at hu; subst hu; exact HZ.out
  · rw [← HLL.out]
    exact .inl <| Kd.R_mono (Kd.R_bound (Kd.R_far HR4.out (fun k hk => hk.2.1) _)) (fun k hk => ⟨hk.1.1.imp id (fun h => ⟨h, by have := hk.2.2.1; simpa [World.setCell] using this⟩), hk.1.2.1⟩)
theorem put_any {w : World} {S : Nat → Prop} {g : Nat} {l : List ByteArray} (h : Tab w S g l) (s : ByteArray) (hsz : s.size ≤ maxLen) (hlen : l.length < 1000000) :
    Calls Try.prog 82 #[.pointer (some ⟨g, 0, none⟩), .string s] w fun e w' => e = .returned (.tuple #[.int .i64 (posOf l s : Int), .bool (!isIn l s)]) ∧ TabDone w w' S g (tput l s) := by
  by_cases hs : s ∈ l
  · refine (put_in h s hs).mono ?_
    rintro e w' ⟨rfl, rfl⟩
    rw [isIn_iff.2 hs, tput_in hs]
    exact ⟨rfl, S, h, fun k hk => .inl hk, Kp.refl _ _⟩
  · rw [posOf_none hs, isIn_ne.2 hs, tput_out hs]
    obtain ⟨allv, mv, hb, hr, hm⟩ := h.out
    rcases hm with ⟨rfl, hl0⟩ | ⟨b, D, rfl, hS, ho, hp⟩
    · exact put_nil hl0 h s hsz hb hr
    · exact put_new h s hs hsz hlen hb hr hS ho hp
end Go.Proofs.Ythpbkhagjgggjaa
