/- A table of texts is cut. -/
import Derived.Test.YthpbkhagjgggjaaTabC
set_option linter.unusedVariables false
set_option linter.unusedSimpArgs false
namespace Go.Proofs.Ythpbkhagjgggjaa
open Go.RowKit Go.Proofs.YthpbkhagjgggjaaW.PrintWords
open Go.Maps (Keyed)

/-- still there, while those from n to m are gone -/
def stillIn (l : List ByteArray) (n m : Nat) (s : ByteArray) : Bool := isIn l s && !(decide (n ≤ posOf l s) && decide (posOf l s < m))
/-- The map while it is cut. -/
structure PB (D : DataW Unit) (l : List ByteArray) (n m : Nat) : Prop where
  tidy : Maps.Tidy D
  size : Maps.size D + (m - n) ≤ l.length
  has : ∀ s, Maps.has D (litS s) = stillIn l n m s
  at_ : ∀ s, D.atKey (litS s) (.lit (.int .i64 0)) = .lit (.int .i64 (if stillIn l n m s then (posOf l s : Int) else 0))
theorem stillIn_start (l : List ByteArray) (n : Nat) (s : ByteArray) : stillIn l n n s = isIn l s := by
  unfold stillIn
  by_cases h : n ≤ posOf l s
  · have : ¬ posOf l s < n := by omega
    simp [h, this]
  · simp [h]
theorem PB.start {D : DataW Unit} {l : List ByteArray} (h : PlacesOk D l) (n : Nat) : PB D l n n :=
  ⟨h.tidy, by have := h.size; omega, fun s => by rw [stillIn_start]; exact h.has s, fun s => by rw [stillIn_start]; exact h.at_ s⟩
theorem PB.step {D : DataW Unit} {l : List ByteArray} (hn : l.Nodup) {n m : Nat} (h : PB D l n m) (hnm : n ≤ m) (hm : m < l.length) (ht : Maps.Tidy (D.del (litS l[m]))) : PB (D.del (litS l[m])) l n (m + 1) := by
  have hp := posOf_at hn m hm
  have hin : isIn l l[m] = true := isIn_iff.2 (List.getElem_mem hm)
  have hst : stillIn l n m l[m] = true := by unfold stillIn; rw [hin, hp]; simp
  have key : ∀ u, u ≠ l[m] → stillIn l n (m + 1) u = stillIn l n m u := by
    intro u hu
    unfold stillIn
    cases hi : isIn l u with
    | false => rfl
    | true =>
      have : posOf l u ≠ m := by
        intro e
        have h1 := posOf_get (isIn_iff.1 hi)
        rw [e, List.getElem?_eq_getElem hm] at h1
        exact hu (Option.some.inj h1).symm
      have e2 : decide (posOf l u < m + 1) = decide (posOf l u < m) := by
        rw [Bool.eq_iff_iff, decide_eq_true_eq, decide_eq_true_eq]; omega
      rw [e2]
  have key2 : stillIn l n (m + 1) l[m] = false := by
    unfold stillIn; rw [hin, hp]; simp [hnm]
  refine ⟨ht, ?_, fun u => ?_, fun u => ?_⟩
  · have h1 := Maps.size_del (k := litS l[m]) h.tidy
    rw [h.has, hst] at h1
    simp only [if_true] at h1
    have := h.size
    omega
  · by_cases e : u = l[m]
    · subst e; rw [Maps.has_del_same, key2]
    · rw [Maps.has_del_other (litS_ne e), h.has, key u e]
  · by_cases e : u = l[m]
    · subst e; rw [Maps.atKey_del_same, key2]; rfl
    · rw [Maps.atKey_del_other (litS_ne e), h.at_, key u e]
theorem stillIn_end (l : List ByteArray) (n : Nat) (s : ByteArray) : stillIn l n l.length s = isIn (l.take n) s := by
  rw [isIn_take]
  unfold stillIn
  cases hi : isIn l s with
  | false => rfl
  | true =>
    have h1 := posOf_lt (isIn_iff.1 hi)
    by_cases h : n ≤ posOf l s
    · have : ¬ posOf l s < n := by omega
      simp [h, h1, this]
    · have : posOf l s < n := by omega
      simp [h, this]
theorem PB.finish {D : DataW Unit} {l : List ByteArray} {n : Nat} (h : PB D l n l.length) (hn : n ≤ l.length) : PlacesOk D (l.take n) :=
  ⟨h.tidy, by have := h.size; rw [List.length_take]; omega, fun s => by rw [h.has, stillIn_end], fun s => by
    rw [h.at_, stillIn_end]
    cases hi : isIn (l.take n) s with
    | false => rfl
    | true => rw [posOf_take n (isIn_iff.1 hi)]⟩
/-- While the table is cut: the map has lost some. -/
def MapCut (w wr : World) (S : Nat → Prop) (mv : Value) (l : List ByteArray) (n m : Nat) : Prop :=
  Kp w wr (fun k => mv = .map (some k)) ∧ ((mv = .map none ∧ l = []) ∨ ∃ b D, mv = .map (some b) ∧ S b ∧ wr.ownsMap Try.prog 9 (plainElem (H := Unit) Try.prog 3) b (Maps.size D) D ∧ PB D l n m)
theorem MapCut.start {w : World} {S : Nat → Prop} {mv : Value} {l : List ByteArray} (h : MapAt w S mv l) (n : Nat) : MapCut w w S mv l n n :=
  ⟨Kp.refl _ _, h.imp id (fun ⟨b, D, e, hS, ho, hp⟩ => ⟨b, D, e, hS, ho, PB.start hp n⟩)⟩
theorem C_drop_at {w : World} {ad : Addr} {l : List ByteArray} {n : Nat} (h : Kd.C Kd.string w (some ad) l.length l) (i : Nat) (hi : n + i < l.length) : w.cell? ((ad.add n).add i) = some (.string l[n + i]) := by
  obtain ⟨ad', e, hcell⟩ := Kd.at_string h ((n + i : Nat) : Int) (by omega) (by omega)
  cases e
  rw [Int.toNat_natCast] at hcell
  rw [show (ad.add n).add i = ad.add (n + i) by unfold Addr.add; split <;> split <;> simp_all <;> omega, hcell]
  unfold rdOf
  rw [Int.toNat_natCast, List.getD_eq_getElem?_getD, List.getElem?_eq_getElem hi]
  rfl
theorem AllR.ok {W : World} {ok : Nat → Prop} {A : Option Addr} {c : Nat} {l : List ByteArray} (h : AllR W ok (.slice A l.length c) l) : ∀ a, A = some a → l ≠ [] → ok a.block := by
  intro a ha hl
  rcases h with h | ⟨A', e, h1, h2, h3⟩
  · exact h.1 a.block (by rw [ha]; rfl)
  · cases e; exact h3 a ha hl
theorem C_none {W : World} {l : List ByteArray} (h : Kd.C Kd.string W none l.length l) : l = [] := by
  cases l with
  | nil => rfl
  | cons x xs =>
    obtain ⟨ad, e, _⟩ := Kd.at_string h 0 (by omega) (by simp)
    cases e
/-- What is left when the map is cut, and the row is cut with it. -/
theorem cut_done {w wr : World} {S : Nat → Prop} {g : Nat} {l : List ByteArray} (h : Tab w S g l) {n : Nat} (hn : n ≤ l.length) {A : Option Addr} {c : Nat} {mv : Value} (hb : w.heap[g]? = some (.cells #[.slice A l.length c, mv] 128 (0, 0)))
    (hr : AllR w (fun k => S k ∧ k ≠ g) (.slice A l.length c) l) (hC : Kd.C Kd.string w A l.length l) (hm : MapCut w wr S mv l n l.length) (hmv : ∀ b, mv = .map (some b) → b ≠ g) (hms : ∀ b, mv = .map (some b) → S b ∧ ∀ c t fr, w.heap[b]? ≠ some (.cells c t fr)) :
    TabDone w (wr.setCell ⟨g, 0, none⟩ (.slice A n n)) S g (l.take n) := by
  obtain ⟨hk, hm⟩ := hm
  have hsz : (wr.setCell ⟨g, 0, none⟩ (.slice A n n)).heap.size = wr.heap.size := by simp [World.setCell]
  have hln : (l.take n).length = n := by rw [List.length_take]; omega
  have hne : ∀ a, A = some a → l ≠ [] → (S a.block ∧ a.block ≠ g) ∧ (wr.setCell ⟨g, 0, none⟩ (.slice A n n)).heap[a.block]? = w.heap[a.block]? := by
    intro a ha hl
    obtain ⟨h1, h2, cc, tt, fr, h3⟩ := hr.typed.ok a ha hl
    exact ⟨h1, (Below.heap_setCell wr ⟨g, 0, none⟩ _ a.block h1.2).trans (hk.block a.block h2 (fun e => (hms _ e).2 cc tt fr h3))⟩
  refine ⟨S, ⟨fun k hk' => by rw [hsz]; exact Nat.lt_of_lt_of_le (h.lt k hk') hk.size, h.mem, take_nodup n h.nodup, by rw [hln]; have := h.len; omega, fun s hs => h.wide s (List.mem_of_mem_take hs), .slice A n n, mv, ?_, ?_, ?_⟩, fun k hk => .inl hk, ?_⟩
  · have := blk_set (hk.heap hb (fun e => hmv g e rfl)) 0 (.slice A n n)
    simpa using this
  · have hC2 : Kd.C Kd.string (wr.setCell ⟨g, 0, none⟩ (.slice A n n)) A l.length l := C_move (d := Kd.string) (W := w) (fun h => h) hC (fun a ha hl => (hne a ha hl).2)
    have hC3 := Kd.C_take (m := n) hC2 (by omega)
    refine .inr ⟨A, by rw [hln], fun e => ?_, hC3, fun a ha hl => (hne a ha (fun e => hl (by rw [e]; simp))).1⟩
    subst e
    rw [C_none hC]; simp
  · rcases hm with ⟨e, hl⟩ | ⟨b, D, e, hS, ho, hp⟩
    · exact .inl ⟨e, by rw [hl]; simp⟩
    · exact .inr ⟨b, D, e, hS, ho.setCell (fun e2 => hmv b e e2) _, hp.finish hn⟩
  · exact (hk.mono (fun k e => (hms k e).1)).setCell (.inl h.mem) _
set_option maxHeartbeats 1000000 in
set_option maxRecDepth 100000 in
theorem cut_any {w : World} {S : Nat → Prop} {g : Nat} {l : List ByteArray} (h : Tab w S g l) (n : Nat) (hn : n ≤ l.length) :
    Calls Try.prog 83 #[.pointer (some ⟨g, 0, none⟩), .int .i64 (n : Int)] w fun e w' => e = .returned (.tuple #[]) ∧ TabDone w w' S g (l.take n) := by
  obtain ⟨allv, mv, hb, hr, hm⟩ := h.out
  obtain ⟨A, c, rfl, hlc, hC⟩ := hr.slice
  have hlen := h.len
  have hc0 : w.cell? ⟨g, 0, none⟩ = some (.slice A l.length c) := (cell_of_blk hb 0).trans rfl
  have hc1 : w.cell? ⟨g, 1, none⟩ = some mv := (cell_of_blk hb 1).trans rfl
  have hf0 := unfrozen_of hb 0
  have hmv : ∀ b, mv = .map (some b) → b ≠ g := by
    intro b e
    rcases hm with ⟨e2, _⟩ | ⟨b', D, e2, _, ⟨es, clock, hh, _⟩, _⟩
    · rw [e2] at e; cases e
    · rw [e2] at e; cases e
      rintro rfl
      rw [hb] at hh; cases hh
  have hms : ∀ b, mv = .map (some b) → S b ∧ ∀ c t fr, w.heap[b]? ≠ some (.cells c t fr) := by
    intro b e
    rcases hm with ⟨e2, _⟩ | ⟨b', D, e2, hS, ⟨es, clock, hh, _⟩, _⟩
    · rw [e2] at e; cases e
    · rw [e2] at e; cases e
      exact ⟨hS, fun c t fr e => by rw [hh] at e; cases e⟩
  have HMC := Lib.hid (MapCut.start hm n)
  have HMS := Lib.hid hms
  have HB := Lib.hid hb
  have HR := Lib.hid hr
  have HC := Lib.hid hC
  have HMV := Lib.hid hmv
  have HH := Lib.hid h
  clear hb hr hm hC hmv hms h
  by_cases hnl : n = l.length
  · subst hnl
    go_enter Try.func83, Try.ntmps83
    go_wp2_with fail
    all_goals
      go_loopw [13] (fun u13 wr => u13 = .int .i64 0 ∧ wr = w) (fun _ _ => 0)
      case atStart => exact ⟨rfl, rfl⟩
      case round =>
        obtain ⟨rfl, rfl⟩ := hrel
        go_wp2_with fail
        go_end0
        exact ⟨rfl, cut_done HH.out hn HB.out HR.out HC.out HMC.out HMV.out HMS.out⟩
  · have hnl2 : n < l.length := by omega
    have hcn : ¬ c = n := by omega
    obtain ⟨ad, had, _⟩ := Kd.at_string HC.out (n : Int) (by omega) (by omega)
    subst had
    obtain ⟨b, hb⟩ : ∃ b, mv = .map (some b) := by
      rcases HMC.out.2 with ⟨_, e⟩ | ⟨b, _, e, _⟩
      · rw [e] at hnl2; simp at hnl2
      · exact ⟨b, e⟩
    subst hb
    obtain ⟨d, hd⟩ : ∃ d, n + d = l.length := ⟨l.length - n, by omega⟩
    have hbg := HMV.out b rfl
    go_enter Try.func83, Try.ntmps83
    go_wp2_with fail
    go_loopw [13] (fun u13 wr => ∃ i : Nat, n + i ≤ l.length ∧ u13 = .int .i64 i ∧ Hid (MapCut w wr S (.map (some b)) l n (n + i))) (fun v _ => l.length - (intOf v).toNat)
    case atStart => exact ⟨0, by omega, rfl, HMC⟩
    case round =>
      obtain ⟨i, hi, rfl, hrel⟩ := hrel
      obtain ⟨hk, hm⟩ := hrel.out
      rcases hm with ⟨e, _⟩ | ⟨b', D, e, hSb, ho, hp⟩
      · cases e
      cases e
      have hb3 := hk.heap HB.out (fun e => hbg (by cases e; rfl))
      have hc20 : wr.cell? ⟨g, 0, none⟩ = some (.slice (some ad) l.length c) := (cell_of_blk hb3 0).trans rfl
      have hc21 : wr.cell? ⟨g, 1, none⟩ = some (.map (some b)) := (cell_of_blk hb3 1).trans rfl
      have hf20 := unfrozen_of hb3 0
      clear hb3
      by_cases hlt : n + i < l.length
      · have hC2 : Kd.C Kd.string wr (some ad) l.length l := by
          refine C_move (d := Kd.string) (W := w) (fun h => h) HC.out (fun a ha hl => ?_)
          obtain ⟨h1, h2, cc, tt, fr, h3⟩ := HR.out.typed.ok a ha hl
          exact hk.block a.block h2 (fun e => (HMS.out _ e).2 cc tt fr h3)
        have hcell := C_drop_at hC2 i hlt
        have hsz := HH.out.wide l[n + i] (List.getElem_mem _)
        have hkey := WideMaps.keyOf_string_mk (P := Try.prog) Try.underlying9 hsz
        have HPB := Lib.hid (fun ht => PB.step (HH.out.nodup) hp (by omega) hlt ht)
        obtain ⟨s, hs⟩ : ∃ s, l[n + i] = s := ⟨_, rfl⟩
        rw [hs] at hcell hkey HPB
        have HKE := Lib.hid hkey
        have HO := Lib.hid ho
        have HK := Lib.hid hk
        clear hs hsz hkey hp ho hk hrel hC2
        have hdi : i < d := by omega
        go_wp2_with (at_delete; refine Halt.mk ?_)
        refine Halt.of ?_
        refine wpList_delete_own _ rfl (.tmp 20) (.tmp 21) 124 9 rfl 3 law9 Try.underlying124 _ b _ D rfl HO.out (.string s) (litS s) rfl HKE.out ?_
        intro w2 ho2 ht2
        have hN : MapCut w w2 S (.map (some b)) l n (n + (i + 1)) := ⟨HK.out.grown ht2.grown (fun k e => .inl (by cases e; rfl)), .inr ⟨b, _, rfl, hSb, ownsMap_tight ho2, HPB.out (ho2.tidy law9)⟩⟩
        have HN := Lib.hid hN
        clear hN ho2 ht2
        go_wp2
        go_roundw
        case rel => exact ⟨i + 1, by omega, by go_num, HN⟩
        case measure => simp [intOf]; omega
      · obtain rfl : i = d := by omega
        rw [hd] at hrel
        clear hk hp ho
        go_wp2_with fail
        go_end0
        exact ⟨rfl, cut_done HH.out hn HB.out HR.out HC.out hrel.out HMV.out HMS.out⟩
/-- how many are left -/
def cutN (l : List ByteArray) (n : Int) : Nat := min n.toNat l.length
attribute [local go_sem] Go.Proofs.YthpbkhagjgggjaaW.PrintMore.max2_int Go.Proofs.YthpbkhagjgggjaaW.PrintMore.min2_int
set_option maxHeartbeats 1000000 in
set_option maxRecDepth 100000 in
theorem Cut_any {w : World} {S : Nat → Prop} {g : Nat} {l : List ByteArray} (h : Tab w S g l) (n : Int) (hn : -9223372036854775808 ≤ n ∧ n ≤ 9223372036854775807) :
    Calls Try.prog 34 #[.pointer (some ⟨g, 0, none⟩), .int .i64 n] w fun e w' => e = .returned (.tuple #[]) ∧ TabDone w w' S g (l.take (cutN l n)) := by
  have hlen := h.len
  have hT := h.keep (Kp.refl w (fun _ => False)).drew (fun _ _ h => h)
  have HT := Lib.hid hT
  obtain ⟨m, hm, HM⟩ : ∃ m : Nat, (if n < 0 then 0 else n) = (m : Int) ∧ Hid (m = n.toNat) := by
    split
    · exact ⟨0, rfl, Lib.hid (by omega)⟩
    · exact ⟨n.toNat, by omega, Lib.hid rfl⟩
  obtain ⟨k, hk, HKN⟩ : ∃ k : Nat, (if l.length < m then (l.length : Int) else (m : Int)) = (k : Int) ∧ Hid (k = cutN l n) := by
    have := HM.out
    unfold cutN
    split
    · exact ⟨l.length, rfl, Lib.hid (by omega)⟩
    · exact ⟨m, rfl, Lib.hid (by omega)⟩
  have hkl : k ≤ l.length := by have := HKN.out; unfold cutN at this; omega
  clear hT h
  go_enter Try.func34, Try.ntmps34
  go_wp2_with fail
  go_still_tail 8, (by kernel_rfl)
  change wpStill _ _ w.drew _ _ _
  have hk2 : Kp w w.drew (fun _ => False) := (Kp.refl _ _).drew
  have HK2 := Lib.hid hk2
  clear hk2
  refine wpStill_step (fun K hK => ?_)
  go_simp
  refine ⟨_, (len_any HT.out).mono (fun e w' h => ⟨h.1, h.2.symm⟩), hK _ ?_⟩
  clear hK K
  repeat still_step
  refine wpStill_nil ?_
  go_wp2_with fail
  refine (cut_any HT.out k hkl).mono ?_
  rintro e w3 ⟨rfl, hd⟩
  rw [HKN.out] at hd
  have HD := Lib.hid hd
  clear hd
  go_wp2_with fail
  go_end0
  refine ⟨rfl, ?_⟩
  obtain ⟨S', h1, h2, h3⟩ := HD.out
  have hs := HK2.out.size
  exact ⟨S', h1, fun k hk => (h2 k hk).imp id (fun h => by omega), (HK2.out.mono (fun _ h => h.elim)).trans h3 (fun k hk => .inl hk)⟩
end Go.Proofs.Ythpbkhagjgggjaa
