/- Whatever is asked for, cut or copied, a table has and answers what the document says: the law InternPlays returns true, and writes nothing that was there. -/
import Derived.Test.YthpbkhagjgggjaaWInternOne
import Derived.Test.YthpbkhagjgggjaaGRRx3
set_option linter.unusedVariables false
set_option linter.unusedSimpArgs false
namespace Go.Proofs.Ythpbkhagjgggjaa
open Go.RowKit Go.Proofs.YthpbkhagjgggjaaW.PrintWords Go.Proofs.Ythpbkhagjgggjaa.WInternOne Go.Proofs.Ythpbkhagjgggjaa.GRR

set_option maxHeartbeats 1000000 in
theorem same7_any {w : World} {S : Nat → Prop} {g : Nat} {l : List ByteArray} (h : Tab w S g l) (B : Option Addr) (cb : Nat) (hs : Kd.C Kd.string w B l.length l) (hsc : l.length ≤ cb) :
    Calls Try.prog 37 #[.pointer (some ⟨g, 0, none⟩), .slice B l.length cb] w fun e w' => e = .returned (.bool true) ∧ w = w' := by
  have hlen := h.len
  have HS := Lib.hid hs
  have HT := Lib.hid h
  have HLN := Lib.hid (len_any h)
  have HTI := Lib.hid (fun i hi => text_in h i hi)
  have HFI := Lib.hid (fun s hs => find_any h s (h.wide s hs))
  have HT1 := Lib.hid (text_out h (l.length : Int) (by omega))
  have HT2 := Lib.hid (text_out h (9223372036854775808 : Int) (by omega))
  clear h hs
  go_enter Try.func37, Try.ntmps37
  go_wp2_with fail
  refine HLN.out.mono ?_
  rintro e w2 ⟨rfl, rfl⟩
  go_wp2_with fail
  go_loopw [22] (fun u22 wr => ∃ (i : Nat), i ≤ l.length ∧ u22 = .int .i64 i ∧ w = wr) (fun v _ => l.length - (intOf v).toNat)
  case atStart => exact ⟨0, by omega, rfl, rfl⟩
  case round =>
    obtain ⟨i, hi, rfl, hwr⟩ := hrel
    subst hwr
    by_cases hlt : i < l.length
    · obtain ⟨ad, had, _⟩ := Kd.at_string HS.out (i : Int) (by omega) (by omega)
      subst had
      have hcell := C_at HS.out i hlt
      have h1 := HTI.out i hlt
      have h2 := HFI.out l[i] (List.getElem_mem _)
      rw [isIn_iff.2 (List.getElem_mem _), show atI l l[i] = (i : Int) by unfold atI; rw [isIn_iff.2 (List.getElem_mem _), posOf_at HT.out.nodup i hlt]; rfl] at h2
      obtain ⟨s, hs⟩ : ∃ s, l[i] = s := ⟨_, rfl⟩
      rw [hs] at hcell h1 h2
      have H1 := Lib.hid h1
      have H2 := Lib.hid h2
      clear h1 h2 hs
      go_wp2_with fail
      refine H1.out.mono ?_
      rintro e w2 ⟨rfl, rfl⟩
      go_wp2_with fail
      refine H2.out.mono ?_
      rintro e w2 ⟨rfl, rfl⟩
      go_wp2
      go_roundw
      case rel => exact ⟨i + 1, by omega, by go_num, trivial⟩
      case measure => simp [intOf]; omega
    · obtain rfl : i = l.length := by omega
      go_wp2_with fail
      refine HT1.out.mono ?_
      rintro e w2 ⟨rfl, rfl⟩
      go_wp2_with fail
      refine HT2.out.mono ?_
      rintro e w2 ⟨rfl, rfl⟩
      go_wp2_with fail
      go_ret
      exact ⟨rfl, rfl⟩
/-- The document's place. -/
def posI (l : List ByteArray) (s : ByteArray) : Int := if isIn l s then (posOf l s : Int) else -1
theorem place_l0 (l : List ByteArray) (hl : l.length ≤ 1000000) (s : ByteArray) : ∀ (d i k : Nat), l.length = i + d → d < k → s ∉ l.take i → tephraref07_Place.l0 k l s (i : Int) = some (posI l s) := by
  intro d
  induction d with
  | zero =>
    intro i k hi hk hn
    obtain ⟨k, rfl⟩ : ∃ m, k = m + 1 := ⟨k - 1, by omega⟩
    simp only [tephraref07_Place.l0]
    rw [if_neg (by omega)]
    rw [List.take_of_length_le (by omega)] at hn
    unfold posI; rw [isIn_ne.2 hn]; rfl
  | succ d ih =>
    intro i k hi hk hn
    obtain ⟨k, rfl⟩ : ∃ m, k = m + 1 := ⟨k - 1, by omega⟩
    have hlt : i < l.length := by omega
    have hz : rdOf ByteArray.empty l (i : Int) = l[i] := by simp [rdOf, hlt]
    simp only [tephraref07_Place.l0]
    rw [if_pos (by omega), if_pos (by omega), hz, Lib.toList_data, Lib.toList_data]
    by_cases e : l[i].data.toList = s.data.toList
    · rw [if_pos e]
      have e2 : l[i] = s := ByteArray.ext (Array.ext' e)
      have hm : s ∈ l := by rw [← e2]; exact List.getElem_mem _
      unfold posI
      rw [isIn_iff.2 hm, if_pos rfl]
      congr 1
      have h1 : l = l.take i ++ l.drop i := (List.take_append_drop i l).symm
      have h2 : posOf l s = (l.take i).length + posOf (l.drop i) s := by
        conv => lhs; rw [h1]
        exact posOf_app_not hn
      rw [List.length_take, List.drop_eq_getElem_cons hlt, e2] at h2
      have h3 : posOf (s :: l.drop (i + 1)) s = 0 := by unfold posOf; rw [List.findIdx_cons, sEq_refl]; rfl
      rw [h3] at h2
      omega
    · rw [if_neg e]
      have hw : wrap64 ((i : Int) + 1) = ((i + 1 : Nat) : Int) := by unfold wrap64; omega
      rw [hw]
      refine ih (i + 1) k (by omega) (by omega) ?_
      rw [List.take_succ_eq_append_getElem hlt, List.mem_append, List.mem_singleton]
      rintro (h | h)
      · exact hn h
      · exact e (by rw [h])
theorem place_is (l : List ByteArray) (hl : l.length ≤ 1000000) (s : ByteArray) (k : Nat) (hk : l.length < k) : tephraref07_Place.f k l s = some (posI l s) := by
  unfold tephraref07_Place.f
  exact place_l0 l hl s l.length 0 k (by omega) hk (by simp)
theorem posI_ge (l : List ByteArray) (s : ByteArray) : posI l s ≥ 0 ↔ s ∈ l := by
  unfold posI
  cases h : isIn l s with
  | true => simp; exact isIn_iff.1 h
  | false => simp; exact isIn_ne.1 h
theorem rput_is (l : List ByteArray) (hl : l.length ≤ 1000000) (s : ByteArray) (k : Nat) (hk : l.length < k) : tephraref07_Put.f k l s = some (tput l s) := by
  unfold tephraref07_Put.f
  rw [place_is l hl s k hk]
  simp only [Option.bind_some, List.nil_append, List.length_nil]
  by_cases hs : s ∈ l
  · rw [if_pos ((posI_ge l s).2 hs), tput_in hs]
  · rw [if_neg (fun h => hs ((posI_ge l s).1 h)), if_pos (by omega), if_pos (by omega), tput_out hs]
theorem rnew_is (ts : List ByteArray) (hl : ts.length ≤ 1000) : ∀ (d i k : Nat), ts.length = i + d → 2000 + d < k → tephraref07_New.l0 k ts (tnew (ts.take i)) (i : Int) = some (tnew ts) := by
  intro d
  induction d with
  | zero =>
    intro i k hi hk
    obtain ⟨k, rfl⟩ : ∃ m, k = m + 1 := ⟨k - 1, by omega⟩
    simp only [tephraref07_New.l0]
    rw [if_neg (by omega), List.take_of_length_le (by omega)]
  | succ d ih =>
    intro i k hi hk
    obtain ⟨k, rfl⟩ : ∃ m, k = m + 1 := ⟨k - 1, by omega⟩
    have hlt : i < ts.length := by omega
    have hz : rdOf ByteArray.empty ts (i : Int) = ts[i] := by simp [rdOf, hlt]
    have hln := tnew_len (ts.take i)
    rw [List.length_take] at hln
    simp only [tephraref07_New.l0]
    rw [if_pos (by omega), if_pos (by omega), hz, rput_is _ (by omega) _ _ (by omega)]
    simp only [Option.bind_some]
    have hw : wrap64 ((i : Int) + 1) = ((i + 1 : Nat) : Int) := by unfold wrap64; omega
    rw [hw, ← tnew_take ts i hlt]
    exact ih (i + 1) k (by omega) (by omega)
theorem rcut_is (l : List ByteArray) (n : Int) : tephraref07_Cut.f l n = some (l.take (cutN l n)) := by
  unfold tephraref07_Cut.f cutN
  split
  · rw [if_neg (by omega), if_pos (by omega)]
    have : min n.toNat l.length = 0 := by omega
    rw [this]; rfl
  · split
    · rw [List.take_of_length_le (by omega)]
    · rw [if_pos (by omega), if_pos (by omega)]
      have : min n.toNat l.length = n.toNat := by omega
      rw [this]
/-- An act: its kind, its text, its number. -/
abbrev Act7 := Int × ByteArray × Int
def kdAct : Kd Act7 := Kd.pair (Kd.int .i64) (Kd.pair Kd.string (Kd.int .i64))
def okAct (a : Act7) : Prop := (Lit.int .i64 a.1).wf = true ∧ a.2.1.size ≤ maxLen ∧ (Lit.int .i64 a.2.2).wf = true
theorem cellsOf_int : Try.prog.cellsOf 3 = 1 := by kernel_rfl
theorem cellsOf_act : Try.prog.cellsOf 62 = 3 := by kernel_rfl
theorem cellsOf_acts : Try.prog.cellsOf 58 = 1 := by kernel_rfl
theorem opens_int3 : Opens Try.prog 3 (Kd.int .i64) (fun n => (Lit.int .i64 n).wf = true) := opens_int Try.underlying3 cellsOf_int
theorem opens_act : Opens Try.prog 62 kdAct okAct := opens_struct3 Try.underlying62 rfl rfl rfl opens_int3 opens_str opens_int3 cellsOf_act
set_option maxRecDepth 100000 in
theorem open_t58 {H : Type} {enc : TypeId × Value → H} {W : World} {base : Nat} {held : Bool} {v : Value} {d : DataW H} {ps : List MemPlace} {r : Reach} {b0 : Nat} (hval : Value.okWide Try.prog W r b0 58 v) (h : DataW.Trod enc Try.prog W base (fun _ => true) held 58 v d ps) :
    ∃ x, IsRows kdAct okAct W v x := open_rows Try.underlying58 cellsOf_acts opens_act hval h
theorem act_at {w : World} {A : Option Addr} {l : List Act7} (h : Kd.C kdAct w A l.length l) (i : Nat) (hi : i < l.length) :
    ∃ ad, A = some ad ∧ w.cell? (ad.add (i * 3)) = some (.int .i64 l[i].1) ∧ w.cell? ⟨(ad.add (i * 3)).block, (ad.add (i * 3)).off + 1, none⟩ = some (.string l[i].2.1) ∧ w.cell? ⟨(ad.add (i * 3)).block, (ad.add (i * 3)).off + 2, none⟩ = some (.int .i64 l[i].2.2) := by
  obtain ⟨ad, e, hc⟩ := h.2.2 (by omega)
  obtain ⟨c, _, ⟨c0, c1, rfl, h0, ⟨c2, c3, rfl, h1, h2⟩⟩, hcell⟩ := hc i l[i] (by rw [List.getElem?_eq_getElem hi])
  have h0' : c0 = [.int .i64 l[i].1] := h0
  have h1' : c2 = [.string l[i].2.1] := h1
  have h2' : c3 = [.int .i64 l[i].2.2] := h2
  subst h0' h1' h2'
  have e3 : kdAct.sz = 3 := rfl
  rw [e3] at hcell
  refine ⟨ad, e, ?_, ?_, ?_⟩
  · have := hcell 0 _ rfl
    rwa [Nat.add_zero] at this
  · have := hcell 1 _ rfl
    rwa [add_field _ _ _ (by omega)] at this
  · have := hcell 2 _ rfl
    rwa [add_field _ _ _ (by omega)] at this
/-- A table, and the document's list, beside each other. -/
def Play (w W : World) (g : Nat) (l : List ByteArray) (v : Value) : Prop :=
  ∃ S, Tab W S g l ∧ (∀ k, S k → w.heap.size ≤ k) ∧ Below w.heap.size w W ∧ Kd.R Kd.string 9 W w.heap.size (fun k => ¬ S k) v l
theorem Play.below {w W : World} {g : Nat} {l : List ByteArray} {v : Value} (h : Play w W g l v) : Below w.heap.size w W := h.choose_spec.2.2.1
theorem Play.later {w W W' : World} {g : Nat} {l : List ByteArray} {v : Value} (h : Play w W g l v) (hb : Below W.heap.size W W') : Play w W' g l v := by
  obtain ⟨S, h1, h2, h3, h4⟩ := h
  exact ⟨S, h1.keep (Kp.of_below hb (fun _ => False)) (fun _ _ h => h), h2, h3.trans (hb.mono h3.size), Kd.R_below h4 hb⟩
/-- the table was written -/
theorem Play.wrote {w W W' : World} {S : Nat → Prop} {g : Nat} {l l2 : List ByteArray} {v : Value} (hT : Tab W S g l) (hS : ∀ k, S k → w.heap.size ≤ k) (hB : Below w.heap.size w W) (hR : Kd.R Kd.string 9 W w.heap.size (fun k => ¬ S k) v l2) (hd : TabDone W W' S g l2) : Play w W' g l2 v := by
  obtain ⟨S', h1, h2, h3⟩ := hd
  refine ⟨S', h1, fun k hk => (h2 k hk).elim (hS k) (fun h => Nat.le_trans hB.size h), ((Kp.of_below hB S).trans h3 (fun k hk => .inl hk)).to_below hS, ?_⟩
  have hR2 := Kd.R_step (w1 := W') (Kd.R_bound hR) (fun k hk hlt => h3.block k hlt hk.1)
  exact Kd.R_mono hR2 (fun k hk hk' => (h2 k hk').elim hk.1 (fun h => by have := hk.2.2.1; omega))
/-- .. while an act's box lies at bx. -/
structure PlayB (w W : World) (S : Nat → Prop) (g : Nat) (l l2 : List ByteArray) (v : Value) (bx : Nat) (x : Act7) : Prop where
  tab : Tab W S g l
  base : ∀ k, S k → w.heap.size ≤ k
  below : Below w.heap.size w W
  row : Kd.R Kd.string 9 W w.heap.size (fun k => ¬ S k ∧ k ≠ bx) v l2
  box : W.heap[bx]? = some (.cells #[.int .i64 x.1, .string x.2.1, .int .i64 x.2.2] 62 (0, 0))
  nS : ¬ S bx
  le : w.heap.size ≤ bx
theorem PlayB.start {w W : World} {S : Nat → Prop} {g : Nat} {l : List ByteArray} {v : Value} {x : Act7} (hT : Tab W S g l) (hS : ∀ k, S k → w.heap.size ≤ k) (hB : Below w.heap.size w W) (hR : Kd.R Kd.string 9 W w.heap.size (fun k => ¬ S k) v l) :
    PlayB w (W.alloc (.cells #[.int .i64 x.1, .string x.2.1, .int .i64 x.2.2] 62)) S g l l v W.heap.size x :=
  ⟨hT.keep ((Kp.refl W (fun _ => False)).alloc _) (fun _ _ h => h), hS, hB.alloc hB.size _, Kd.R_below (Kd.R_mono (Kd.R_bound hR) (fun k hk => ⟨hk.1, by have := hk.2.2.1; omega⟩)) ((Below.refl _ _).alloc (Nat.le_refl _) _), heap_new W _, fun h => by have := hT.lt _ h; omega, hB.size⟩
section
variable {w W W' : World} {S : Nat → Prop} {g bx : Nat} {l l2 l3 : List ByteArray} {v v' : Value} {x : Act7}
theorem PlayB.done (h : PlayB w W S g l l v bx x) : Play w W g l v := ⟨S, h.tab, h.base, h.below, Kd.R_mono h.row (fun _ hk => hk.1)⟩
theorem PlayB.later (h : PlayB w W S g l l2 v bx x) (hb : Below W.heap.size W W') : PlayB w W' S g l l2 v bx x :=
  ⟨h.tab.keep (Kp.of_below hb (fun _ => False)) (fun _ _ h => h), h.base, h.below.trans (hb.mono h.below.size), Kd.R_below h.row hb, blk_below h.box hb, h.nS, h.le⟩
theorem PlayB.wrote (h : PlayB w W S g l l2 v bx x) (hd : TabDone W W' S g l3) : ∃ S', PlayB w W' S' g l3 l2 v bx x := by
  obtain ⟨S', h1, h2, h3⟩ := hd
  have hlt := (Array.getElem?_eq_some_iff.1 h.box).1
  refine ⟨S', h1, fun k hk => (h2 k hk).elim (h.base k) (fun h' => Nat.le_trans h.below.size h'), ((Kp.of_below h.below S).trans h3 (fun k hk => .inl hk)).to_below h.base, ?_, h3.heap h.box h.nS, fun hk => (h2 _ hk).elim h.nS (fun h' => by omega), h.le⟩
  have hR2 := Kd.R_step (w1 := W') (Kd.R_bound h.row) (fun k hk hlt => h3.block k hlt hk.1.1)
  exact Kd.R_mono hR2 (fun k hk => ⟨fun hk' => (h2 k hk').elim hk.1.1 (fun h' => by have := hk.2.2.1; omega), hk.1.2⟩)
theorem PlayB.listed (h : PlayB w W S g l l2 v bx x) (hR : Kd.R Kd.string 9 W' w.heap.size (fun k => (¬ S k ∧ k ≠ bx) ∨ W.heap.size ≤ k) v' l3) (hb : Below w.heap.size w W') (hk : Kept W W' (fun k => ¬ S k ∧ k ≠ bx)) : PlayB w W' S g l l3 v' bx x := by
  have hlt := (Array.getElem?_eq_some_iff.1 h.box).1
  have hK : Kp W W' (fun k => ¬ S k ∧ k ≠ bx) := ⟨hb.os.trans h.below.os.symm, hb.tape.trans h.below.tape.symm, hb.output.trans h.below.output.symm, hk.1, hk.2⟩
  exact ⟨h.tab.keep hK (fun k h h' => h'.1 h), h.base, hb, Kd.R_mono hR (fun k hk => hk.elim id (fun h' => ⟨fun hs => by have := h.tab.lt k hs; omega, by omega⟩)), hK.heap h.box (fun h => h.2 rfl), h.nS, h.le⟩
end
/-- A table goes on with its copy, while the other one is changed. -/
structure PlayC (w W : World) (S So : Nat → Prop) (g go : Nat) (l lo : List ByteArray) (v : Value) : Prop where
  tab : Tab W S g l
  old : Tab W So go lo
  apart : ∀ k, So k → ¬ S k
  base : ∀ k, S k → w.heap.size ≤ k
  baseo : ∀ k, So k → w.heap.size ≤ k
  below : Below w.heap.size w W
  row : Kd.R Kd.string 9 W w.heap.size (fun k => ¬ S k ∧ ¬ So k) v l
theorem PlayC.start {w W W' : World} {S : Nat → Prop} {g g2 bx : Nat} {l : List ByteArray} {v : Value} {x : Act7} (h : PlayB w W S g l l v bx x) (hn : NewTab W W' g2 l) : ∃ S2, PlayC w W' S2 S g2 g l l v := by
  obtain ⟨S2, h1, h2, h3⟩ := hn
  have hl := h.later h3
  refine ⟨S2, h1, hl.tab, fun k hk hk' => by have := h.tab.lt k hk; have := h2 k hk'; omega, fun k hk => Nat.le_trans h.below.size (h2 k hk), h.base, hl.below, ?_⟩
  exact Kd.R_below (Kd.R_mono (Kd.R_bound h.row) (fun k hk => ⟨fun hk' => by have := h2 k hk'; have := hk.2.2.1; omega, hk.1.1⟩)) h3
theorem PlayC.wrote {w W W' : World} {S So : Nat → Prop} {g go : Nat} {l lo lo2 : List ByteArray} {v : Value} (h : PlayC w W S So g go l lo v) (hd : TabDone W W' So go lo2) : ∃ So', PlayC w W' S So' g go l lo2 v := by
  obtain ⟨S', h1, h2, h3⟩ := hd
  refine ⟨S', h.tab.keep h3 (fun k hk hk' => h.apart k hk' hk), h1, fun k hk hk' => (h2 k hk).elim (fun h' => h.apart k h' hk') (fun h' => by have := h.tab.lt k hk'; omega), h.base, fun k hk => (h2 k hk).elim (h.baseo k) (fun h' => Nat.le_trans h.below.size h'), ((Kp.of_below h.below So).trans h3 (fun k hk => .inl hk)).to_below h.baseo, ?_⟩
  have hR2 := Kd.R_step (w1 := W') (Kd.R_bound h.row) (fun k hk hlt => h3.block k hlt hk.1.2)
  exact Kd.R_mono hR2 (fun k hk => ⟨hk.1.1, fun hk' => (h2 k hk').elim hk.1.2 (fun h' => by have := hk.2.2.1; omega)⟩)
theorem PlayC.done {w W : World} {S So : Nat → Prop} {g go : Nat} {l lo : List ByteArray} {v : Value} (h : PlayC w W S So g go l lo v) : Play w W g l v := ⟨S, h.tab, h.base, h.below, Kd.R_mono h.row (fun _ hk => hk.1)⟩
end Go.Proofs.Ythpbkhagjgggjaa
namespace Go.Proofs.Ythpbkhagjgggjaa.WInternPlays
open Go.RowKit Go.Proofs.YthpbkhagjgggjaaW.PrintWords Go.Proofs.Ythpbkhagjgggjaa.WInternOne Go.Proofs.Ythpbkhagjgggjaa.GRR
set_option maxHeartbeats 4000000 in
set_option maxRecDepth 100000 in
theorem main (B0 B1 : Option Addr) (c0 c1 : Nat) (ts : List ByteArray) (acts : List Act7) (w : World) (hs : Kd.C Kd.string w B0 ts.length ts) (hsc : ts.length ≤ c0) (hsz : ∀ s ∈ ts, s.size ≤ maxLen) (hle : ts.length ≤ 60)
    (ha : Kd.C kdAct w B1 acts.length acts) (hac : acts.length ≤ c1) (hao : ∀ a ∈ acts, okAct a) (hal : acts.length ≤ 60) :
    Calls Try.prog 7 #[.slice B0 ts.length c0, .slice B1 acts.length c1] w fun e w' => e = .returned (.bool true) ∧ Below w.heap.size w w' := by
  have HS := Lib.hid hs
  have HN := Lib.hid (new_any B0 c0 ts w hs hsc hsz (by omega))
  have HA := Lib.hid ha
  have HAO := Lib.hid hao
  have HRN := Lib.hid (rnew_is ts (by omega) ts.length 0 4000 (by omega) (by omega))
  clear hs hsz ha hao
  have hd0 : decide (60 < (ts.length : Int)) = false := decide_eq_false (by omega)
  have hd1 : decide (60 < (acts.length : Int)) = false := decide_eq_false (by omega)
  go_enter Try.func7, Try.ntmps7
  go_wp2_with fail
  refine HN.out.mono ?_
  rintro e w1 ⟨rfl, hd⟩
  clear HN
  generalize w.heap.size = g at hd ⊢
  obtain ⟨S, hT, hS, hB⟩ := hd.out
  have HT := Lib.hid hT
  have HSS := Lib.hid hS
  have HB := Lib.hid hB
  have HRC := Lib.hid (fun k (r : List ByteArray) h => tephraref07_New.calls k B0 c0 ts r w1 (Kd.C_below HS.out hB) hsc h)
  clear hd hT hS hB
  go_wp2_with fail
  refine (HRC.out 4000 (tnew ts) HRN.out).mono ?_
  rintro e w2 ⟨v, rfl, hR, hB2⟩
  have hP : Play w w2 g (tnew ts) v := by
    refine ⟨S, HT.out.keep (Kp.of_below hB2 (fun _ => False)) (fun _ _ h => h), HSS.out, HB.out.trans (hB2.mono HB.out.size), ?_⟩
    exact Kd.R_lower (Kd.R_mono (Kd.R_bound hR) (fun k hk hk' => by
      have h1 := HT.out.lt k hk'
      have h2 := hk.2.1
      omega)) HB.out.size
  have hln := tnew_len ts
  have HP := Lib.hid hP
  clear hR hB2 hP HT HSS HB HRC HRN
  generalize tnew ts = L at *
  obtain ⟨S2, hT2, hS2, hB2, hR2⟩ := HP.out
  obtain ⟨A, c, rfl⟩ := Kd.R_slice hR2
  have h2 := Kd.R_reads' hR2
  have HSM := Lib.hid (same7_any hT2 A c h2.2.2 h2.2.1)
  clear hT2 hS2 hB2 hR2 h2
  go_wp2_with fail
  refine HSM.out.mono ?_
  rintro e w3 ⟨rfl, rfl⟩
  clear HSM
  go_wp2_with fail
  go_loopw [5, 6, 38] (fun u5 u6 u38 wr => ∃ (i g : Nat) (l : List ByteArray) (A : Option Addr) (c : Nat), i ≤ acts.length ∧ u38 = .int .i64 i ∧ u5 = .pointer (some ⟨g, 0, none⟩) ∧ u6 = .slice A l.length c ∧ l.length ≤ 60 + i ∧ Hid (Play w wr g l (.slice A l.length c))) (fun _ _ v _ => acts.length - (intOf v).toNat)
  case atStart => exact ⟨0, g, L, A, c, by omega, rfl, rfl, rfl, by omega, HP⟩
  case round =>
    clear HP hln
    obtain ⟨i, g, l, A, c, hi, rfl, rfl, rfl, hll, hrel⟩ := hrel
    by_cases hlt : i < acts.length
    · have hB := hrel.out.below
      obtain ⟨ad, rfl, hc0, hc1, hc2⟩ := act_at (Kd.C_below HA.out hB) i hlt
      obtain ⟨ok0, ok1, ok2⟩ := HAO.out acts[i] (List.getElem_mem _)
      generalize acts[i] = x at *
      obtain ⟨x0, x1, x2⟩ := x
      simp only at hc0 hc1 hc2 ok0 ok1 ok2
      have hx0 : -9223372036854775808 ≤ x0 ∧ x0 ≤ 9223372036854775807 := by simp [Lit.wf, IntKind.min, IntKind.max, IntKind.signed, IntKind.bits] at ok0; omega
      have hx2 : -9223372036854775808 ≤ x2 ∧ x2 ≤ 9223372036854775807 := by simp [Lit.wf, IntKind.min, IntKind.max, IntKind.signed, IntKind.bits] at ok2; omega
      clear ok0 ok2 hB
      obtain ⟨S, hT, hS, hB, hR⟩ := hrel.out
      have hpb := PlayB.start (x := (x0, x1, x2)) hT hS hB hR
      obtain ⟨bx, hbx⟩ : ∃ bx, bx = wr.heap.size := ⟨_, rfl⟩
      rw [← hbx] at hpb
      have HPB := Lib.hid hpb
      have HBX := Lib.hid hbx
      have HX1 := Lib.hid ok1
      clear hT hS hB hR hpb hrel ok1 hbx
      have hl61 : l.length ≤ 1000000 := by omega
      have tail : ∀ (W : World) (g' : Nat) (l' : List ByteArray) (v' : Value), Play w W g' l' v' → ∃ A' c', v' = .slice A' l'.length c' ∧ Calls Try.prog 37 #[.pointer (some ⟨g', 0, none⟩), .slice A' l'.length c'] W fun e w' => e = .returned (.bool true) ∧ W = w' := by
        rintro W g' l' v' ⟨S, hT, hS, hB, hR⟩
        obtain ⟨A', c', rfl⟩ := Kd.R_slice hR
        have h2 := Kd.R_reads' hR
        exact ⟨A', c', rfl, same7_any hT A' c' h2.2.2 h2.2.1⟩
      have HTAIL := Lib.hid tail
      clear tail
      by_cases k0 : x0 = 0
      · subst k0
        obtain ⟨A0, c0', hv, _⟩ := HTAIL.out _ _ _ _ HPB.out.done
        have hrd := Kd.R_reads' HPB.out.row
        have hrp := tephraref07_Place.calls 2000000 A c l x1 (posI l x1) _ hrd.2.2 hrd.2.1 (place_is l hl61 x1 2000000 (by omega))
        clear hrd hv
        by_cases hin : x1 ∈ l
        · obtain ⟨p, hp⟩ : ∃ p, posOf l x1 = p := ⟨_, rfl⟩
          have hpl := posOf_lt hin
          have e1 : isIn l x1 = true := isIn_iff.2 hin
          have e2 : posI l x1 = (p : Int) := by unfold posI; rw [e1, hp]; rfl
          have e3 : atI l x1 = (p : Int) := by unfold atI; rw [e1, hp]; rfl
          have e4 : tput l x1 = l := tput_in hin
          obtain ⟨l2, hl2⟩ : ∃ l2, l2 = l := ⟨_, rfl⟩
          have e5 : posI l2 x1 = (p : Int) := by rw [hl2]; exact e2
          have hl2n : l2.length ≤ 60 + (i + 1) := by rw [hl2]; omega
          rw [hp] at hpl
          rw [e2] at hrp
          have HRP := Lib.hid hrp
          have HEQ := Lib.hid (And.intro e1 (And.intro e3 (And.intro (e4.trans hl2.symm) e5)))
          have HPP := Lib.hid hp
          have HRI := Lib.hid (rput_is l hl61 x1 2000000 (by omega))
          clear hrp hin e1 e2 e3 e4 e5 hl2 hp
          go_wp2_with fail
          generalize wr.alloc (.cells #[.int .i64 0, .string x1, .int .i64 x2] 62) = W at *
          refine HRP.out.mono ?_
          rintro e w2 ⟨rfl, hdr⟩
          have hp2 := HPB.out.later hdr.below
          rw [← HBX.out]
          have hbc2 : w2.cell? ⟨bx, 1, none⟩ = some (.string x1) := (cell_of_blk hp2.box 1).trans rfl
          have hf := find_any hp2.tab x1 HX1.out
          rw [HEQ.out.1, HEQ.out.2.1] at hf
          have HF := Lib.hid hf
          have hru := tephraref07_Put.calls 2000000 _ _ l x1 _ w w2 hp2.below hp2.row HRI.out
          rw [HEQ.out.2.2.1] at hru
          have HRU := Lib.hid hru
          have HP2 := Lib.hid hp2
          clear hdr hp2 hc0 hc1 hc2 HPB HRP hf hru
          go_wp2_with fail
          refine HF.out.mono ?_
          rintro e w3 ⟨rfl, rfl⟩
          go_wp2_with fail
          refine HRU.out.mono ?_
          rintro e w3 ⟨v3, rfl, hR3, hB3, hK3⟩
          have hp3 := HP2.out.listed hR3 hB3 hK3
          have hid := id_any hp3.tab x1 HX1.out (by omega)
          rw [HEQ.out.1, HEQ.out.2.2.1, HPP.out] at hid
          have hbc3 : w3.cell? ⟨bx, 1, none⟩ = some (.string x1) := (cell_of_blk hp3.box 1).trans rfl
          have HP3 := Lib.hid hp3
          have HID := Lib.hid hid
          clear hR3 hB3 hK3 hp3 hid hbc2 HP2 HF HRU
          go_wp2_with fail
          refine HID.out.mono ?_
          rintro e w4 ⟨rfl, hd⟩
          obtain ⟨S4, hp4⟩ := HP3.out.wrote hd
          have hbc4 : w4.cell? ⟨bx, 1, none⟩ = some (.string x1) := (cell_of_blk hp4.box 1).trans rfl
          obtain ⟨A4, c4, hv, _⟩ := HTAIL.out _ _ _ _ hp4.done
          subst hv
          have hrd := Kd.R_reads' hp4.row
          have hpl4 := tephraref07_Place.calls 2000000 A4 c4 l2 x1 _ w4 hrd.2.2 hrd.2.1 (place_is l2 (by omega) x1 2000000 (by omega))
          rw [HEQ.out.2.2.2] at hpl4
          have HPL := Lib.hid hpl4
          have HP4 := Lib.hid hp4
          clear hd hp4 hrd hpl4 HID HP3 hbc3
          go_wp2_with fail
          refine HPL.out.mono ?_
          rintro e w5 ⟨rfl, hdr⟩
          have hp5 := HP4.out.later hdr.below
          obtain ⟨A5, c5, hv, hsame⟩ := HTAIL.out _ _ _ _ hp5.done
          cases hv
          have HP5 := Lib.hid hp5.done
          have HSM := Lib.hid hsame
          clear hdr hp5 hsame HPL HP4 hbc4
          go_wp2_with fail
          refine HSM.out.mono ?_
          rintro e w6 ⟨rfl, rfl⟩
          go_wp2
          go_roundw
          case rel => exact ⟨i + 1, g, l2, A4, c4, by omega, by go_num, rfl, rfl, hl2n, HP5⟩
          case measure => simp [intOf]; omega
        · obtain ⟨p, hp⟩ : ∃ p, posOf l x1 = p := ⟨_, rfl⟩
          have hpl := posOf_le l x1
          have e1 : isIn l x1 = false := isIn_ne.2 hin
          have e2 : posI l x1 = -1 := by unfold posI; rw [e1]; rfl
          have e3 : atI l x1 = 0 := by unfold atI; rw [e1]; rfl
          have e4 : tput l x1 = l ++ [x1] := tput_out hin
          obtain ⟨l2, hl2⟩ : ∃ l2, l2 = l ++ [x1] := ⟨_, rfl⟩
          have e5 : posI l2 x1 = (p : Int) := by
            unfold posI
            rw [hl2, isIn_iff.2 (by simp), ← e4, posOf_tput_self, hp]; rfl
          have hl2n : l2.length ≤ 60 + (i + 1) := by rw [hl2]; simp; omega
          rw [hp] at hpl
          rw [e2] at hrp
          have HRP := Lib.hid hrp
          have HEQ := Lib.hid (And.intro e1 (And.intro e3 (And.intro (e4.trans hl2.symm) e5)))
          have HPP := Lib.hid hp
          have HRI := Lib.hid (rput_is l hl61 x1 2000000 (by omega))
          clear hrp hin e1 e2 e3 e4 e5 hl2 hp
          go_wp2_with fail
          generalize wr.alloc (.cells #[.int .i64 0, .string x1, .int .i64 x2] 62) = W at *
          refine HRP.out.mono ?_
          rintro e w2 ⟨rfl, hdr⟩
          have hp2 := HPB.out.later hdr.below
          rw [← HBX.out]
          have hbc2 : w2.cell? ⟨bx, 1, none⟩ = some (.string x1) := (cell_of_blk hp2.box 1).trans rfl
          have hf := find_any hp2.tab x1 HX1.out
          rw [HEQ.out.1, HEQ.out.2.1] at hf
          have HF := Lib.hid hf
          have hru := tephraref07_Put.calls 2000000 _ _ l x1 _ w w2 hp2.below hp2.row HRI.out
          rw [HEQ.out.2.2.1] at hru
          have HRU := Lib.hid hru
          have HP2 := Lib.hid hp2
          clear hdr hp2 hc0 hc1 hc2 HPB HRP hf hru
          go_wp2_with fail
          refine HF.out.mono ?_
          rintro e w3 ⟨rfl, rfl⟩
          go_wp2_with fail
          refine HRU.out.mono ?_
          rintro e w3 ⟨v3, rfl, hR3, hB3, hK3⟩
          have hp3 := HP2.out.listed hR3 hB3 hK3
          have hid := id_any hp3.tab x1 HX1.out (by omega)
          rw [HEQ.out.1, HEQ.out.2.2.1, HPP.out] at hid
          have hbc3 : w3.cell? ⟨bx, 1, none⟩ = some (.string x1) := (cell_of_blk hp3.box 1).trans rfl
          have HP3 := Lib.hid hp3
          have HID := Lib.hid hid
          clear hR3 hB3 hK3 hp3 hid hbc2 HP2 HF HRU
          go_wp2_with fail
          refine HID.out.mono ?_
          rintro e w4 ⟨rfl, hd⟩
          obtain ⟨S4, hp4⟩ := HP3.out.wrote hd
          have hbc4 : w4.cell? ⟨bx, 1, none⟩ = some (.string x1) := (cell_of_blk hp4.box 1).trans rfl
          obtain ⟨A4, c4, hv, _⟩ := HTAIL.out _ _ _ _ hp4.done
          subst hv
          have hrd := Kd.R_reads' hp4.row
          have hpl4 := tephraref07_Place.calls 2000000 A4 c4 l2 x1 _ w4 hrd.2.2 hrd.2.1 (place_is l2 (by omega) x1 2000000 (by omega))
          rw [HEQ.out.2.2.2] at hpl4
          have HPL := Lib.hid hpl4
          have HP4 := Lib.hid hp4
          clear hd hp4 hrd hpl4 HID HP3 hbc3
          go_wp2_with fail
          refine HPL.out.mono ?_
          rintro e w5 ⟨rfl, hdr⟩
          have hp5 := HP4.out.later hdr.below
          obtain ⟨A5, c5, hv, hsame⟩ := HTAIL.out _ _ _ _ hp5.done
          cases hv
          have HP5 := Lib.hid hp5.done
          have HSM := Lib.hid hsame
          clear hdr hp5 hsame HPL HP4 hbc4
          go_wp2_with fail
          refine HSM.out.mono ?_
          rintro e w6 ⟨rfl, rfl⟩
          go_wp2
          go_roundw
          case rel => exact ⟨i + 1, g, l2, A4, c4, by omega, by go_num, rfl, rfl, hl2n, HP5⟩
          case measure => simp [intOf]; omega
      · by_cases k1 : x0 = 1
        · subst k1
          go_wp2_with fail
          rw [← HBX.out]
          generalize wr.alloc (.cells #[.int .i64 1, .string x1, .int .i64 x2] 62) = W at *
          refine (Cut_any HPB.out.tab x2 hx2).mono ?_
          rintro e w2 ⟨rfl, hd⟩
          obtain ⟨S2, hp2⟩ := HPB.out.wrote hd
          have hbc2 : w2.cell? ⟨bx, 2, none⟩ = some (.int .i64 x2) := (cell_of_blk hp2.box 2).trans rfl
          have HP2 := Lib.hid hp2
          have HRC := Lib.hid (tephraref07_Cut.calls _ _ l x2 _ w w2 hp2.below hp2.row (rcut_is l x2))
          have hl3 : (l.take (cutN l x2)).length ≤ l.length := by rw [List.length_take]; omega
          clear hd hp2 hc0 hc1 hc2 HPB
          generalize l.take (cutN l x2) = l2 at *
          go_wp2_with fail
          refine HRC.out.mono ?_
          rintro e w3 ⟨v3, rfl, hR3, hB3, hK3⟩
          have hp3 := HP2.out.listed hR3 hB3 hK3
          obtain ⟨A3, c3, rfl, hsame⟩ := HTAIL.out _ _ _ _ hp3.done
          have HP3 := Lib.hid hp3.done
          have HSM := Lib.hid hsame
          clear hR3 hB3 hK3 hp3 hsame
          go_wp2_with fail
          refine HSM.out.mono ?_
          rintro e w4 ⟨rfl, rfl⟩
          go_wp2
          go_roundw
          case rel => exact ⟨i + 1, g, l2, A3, c3, by omega, by go_num, rfl, rfl, by omega, HP3⟩
          case measure => simp [intOf]; omega
        · by_cases k2 : x0 = 2
          · subst k2
            go_wp2_with fail
            generalize wr.alloc (.cells #[.int .i64 2, .string x1, .int .i64 x2] 62) = W at *
            refine (copy_any HPB.out.tab (by omega)).mono ?_
            rintro e w2 ⟨rfl, hd⟩
            obtain ⟨S2, hpc⟩ := PlayC.start HPB.out hd
            generalize W.heap.size = g2 at *
            have HPC := Lib.hid hpc
            clear hd hpc hc0 hc1 hc2 HPB
            go_wp2_with fail
            refine (Cut_any HPC.out.old 0 (by decide)).mono ?_
            rintro e w3 ⟨rfl, hd⟩
            obtain ⟨S3, hpc3⟩ := HPC.out.wrote hd
            have HPC3 := Lib.hid hpc3
            clear hd hpc3 HPC
            go_wp2_with fail
            refine (id_any HPC3.out.old ⟨#[111, 116, 104, 101, 114]⟩ (by decide) (by have := HPC3.out.old.len; rw [List.length_take]; unfold cutN; omega)).mono ?_
            rintro e w4 ⟨rfl, hd⟩
            obtain ⟨S4, hpc4⟩ := HPC3.out.wrote hd
            obtain ⟨A3, c3, hv, hsame⟩ := HTAIL.out _ _ _ _ hpc4.done
            have HP3 := Lib.hid hpc4.done
            cases hv
            have HSM := Lib.hid hsame
            clear hd hpc4 hsame HPC3
            go_wp2_with fail
            refine HSM.out.mono ?_
            rintro e w5 ⟨rfl, rfl⟩
            go_wp2
            go_roundw
            case rel => exact ⟨i + 1, g2, l, A, c, by omega, by go_num, rfl, rfl, by omega, HP3⟩
            case measure => simp [intOf]; omega
          · have b0 : ((x0 : Int) == 0) = false := by simp [k0]
            have b1 : ((x0 : Int) == 1) = false := by simp [k1]
            have b2 : ((x0 : Int) == 2) = false := by simp [k2]
            clear k0 k1 k2
            obtain ⟨A3, c3, hv, hsame⟩ := HTAIL.out _ _ _ _ HPB.out.done
            cases hv
            have HP3 := Lib.hid HPB.out.done
            have HSM := Lib.hid hsame
            clear hsame
            go_wp2_with fail
            refine HSM.out.mono ?_
            rintro e w5 ⟨rfl, rfl⟩
            go_wp2
            go_roundw
            case rel => exact ⟨i + 1, g, l, A, c, by omega, by go_num, rfl, rfl, by omega, HP3⟩
            case measure => simp [intOf]; omega
    · obtain rfl : i = acts.length := by omega
      have hB := hrel.out.below
      go_wp2_with fail
      refine (fixed7_any _).mono ?_
      rintro e w5 ⟨rfl, hb5⟩
      go_wp2_with fail
      go_ret
      exact ⟨rfl, hB.trans (hb5.mono hB.size)⟩
theorem great (B0 B1 : Option Addr) (c0 c1 : Nat) (ts : List ByteArray) (acts : List Act7) (w : World) (h : 60 < (ts.length : Int) ∨ (¬ 60 < (ts.length : Int) ∧ 60 < (acts.length : Int))) (hm0 : ts.length ≤ 9223372036854775807) (hm1 : acts.length ≤ 9223372036854775807) :
    Calls Try.prog 7 #[.slice B0 ts.length c0, .slice B1 acts.length c1] w fun e w' => e = .returned (.bool true) ∧ Below w.heap.size w w' := by
  rcases h with h | ⟨h, h2⟩
  · have hd : decide (60 < (ts.length : Int)) = true := decide_eq_true h
    go_enter Try.func7, Try.ntmps7
    go_wp2_with (go_at_call 30; refine (fixed7_any _).mono ?_; rintro e w1 ⟨rfl, hb⟩)
    go_ret
    exact ⟨rfl, hb⟩
  · have hd : decide (60 < (ts.length : Int)) = false := decide_eq_false h
    have hd2 : decide (60 < (acts.length : Int)) = true := decide_eq_true h2
    go_enter Try.func7, Try.ntmps7
    go_wp2_with (go_at_call 30; refine (fixed7_any _).mono ?_; rintro e w1 ⟨rfl, hb⟩)
    go_ret
    exact ⟨rfl, hb⟩
theorem walk (v0 : Value) (x0 : Option Addr × Nat × List ByteArray) (v1 : Value) (x1 : Option Addr × Nat × List Act7) (w : World) (w0 : IsRows Kd.string (fun s => s.size ≤ maxLen) w v0 x0) (w1 : IsRows kdAct okAct w v1 x1) :
    Calls Try.prog 7 #[v0, v1] w fun e w' => e = .returned (.bool true) ∧ Below w.heap.size w w' := by
  obtain ⟨B0, c0, ts⟩ := x0
  obtain ⟨B1, c1, acts⟩ := x1
  obtain ⟨rfl, hc0, hs0, hm0, ho0⟩ := w0
  obtain ⟨rfl, hc1, hs1, hm1, ho1⟩ := w1
  by_cases h : 60 < (ts.length : Int) ∨ (¬ 60 < (ts.length : Int) ∧ 60 < (acts.length : Int))
  · exact great B0 B1 c0 c1 ts acts w h (by simp only [maxLen] at hm0; omega) (by simp only [maxLen] at hm1; omega)
  · exact main B0 B1 c0 c1 ts acts w hs0 hc0 ho0 (by omega) hs1 hc1 ho1 (by omega)
end Go.Proofs.Ythpbkhagjgggjaa.WInternPlays
