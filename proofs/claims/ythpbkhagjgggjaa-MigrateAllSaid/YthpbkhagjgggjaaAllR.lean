/- Texts laid as one: AllA, AllB. -/
import Derived.Test.YthpbkhagjgggjaaMigA
import Derived.Test.YthpbkhagjgggjaaGRRz0
import Derived.Test.YthpbkhagjgggjaaGRRx15
import Derived.Test.YthpbkhagjgggjaaRecO
set_option linter.unusedVariables false
set_option linter.unusedSimpArgs false
/- Rows of records: opened; moved from a version to another one, by the code and by the document. -/
namespace Go.Proofs.Ythpbkhagjgggjaa
open Go.RowKit Go.Proofs.YthpbkhagjgggjaaW.PrintWords Go.Proofs.Ythpbkhagjgggjaa.GRR

theorem cellsOf_recs8 : Try.prog.cellsOf 88 = 1 := by kernel_rfl
def okRecS (x : S70) : Prop := okRec (x.f0, x.f1, x.f2, x.f3, x.f4, x.f5, x.f6)
theorem opens_recS8 : Opens Try.prog 70 k70 okRecS :=
  opens_iso (d := kdRec) (fun x : S70 => (x.f0, x.f1, x.f2, x.f3, x.f4, x.f5, x.f6)) (fun p => ⟨p.1, p.2.1, p.2.2.1, p.2.2.2.1, p.2.2.2.2.1, p.2.2.2.2.2.1, p.2.2.2.2.2.2⟩) (fun _ => rfl) opens_rec8
set_option maxRecDepth 100000 in
theorem open_t88 {H : Type} {enc : TypeId × Value → H} {W : World} {base : Nat} {held : Bool} {v : Value} {d : DataW H} {ps : List MemPlace} {r : Reach} {b0 : Nat} (hval : Value.okWide Try.prog W r b0 88 v) (h : DataW.Trod enc Try.prog W base (fun _ => true) held 88 v d ps) :
    ∃ x, IsRows k70 okRecS W v x := open_rows Try.underlying88 cellsOf_recs8 opens_recS8 hval h
theorem info_rec : (Try.prog.info? 70).map (fun i => (i.zero, i.size, i.bytes)) = some (some (.agg #[.int .i64 0, .string ⟨#[]⟩, .int .u64 0, .slice none 0 0, .int .u64 0, .int .u64 0, .string ⟨#[]⟩]), 7, 88) := by kernel_rfl
def recOf (r : Rec8) : S70 := ⟨r.1, r.2.1, r.2.2.1, r.2.2.2.1, r.2.2.2.2.1, r.2.2.2.2.2.1, r.2.2.2.2.2.2⟩
/-- A record's move. -/
def mvR (u v : Int) (x : S70) : Rec8 × Int := toF u v x.f0 x.f1 x.f2 x.f3 x.f4 x.f5 x.f6
def allL (u v : Int) : List S70 → List S70 → List S70 × Int
  | [], acc => (acc, 0)
  | x :: xs, acc => if (mvR u v x).2 = 0 then allL u v xs (acc ++ [recOf (mvR u v x).1]) else ([], (mvR u v x).2)
def allF (u v : Int) (l : List S70) : List S70 × Int := if 1 ≤ u ∧ u ≤ v ∧ v ≤ 3 then allL u v l [] else ([], 11)
structure RecOkS (x : S70) : Prop where
  ok : RecOk x.f1 x.f3 x.f6
theorem at_rec {w : World} {A : Option Addr} {l : List S70} (h : Kd.C k70 w A l.length l) (i : Nat) (hi : i < l.length) (x : S70) (hx : l[i] = x) : ∃ ad A3 c3, A = some ad ∧ w.cell? (ad.add (i * 7)) = some (.int .i64 x.f0) ∧ w.cell? ⟨(ad.add (i * 7)).block, (ad.add (i * 7)).off + 1, none⟩ = some (.string x.f1) ∧ w.cell? ⟨(ad.add (i * 7)).block, (ad.add (i * 7)).off + 2, none⟩ = some (.int .u64 x.f2) ∧ w.cell? ⟨(ad.add (i * 7)).block, (ad.add (i * 7)).off + 3, none⟩ = some (.slice A3 x.f3.length c3) ∧ w.cell? ⟨(ad.add (i * 7)).block, (ad.add (i * 7)).off + 4, none⟩ = some (.int .u64 x.f4) ∧ w.cell? ⟨(ad.add (i * 7)).block, (ad.add (i * 7)).off + 5, none⟩ = some (.int .u64 x.f5) ∧ w.cell? ⟨(ad.add (i * 7)).block, (ad.add (i * 7)).off + 6, none⟩ = some (.string x.f6) ∧ x.f3.length ≤ c3 ∧ k76.C w A3 x.f3.length x.f3 := by
  have h1 := at_T70 h (i : Int) (by omega) (by omega)
  have e : rd_T70 l (i : Int) = x := by simp [rd_T70, hi, hx]
  rw [e, Int.toNat_natCast] at h1
  exact h1
theorem row_one {w : World} {b : Nat} {x : S70} {A3 : Option Addr} {c3 : Nat} (hb : w.heap[b]? = some (.cells #[.int .i64 x.f0, .string x.f1, .int .u64 x.f2, .slice A3 x.f3.length c3, .int .u64 x.f4, .int .u64 x.f5, .string x.f6] 70 (0, 0))) :
    ReadsRow (fun y cs => y = x ∧ cs = [.int .i64 x.f0, .string x.f1, .int .u64 x.f2, .slice A3 x.f3.length c3, .int .u64 x.f4, .int .u64 x.f5, .string x.f6]) 7 w (some ⟨b, 0, none⟩) 1 [x] := by
  refine ⟨rfl, by omega, fun _ => ⟨_, rfl, fun j p hj => ?_⟩⟩
  match j with
  | 0 =>
    obtain rfl : x = p := by simpa using hj
    refine ⟨_, rfl, ⟨rfl, rfl⟩, fun i u hu => ?_⟩
    rw [Nat.zero_mul, Nat.zero_add]
    have e : (⟨b, 0, none⟩ : Addr).add i = ⟨b, i, none⟩ := add_plain b i
    rw [e, blk_cell hb i]
    simpa using hu
  | j + 1 => simp at hj
theorem box7 {B : Nat} {w W : World} (h : Below B w W) (v0 v1 v2 v3 v4 v5 v6 : Value) :
    (W.alloc (.cells #[v0, v1, v2, v3, v4, v5, v6] 70)).cell? ⟨W.heap.size, 0, none⟩ = some v0 ∧ (W.alloc (.cells #[v0, v1, v2, v3, v4, v5, v6] 70)).cell? ⟨W.heap.size, 1, none⟩ = some v1 ∧ (W.alloc (.cells #[v0, v1, v2, v3, v4, v5, v6] 70)).cell? ⟨W.heap.size, 2, none⟩ = some v2 ∧ (W.alloc (.cells #[v0, v1, v2, v3, v4, v5, v6] 70)).cell? ⟨W.heap.size, 3, none⟩ = some v3 ∧ (W.alloc (.cells #[v0, v1, v2, v3, v4, v5, v6] 70)).cell? ⟨W.heap.size, 4, none⟩ = some v4 ∧ (W.alloc (.cells #[v0, v1, v2, v3, v4, v5, v6] 70)).cell? ⟨W.heap.size, 5, none⟩ = some v5 ∧ (W.alloc (.cells #[v0, v1, v2, v3, v4, v5, v6] 70)).cell? ⟨W.heap.size, 6, none⟩ = some v6 := by
  have hk : (W.alloc (.cells #[v0, v1, v2, v3, v4, v5, v6] 70)).heap[W.heap.size]? = some (.cells #[v0, v1, v2, v3, v4, v5, v6] 70 (0, 0)) := heap_new _ _
  exact ⟨(blk_cell hk 0).trans rfl, (blk_cell hk 1).trans rfl, (blk_cell hk 2).trans rfl, (blk_cell hk 3).trans rfl, (blk_cell hk 4).trans rfl, (blk_cell hk 5).trans rfl, (blk_cell hk 6).trans rfl⟩
theorem great10_l0 (l : List S70) (M : Nat) (hM : ∀ x ∈ l, x.f3.length ≤ M) (hm : ∀ x ∈ l, x.f3.length ≤ 9223372036854775807) (hl : l.length ≤ 9223372036854775807) : ∀ (d i k : Nat), l.length = i + d → d + M + 1 < k → (∀ x ∈ l.take i, RecFew x.f1 x.f3 x.f6) →
    ∃ b, tephralaw10_Great.l0 k l l (l.length : Int) (i : Int) = some b ∧ (b = false → l.length ≤ 30 ∧ ∀ x ∈ l, RecFew x.f1 x.f3 x.f6) := by
  intro d
  induction d with
  | zero =>
    intro i k hi hk hs
    obtain ⟨k, rfl⟩ : ∃ m, k = m + 1 := ⟨k - 1, by omega⟩
    rw [List.take_of_length_le (by omega)] at hs
    simp only [tephralaw10_Great.l0]
    rw [if_neg (by omega)]
    refine ⟨_, rfl, fun h => ?_⟩
    rw [decide_eq_false_iff_not] at h
    exact ⟨by omega, hs⟩
  | succ d ih =>
    intro i k hi hk hs
    obtain ⟨k, rfl⟩ : ∃ m, k = m + 1 := ⟨k - 1, by omega⟩
    have hlt : i < l.length := by omega
    have hrd : rd_T70 l (i : Int) = l[i] := by simp [rd_T70, hlt]
    have h1 := hM l[i] (List.getElem_mem _)
    have h2 := hm l[i] (List.getElem_mem _)
    have htk : l.take (i + 1) = l.take i ++ [l[i]] := List.take_succ_eq_append_getElem hlt
    simp only [tephralaw10_Great.l0]
    rw [if_pos (by omega), if_pos (by omega), if_pos (by omega), hrd, wr1 i l.length hlt hl]
    generalize l[i] = x at h1 h2 htk
    obtain ⟨g, hg, hf⟩ := great_is x.f0 x.f1 x.f2 x.f3 x.f4 x.f5 x.f6 h2 k (by omega)
    rw [hg, Option.bind_some]
    cases g with
    | true => exact ⟨true, rfl, by simp⟩
    | false =>
      rw [if_neg (by simp)]
      refine ih (i + 1) k (by omega) (by omega) ?_
      rw [htk]
      intro y hy
      rcases List.mem_append.1 hy with hy | hy
      · exact hs y hy
      · simp at hy; subst hy; exact hf rfl
theorem most_deps (l : List S70) : ∃ M, ∀ x ∈ l, x.f3.length ≤ M := by
  induction l with
  | nil => exact ⟨0, by simp⟩
  | cons y ys ih =>
    obtain ⟨M, hM⟩ := ih
    refine ⟨y.f3.length + M, fun x hx => ?_⟩
    rcases List.mem_cons.1 hx with rfl | hx
    · omega
    · have := hM x hx; omega
theorem great10_is (l : List S70) (hm : ∀ x ∈ l, x.f3.length ≤ 9223372036854775807) (hl : l.length ≤ 9223372036854775807) : ∃ k b, tephralaw10_Great.f k l = some b ∧ (b = false → l.length ≤ 30 ∧ ∀ x ∈ l, RecFew x.f1 x.f3 x.f6) := by
  obtain ⟨M, hM⟩ := most_deps l
  exact ⟨l.length + M + 2, great10_l0 l M hM hm hl l.length 0 _ (by omega) (by omega) (by simp)⟩
theorem all8_l0 (l : List S70) (hf : ∀ x ∈ l, x.f3.length ≤ 1000) (hl : l.length ≤ 9223372036854775807) : ∀ (d i k : Nat), l.length = i + d → d + 1010 < k → tephraref08_All.l0 k l l (i : Int) = some true := by
  intro d
  induction d with
  | zero =>
    intro i k hi hk
    obtain ⟨k, rfl⟩ : ∃ m, k = m + 1 := ⟨k - 1, by omega⟩
    simp only [tephraref08_All.l0]
    rw [if_neg (by omega)]
  | succ d ih =>
    intro i k hi hk
    obtain ⟨k, rfl⟩ : ∃ m, k = m + 1 := ⟨k - 1, by omega⟩
    have hlt : i < l.length := by omega
    have hrd : rd_T70 l (i : Int) = l[i] := by simp [rd_T70, hlt]
    have h1 := hf l[i] (List.getElem_mem _)
    simp only [tephraref08_All.l0]
    rw [if_pos (by omega), if_pos (by omega), if_pos (by omega), hrd, wr1 i l.length hlt hl]
    generalize l[i] = x at h1
    obtain ⟨b, hb, hb2⟩ := rsame_is x.f0 x.f0 x.f1 x.f1 x.f2 x.f2 x.f3 x.f3 x.f4 x.f4 x.f5 x.f5 x.f6 x.f6 (by omega) k (by omega)
    rw [hb2.2 ⟨rfl, rfl, rfl, rfl, rfl, rfl, rfl⟩] at hb
    rw [hb, Option.bind_some, if_pos rfl]
    exact ih (i + 1) k (by omega) (by omega)
theorem all8_is (l : List S70) (hf : ∀ x ∈ l, x.f3.length ≤ 1000) (hl : l.length ≤ 9223372036854775807) : tephraref08_All.f (l.length + 1011) l l = some true := by
  unfold tephraref08_All.f
  rw [if_pos rfl]
  exact all8_l0 l hf hl l.length 0 _ (by omega) (by omega)
end Go.Proofs.Ythpbkhagjgggjaa
/- Rows of records moved: migrate.All, and the document's All. -/
namespace Go.Proofs.Ythpbkhagjgggjaa
open Go.RowKit Go.Proofs.YthpbkhagjgggjaaW.PrintWords Go.Proofs.Ythpbkhagjgggjaa.GRR
theorem rto_any3 (u v k0 : Int) (t : ByteArray) (rule : Int) (A : Option Addr) (c : Nat) (l : List S76) (out when : Int) (tag : ByteArray) (w0 w : World) (hb0 : Below w0.heap.size w0 w) (hr : Kd.C k76 w0 A l.length l) (hc : l.length ≤ c) (hok : RecOk t l tag) :
    Calls Try.prog 55 #[.int .i64 u, .int .i64 v, .agg #[.int .i64 k0, .string t, .int .u64 rule, .slice A l.length c, .int .u64 out, .int .u64 when, .string tag]] w fun e w' => ∃ (A3 : Option Addr) (c3 : Nat), e = .returned (.tuple #[.agg #[.int .i64 (toF u v k0 t rule l out when tag).1.1, .string (toF u v k0 t rule l out when tag).1.2.1, .int .u64 (toF u v k0 t rule l out when tag).1.2.2.1, .slice A3 (toF u v k0 t rule l out when tag).1.2.2.2.1.length c3, .int .u64 (toF u v k0 t rule l out when tag).1.2.2.2.2.1, .int .u64 (toF u v k0 t rule l out when tag).1.2.2.2.2.2.1, .string (toF u v k0 t rule l out when tag).1.2.2.2.2.2.2], .int .i64 (toF u v k0 t rule l out when tag).2]) ∧ (Kd.C k76 w0 A3 (toF u v k0 t rule l out when tag).1.2.2.2.1.length (toF u v k0 t rule l out when tag).1.2.2.2.1 ∧ (toF u v k0 t rule l out when tag).1.2.2.2.1.length ≤ c3) ∧ Below w.heap.size w w' := by
  refine (rto_any u v k0 t rule A c l out when tag w (Kd.C_below hr hb0) hc hok).mono ?_
  rintro e w' ⟨rfl, hB⟩
  unfold toF
  by_cases hv : 1 ≤ u ∧ u ≤ v ∧ v ≤ 3
  · simp only [if_pos hv]
    cases hm : mayB u k0 t rule l out when tag with
    | true =>
      simp only [if_true]
      exact ⟨A, c, rfl, ⟨hr, hc⟩, hB⟩
    | false =>
      simp only [Bool.false_eq_true, if_false]
      exact ⟨none, 0, rfl, ⟨Kd.C_nil _ _, Nat.le_refl _⟩, hB⟩
  · simp only [if_neg hv]
    exact ⟨none, 0, rfl, ⟨Kd.C_nil _ _, Nat.le_refl _⟩, hB⟩
theorem at_rec2 {w W : World} {A : Option Addr} {l : List S70} (h : Kd.C k70 w A l.length l) (hb : Below w.heap.size w W) (i : Nat) (hi : i < l.length) (x : S70) (hx : l[i] = x) : ∃ ad A3 c3, A = some ad ∧ W.cell? (ad.add (i * 7)) = some (.int .i64 x.f0) ∧ W.cell? ⟨(ad.add (i * 7)).block, (ad.add (i * 7)).off + 1, none⟩ = some (.string x.f1) ∧ W.cell? ⟨(ad.add (i * 7)).block, (ad.add (i * 7)).off + 2, none⟩ = some (.int .u64 x.f2) ∧ W.cell? ⟨(ad.add (i * 7)).block, (ad.add (i * 7)).off + 3, none⟩ = some (.slice A3 x.f3.length c3) ∧ W.cell? ⟨(ad.add (i * 7)).block, (ad.add (i * 7)).off + 4, none⟩ = some (.int .u64 x.f4) ∧ W.cell? ⟨(ad.add (i * 7)).block, (ad.add (i * 7)).off + 5, none⟩ = some (.int .u64 x.f5) ∧ W.cell? ⟨(ad.add (i * 7)).block, (ad.add (i * 7)).off + 6, none⟩ = some (.string x.f6) ∧ x.f3.length ≤ c3 ∧ k76.C w A3 x.f3.length x.f3 := by
  obtain ⟨ad, A3, c3, hA, h0, h1, h2, h3, h4, h5, h6, hle, hrow⟩ := at_rec h i hi x hx
  exact ⟨ad, A3, c3, hA, pw_cell_below hb h0, pw_cell_below hb h1, pw_cell_below hb h2, pw_cell_below hb h3, pw_cell_below hb h4, pw_cell_below hb h5, pw_cell_below hb h6, hle, hrow⟩
theorem heap_new2 (w : World) (o p : Obj) : ((w.alloc o).alloc p).heap[w.heap.size + 1]? = some p := by
  have := heap_new (w.alloc o) p
  rwa [heap_size_alloc] at this
section
variable (u v : Int) (A : Option Addr) (c : Nat) (l : List S70) (w : World)
set_option maxHeartbeats 4000000 in
set_option maxRecDepth 100000 in
theorem mall_any (hC : Kd.C k70 w A l.length l) (hc : l.length ≤ c) (hl : l.length ≤ 1000000) (hok : ∀ x ∈ l, RecOk x.f1 x.f3 x.f6) :
    Calls Try.prog 59 #[.int .i64 u, .int .i64 v, .slice A l.length c] w fun e w' => ∃ v3, e = .returned (.tuple #[v3, .int .i64 (allF u v l).2]) ∧ Kd.R k70 70 w' w.heap.size (fun _ => True) v3 (allF u v l).1 ∧ Below w.heap.size w w' := by
  have HC := Lib.hid hC
  have HOK := Lib.hid hok
  clear hC hok
  have HVS := Lib.hid (versions_any u v w)
  unfold allF
  by_cases hv : 1 ≤ u ∧ u ≤ v ∧ v ≤ 3
  · rw [if_pos hv]
    rw [show decide (1 ≤ u ∧ u ≤ v ∧ v ≤ 3) = true from decide_eq_true hv] at HVS
    clear hv
    go_enter Try.func59, Try.ntmps59
    go_wp2_with fail
    refine HVS.out.mono ?_
    rintro e w1 ⟨rfl, rfl⟩
    go_wp2_with fail
    go_loopw [8, 19] (fun u8 u19 wr => ∃ (i : Nat) (acc : List S70), i ≤ l.length ∧ u19 = .int .i64 i ∧ Hid (Kd.R k70 70 wr w.heap.size (fun _ => True) u8 acc) ∧ Hid (allL u v (l.drop i) acc = allL u v l [] ∧ acc.length = i) ∧ Hid (Below w.heap.size w wr)) (fun _ v _ => l.length - (intOf v).toNat)
    case atStart => exact ⟨0, [], by omega, rfl, Lib.hid (Kd.R_nil _ _ _ _ _), Lib.hid ⟨by rw [List.drop_zero], rfl⟩, Lib.hid (Below.refl _ _)⟩
    case round =>
      obtain ⟨i, acc, hi, rfl, HO, hall, HBL⟩ := hrel
      by_cases hlt : i < l.length
      · have hdl : decide ((i : Int) < (l.length : Int)) = true := decide_eq_true (by omega)
        have htk : l.drop i = l[i] :: l.drop (i + 1) := List.drop_eq_getElem_cons hlt
        obtain ⟨x, hx⟩ : ∃ x, l[i] = x := ⟨_, rfl⟩
        obtain ⟨ad, A3, c3, rfl, h0, h1, h2, h3, h4, h5, h6, hle, hrow⟩ := at_rec (Kd.C_below HC.out HBL.out) i hlt x hx
        rw [hx] at htk
        have hokx := HOK.out x (hx ▸ List.getElem_mem _)
        have hst : allL u v (x :: l.drop (i + 1)) acc = if (toF u v x.f0 x.f1 x.f2 x.f3 x.f4 x.f5 x.f6).2 = 0 then allL u v (l.drop (i + 1)) (acc ++ [recOf (toF u v x.f0 x.f1 x.f2 x.f3 x.f4 x.f5 x.f6).1]) else ([], (toF u v x.f0 x.f1 x.f2 x.f3 x.f4 x.f5 x.f6).2) := rfl
        rw [← htk, hall.out.1] at hst
        have HT := Lib.hid (fun W (h : Below _ _ W) => mto_any u v x.f0 x.f1 x.f2 A3 c3 x.f3 x.f4 x.f5 x.f6 W (Kd.C_below hrow h) hle hokx)
        have hal := hall.out.2
        generalize toF u v x.f0 x.f1 x.f2 x.f3 x.f4 x.f5 x.f6 = F at HT hst
        obtain ⟨⟨f0, f1, f2, f3, f4, f5, f6⟩, ef⟩ := F
        dsimp only [recOf] at HT hst
        obtain ⟨a0, a1, a2, a3, a4, a5, a6⟩ := box7 HBL.out (.int .i64 x.f0) (.string x.f1) (.int .u64 x.f2) (.slice A3 x.f3.length c3) (.int .u64 x.f4) (.int .u64 x.f5) (.string x.f6)
        have HST := Lib.hid hst
        have HHL := Lib.hid hal
        clear htk hall hrow hokx hst hx hal hle
        go_wp2_with fail
        clear a0 a1 a2 a3 a4 a5 a6 h0 h1 h2 h3 h4 h5 h6
        refine (HT.out _ ((Below.refl _ _).alloc (Nat.le_refl _) _)).mono ?_
        rintro e w5 ⟨A4, c4, rfl, hR, hb⟩
        have hb5 := (((Below.refl _ _).alloc (Nat.le_refl _) _).trans (hb.mono (by rw [heap_size_alloc]; omega)))
        have HB5 := Lib.hid (HBL.out.trans (hb5.mono HBL.out.size))
        have HO5 := Lib.hid (Kd.R_below HO.out hb5)
        have HOK := Lib.hid (own_lt (Kd.R_own HO.out).choose_spec)
        have HSZ := Lib.hid hb5.size
        rw [heap_size_alloc] at hR
        have HR4 := Lib.hid hR
        clear hR hb hb5 HO HT
        obtain ⟨a0, a1, a2, a3, a4, a5, a6⟩ := box7 HB5.out (.int .i64 f0) (.string f1) (.int .u64 f2) (.slice A4 f3.length c4) (.int .u64 f4) (.int .u64 f5) (.string f6)
        by_cases he : ef = 0
        · subst he
          have HS2 := Lib.hid (HST.out.trans (if_pos rfl))
          clear HST
          go_wp2_with (at_builtin; refine Halt.mk ?_)
          clear a0 a1 a2 a3 a4 a5 a6
          refine Halt.of ?_
          have hb6 := (Below.refl w5.heap.size w5).alloc (Nat.le_refl _) (.cells #[.int .i64 f0, .string f1, .int .u64 f2, .slice A4 f3.length c4, .int .u64 f4, .int .u64 f5, .string f6] 70)
          obtain ⟨w6, hw6⟩ : ∃ w6, (w5.alloc (.cells #[.int .i64 f0, .string f1, .int .u64 f2, .slice A4 f3.length c4, .int .u64 f4, .int .u64 f5, .string f6] 70)) = w6 := ⟨_, rfl⟩
          rw [hw6] at hb6 ⊢
          have hk7 : (w6.alloc (.cells #[.int .i64 f0, .string f1, .int .u64 f2, .slice A4 f3.length c4, .int .u64 f4, .int .u64 f5, .string f6] 70)).heap[w6.heap.size]? = some (.cells #[.int .i64 f0, .string f1, .int .u64 f2, .slice A4 f3.length c4, .int .u64 f4, .int .u64 f5, .string f6] 70 (0, 0)) := heap_new _ _
          have hb7 := hb6.trans ((Below.refl w6.heap.size w6).alloc (Nat.le_refl _) (.cells #[.int .i64 f0, .string f1, .int .u64 f2, .slice A4 f3.length c4, .int .u64 f4, .int .u64 f5, .string f6] 70) |>.mono hb6.size)
          have hz6 : w6.heap.size = w5.heap.size + 1 := by rw [← hw6, heap_size_alloc]
          rw [hz6] at hk7
          have HB7 := Lib.hid (HB5.out.trans (hb7.mono HB5.out.size))
          have HR7 := Lib.hid (Kd.R_lower (Kd.R_mono (Kd.R_bound (Kd.R_below HR4.out hb7)) (ok' := fun k => wr.heap.size + 1 ≤ k) (fun k hk => hk.2.1)) (show w.heap.size ≤ wr.heap.size + 1 from by have := HBL.out.size; omega))
          refine Kd.R_append_rows k70 (w0 := w) w.heap.size rfl (.tmp 33) (.tmp 35) 88 70 (.agg #[.int .i64 0, .string ⟨#[]⟩, .int .u64 0, .slice none 0 0, .int .u64 0, .int .u64 0, .string ⟨#[]⟩]) 88 rfl Try.underlying88 info_rec rfl (show 0 < 7 by decide) (by omega) _ acc [⟨f0, f1, f2, f3, f4, f5, f6⟩] _ _ _ (fun _ => True) (fun k => wr.heap.size + 1 ≤ k) rfl rfl (Kd.R_below HO5.out hb7) (row_one (x := ⟨f0, f1, f2, f3, f4, f5, f6⟩) hk7) ?_ ?_ (fun _ _ => trivial) HB7.out HB7.out.size (by rw [HHL.out]; omega) ?_
          · rintro _ _ ⟨rfl, rfl⟩
            exact k70_mkM _ _ _ ⟨f0, f1, f2, f3, f4, f5, f6⟩ HR7.out
          · intro k hk
            exact ⟨trivial, fun e => by have := HOK.out k e.symm; omega⟩
          · intro v7 w8 hO8 hB8 _ _
            have HO8 := Lib.hid hO8
            have HB8 := Lib.hid hB8
            clear hO8 hB8 hk7 hb6 hb7
            go_wp2_with fail
            go_roundw
            case rel => exact ⟨i + 1, acc ++ [⟨f0, f1, f2, f3, f4, f5, f6⟩], by omega, by go_num, HO8, Lib.hid ⟨HS2.out.symm, by rw [List.length_append, HHL.out]; rfl⟩, HB8⟩
            case measure => simp [intOf]; omega
        · have hde : decide (ef = 0) = false := decide_eq_false he
          have HS2 := Lib.hid (HST.out.trans (if_neg he))
          go_wp2_with fail
          go_ret2
          rw [HS2.out]
          exact ⟨_, rfl, Kd.R_nil _ _ _ _ _, HB5.out.alloc HB5.out.size _⟩
      · obtain rfl : i = l.length := by omega
        have h2 := hall.out.1
        rw [List.drop_length, allL] at h2
        have HS2 := Lib.hid h2
        clear h2
        go_wp2_with fail
        go_ret2
        rw [← HS2.out]
        exact ⟨_, rfl, HO.out, HBL.out⟩
  · rw [if_neg hv]
    rw [show decide (1 ≤ u ∧ u ≤ v ∧ v ≤ 3) = false from decide_eq_false hv] at HVS
    clear hv
    go_enter Try.func59, Try.ntmps59
    go_wp2_with fail
    refine HVS.out.mono ?_
    rintro e w1 ⟨rfl, rfl⟩
    go_wp2_with fail
    go_ret2
    exact ⟨_, rfl, Kd.R_nil _ _ _ _ _, Below.refl _ _⟩
end
section
variable (u v : Int) (A : Option Addr) (c : Nat) (l : List S70) (w : World)
set_option maxHeartbeats 4000000 in
set_option maxRecDepth 100000 in
theorem rall_any (hC : Kd.C k70 w A l.length l) (hc : l.length ≤ c) (hl : l.length ≤ 1000000) (hok : ∀ x ∈ l, RecOk x.f1 x.f3 x.f6) :
    Calls Try.prog 60 #[.int .i64 u, .int .i64 v, .slice A l.length c] w fun e w' => ∃ v3, e = .returned (.tuple #[v3, .int .i64 (allF u v l).2]) ∧ Kd.R (Kd.fixed k70 w) 70 w' w.heap.size (fun _ => True) v3 (allF u v l).1 ∧ Below w.heap.size w w' := by
  have HC := Lib.hid hC
  have HOK := Lib.hid hok
  clear hC hok
  unfold allF
  by_cases hv : 1 ≤ u ∧ u ≤ v ∧ v ≤ 3
  · rw [if_pos hv]
    have hd1 : decide (u < 1) = false := decide_eq_false (by omega)
    have hd2 : decide (3 < v) = false := decide_eq_false (by omega)
    have hd3 : decide (v < u) = false := decide_eq_false (by omega)
    clear hv
    go_enter Try.func60, Try.ntmps60
    go_wp2_with fail
    go_loopw [8, 9] (fun u8 u19 wr => ∃ (i : Nat) (acc : List S70), i ≤ l.length ∧ u19 = .int .i64 i ∧ Hid (Kd.R (Kd.fixed k70 w) 70 wr w.heap.size (fun _ => True) u8 acc) ∧ Hid (allL u v (l.drop i) acc = allL u v l [] ∧ acc.length = i) ∧ Hid (Below w.heap.size w wr)) (fun _ v _ => l.length - (intOf v).toNat)
    case atStart => exact ⟨0, [], by omega, rfl, Lib.hid (R_empty _ _ _ _ _ _ (heap_new _ _) (Nat.le_refl _) trivial), Lib.hid ⟨by rw [List.drop_zero], rfl⟩, Lib.hid ((Below.refl _ _).alloc (Nat.le_refl _) _)⟩
    case round =>
      obtain ⟨i, acc, hi, rfl, HO, hall, HBL⟩ := hrel
      by_cases hlt : i < l.length
      · have hdl : decide ((i : Int) < (l.length : Int)) = true := decide_eq_true (by omega)
        have htk : l.drop i = l[i] :: l.drop (i + 1) := List.drop_eq_getElem_cons hlt
        obtain ⟨x, hx⟩ : ∃ x, l[i] = x := ⟨_, rfl⟩
        obtain ⟨ad, A3, c3, hA, h0, h1, h2, h3, h4, h5, h6, hle, hrow0⟩ := at_rec2 HC.out HBL.out i hlt x hx
        subst hA
        rw [hx] at htk
        have hokx := HOK.out x (hx ▸ List.getElem_mem _)
        have hst : allL u v (x :: l.drop (i + 1)) acc = if (toF u v x.f0 x.f1 x.f2 x.f3 x.f4 x.f5 x.f6).2 = 0 then allL u v (l.drop (i + 1)) (acc ++ [recOf (toF u v x.f0 x.f1 x.f2 x.f3 x.f4 x.f5 x.f6).1]) else ([], (toF u v x.f0 x.f1 x.f2 x.f3 x.f4 x.f5 x.f6).2) := rfl
        rw [← htk, hall.out.1] at hst
        have HT := Lib.hid (fun W (h : Below _ _ W) => rto_any3 u v x.f0 x.f1 x.f2 A3 c3 x.f3 x.f4 x.f5 x.f6 w W (HBL.out.trans (h.mono HBL.out.size)) hrow0 hle hokx)
        have hal := hall.out.2
        generalize toF u v x.f0 x.f1 x.f2 x.f3 x.f4 x.f5 x.f6 = F at HT hst
        obtain ⟨⟨f0, f1, f2, f3, f4, f5, f6⟩, ef⟩ := F
        dsimp only [recOf] at HT hst
        obtain ⟨a0, a1, a2, a3, a4, a5, a6⟩ := box7 HBL.out (.int .i64 x.f0) (.string x.f1) (.int .u64 x.f2) (.slice A3 x.f3.length c3) (.int .u64 x.f4) (.int .u64 x.f5) (.string x.f6)
        have HST := Lib.hid hst
        have HHL := Lib.hid hal
        clear htk hall hrow0 hokx hst hx hal hle
        go_wp2_with fail
        clear a0 a1 a2 a3 a4 a5 a6 h0 h1 h2 h3 h4 h5 h6
        refine (HT.out _ (Below.refl _ _)).mono ?_
        rintro e w5 ⟨A4, c4, rfl, hR, hb⟩
        have hb5 := hb
        have HB5 := Lib.hid (HBL.out.trans (hb5.mono HBL.out.size))
        have HO5 := Lib.hid (Kd.R_below HO.out hb5)
        have HOK := Lib.hid (own_lt (Kd.R_own HO.out).choose_spec)
        have HSZ := Lib.hid hb5.size
        have HR4 := Lib.hid hR
        clear hR hb hb5 HO HT
        obtain ⟨a0, a1, a2, a3, a4, a5, a6⟩ := box7 HB5.out (.int .i64 f0) (.string f1) (.int .u64 f2) (.slice A4 f3.length c4) (.int .u64 f4) (.int .u64 f5) (.string f6)
        by_cases he : ef = 0
        · subst he
          have HS2 := Lib.hid (HST.out.trans (if_pos rfl))
          clear HST
          go_wp2_with (at_builtin; refine Halt.mk ?_)
          clear a0 a1 a2 a3 a4 a5 a6
          refine Halt.of ?_
          have hb6 := (Below.refl w5.heap.size w5).alloc (Nat.le_refl _) (.cells #[.int .i64 f0, .string f1, .int .u64 f2, .slice A4 f3.length c4, .int .u64 f4, .int .u64 f5, .string f6] 70)
          obtain ⟨w6, hw6⟩ : ∃ w6, (w5.alloc (.cells #[.int .i64 f0, .string f1, .int .u64 f2, .slice A4 f3.length c4, .int .u64 f4, .int .u64 f5, .string f6] 70)) = w6 := ⟨_, rfl⟩
          rw [hw6] at hb6 ⊢
          have hk7 : (w6.alloc (.cells #[.int .i64 f0, .string f1, .int .u64 f2, .slice A4 f3.length c4, .int .u64 f4, .int .u64 f5, .string f6] 70)).heap[w6.heap.size]? = some (.cells #[.int .i64 f0, .string f1, .int .u64 f2, .slice A4 f3.length c4, .int .u64 f4, .int .u64 f5, .string f6] 70 (0, 0)) := heap_new _ _
          have hb7 := hb6.trans ((Below.refl w6.heap.size w6).alloc (Nat.le_refl _) (.cells #[.int .i64 f0, .string f1, .int .u64 f2, .slice A4 f3.length c4, .int .u64 f4, .int .u64 f5, .string f6] 70) |>.mono hb6.size)
          have hz6 : w6.heap.size = w5.heap.size + 1 := by rw [← hw6, heap_size_alloc]
          rw [hz6] at hk7
          have HB7 := Lib.hid (HB5.out.trans (hb7.mono HB5.out.size))
          refine Kd.R_append_rows (Kd.fixed k70 w) (w0 := w) w.heap.size rfl (.tmp 45) (.tmp 47) 88 70 (.agg #[.int .i64 0, .string ⟨#[]⟩, .int .u64 0, .slice none 0 0, .int .u64 0, .int .u64 0, .string ⟨#[]⟩]) 88 rfl Try.underlying88 info_rec rfl (show 0 < 7 by decide) (by omega) _ acc [⟨f0, f1, f2, f3, f4, f5, f6⟩] _ _ _ (fun _ => True) (fun k => wr.heap.size + 1 ≤ k) rfl rfl (Kd.R_below HO5.out hb7) (row_one (x := ⟨f0, f1, f2, f3, f4, f5, f6⟩) hk7) ?_ ?_ (fun _ _ => trivial) HB7.out HB7.out.size (by rw [HHL.out]; omega) ?_
          · rintro _ _ ⟨rfl, rfl⟩
            exact k70_mk w ⟨f0, f1, f2, f3, f4, f5, f6⟩ HR4.out.2 HR4.out.1
          · intro k hk
            exact ⟨trivial, fun e => by have := HOK.out k e.symm; omega⟩
          · intro v7 w8 hO8 hB8 _ _
            have HO8 := Lib.hid hO8
            have HB8 := Lib.hid hB8
            clear hO8 hB8 hk7 hb6 hb7
            go_wp2_with fail
            go_roundw
            case rel => exact ⟨i + 1, acc ++ [⟨f0, f1, f2, f3, f4, f5, f6⟩], by omega, by go_num, HO8, Lib.hid ⟨HS2.out.symm, by rw [List.length_append, HHL.out]; rfl⟩, HB8⟩
            case measure => simp [intOf]; omega
        · have hde : decide (ef = 0) = false := decide_eq_false he
          have HS2 := Lib.hid (HST.out.trans (if_neg he))
          go_wp2_with fail
          go_ret2
          rw [HS2.out]
          exact ⟨_, rfl, R_empty _ _ _ _ _ _ (heap_new2 _ _ _) (by have := HB5.out.size; omega) trivial, (HB5.out.alloc HB5.out.size _).alloc (HB5.out.alloc HB5.out.size _).size _⟩
      · obtain rfl : i = l.length := by omega
        have h2 := hall.out.1
        rw [List.drop_length, allL] at h2
        have HS2 := Lib.hid h2
        clear h2
        go_wp2_with fail
        go_ret2
        rw [← HS2.out]
        exact ⟨_, rfl, HO.out, HBL.out⟩
  · rw [if_neg hv]
    by_cases h1 : u < 1
    · have hd1 : decide (u < 1) = true := decide_eq_true h1
      clear hv
      go_enter Try.func60, Try.ntmps60
      go_wp2_with fail
      go_ret2
      exact ⟨_, rfl, R_empty _ _ _ _ _ _ (heap_new _ _) (Nat.le_refl _) trivial, (Below.refl _ _).alloc (Nat.le_refl _) _⟩
    · have hd1 : decide (u < 1) = false := decide_eq_false h1
      by_cases h2 : 3 < v
      · have hd2 : decide (3 < v) = true := decide_eq_true h2
        clear hv
        go_enter Try.func60, Try.ntmps60
        go_wp2_with fail
        go_ret2
        exact ⟨_, rfl, R_empty _ _ _ _ _ _ (heap_new _ _) (Nat.le_refl _) trivial, (Below.refl _ _).alloc (Nat.le_refl _) _⟩
      · have hd2 : decide (3 < v) = false := decide_eq_false h2
        have hd3 : decide (v < u) = true := decide_eq_true (by omega)
        clear hv
        go_enter Try.func60, Try.ntmps60
        go_wp2_with fail
        go_ret2
        exact ⟨_, rfl, R_empty _ _ _ _ _ _ (heap_new _ _) (Nat.le_refl _) trivial, (Below.refl _ _).alloc (Nat.le_refl _) _⟩
end
end Go.Proofs.Ythpbkhagjgggjaa
