/- Texts laid as one by shake.py, cut to what the claim needs: SchT, SchX. (Names that begin with W and the print's groups (G..x, G..z): laid by the kit's print, cut.) -/
import Derived.Test.YtfflenbfapgilaaZRs
import Derived.Test.YtfflenbfapgilaaZRl
set_option linter.unusedVariables false
set_option linter.unusedSimpArgs false
set_option linter.unusedSectionVars false
namespace Go.Proofs.Ytfflenbfapgilaa
open Go.RowKit Go.Proofs.YtfflenbfapgilaaW.PrintWords Go.Proofs.Ytfflenbfapgilaa.GRR
abbrev Rec9 := Int × ByteArray × Int × List S113 × Int × Int × ByteArray
/-- Behind the numbers of a trace, by the version. -/
def tailR (v : Int) (T : List ByteArray) (l : List Int) (k : Int) (s : ByteArray) (x2 : Int) (ds : List S113) (x4 a e : Int) : Rec9 × Int × Int :=
  if v < 2 then ((k, s, x2, ds, x4, 0, ⟨#[]⟩), a, e)
  else if v < 3 then ((k, s, x2, ds, x4, (cuNum l a e).1, ⟨#[]⟩), (cuNum l a e).2)
  else if 0 < (cuNum l (cuNum l a e).2.1 (cuNum l a e).2.2).1 then ((k, s, x2, ds, x4, (cuNum l a e).1, txF T ((cuNum l (cuNum l a e).2.1 (cuNum l a e).2.2).1 - 1)), (cuNum l (cuNum l a e).2.1 (cuNum l a e).2.2).2.1, txE T ((cuNum l (cuNum l a e).2.1 (cuNum l a e).2.2).1 - 1) (cuNum l (cuNum l a e).2.1 (cuNum l a e).2.2).2.2)
  else ((k, s, x2, ds, x4, (cuNum l a e).1, ⟨#[]⟩), (cuNum l (cuNum l a e).2.1 (cuNum l a e).2.2).2)
/-- Behind a trace's target. -/
def traceR (v : Int) (T : List ByteArray) (l : List Int) (k : Int) (s : ByteArray) (a e : Int) : Rec9 × Int × Int :=
  tailR v T l k s (cuNum l a e).1 (depsL v T l (l.length + 2) (cuNum l (cuNum l a e).2.1 (cuNum l a e).2.2).1 (cuNum l (cuNum l a e).2.1 (cuNum l a e).2.2).2.1 (cuNum l (cuNum l a e).2.1 (cuNum l a e).2.2).2.2 []).1
    (cuNum l (depsL v T l (l.length + 2) (cuNum l (cuNum l a e).2.1 (cuNum l a e).2.2).1 (cuNum l (cuNum l a e).2.1 (cuNum l a e).2.2).2.1 (cuNum l (cuNum l a e).2.1 (cuNum l a e).2.2).2.2 []).2.1 (depsL v T l (l.length + 2) (cuNum l (cuNum l a e).2.1 (cuNum l a e).2.2).1 (cuNum l (cuNum l a e).2.1 (cuNum l a e).2.2).2.1 (cuNum l (cuNum l a e).2.1 (cuNum l a e).2.2).2.2 []).2.2).1
    (cuNum l (depsL v T l (l.length + 2) (cuNum l (cuNum l a e).2.1 (cuNum l a e).2.2).1 (cuNum l (cuNum l a e).2.1 (cuNum l a e).2.2).2.1 (cuNum l (cuNum l a e).2.1 (cuNum l a e).2.2).2.2 []).2.1 (depsL v T l (l.length + 2) (cuNum l (cuNum l a e).2.1 (cuNum l a e).2.2).1 (cuNum l (cuNum l a e).2.1 (cuNum l a e).2.2).2.1 (cuNum l (cuNum l a e).2.1 (cuNum l a e).2.2).2.2 []).2.2).2.1
    (cuNum l (depsL v T l (l.length + 2) (cuNum l (cuNum l a e).2.1 (cuNum l a e).2.2).1 (cuNum l (cuNum l a e).2.1 (cuNum l a e).2.2).2.1 (cuNum l (cuNum l a e).2.1 (cuNum l a e).2.2).2.2 []).2.1 (depsL v T l (l.length + 2) (cuNum l (cuNum l a e).2.1 (cuNum l a e).2.2).1 (cuNum l (cuNum l a e).2.1 (cuNum l a e).2.2).2.1 (cuNum l (cuNum l a e).2.1 (cuNum l a e).2.2).2.2 []).2.2).2.2
/-- A record's last payload read. -/
def lastR (v : Int) (T : List ByteArray) (l : List Int) : Rec9 × Int × Int :=
  if (cuByte l 0 0).1 = 1 then traceR v T l (cuByte l 0 0).1 (textR v T l (cuByte l 0 0).2.1 (cuByte l 0 0).2.2).1 (textR v T l (cuByte l 0 0).2.1 (cuByte l 0 0).2.2).2.1 (textR v T l (cuByte l 0 0).2.1 (cuByte l 0 0).2.2).2.2
  else (((cuByte l 0 0).1, (textR v T l (cuByte l 0 0).2.1 (cuByte l 0 0).2.2).1, 0, [], 0, 0, ⟨#[]⟩), (textR v T l (cuByte l 0 0).2.1 (cuByte l 0 0).2.2).2)
/-- What the reader's last leaves. -/
def LastPost (W : World) (g : Nat) (r : Rec9) (en : Ending) (W' : World) : Prop :=
  ∃ dv, en = .returned (.agg #[.int .i64 r.1, .string r.2.1, .int .u64 r.2.2.1, dv, .int .u64 r.2.2.2.2.1, .int .u64 r.2.2.2.2.2.1, .string r.2.2.2.2.2.2]) ∧ Kd.R k113 113 W' W.heap.size (fun _ => True) dv r.2.2.2.1 ∧ Kp W W' (fun k => k = g)
theorem depR_place (v : Int) (T : List ByteArray) (l : List Int) (hb : ∀ x ∈ l, 0 ≤ x ∧ x < 256) (a e : Int) (ha : 0 ≤ a ∧ a ≤ l.length) : a ≤ (depR v T l a e).2.1 ∧ (depR v T l a e).2.1 ≤ l.length := by
  unfold depR textR txR
  split
  · split
    · exact ⟨(cuText_step l hb 64 a e ha).2.1, (cuText_step l hb 64 a e ha).1⟩
    · exact ⟨(cuNum_step l hb a e ha).2.1, (cuNum_step l hb a e ha).1⟩
  · exact ⟨(cuNum_step l hb a e ha).2.1, (cuNum_step l hb a e ha).1⟩
theorem row_dep {w : World} {b : Nat} {s : ByteArray} {h : Int} {o : Bool} (hb : w.heap[b]? = some (.cells #[.string s, .int .u64 h, .bool o] 113 (0, 0))) :
    ReadsRow (fun y cs => y = (⟨s, h, o⟩ : S113) ∧ cs = [.string s, .int .u64 h, .bool o]) 3 w (some ⟨b, 0, none⟩) 1 [⟨s, h, o⟩] := by
  refine ⟨rfl, by omega, fun _ => ⟨_, rfl, fun j p hj => ?_⟩⟩
  match j with
  | 0 =>
    obtain rfl : (⟨s, h, o⟩ : S113) = p := by simpa using hj
    refine ⟨_, rfl, ⟨rfl, rfl⟩, fun i u hu => ?_⟩
    rw [Nat.zero_mul, Nat.zero_add]
    have e : (⟨b, 0, none⟩ : Addr).add i = ⟨b, i, none⟩ := add_plain b i
    rw [e, blk_cell hb i]
    simpa using hu
  | j + 1 => simp at hj
theorem LSt.pushed {w0 W X X' : World} {S : Nat → Prop} {g t : Nat} {T : List ByteArray} {l : List Int} {b : Nat} {k : Int} {s : ByteArray} {x2 : Int} {dv dv' : Value} {ds ds' : List S113} {x4 x5 : Int} {tag : ByteArray} {a e : Int}
    (h : LSt w0 W X S g t T l b k s x2 dv ds x4 x5 tag a e) (hg : X.grownBy X' dv.ownBlock) (hR : Kd.R k113 113 X' (b + 2) (fun _ => True) dv' ds') :
    X'.heap[b + 1]? = some (.cells #[.int .i64 k, .string s, .int .u64 x2, dv, .int .u64 x4, .int .u64 x5, .string tag] 62 (0, 0)) ∧ LSt w0 W (X'.setCell ⟨b + 1, 3, none⟩ dv') S g t T l b k s x2 dv' ds' x4 x5 tag a e := by
  have hr : ∀ q, dv.ownBlock = some q → b + 2 ≤ q := fun q e => by
    obtain ⟨inner, ho⟩ := Kd.R_own h.row
    exact own_base ho q e
  obtain ⟨g1, g2, g3, g4⟩ := h.grown hg hr hR
  exact ⟨g3, LSt.far g1 h.gb h.sb h.wb (b + 1) 3 (by omega) _, (Below.heap_setCell _ ⟨b + 1, 3, none⟩ _ _ (by show b ≠ b + 1; omega)).trans g2, blk_put (cs' := #[.int .i64 k, .string s, .int .u64 x2, dv', .int .u64 x4, .int .u64 x5, .string tag]) g3 3 dv' rfl, R_above hR (fun q hq _ => Below.heap_setCell _ ⟨b + 1, 3, none⟩ _ _ (by show q ≠ b + 1; omega)), g4.setCell (p := ⟨b + 1, 3, none⟩) (.inr (by have := h.bW; show W.heap.size ≤ b + 1; omega)) _, h.bW, h.gb, h.sb, h.wb⟩
theorem cuByte_rg (l : List Int) (hb : ∀ x ∈ l, 0 ≤ x ∧ x < 256) : 0 ≤ (cuByte l 0 0).1 ∧ (cuByte l 0 0).1 < 256 := by
  unfold cuByte
  rw [if_neg (by simp)]
  split
  · exact ⟨by simp, by simp⟩
  · rename_i h
    have hp : 0 < l.length := by rcases Nat.eq_zero_or_pos l.length with h0 | h0 <;> omega
    have e : rd l 0 = l[0] := by simp [rd, hp]
    have := hb l[0] (List.getElem_mem _)
    dsimp only
    rw [e]; exact this
set_option maxHeartbeats 2000000 in
set_option maxRecDepth 100000 in
theorem rlast1_any {w0 W : World} {S : Nat → Prop} {g t : Nat} {T : List ByteArray} {l : List Int} (h : Rd w0 W S g t T l 0 0) (hb : ∀ x ∈ l, 0 ≤ x ∧ x < 256) (hl : l.length ≤ 1000000) :
    Calls Try.prog 76 #[.agg #[.pointer (some ⟨g, 0, none⟩), .pointer (some ⟨t, 0, none⟩)], .int .i64 1] W (LastPost W g (lastR 1 T l).1) := by
  obtain ⟨w1, hw1⟩ : ∃ w1, (W.alloc (.cells #[.pointer (some ⟨g, 0, none⟩), .pointer (some ⟨t, 0, none⟩)] 140)).alloc (.cells #[.int .i64 0, .string ⟨#[]⟩, .int .u64 0, .slice none 0 0, .int .u64 0, .int .u64 0, .string ⟨#[]⟩] 62) = w1 := ⟨_, rfl⟩
  have hb1 : Below W.heap.size W w1 := by rw [← hw1]; exact ((Below.refl _ _).alloc (Nat.le_refl _) _).alloc (by rw [heap_size_alloc]; omega) _
  have hk2 : w1.heap[W.heap.size]? = some (.cells #[.pointer (some ⟨g, 0, none⟩), .pointer (some ⟨t, 0, none⟩)] 140 (0, 0)) := by rw [← hw1]; exact blk_alloc (heap_new _ _) _
  have hk4 : w1.heap[W.heap.size + 1]? = some (.cells #[.int .i64 0, .string ⟨#[]⟩, .int .u64 0, .slice none 0 0, .int .u64 0, .int .u64 0, .string ⟨#[]⟩] 62 (0, 0)) := by
    rw [← hw1]
    have := heap_new (W.alloc (.cells #[.pointer (some ⟨g, 0, none⟩), .pointer (some ⟨t, 0, none⟩)] 140)) (.cells #[.int .i64 0, .string ⟨#[]⟩, .int .u64 0, .slice none 0 0, .int .u64 0, .int .u64 0, .string ⟨#[]⟩] 62)
    rwa [heap_size_alloc] at this
  obtain ⟨b, hbb⟩ : ∃ b, W.heap.size = b := ⟨_, rfl⟩
  have hgl : g < W.heap.size := by obtain ⟨_, _, hc, _⟩ := h.cu; exact blk_lt hc
  have hst : LSt w0 W w1 S g t T l W.heap.size 0 ⟨#[]⟩ 0 (.slice none 0 0) [] 0 0 ⟨#[]⟩ 0 0 :=
    ⟨h.keep hb1, hk2, hk4, Kd.R_nil _ _ _ _ _, Kp.of_below hb1 _, rfl, hgl, h.tab.lt, h.b.size⟩
  rw [hbb] at hst
  have hr1 := rbyte_any hst.rd hl (by omega)
  have HBY := Lib.hid hr1
  have HST := Lib.hid hst
  have HW1 := Lib.hid hw1
  have HBB := Lib.hid hbb
  have HU := Lib.hid Try.underlying62
  have hrg := cuByte_rg l hb
  have hb1p : 0 ≤ (cuByte l 0 0).2.1 ∧ (cuByte l 0 0).2.1 ≤ (l.length : Int) := by unfold cuByte; rw [if_neg (by simp)]; split <;> (dsimp only; constructor <;> omega)
  have HLR : Hid (lastR 1 T l = lastR 1 T l) := Lib.hid rfl
  generalize hRR : lastR 1 T l = RR at HLR ⊢
  conv at HLR => rw [← hRR]
  unfold lastR at hRR
  clear HLR h hb1 hw1 hk2 hk4 hbb hgl hst hr1
  generalize cuByte l 0 0 = F1 at *
  obtain ⟨kb, a1, e1⟩ := F1
  dsimp only at HBY hrg hRR hb1p
  rw [show textR 1 T l a1 e1 = cuText l 64 a1 e1 from rfl] at hRR
  have HTX := Lib.hid (fun (X : World) (hr : Rd w0 X S g t T l a1 e1) => rblob_any hr hb hl)
  have hpl : 0 ≤ (cuText l 64 a1 e1).2.1 ∧ (cuText l 64 a1 e1).2.1 ≤ (l.length : Int) := (by have := cuText_step l hb 64 a1 e1 hb1p; exact ⟨by omega, this.1⟩)
  generalize cuText l 64 a1 e1 = F2 at *
  obtain ⟨s, a2, e2⟩ := F2
  dsimp only at HTX hRR hpl
  have HPL := Lib.hid hpl
  clear hpl
  have HRR := Lib.hid hRR
  clear hRR
  have hcv : IntKind.i64.wrap kb = kb := by rw [IntKind.wrap_i64]; omega
  have p0 : (w1).cell? ⟨b, 0, none⟩ = some (.pointer (some ⟨g, 0, none⟩)) := (blk_cell HST.out.bx2 0).trans rfl
  have p1 : (w1).cell? ⟨b, 1, none⟩ = some (.pointer (some ⟨t, 0, none⟩)) := (blk_cell HST.out.bx2 1).trans rfl
  have r0 : (w1).cell? ⟨b + 1, 0, none⟩ = some (.int .i64 0) := (blk_cell HST.out.bx4 0).trans rfl
  have f0 := blk_frozen HST.out.bx4 0
  have r1 : (w1).cell? ⟨b + 1, 1, none⟩ = some (.string ⟨#[]⟩) := (blk_cell HST.out.bx4 1).trans rfl
  have f1 := blk_frozen HST.out.bx4 1
  have r2 : (w1).cell? ⟨b + 1, 2, none⟩ = some (.int .u64 0) := (blk_cell HST.out.bx4 2).trans rfl
  have f2 := blk_frozen HST.out.bx4 2
  have r3 : (w1).cell? ⟨b + 1, 3, none⟩ = some (.slice none 0 0) := (blk_cell HST.out.bx4 3).trans rfl
  have f3 := blk_frozen HST.out.bx4 3
  have r4 : (w1).cell? ⟨b + 1, 4, none⟩ = some (.int .u64 0) := (blk_cell HST.out.bx4 4).trans rfl
  have f4 := blk_frozen HST.out.bx4 4
  have r5 : (w1).cell? ⟨b + 1, 5, none⟩ = some (.int .u64 0) := (blk_cell HST.out.bx4 5).trans rfl
  have f5 := blk_frozen HST.out.bx4 5
  have r6 : (w1).cell? ⟨b + 1, 6, none⟩ = some (.string ⟨#[]⟩) := (blk_cell HST.out.bx4 6).trans rfl
  have f6 := blk_frozen HST.out.bx4 6
  go_enter Try.func76, Try.ntmps76
  go_wp2_with fail
  rw [HW1.out, HBB.out]
  clear p0 p1 r0 f0 r1 f1 r2 f2 r3 f3 r4 f4 r5 f5 r6 f6
  refine HBY.out.mono ?_
  rintro en w2 hp
  have hs2 := HST.out.read hp
  obtain ⟨rfl, _⟩ := hp
  have hs3 := hs2.putAll kb ⟨#[]⟩ 0 (.slice none 0 0) 0 0 ⟨#[]⟩ hs2.row
  have p0 : (w2).cell? ⟨b, 0, none⟩ = some (.pointer (some ⟨g, 0, none⟩)) := (blk_cell hs2.bx2 0).trans rfl
  have p1 : (w2).cell? ⟨b, 1, none⟩ = some (.pointer (some ⟨t, 0, none⟩)) := (blk_cell hs2.bx2 1).trans rfl
  have r0 : (w2).cell? ⟨b + 1, 0, none⟩ = some (.int .i64 0) := (blk_cell hs2.bx4 0).trans rfl
  have f0 := blk_frozen hs2.bx4 0
  have r1 : (w2).cell? ⟨b + 1, 1, none⟩ = some (.string ⟨#[]⟩) := (blk_cell hs2.bx4 1).trans rfl
  have f1 := blk_frozen hs2.bx4 1
  have r2 : (w2).cell? ⟨b + 1, 2, none⟩ = some (.int .u64 0) := (blk_cell hs2.bx4 2).trans rfl
  have f2 := blk_frozen hs2.bx4 2
  have r3 : (w2).cell? ⟨b + 1, 3, none⟩ = some (.slice none 0 0) := (blk_cell hs2.bx4 3).trans rfl
  have f3 := blk_frozen hs2.bx4 3
  have r4 : (w2).cell? ⟨b + 1, 4, none⟩ = some (.int .u64 0) := (blk_cell hs2.bx4 4).trans rfl
  have f4 := blk_frozen hs2.bx4 4
  have r5 : (w2).cell? ⟨b + 1, 5, none⟩ = some (.int .u64 0) := (blk_cell hs2.bx4 5).trans rfl
  have f5 := blk_frozen hs2.bx4 5
  have r6 : (w2).cell? ⟨b + 1, 6, none⟩ = some (.string ⟨#[]⟩) := (blk_cell hs2.bx4 6).trans rfl
  have f6 := blk_frozen hs2.bx4 6
  obtain ⟨w3, hw3⟩ : ∃ w3, (((((((w2.setCell ⟨b + 1, 0, none⟩ (.int .i64 kb)).setCell ⟨b + 1, 1, none⟩ (.string ⟨#[]⟩)).setCell ⟨b + 1, 2, none⟩ (.int .u64 0)).setCell ⟨b + 1, 3, none⟩ (.slice none 0 0)).setCell ⟨b + 1, 4, none⟩ (.int .u64 0)).setCell ⟨b + 1, 5, none⟩ (.int .u64 0)).setCell ⟨b + 1, 6, none⟩ (.string ⟨#[]⟩)) = w3 := ⟨_, rfl⟩
  rw [hw3] at hs3
  have HS3 := Lib.hid hs3
  have HW3 := Lib.hid hw3
  clear hs2 hs3 hw3 HST HBY
  go_wp2_with fail
  rw [HW3.out]
  clear p0 p1 r0 f0 r1 f1 r2 f2 r3 f3 r4 f4 r5 f5 r6 f6
  refine (HTX.out w3 HS3.out.rd).mono ?_
  rintro en w4 hp
  have hs4 := HS3.out.read hp
  obtain ⟨rfl, _⟩ := hp
  have hs5 := hs4.put1 s
  have p0 : (w4).cell? ⟨b, 0, none⟩ = some (.pointer (some ⟨g, 0, none⟩)) := (blk_cell hs4.bx2 0).trans rfl
  have p1 : (w4).cell? ⟨b, 1, none⟩ = some (.pointer (some ⟨t, 0, none⟩)) := (blk_cell hs4.bx2 1).trans rfl
  have r0 : (w4).cell? ⟨b + 1, 0, none⟩ = some (.int .i64 kb) := (blk_cell hs4.bx4 0).trans rfl
  have f0 := blk_frozen hs4.bx4 0
  have r1 : (w4).cell? ⟨b + 1, 1, none⟩ = some (.string ⟨#[]⟩) := (blk_cell hs4.bx4 1).trans rfl
  have f1 := blk_frozen hs4.bx4 1
  have r2 : (w4).cell? ⟨b + 1, 2, none⟩ = some (.int .u64 0) := (blk_cell hs4.bx4 2).trans rfl
  have f2 := blk_frozen hs4.bx4 2
  have r3 : (w4).cell? ⟨b + 1, 3, none⟩ = some (.slice none 0 0) := (blk_cell hs4.bx4 3).trans rfl
  have f3 := blk_frozen hs4.bx4 3
  have r4 : (w4).cell? ⟨b + 1, 4, none⟩ = some (.int .u64 0) := (blk_cell hs4.bx4 4).trans rfl
  have f4 := blk_frozen hs4.bx4 4
  have r5 : (w4).cell? ⟨b + 1, 5, none⟩ = some (.int .u64 0) := (blk_cell hs4.bx4 5).trans rfl
  have f5 := blk_frozen hs4.bx4 5
  have r6 : (w4).cell? ⟨b + 1, 6, none⟩ = some (.string ⟨#[]⟩) := (blk_cell hs4.bx4 6).trans rfl
  have f6 := blk_frozen hs4.bx4 6
  have yp0 : ((w4.setCell ⟨b + 1, 1, none⟩ (.string s))).cell? ⟨b, 0, none⟩ = some (.pointer (some ⟨g, 0, none⟩)) := (blk_cell hs5.bx2 0).trans rfl
  have yp1 : ((w4.setCell ⟨b + 1, 1, none⟩ (.string s))).cell? ⟨b, 1, none⟩ = some (.pointer (some ⟨t, 0, none⟩)) := (blk_cell hs5.bx2 1).trans rfl
  have yr0 : ((w4.setCell ⟨b + 1, 1, none⟩ (.string s))).cell? ⟨b + 1, 0, none⟩ = some (.int .i64 kb) := (blk_cell hs5.bx4 0).trans rfl
  have yf0 := blk_frozen hs5.bx4 0
  have yr1 : ((w4.setCell ⟨b + 1, 1, none⟩ (.string s))).cell? ⟨b + 1, 1, none⟩ = some (.string s) := (blk_cell hs5.bx4 1).trans rfl
  have yf1 := blk_frozen hs5.bx4 1
  have yr2 : ((w4.setCell ⟨b + 1, 1, none⟩ (.string s))).cell? ⟨b + 1, 2, none⟩ = some (.int .u64 0) := (blk_cell hs5.bx4 2).trans rfl
  have yf2 := blk_frozen hs5.bx4 2
  have yr3 : ((w4.setCell ⟨b + 1, 1, none⟩ (.string s))).cell? ⟨b + 1, 3, none⟩ = some (.slice none 0 0) := (blk_cell hs5.bx4 3).trans rfl
  have yf3 := blk_frozen hs5.bx4 3
  have yr4 : ((w4.setCell ⟨b + 1, 1, none⟩ (.string s))).cell? ⟨b + 1, 4, none⟩ = some (.int .u64 0) := (blk_cell hs5.bx4 4).trans rfl
  have yf4 := blk_frozen hs5.bx4 4
  have yr5 : ((w4.setCell ⟨b + 1, 1, none⟩ (.string s))).cell? ⟨b + 1, 5, none⟩ = some (.int .u64 0) := (blk_cell hs5.bx4 5).trans rfl
  have yf5 := blk_frozen hs5.bx4 5
  have yr6 : ((w4.setCell ⟨b + 1, 1, none⟩ (.string s))).cell? ⟨b + 1, 6, none⟩ = some (.string ⟨#[]⟩) := (blk_cell hs5.bx4 6).trans rfl
  have yf6 := blk_frozen hs5.bx4 6
  obtain ⟨w5, hw5⟩ : ∃ w5, (w4.setCell ⟨b + 1, 1, none⟩ (.string s)) = w5 := ⟨_, rfl⟩
  have hs6 := hs5
  rw [hw5] at hs6
  have HS5 := Lib.hid hs6
  have HS4 := Lib.hid hs5
  have HW5 := Lib.hid hw5
  clear hs4 hs5 hs6 hw5 HS3 HTX HW3
  by_cases hk1 : kb = 1
  · subst hk1
    have hR2 := HRR.out
    rw [if_pos rfl] at hR2
    unfold traceR at hR2
    have HN2 := Lib.hid (fun (X : World) (hr : Rd w0 X S g t T l a2 e2) => rnum_any hr hb hl)
    have hs2 := cuNum_step l hb a2 e2 HPL.out
    generalize cuNum l a2 e2 = N2 at *
    obtain ⟨x2, a3, e3⟩ := N2
    dsimp only at HN2 hR2 hs2
    have HN3 := Lib.hid (fun (X : World) (hr : Rd w0 X S g t T l a3 e3) => rnum_any hr hb hl)
    have hs3 := cuNum_step l hb a3 e3 ⟨by have := HPL.out; omega, hs2.1⟩
    generalize cuNum l a3 e3 = N3 at *
    obtain ⟨n, a4, e4⟩ := N3
    dsimp only at HN3 hR2 hs3
    have HP4 := Lib.hid (show 0 ≤ a4 ∧ a4 ≤ (l.length : Int) ∧ 0 ≤ n ∧ n < 18446744073709551616 from ⟨by have := HPL.out; omega, hs3.1, hs3.2.2.2.1, hs3.2.2.2.2.1⟩)
    obtain ⟨D, hD⟩ : ∃ D, depsL 1 T l (l.length + 2) n a4 e4 [] = D := ⟨_, rfl⟩
    rw [hD] at hR2
    have HDD := Lib.hid hD
    clear hD hs2 hs3
    obtain ⟨ds, a5, e5⟩ := D
    dsimp only at hR2
    have HN4 := Lib.hid (fun (X : World) (hr : Rd w0 X S g t T l a5 e5) => rnum_any hr hb hl)
    generalize cuNum l a5 e5 = N4 at *
    obtain ⟨x4, a6, e6⟩ := N4
    dsimp only at HN4 hR2
    unfold tailR at hR2
    rw [if_pos (by omega)] at hR2
    have HR2 := Lib.hid hR2
    clear hR2 HRR
    go_wp2_with fail
    rw [HW5.out]
    clear p0 p1 r0 f0 r1 f1 r2 f2 r3 f3 r4 f4 r5 f5 r6 f6 yp0 yp1 yr0 yf0 yr1 yf1 yr2 yf2 yr3 yf3 yr4 yf4 yr5 yf5 yr6 yf6
    refine (HN2.out w5 HS5.out.rd).mono ?_
    rintro en w6 hp
    have HS6 := Lib.hid (HS5.out.read hp)
    obtain ⟨rfl, _⟩ := hp
    have HS7 := Lib.hid (HS6.out.put2 x2)
    have p0 : (w6).cell? ⟨b, 0, none⟩ = some (.pointer (some ⟨g, 0, none⟩)) := (blk_cell HS6.out.bx2 0).trans rfl
    have p1 : (w6).cell? ⟨b, 1, none⟩ = some (.pointer (some ⟨t, 0, none⟩)) := (blk_cell HS6.out.bx2 1).trans rfl
    have r0 : (w6).cell? ⟨b + 1, 0, none⟩ = some (.int .i64 1) := (blk_cell HS6.out.bx4 0).trans rfl
    have f0 := blk_frozen HS6.out.bx4 0
    have r1 : (w6).cell? ⟨b + 1, 1, none⟩ = some (.string s) := (blk_cell HS6.out.bx4 1).trans rfl
    have f1 := blk_frozen HS6.out.bx4 1
    have r2 : (w6).cell? ⟨b + 1, 2, none⟩ = some (.int .u64 0) := (blk_cell HS6.out.bx4 2).trans rfl
    have f2 := blk_frozen HS6.out.bx4 2
    have r3 : (w6).cell? ⟨b + 1, 3, none⟩ = some (.slice none 0 0) := (blk_cell HS6.out.bx4 3).trans rfl
    have f3 := blk_frozen HS6.out.bx4 3
    have r4 : (w6).cell? ⟨b + 1, 4, none⟩ = some (.int .u64 0) := (blk_cell HS6.out.bx4 4).trans rfl
    have f4 := blk_frozen HS6.out.bx4 4
    have r5 : (w6).cell? ⟨b + 1, 5, none⟩ = some (.int .u64 0) := (blk_cell HS6.out.bx4 5).trans rfl
    have f5 := blk_frozen HS6.out.bx4 5
    have r6 : (w6).cell? ⟨b + 1, 6, none⟩ = some (.string ⟨#[]⟩) := (blk_cell HS6.out.bx4 6).trans rfl
    have f6 := blk_frozen HS6.out.bx4 6
    have yp0 : ((w6.setCell ⟨b + 1, 2, none⟩ (.int .u64 x2))).cell? ⟨b, 0, none⟩ = some (.pointer (some ⟨g, 0, none⟩)) := (blk_cell HS7.out.bx2 0).trans rfl
    have yp1 : ((w6.setCell ⟨b + 1, 2, none⟩ (.int .u64 x2))).cell? ⟨b, 1, none⟩ = some (.pointer (some ⟨t, 0, none⟩)) := (blk_cell HS7.out.bx2 1).trans rfl
    have yr0 : ((w6.setCell ⟨b + 1, 2, none⟩ (.int .u64 x2))).cell? ⟨b + 1, 0, none⟩ = some (.int .i64 1) := (blk_cell HS7.out.bx4 0).trans rfl
    have yf0 := blk_frozen HS7.out.bx4 0
    have yr1 : ((w6.setCell ⟨b + 1, 2, none⟩ (.int .u64 x2))).cell? ⟨b + 1, 1, none⟩ = some (.string s) := (blk_cell HS7.out.bx4 1).trans rfl
    have yf1 := blk_frozen HS7.out.bx4 1
    have yr2 : ((w6.setCell ⟨b + 1, 2, none⟩ (.int .u64 x2))).cell? ⟨b + 1, 2, none⟩ = some (.int .u64 x2) := (blk_cell HS7.out.bx4 2).trans rfl
    have yf2 := blk_frozen HS7.out.bx4 2
    have yr3 : ((w6.setCell ⟨b + 1, 2, none⟩ (.int .u64 x2))).cell? ⟨b + 1, 3, none⟩ = some (.slice none 0 0) := (blk_cell HS7.out.bx4 3).trans rfl
    have yf3 := blk_frozen HS7.out.bx4 3
    have yr4 : ((w6.setCell ⟨b + 1, 2, none⟩ (.int .u64 x2))).cell? ⟨b + 1, 4, none⟩ = some (.int .u64 0) := (blk_cell HS7.out.bx4 4).trans rfl
    have yf4 := blk_frozen HS7.out.bx4 4
    have yr5 : ((w6.setCell ⟨b + 1, 2, none⟩ (.int .u64 x2))).cell? ⟨b + 1, 5, none⟩ = some (.int .u64 0) := (blk_cell HS7.out.bx4 5).trans rfl
    have yf5 := blk_frozen HS7.out.bx4 5
    have yr6 : ((w6.setCell ⟨b + 1, 2, none⟩ (.int .u64 x2))).cell? ⟨b + 1, 6, none⟩ = some (.string ⟨#[]⟩) := (blk_cell HS7.out.bx4 6).trans rfl
    have yf6 := blk_frozen HS7.out.bx4 6
    obtain ⟨w7, hw7⟩ : ∃ w7, (w6.setCell ⟨b + 1, 2, none⟩ (.int .u64 x2)) = w7 := ⟨_, rfl⟩
    have hs8 := HS7.out
    rw [hw7] at hs8
    have HS8 := Lib.hid hs8
    have HW7 := Lib.hid hw7
    clear hs8 hw7
    go_wp2_with fail
    rw [HW7.out]
    clear p0 p1 r0 f0 r1 f1 r2 f2 r3 f3 r4 f4 r5 f5 r6 f6 yp0 yp1 yr0 yf0 yr1 yf1 yr2 yf2 yr3 yf3 yr4 yf4 yr5 yf5 yr6 yf6
    refine (HN3.out w7 HS8.out.rd).mono ?_
    rintro en w8 hp
    have HS9 := Lib.hid (HS8.out.read hp)
    obtain ⟨rfl, _⟩ := hp
    clear HS8 HS7 HS6 HS5 HS4 HW5 HW7 HN2 HN3
    go_wp2_with fail
    go_loopg [6] (l.length + 2) (fun kq u6 wr => ∃ (n a e : Int) (dv : Value) (dl : List S113), u6 = .int .u64 n ∧ 0 ≤ n ∧ n < 18446744073709551616 ∧ 0 ≤ a ∧ a ≤ (l.length : Int) ∧ Hid (LSt w0 W wr S g t T l b 1 s x2 dv dl 0 0 ⟨#[]⟩ a e) ∧ Hid (depsL 1 T l kq n a e dl = (ds, a5, e5)) ∧ (e = 0 → (l.length : Int) - a + 2 ≤ (kq : Int)) ∧ 1 ≤ kq ∧ dl.length + kq ≤ l.length + 2)
    case atStart => exact ⟨n, a4, e4, .slice none 0 0, [], rfl, HP4.out.2.2.1, HP4.out.2.2.2, HP4.out.1, HP4.out.2.1, HS9, HDD, fun _ => by have := HP4.out; omega, by omega, by simp⟩
    case round =>
      clear HDD HS9 HP4
      obtain ⟨n, a, e, dv, dl, rfl, hn0, hn1, ha0, ha1, H, HDL, hf1, hf2, hf3⟩ := hrel
      by_cases hn : 0 < n
      · have hnd : decide (0 < n) = true := decide_eq_true hn
        have p0 : wr.cell? ⟨b, 0, none⟩ = some (.pointer (some ⟨g, 0, none⟩)) := (blk_cell H.out.bx2 0).trans rfl
        have p1 : wr.cell? ⟨b, 1, none⟩ = some (.pointer (some ⟨t, 0, none⟩)) := (blk_cell H.out.bx2 1).trans rfl
        have HER := Lib.hid (rerr_any H.out.rd)
        by_cases he : e = 0
        · subst he
          cases gk with
          | zero => omega
          | succ k1 =>
            obtain ⟨Ad, cd, rfl⟩ := Kd.R_slice H.out.row
            have hdl := HDL.out
            rw [depsL, if_pos ⟨hn, rfl⟩] at hdl
            have hpd := depR_place 1 T l hb a 0 ⟨ha0, ha1⟩
            have HDP := Lib.hid (rdep1_any H.out.rd hb hl)
            generalize depR 1 T l a 0 = DR at *
            obtain ⟨⟨sd, od⟩, a7, e7⟩ := DR
            dsimp only at hdl hpd HDP
            have hps := cuNum_step l hb a7 e7 ⟨by omega, hpd.2⟩
            have HNH := Lib.hid (fun (X : World) (hr : Rd w0 X S g t T l a7 e7) => rnum_any hr hb hl)
            generalize cuNum l a7 e7 = NH at *
            obtain ⟨hh, a8, e8⟩ := NH
            dsimp only at hdl hps HNH
            have hwn : IntKind.u64.wrap (n - 1) = n - 1 := by rw [IntKind.wrap_u64]; omega
            have HDL2 := Lib.hid hdl
            have HPS := Lib.hid (show a + 0 ≤ a8 ∧ a8 ≤ (l.length : Int) ∧ (e8 = 0 → a + 1 ≤ a8) from ⟨by omega, hps.1, fun h => by have := (hps.2.2.1 h).1; omega⟩)
            have hfz := hf1 rfl
            clear hdl HDL hps hpd hf1
            go_wp2_with fail
            refine HER.out.mono ?_
            rintro en w9 ⟨rfl, rfl⟩
            go_wp2_with fail
            clear p0 p1 HER
            refine HDP.out.mono ?_
            rintro en w5 hp
            have HS5 := Lib.hid (H.out.read hp)
            obtain ⟨rfl, _⟩ := hp
            have HS6 := Lib.hid (HS5.out.below ((Below.refl _ _).alloc (Nat.le_refl _) (.cells #[.string sd, .int .u64 0, .bool od] 113)))
            have p0 : (w5.alloc (.cells #[.string sd, .int .u64 0, .bool od] 113)).cell? ⟨b, 0, none⟩ = some (.pointer (some ⟨g, 0, none⟩)) := (blk_cell HS6.out.bx2 0).trans rfl
            have hkb : (w5.alloc (.cells #[.string sd, .int .u64 0, .bool od] 113)).heap[w5.heap.size]? = some (.cells #[.string sd, .int .u64 0, .bool od] 113 (0, 0)) := heap_new _ _
            have hold : ∀ k, k < w5.heap.size → (w5.alloc (.cells #[.string sd, .int .u64 0, .bool od] 113)).heap[k]? = w5.heap[k]? := fun k hk => heap_new_old _ _ _ hk
            obtain ⟨w6, hw6⟩ : ∃ w6, w5.alloc (.cells #[.string sd, .int .u64 0, .bool od] 113) = w6 := ⟨_, rfl⟩
            have HW6 := Lib.hid hw6
            have hsz6 : w6.heap.size = w5.heap.size + 1 := by rw [← hw6, heap_size_alloc]
            have hs6 := HS6.out
            rw [hw6] at hs6 hkb hold
            replace HS6 := Lib.hid hs6
            have HKB := Lib.hid hkb
            have HOLD := Lib.hid hold
            have HSZ := Lib.hid hsz6
            clear hw6 hkb hold hs6 hsz6 HDP
            go_wp2_with fail
            rw [HW6.out]
            clear p0
            obtain ⟨b7, hb7⟩ : ∃ x, w5.heap.size = x := ⟨_, rfl⟩
            rw [hb7] at HKB ⊢
            refine (HNH.out w6 HS6.out.rd).mono ?_
            rintro en w7 hp
            have hs7 := HS6.out.read hp
            obtain ⟨rfl, _, hkk⟩ := hp
            have hgb := hs7.gb
            have hb7l : b + 2 ≤ b7 := by have := blk_lt HS5.out.bx4; omega
            have hk7 := hkk.heap HKB.out (show b7 ≠ g by omega)
            have hk8 : (w7.setCell ⟨b7, 1, none⟩ (.int .u64 hh)).heap[b7]? = some (.cells #[.string sd, .int .u64 hh, .bool od] 113 (0, 0)) := blk_put (cs' := #[.string sd, .int .u64 hh, .bool od]) hk7 1 (.int .u64 hh) rfl
            have hR8 : Kd.R k113 113 (w7.setCell ⟨b7, 1, none⟩ (.int .u64 hh)) (b + 2) (fun _ => True) (.slice Ad dl.length cd) dl := by
              refine Kd.R_mono (Kd.R_step (Kd.R_bound HS5.out.row) (fun k hk hlt => ?_)) (fun _ _ => trivial)
              have h1 := hk.2.1
              exact (Below.heap_setCell _ ⟨b7, 1, none⟩ _ _ (by show k ≠ b7; omega)).trans ((hkk.block k (by have := HSZ.out; omega) (by omega)).trans (HOLD.out k hlt))
            obtain ⟨g1, g2, g3, g4⟩ := hs7.grown (X' := w7.setCell ⟨b7, 1, none⟩ (.int .u64 hh)) (row := some b7) (grownBy_setAt _ _ _ _) (fun q e => by cases e; exact hb7l) hR8
            have HS8 : Hid (LSt w0 W (w7.setCell ⟨b7, 1, none⟩ (.int .u64 hh)) S g t T l b 1 s x2 (.slice Ad dl.length cd) dl 0 0 ⟨#[]⟩ a8 e8) := Lib.hid ⟨g1, g2, g3, hR8, g4, hs7.bW, hs7.gb, hs7.sb, hs7.wb⟩
            have q0 : w7.cell? ⟨b7, 0, none⟩ = some (.string sd) := (blk_cell hk7 0).trans rfl
            have q1 : w7.cell? ⟨b7, 1, none⟩ = some (.int .u64 0) := (blk_cell hk7 1).trans rfl
            have qf1 := blk_frozen hk7 1
            have y0 : (w7.setCell ⟨b7, 1, none⟩ (.int .u64 hh)).cell? ⟨b7, 0, none⟩ = some (.string sd) := (blk_cell hk8 0).trans rfl
            have y1 : (w7.setCell ⟨b7, 1, none⟩ (.int .u64 hh)).cell? ⟨b7, 1, none⟩ = some (.int .u64 hh) := (blk_cell hk8 1).trans rfl
            have y2 : (w7.setCell ⟨b7, 1, none⟩ (.int .u64 hh)).cell? ⟨b7, 2, none⟩ = some (.bool od) := (blk_cell hk8 2).trans rfl
            have z3 : (w7.setCell ⟨b7, 1, none⟩ (.int .u64 hh)).cell? ⟨b + 1, 3, none⟩ = some (.slice Ad dl.length cd) := (blk_cell HS8.out.bx4 3).trans rfl
            clear hk7 hk8 hR8 g1 g2 g3 g4 hs7 hkk HS5 HS6 HOLD HKB HW6 HNH hb7
            go_wp2_with (at_builtin; refine Halt.mk ?_)
            refine Halt.of ?_
            clear q0 q1 qf1 y0 y1 y2 z3
            have hsz8 : (w7.setCell ⟨b7, 1, none⟩ (.int .u64 hh)).heap.size = w7.heap.size := by simp
            generalize w7.setCell ⟨b7, 1, none⟩ (.int .u64 hh) = w8 at *
            have hb9 : Below w8.heap.size w8 (w8.alloc (.cells #[.string sd, .int .u64 hh, .bool od] 113)) := (Below.refl _ _).alloc (Nat.le_refl _) _
            have hk9 : (w8.alloc (.cells #[.string sd, .int .u64 hh, .bool od] 113)).heap[w8.heap.size]? = some (.cells #[.string sd, .int .u64 hh, .bool od] 113 (0, 0)) := heap_new _ _
            rw [hsz8] at hk9
            have hs9 := HS8.out.below hb9
            have hbz : b + 2 ≤ (w8.alloc (.cells #[.string sd, .int .u64 hh, .bool od] 113)).heap.size := by have := blk_lt hs9.bx4; omega
            refine Kd.R_append_rows k113 (w0 := w8.alloc (.cells #[.string sd, .int .u64 hh, .bool od] 113)) (b + 2) rfl (.tmp 53) (.tmp 55) 60 113 (.agg #[.string ⟨#[]⟩, .int .u64 0, .bool false]) 32 rfl Try.underlying60 info_dep rfl (by decide) (by omega) _ dl [⟨sd, hh, od⟩] _ _ _ (fun _ => True) (fun _ => False) rfl rfl hs9.row (row_dep hk9) ?_ (fun _ h => h.elim) (fun _ _ => trivial) (Below.refl _ _) hbz (by omega) ?_
            · rintro _ _ ⟨rfl, rfl⟩
              exact k113_mkM _ _ _ (⟨sd, hh, od⟩ : S113)
            intro v12 w12 hR12 _ hg12 _
            obtain ⟨dl2, hdl2⟩ : ∃ x, dl ++ [(⟨sd, hh, od⟩ : S113)] = x := ⟨_, rfl⟩
            have hln : dl2.length = dl.length + 1 := by rw [← hdl2, List.length_append]; rfl
            have hdq := HDL2.out
            rw [hdl2] at hR12 hdq
            obtain ⟨A12, c12, rfl⟩ := Kd.R_slice hR12
            have hpu := hs9.pushed hg12 hR12
            have r3 : w12.cell? ⟨b + 1, 3, none⟩ = some (.slice Ad dl.length cd) := (blk_cell hpu.1 3).trans rfl
            have f3 := blk_frozen hpu.1 3
            have HPU := Lib.hid hpu.2
            have HDQ := Lib.hid hdq
            have HLN := Lib.hid hln
            clear hpu hdq hR12 hg12 hs9 hk9 hb9 hbz HS8 HDL2 hdl2 hln
            go_wp2_with fail
            go_roundg k1
            case measure => omega
            case rel =>
              have hps := HPS.out
              have hln := HLN.out
              exact ⟨n - 1, a8, e8, _, dl2, rfl, by omega, by omega, by omega, by omega, HPU, HDQ, fun h8 => by have := hps.2.2 h8; omega, by omega, by omega⟩
        · have hed : decide (e = 0) = false := decide_eq_false he
          go_wp2_with fail
          refine HER.out.mono ?_
          rintro en w9 ⟨rfl, rfl⟩
          have hdl := HDL.out
          rw [depsL_end _ (by omega)] at hdl
          obtain ⟨rfl, rfl, rfl⟩ : dl = ds ∧ a = a5 ∧ e = e5 := by injection hdl with h1 h2; injection h2 with h2 h3; exact ⟨h1, h2, h3⟩
          clear p0 p1 HER HDL hdl
          obtain ⟨Ad, cd, rfl⟩ := Kd.R_slice H.out.row
          have p0 : (wr).cell? ⟨b, 0, none⟩ = some (.pointer (some ⟨g, 0, none⟩)) := (blk_cell H.out.bx2 0).trans rfl
          have p1 : (wr).cell? ⟨b, 1, none⟩ = some (.pointer (some ⟨t, 0, none⟩)) := (blk_cell H.out.bx2 1).trans rfl
          have r0 : (wr).cell? ⟨b + 1, 0, none⟩ = some (.int .i64 1) := (blk_cell H.out.bx4 0).trans rfl
          have f0 := blk_frozen H.out.bx4 0
          have r1 : (wr).cell? ⟨b + 1, 1, none⟩ = some (.string s) := (blk_cell H.out.bx4 1).trans rfl
          have f1 := blk_frozen H.out.bx4 1
          have r2 : (wr).cell? ⟨b + 1, 2, none⟩ = some (.int .u64 x2) := (blk_cell H.out.bx4 2).trans rfl
          have f2 := blk_frozen H.out.bx4 2
          have r3 : (wr).cell? ⟨b + 1, 3, none⟩ = some (.slice Ad dl.length cd) := (blk_cell H.out.bx4 3).trans rfl
          have f3 := blk_frozen H.out.bx4 3
          have r4 : (wr).cell? ⟨b + 1, 4, none⟩ = some (.int .u64 0) := (blk_cell H.out.bx4 4).trans rfl
          have f4 := blk_frozen H.out.bx4 4
          have r5 : (wr).cell? ⟨b + 1, 5, none⟩ = some (.int .u64 0) := (blk_cell H.out.bx4 5).trans rfl
          have f5 := blk_frozen H.out.bx4 5
          have r6 : (wr).cell? ⟨b + 1, 6, none⟩ = some (.string ⟨#[]⟩) := (blk_cell H.out.bx4 6).trans rfl
          have f6 := blk_frozen H.out.bx4 6
          go_wp2_with fail
          clear p0 p1 r0 f0 r1 f1 r2 f2 r3 f3 r4 f4 r5 f5 r6 f6
          refine (HN4.out wr H.out.rd).mono ?_
          rintro en wa hp
          have HA := Lib.hid (H.out.read hp)
          obtain ⟨rfl, _⟩ := hp
          have HB9 := Lib.hid (HA.out.put4 x4)
          have p0 : (wa).cell? ⟨b, 0, none⟩ = some (.pointer (some ⟨g, 0, none⟩)) := (blk_cell HA.out.bx2 0).trans rfl
          have p1 : (wa).cell? ⟨b, 1, none⟩ = some (.pointer (some ⟨t, 0, none⟩)) := (blk_cell HA.out.bx2 1).trans rfl
          have r0 : (wa).cell? ⟨b + 1, 0, none⟩ = some (.int .i64 1) := (blk_cell HA.out.bx4 0).trans rfl
          have f0 := blk_frozen HA.out.bx4 0
          have r1 : (wa).cell? ⟨b + 1, 1, none⟩ = some (.string s) := (blk_cell HA.out.bx4 1).trans rfl
          have f1 := blk_frozen HA.out.bx4 1
          have r2 : (wa).cell? ⟨b + 1, 2, none⟩ = some (.int .u64 x2) := (blk_cell HA.out.bx4 2).trans rfl
          have f2 := blk_frozen HA.out.bx4 2
          have r3 : (wa).cell? ⟨b + 1, 3, none⟩ = some (.slice Ad dl.length cd) := (blk_cell HA.out.bx4 3).trans rfl
          have f3 := blk_frozen HA.out.bx4 3
          have r4 : (wa).cell? ⟨b + 1, 4, none⟩ = some (.int .u64 0) := (blk_cell HA.out.bx4 4).trans rfl
          have f4 := blk_frozen HA.out.bx4 4
          have r5 : (wa).cell? ⟨b + 1, 5, none⟩ = some (.int .u64 0) := (blk_cell HA.out.bx4 5).trans rfl
          have f5 := blk_frozen HA.out.bx4 5
          have r6 : (wa).cell? ⟨b + 1, 6, none⟩ = some (.string ⟨#[]⟩) := (blk_cell HA.out.bx4 6).trans rfl
          have f6 := blk_frozen HA.out.bx4 6
          have yp0 : ((wa.setCell ⟨b + 1, 4, none⟩ (.int .u64 x4))).cell? ⟨b, 0, none⟩ = some (.pointer (some ⟨g, 0, none⟩)) := (blk_cell HB9.out.bx2 0).trans rfl
          have yp1 : ((wa.setCell ⟨b + 1, 4, none⟩ (.int .u64 x4))).cell? ⟨b, 1, none⟩ = some (.pointer (some ⟨t, 0, none⟩)) := (blk_cell HB9.out.bx2 1).trans rfl
          have yr0 : ((wa.setCell ⟨b + 1, 4, none⟩ (.int .u64 x4))).cell? ⟨b + 1, 0, none⟩ = some (.int .i64 1) := (blk_cell HB9.out.bx4 0).trans rfl
          have yf0 := blk_frozen HB9.out.bx4 0
          have yr1 : ((wa.setCell ⟨b + 1, 4, none⟩ (.int .u64 x4))).cell? ⟨b + 1, 1, none⟩ = some (.string s) := (blk_cell HB9.out.bx4 1).trans rfl
          have yf1 := blk_frozen HB9.out.bx4 1
          have yr2 : ((wa.setCell ⟨b + 1, 4, none⟩ (.int .u64 x4))).cell? ⟨b + 1, 2, none⟩ = some (.int .u64 x2) := (blk_cell HB9.out.bx4 2).trans rfl
          have yf2 := blk_frozen HB9.out.bx4 2
          have yr3 : ((wa.setCell ⟨b + 1, 4, none⟩ (.int .u64 x4))).cell? ⟨b + 1, 3, none⟩ = some (.slice Ad dl.length cd) := (blk_cell HB9.out.bx4 3).trans rfl
          have yf3 := blk_frozen HB9.out.bx4 3
          have yr4 : ((wa.setCell ⟨b + 1, 4, none⟩ (.int .u64 x4))).cell? ⟨b + 1, 4, none⟩ = some (.int .u64 x4) := (blk_cell HB9.out.bx4 4).trans rfl
          have yf4 := blk_frozen HB9.out.bx4 4
          have yr5 : ((wa.setCell ⟨b + 1, 4, none⟩ (.int .u64 x4))).cell? ⟨b + 1, 5, none⟩ = some (.int .u64 0) := (blk_cell HB9.out.bx4 5).trans rfl
          have yf5 := blk_frozen HB9.out.bx4 5
          have yr6 : ((wa.setCell ⟨b + 1, 4, none⟩ (.int .u64 x4))).cell? ⟨b + 1, 6, none⟩ = some (.string ⟨#[]⟩) := (blk_cell HB9.out.bx4 6).trans rfl
          have yf6 := blk_frozen HB9.out.bx4 6
          have HEND := Lib.hid (HB9.out.putAll 1 s x2 (.slice Ad dl.length cd) x4 0 ⟨#[]⟩ HB9.out.row)
          go_wp2_with fail
          refine bodyPost_ret (results_single (v := .agg #[.int .i64 1, .string s, .int .u64 x2, .slice Ad dl.length cd, .int .u64 x4, .int .u64 0, .string ⟨#[]⟩]) rfl (.cell (b + 1) 62 #[.int .i64 1, .string s, .int .u64 x2, .slice Ad dl.length cd, .int .u64 x4, .int .u64 0, .string ⟨#[]⟩] (0, 0) _ rfl HEND.out.bx4 HU.out rfl (by kernel_rfl) .nil)) rfl ?_
          rw [← HR2.out]
          exact ⟨_, rfl, Kd.R_lower HEND.out.row (by have := HBB.out; omega), HEND.out.kp⟩
      · have hnd : decide (0 < n) = false := decide_eq_false hn
        have hdl := HDL.out
        rw [depsL_end _ (by omega)] at hdl
        obtain ⟨rfl, rfl, rfl⟩ : dl = ds ∧ a = a5 ∧ e = e5 := by injection hdl with h1 h2; injection h2 with h2 h3; exact ⟨h1, h2, h3⟩
        clear HDL hdl
        obtain ⟨Ad, cd, rfl⟩ := Kd.R_slice H.out.row
        have p0 : (wr).cell? ⟨b, 0, none⟩ = some (.pointer (some ⟨g, 0, none⟩)) := (blk_cell H.out.bx2 0).trans rfl
        have p1 : (wr).cell? ⟨b, 1, none⟩ = some (.pointer (some ⟨t, 0, none⟩)) := (blk_cell H.out.bx2 1).trans rfl
        have r0 : (wr).cell? ⟨b + 1, 0, none⟩ = some (.int .i64 1) := (blk_cell H.out.bx4 0).trans rfl
        have f0 := blk_frozen H.out.bx4 0
        have r1 : (wr).cell? ⟨b + 1, 1, none⟩ = some (.string s) := (blk_cell H.out.bx4 1).trans rfl
        have f1 := blk_frozen H.out.bx4 1
        have r2 : (wr).cell? ⟨b + 1, 2, none⟩ = some (.int .u64 x2) := (blk_cell H.out.bx4 2).trans rfl
        have f2 := blk_frozen H.out.bx4 2
        have r3 : (wr).cell? ⟨b + 1, 3, none⟩ = some (.slice Ad dl.length cd) := (blk_cell H.out.bx4 3).trans rfl
        have f3 := blk_frozen H.out.bx4 3
        have r4 : (wr).cell? ⟨b + 1, 4, none⟩ = some (.int .u64 0) := (blk_cell H.out.bx4 4).trans rfl
        have f4 := blk_frozen H.out.bx4 4
        have r5 : (wr).cell? ⟨b + 1, 5, none⟩ = some (.int .u64 0) := (blk_cell H.out.bx4 5).trans rfl
        have f5 := blk_frozen H.out.bx4 5
        have r6 : (wr).cell? ⟨b + 1, 6, none⟩ = some (.string ⟨#[]⟩) := (blk_cell H.out.bx4 6).trans rfl
        have f6 := blk_frozen H.out.bx4 6
        go_wp2_with fail
        clear p0 p1 r0 f0 r1 f1 r2 f2 r3 f3 r4 f4 r5 f5 r6 f6
        refine (HN4.out wr H.out.rd).mono ?_
        rintro en wa hp
        have HA := Lib.hid (H.out.read hp)
        obtain ⟨rfl, _⟩ := hp
        have HB9 := Lib.hid (HA.out.put4 x4)
        have p0 : (wa).cell? ⟨b, 0, none⟩ = some (.pointer (some ⟨g, 0, none⟩)) := (blk_cell HA.out.bx2 0).trans rfl
        have p1 : (wa).cell? ⟨b, 1, none⟩ = some (.pointer (some ⟨t, 0, none⟩)) := (blk_cell HA.out.bx2 1).trans rfl
        have r0 : (wa).cell? ⟨b + 1, 0, none⟩ = some (.int .i64 1) := (blk_cell HA.out.bx4 0).trans rfl
        have f0 := blk_frozen HA.out.bx4 0
        have r1 : (wa).cell? ⟨b + 1, 1, none⟩ = some (.string s) := (blk_cell HA.out.bx4 1).trans rfl
        have f1 := blk_frozen HA.out.bx4 1
        have r2 : (wa).cell? ⟨b + 1, 2, none⟩ = some (.int .u64 x2) := (blk_cell HA.out.bx4 2).trans rfl
        have f2 := blk_frozen HA.out.bx4 2
        have r3 : (wa).cell? ⟨b + 1, 3, none⟩ = some (.slice Ad dl.length cd) := (blk_cell HA.out.bx4 3).trans rfl
        have f3 := blk_frozen HA.out.bx4 3
        have r4 : (wa).cell? ⟨b + 1, 4, none⟩ = some (.int .u64 0) := (blk_cell HA.out.bx4 4).trans rfl
        have f4 := blk_frozen HA.out.bx4 4
        have r5 : (wa).cell? ⟨b + 1, 5, none⟩ = some (.int .u64 0) := (blk_cell HA.out.bx4 5).trans rfl
        have f5 := blk_frozen HA.out.bx4 5
        have r6 : (wa).cell? ⟨b + 1, 6, none⟩ = some (.string ⟨#[]⟩) := (blk_cell HA.out.bx4 6).trans rfl
        have f6 := blk_frozen HA.out.bx4 6
        have yp0 : ((wa.setCell ⟨b + 1, 4, none⟩ (.int .u64 x4))).cell? ⟨b, 0, none⟩ = some (.pointer (some ⟨g, 0, none⟩)) := (blk_cell HB9.out.bx2 0).trans rfl
        have yp1 : ((wa.setCell ⟨b + 1, 4, none⟩ (.int .u64 x4))).cell? ⟨b, 1, none⟩ = some (.pointer (some ⟨t, 0, none⟩)) := (blk_cell HB9.out.bx2 1).trans rfl
        have yr0 : ((wa.setCell ⟨b + 1, 4, none⟩ (.int .u64 x4))).cell? ⟨b + 1, 0, none⟩ = some (.int .i64 1) := (blk_cell HB9.out.bx4 0).trans rfl
        have yf0 := blk_frozen HB9.out.bx4 0
        have yr1 : ((wa.setCell ⟨b + 1, 4, none⟩ (.int .u64 x4))).cell? ⟨b + 1, 1, none⟩ = some (.string s) := (blk_cell HB9.out.bx4 1).trans rfl
        have yf1 := blk_frozen HB9.out.bx4 1
        have yr2 : ((wa.setCell ⟨b + 1, 4, none⟩ (.int .u64 x4))).cell? ⟨b + 1, 2, none⟩ = some (.int .u64 x2) := (blk_cell HB9.out.bx4 2).trans rfl
        have yf2 := blk_frozen HB9.out.bx4 2
        have yr3 : ((wa.setCell ⟨b + 1, 4, none⟩ (.int .u64 x4))).cell? ⟨b + 1, 3, none⟩ = some (.slice Ad dl.length cd) := (blk_cell HB9.out.bx4 3).trans rfl
        have yf3 := blk_frozen HB9.out.bx4 3
        have yr4 : ((wa.setCell ⟨b + 1, 4, none⟩ (.int .u64 x4))).cell? ⟨b + 1, 4, none⟩ = some (.int .u64 x4) := (blk_cell HB9.out.bx4 4).trans rfl
        have yf4 := blk_frozen HB9.out.bx4 4
        have yr5 : ((wa.setCell ⟨b + 1, 4, none⟩ (.int .u64 x4))).cell? ⟨b + 1, 5, none⟩ = some (.int .u64 0) := (blk_cell HB9.out.bx4 5).trans rfl
        have yf5 := blk_frozen HB9.out.bx4 5
        have yr6 : ((wa.setCell ⟨b + 1, 4, none⟩ (.int .u64 x4))).cell? ⟨b + 1, 6, none⟩ = some (.string ⟨#[]⟩) := (blk_cell HB9.out.bx4 6).trans rfl
        have yf6 := blk_frozen HB9.out.bx4 6
        have HEND := Lib.hid (HB9.out.putAll 1 s x2 (.slice Ad dl.length cd) x4 0 ⟨#[]⟩ HB9.out.row)
        go_wp2_with fail
        refine bodyPost_ret (results_single (v := .agg #[.int .i64 1, .string s, .int .u64 x2, .slice Ad dl.length cd, .int .u64 x4, .int .u64 0, .string ⟨#[]⟩]) rfl (.cell (b + 1) 62 #[.int .i64 1, .string s, .int .u64 x2, .slice Ad dl.length cd, .int .u64 x4, .int .u64 0, .string ⟨#[]⟩] (0, 0) _ rfl HEND.out.bx4 HU.out rfl (by kernel_rfl) .nil)) rfl ?_
        rw [← HR2.out]
        exact ⟨_, rfl, Kd.R_lower HEND.out.row (by have := HBB.out; omega), HEND.out.kp⟩
  · have hkd : decide (kb = 1) = false := decide_eq_false hk1
    have HEND := Lib.hid (HS4.out.putAll kb s 0 (.slice none 0 0) 0 0 ⟨#[]⟩ HS4.out.row)
    have hR2 := HRR.out
    rw [if_neg hk1] at hR2
    have HR2 := Lib.hid hR2
    clear hR2 HRR
    go_wp2_with fail
    refine bodyPost_ret (results_single (v := .agg #[.int .i64 kb, .string s, .int .u64 0, .slice none 0 0, .int .u64 0, .int .u64 0, .string ⟨#[]⟩]) rfl (.cell (b + 1) 62 #[.int .i64 kb, .string s, .int .u64 0, .slice none 0 0, .int .u64 0, .int .u64 0, .string ⟨#[]⟩] (0, 0) _ rfl HEND.out.bx4 HU.out rfl (by kernel_rfl) .nil)) rfl ?_
    rw [← HR2.out]
    exact ⟨_, rfl, Kd.R_lower HEND.out.row (by have := HBB.out; omega), HEND.out.kp⟩
set_option maxHeartbeats 2000000 in
set_option maxRecDepth 100000 in
theorem rlast2_any {w0 W : World} {S : Nat → Prop} {g t : Nat} {T : List ByteArray} {l : List Int} (h : Rd w0 W S g t T l 0 0) (hb : ∀ x ∈ l, 0 ≤ x ∧ x < 256) (hl : l.length ≤ 1000000) :
    Calls Try.prog 76 #[.agg #[.pointer (some ⟨g, 0, none⟩), .pointer (some ⟨t, 0, none⟩)], .int .i64 2] W (LastPost W g (lastR 2 T l).1) := by
  obtain ⟨w1, hw1⟩ : ∃ w1, (W.alloc (.cells #[.pointer (some ⟨g, 0, none⟩), .pointer (some ⟨t, 0, none⟩)] 140)).alloc (.cells #[.int .i64 0, .string ⟨#[]⟩, .int .u64 0, .slice none 0 0, .int .u64 0, .int .u64 0, .string ⟨#[]⟩] 62) = w1 := ⟨_, rfl⟩
  have hb1 : Below W.heap.size W w1 := by rw [← hw1]; exact ((Below.refl _ _).alloc (Nat.le_refl _) _).alloc (by rw [heap_size_alloc]; omega) _
  have hk2 : w1.heap[W.heap.size]? = some (.cells #[.pointer (some ⟨g, 0, none⟩), .pointer (some ⟨t, 0, none⟩)] 140 (0, 0)) := by rw [← hw1]; exact blk_alloc (heap_new _ _) _
  have hk4 : w1.heap[W.heap.size + 1]? = some (.cells #[.int .i64 0, .string ⟨#[]⟩, .int .u64 0, .slice none 0 0, .int .u64 0, .int .u64 0, .string ⟨#[]⟩] 62 (0, 0)) := by
    rw [← hw1]
    have := heap_new (W.alloc (.cells #[.pointer (some ⟨g, 0, none⟩), .pointer (some ⟨t, 0, none⟩)] 140)) (.cells #[.int .i64 0, .string ⟨#[]⟩, .int .u64 0, .slice none 0 0, .int .u64 0, .int .u64 0, .string ⟨#[]⟩] 62)
    rwa [heap_size_alloc] at this
  obtain ⟨b, hbb⟩ : ∃ b, W.heap.size = b := ⟨_, rfl⟩
  have hgl : g < W.heap.size := by obtain ⟨_, _, hc, _⟩ := h.cu; exact blk_lt hc
  have hst : LSt w0 W w1 S g t T l W.heap.size 0 ⟨#[]⟩ 0 (.slice none 0 0) [] 0 0 ⟨#[]⟩ 0 0 :=
    ⟨h.keep hb1, hk2, hk4, Kd.R_nil _ _ _ _ _, Kp.of_below hb1 _, rfl, hgl, h.tab.lt, h.b.size⟩
  rw [hbb] at hst
  have hr1 := rbyte_any hst.rd hl (by omega)
  have HBY := Lib.hid hr1
  have HST := Lib.hid hst
  have HW1 := Lib.hid hw1
  have HBB := Lib.hid hbb
  have HU := Lib.hid Try.underlying62
  have hrg := cuByte_rg l hb
  have hb1p : 0 ≤ (cuByte l 0 0).2.1 ∧ (cuByte l 0 0).2.1 ≤ (l.length : Int) := by unfold cuByte; rw [if_neg (by simp)]; split <;> (dsimp only; constructor <;> omega)
  have HLR : Hid (lastR 2 T l = lastR 2 T l) := Lib.hid rfl
  generalize hRR : lastR 2 T l = RR at HLR ⊢
  conv at HLR => rw [← hRR]
  unfold lastR at hRR
  clear HLR h hb1 hw1 hk2 hk4 hbb hgl hst hr1
  generalize cuByte l 0 0 = F1 at *
  obtain ⟨kb, a1, e1⟩ := F1
  dsimp only at HBY hrg hRR hb1p
  rw [show textR 2 T l a1 e1 = txR T l a1 e1 from rfl] at hRR
  have HTX := Lib.hid (fun (X : World) (hr : Rd w0 X S g t T l a1 e1) => rknown_any hr hb hl)
  have hpl : 0 ≤ (txR T l a1 e1).2.1 ∧ (txR T l a1 e1).2.1 ≤ (l.length : Int) := (by have := cuNum_step l hb a1 e1 hb1p; exact ⟨by show 0 ≤ (cuNum l a1 e1).2.1; omega, this.1⟩)
  generalize txR T l a1 e1 = F2 at *
  obtain ⟨s, a2, e2⟩ := F2
  dsimp only at HTX hRR hpl
  have HPL := Lib.hid hpl
  clear hpl
  have HRR := Lib.hid hRR
  clear hRR
  have hcv : IntKind.i64.wrap kb = kb := by rw [IntKind.wrap_i64]; omega
  have p0 : (w1).cell? ⟨b, 0, none⟩ = some (.pointer (some ⟨g, 0, none⟩)) := (blk_cell HST.out.bx2 0).trans rfl
  have p1 : (w1).cell? ⟨b, 1, none⟩ = some (.pointer (some ⟨t, 0, none⟩)) := (blk_cell HST.out.bx2 1).trans rfl
  have r0 : (w1).cell? ⟨b + 1, 0, none⟩ = some (.int .i64 0) := (blk_cell HST.out.bx4 0).trans rfl
  have f0 := blk_frozen HST.out.bx4 0
  have r1 : (w1).cell? ⟨b + 1, 1, none⟩ = some (.string ⟨#[]⟩) := (blk_cell HST.out.bx4 1).trans rfl
  have f1 := blk_frozen HST.out.bx4 1
  have r2 : (w1).cell? ⟨b + 1, 2, none⟩ = some (.int .u64 0) := (blk_cell HST.out.bx4 2).trans rfl
  have f2 := blk_frozen HST.out.bx4 2
  have r3 : (w1).cell? ⟨b + 1, 3, none⟩ = some (.slice none 0 0) := (blk_cell HST.out.bx4 3).trans rfl
  have f3 := blk_frozen HST.out.bx4 3
  have r4 : (w1).cell? ⟨b + 1, 4, none⟩ = some (.int .u64 0) := (blk_cell HST.out.bx4 4).trans rfl
  have f4 := blk_frozen HST.out.bx4 4
  have r5 : (w1).cell? ⟨b + 1, 5, none⟩ = some (.int .u64 0) := (blk_cell HST.out.bx4 5).trans rfl
  have f5 := blk_frozen HST.out.bx4 5
  have r6 : (w1).cell? ⟨b + 1, 6, none⟩ = some (.string ⟨#[]⟩) := (blk_cell HST.out.bx4 6).trans rfl
  have f6 := blk_frozen HST.out.bx4 6
  go_enter Try.func76, Try.ntmps76
  go_wp2_with fail
  rw [HW1.out, HBB.out]
  clear p0 p1 r0 f0 r1 f1 r2 f2 r3 f3 r4 f4 r5 f5 r6 f6
  refine HBY.out.mono ?_
  rintro en w2 hp
  have hs2 := HST.out.read hp
  obtain ⟨rfl, _⟩ := hp
  have hs3 := hs2.putAll kb ⟨#[]⟩ 0 (.slice none 0 0) 0 0 ⟨#[]⟩ hs2.row
  have p0 : (w2).cell? ⟨b, 0, none⟩ = some (.pointer (some ⟨g, 0, none⟩)) := (blk_cell hs2.bx2 0).trans rfl
  have p1 : (w2).cell? ⟨b, 1, none⟩ = some (.pointer (some ⟨t, 0, none⟩)) := (blk_cell hs2.bx2 1).trans rfl
  have r0 : (w2).cell? ⟨b + 1, 0, none⟩ = some (.int .i64 0) := (blk_cell hs2.bx4 0).trans rfl
  have f0 := blk_frozen hs2.bx4 0
  have r1 : (w2).cell? ⟨b + 1, 1, none⟩ = some (.string ⟨#[]⟩) := (blk_cell hs2.bx4 1).trans rfl
  have f1 := blk_frozen hs2.bx4 1
  have r2 : (w2).cell? ⟨b + 1, 2, none⟩ = some (.int .u64 0) := (blk_cell hs2.bx4 2).trans rfl
  have f2 := blk_frozen hs2.bx4 2
  have r3 : (w2).cell? ⟨b + 1, 3, none⟩ = some (.slice none 0 0) := (blk_cell hs2.bx4 3).trans rfl
  have f3 := blk_frozen hs2.bx4 3
  have r4 : (w2).cell? ⟨b + 1, 4, none⟩ = some (.int .u64 0) := (blk_cell hs2.bx4 4).trans rfl
  have f4 := blk_frozen hs2.bx4 4
  have r5 : (w2).cell? ⟨b + 1, 5, none⟩ = some (.int .u64 0) := (blk_cell hs2.bx4 5).trans rfl
  have f5 := blk_frozen hs2.bx4 5
  have r6 : (w2).cell? ⟨b + 1, 6, none⟩ = some (.string ⟨#[]⟩) := (blk_cell hs2.bx4 6).trans rfl
  have f6 := blk_frozen hs2.bx4 6
  obtain ⟨w3, hw3⟩ : ∃ w3, (((((((w2.setCell ⟨b + 1, 0, none⟩ (.int .i64 kb)).setCell ⟨b + 1, 1, none⟩ (.string ⟨#[]⟩)).setCell ⟨b + 1, 2, none⟩ (.int .u64 0)).setCell ⟨b + 1, 3, none⟩ (.slice none 0 0)).setCell ⟨b + 1, 4, none⟩ (.int .u64 0)).setCell ⟨b + 1, 5, none⟩ (.int .u64 0)).setCell ⟨b + 1, 6, none⟩ (.string ⟨#[]⟩)) = w3 := ⟨_, rfl⟩
  rw [hw3] at hs3
  have HS3 := Lib.hid hs3
  have HW3 := Lib.hid hw3
  clear hs2 hs3 hw3 HST HBY
  go_wp2_with fail
  rw [HW3.out]
  clear p0 p1 r0 f0 r1 f1 r2 f2 r3 f3 r4 f4 r5 f5 r6 f6
  refine (HTX.out w3 HS3.out.rd).mono ?_
  rintro en w4 hp
  have hs4 := HS3.out.read hp
  obtain ⟨rfl, _⟩ := hp
  have hs5 := hs4.put1 s
  have p0 : (w4).cell? ⟨b, 0, none⟩ = some (.pointer (some ⟨g, 0, none⟩)) := (blk_cell hs4.bx2 0).trans rfl
  have p1 : (w4).cell? ⟨b, 1, none⟩ = some (.pointer (some ⟨t, 0, none⟩)) := (blk_cell hs4.bx2 1).trans rfl
  have r0 : (w4).cell? ⟨b + 1, 0, none⟩ = some (.int .i64 kb) := (blk_cell hs4.bx4 0).trans rfl
  have f0 := blk_frozen hs4.bx4 0
  have r1 : (w4).cell? ⟨b + 1, 1, none⟩ = some (.string ⟨#[]⟩) := (blk_cell hs4.bx4 1).trans rfl
  have f1 := blk_frozen hs4.bx4 1
  have r2 : (w4).cell? ⟨b + 1, 2, none⟩ = some (.int .u64 0) := (blk_cell hs4.bx4 2).trans rfl
  have f2 := blk_frozen hs4.bx4 2
  have r3 : (w4).cell? ⟨b + 1, 3, none⟩ = some (.slice none 0 0) := (blk_cell hs4.bx4 3).trans rfl
  have f3 := blk_frozen hs4.bx4 3
  have r4 : (w4).cell? ⟨b + 1, 4, none⟩ = some (.int .u64 0) := (blk_cell hs4.bx4 4).trans rfl
  have f4 := blk_frozen hs4.bx4 4
  have r5 : (w4).cell? ⟨b + 1, 5, none⟩ = some (.int .u64 0) := (blk_cell hs4.bx4 5).trans rfl
  have f5 := blk_frozen hs4.bx4 5
  have r6 : (w4).cell? ⟨b + 1, 6, none⟩ = some (.string ⟨#[]⟩) := (blk_cell hs4.bx4 6).trans rfl
  have f6 := blk_frozen hs4.bx4 6
  have yp0 : ((w4.setCell ⟨b + 1, 1, none⟩ (.string s))).cell? ⟨b, 0, none⟩ = some (.pointer (some ⟨g, 0, none⟩)) := (blk_cell hs5.bx2 0).trans rfl
  have yp1 : ((w4.setCell ⟨b + 1, 1, none⟩ (.string s))).cell? ⟨b, 1, none⟩ = some (.pointer (some ⟨t, 0, none⟩)) := (blk_cell hs5.bx2 1).trans rfl
  have yr0 : ((w4.setCell ⟨b + 1, 1, none⟩ (.string s))).cell? ⟨b + 1, 0, none⟩ = some (.int .i64 kb) := (blk_cell hs5.bx4 0).trans rfl
  have yf0 := blk_frozen hs5.bx4 0
  have yr1 : ((w4.setCell ⟨b + 1, 1, none⟩ (.string s))).cell? ⟨b + 1, 1, none⟩ = some (.string s) := (blk_cell hs5.bx4 1).trans rfl
  have yf1 := blk_frozen hs5.bx4 1
  have yr2 : ((w4.setCell ⟨b + 1, 1, none⟩ (.string s))).cell? ⟨b + 1, 2, none⟩ = some (.int .u64 0) := (blk_cell hs5.bx4 2).trans rfl
  have yf2 := blk_frozen hs5.bx4 2
  have yr3 : ((w4.setCell ⟨b + 1, 1, none⟩ (.string s))).cell? ⟨b + 1, 3, none⟩ = some (.slice none 0 0) := (blk_cell hs5.bx4 3).trans rfl
  have yf3 := blk_frozen hs5.bx4 3
  have yr4 : ((w4.setCell ⟨b + 1, 1, none⟩ (.string s))).cell? ⟨b + 1, 4, none⟩ = some (.int .u64 0) := (blk_cell hs5.bx4 4).trans rfl
  have yf4 := blk_frozen hs5.bx4 4
  have yr5 : ((w4.setCell ⟨b + 1, 1, none⟩ (.string s))).cell? ⟨b + 1, 5, none⟩ = some (.int .u64 0) := (blk_cell hs5.bx4 5).trans rfl
  have yf5 := blk_frozen hs5.bx4 5
  have yr6 : ((w4.setCell ⟨b + 1, 1, none⟩ (.string s))).cell? ⟨b + 1, 6, none⟩ = some (.string ⟨#[]⟩) := (blk_cell hs5.bx4 6).trans rfl
  have yf6 := blk_frozen hs5.bx4 6
  obtain ⟨w5, hw5⟩ : ∃ w5, (w4.setCell ⟨b + 1, 1, none⟩ (.string s)) = w5 := ⟨_, rfl⟩
  have hs6 := hs5
  rw [hw5] at hs6
  have HS5 := Lib.hid hs6
  have HS4 := Lib.hid hs5
  have HW5 := Lib.hid hw5
  clear hs4 hs5 hs6 hw5 HS3 HTX HW3
  by_cases hk1 : kb = 1
  · subst hk1
    have hR2 := HRR.out
    rw [if_pos rfl] at hR2
    unfold traceR at hR2
    have HN2 := Lib.hid (fun (X : World) (hr : Rd w0 X S g t T l a2 e2) => rnum_any hr hb hl)
    have hs2 := cuNum_step l hb a2 e2 HPL.out
    generalize cuNum l a2 e2 = N2 at *
    obtain ⟨x2, a3, e3⟩ := N2
    dsimp only at HN2 hR2 hs2
    have HN3 := Lib.hid (fun (X : World) (hr : Rd w0 X S g t T l a3 e3) => rnum_any hr hb hl)
    have hs3 := cuNum_step l hb a3 e3 ⟨by have := HPL.out; omega, hs2.1⟩
    generalize cuNum l a3 e3 = N3 at *
    obtain ⟨n, a4, e4⟩ := N3
    dsimp only at HN3 hR2 hs3
    have HP4 := Lib.hid (show 0 ≤ a4 ∧ a4 ≤ (l.length : Int) ∧ 0 ≤ n ∧ n < 18446744073709551616 from ⟨by have := HPL.out; omega, hs3.1, hs3.2.2.2.1, hs3.2.2.2.2.1⟩)
    obtain ⟨D, hD⟩ : ∃ D, depsL 2 T l (l.length + 2) n a4 e4 [] = D := ⟨_, rfl⟩
    rw [hD] at hR2
    have HDD := Lib.hid hD
    clear hD hs2 hs3
    obtain ⟨ds, a5, e5⟩ := D
    dsimp only at hR2
    have HN4 := Lib.hid (fun (X : World) (hr : Rd w0 X S g t T l a5 e5) => rnum_any hr hb hl)
    generalize cuNum l a5 e5 = N4 at *
    obtain ⟨x4, a6, e6⟩ := N4
    dsimp only at HN4 hR2
    unfold tailR at hR2
    rw [if_neg (by omega)] at hR2
    have HN5 := Lib.hid (fun (X : World) (hr : Rd w0 X S g t T l a6 e6) => rnum_any hr hb hl)
    generalize cuNum l a6 e6 = N5 at *
    obtain ⟨x5, a7, e7_⟩ := N5
    dsimp only at HN5 hR2
    rw [if_pos (by omega)] at hR2
    have HR2 := Lib.hid hR2
    clear hR2 HRR
    go_wp2_with fail
    rw [HW5.out]
    clear p0 p1 r0 f0 r1 f1 r2 f2 r3 f3 r4 f4 r5 f5 r6 f6 yp0 yp1 yr0 yf0 yr1 yf1 yr2 yf2 yr3 yf3 yr4 yf4 yr5 yf5 yr6 yf6
    refine (HN2.out w5 HS5.out.rd).mono ?_
    rintro en w6 hp
    have HS6 := Lib.hid (HS5.out.read hp)
    obtain ⟨rfl, _⟩ := hp
    have HS7 := Lib.hid (HS6.out.put2 x2)
    have p0 : (w6).cell? ⟨b, 0, none⟩ = some (.pointer (some ⟨g, 0, none⟩)) := (blk_cell HS6.out.bx2 0).trans rfl
    have p1 : (w6).cell? ⟨b, 1, none⟩ = some (.pointer (some ⟨t, 0, none⟩)) := (blk_cell HS6.out.bx2 1).trans rfl
    have r0 : (w6).cell? ⟨b + 1, 0, none⟩ = some (.int .i64 1) := (blk_cell HS6.out.bx4 0).trans rfl
    have f0 := blk_frozen HS6.out.bx4 0
    have r1 : (w6).cell? ⟨b + 1, 1, none⟩ = some (.string s) := (blk_cell HS6.out.bx4 1).trans rfl
    have f1 := blk_frozen HS6.out.bx4 1
    have r2 : (w6).cell? ⟨b + 1, 2, none⟩ = some (.int .u64 0) := (blk_cell HS6.out.bx4 2).trans rfl
    have f2 := blk_frozen HS6.out.bx4 2
    have r3 : (w6).cell? ⟨b + 1, 3, none⟩ = some (.slice none 0 0) := (blk_cell HS6.out.bx4 3).trans rfl
    have f3 := blk_frozen HS6.out.bx4 3
    have r4 : (w6).cell? ⟨b + 1, 4, none⟩ = some (.int .u64 0) := (blk_cell HS6.out.bx4 4).trans rfl
    have f4 := blk_frozen HS6.out.bx4 4
    have r5 : (w6).cell? ⟨b + 1, 5, none⟩ = some (.int .u64 0) := (blk_cell HS6.out.bx4 5).trans rfl
    have f5 := blk_frozen HS6.out.bx4 5
    have r6 : (w6).cell? ⟨b + 1, 6, none⟩ = some (.string ⟨#[]⟩) := (blk_cell HS6.out.bx4 6).trans rfl
    have f6 := blk_frozen HS6.out.bx4 6
    have yp0 : ((w6.setCell ⟨b + 1, 2, none⟩ (.int .u64 x2))).cell? ⟨b, 0, none⟩ = some (.pointer (some ⟨g, 0, none⟩)) := (blk_cell HS7.out.bx2 0).trans rfl
    have yp1 : ((w6.setCell ⟨b + 1, 2, none⟩ (.int .u64 x2))).cell? ⟨b, 1, none⟩ = some (.pointer (some ⟨t, 0, none⟩)) := (blk_cell HS7.out.bx2 1).trans rfl
    have yr0 : ((w6.setCell ⟨b + 1, 2, none⟩ (.int .u64 x2))).cell? ⟨b + 1, 0, none⟩ = some (.int .i64 1) := (blk_cell HS7.out.bx4 0).trans rfl
    have yf0 := blk_frozen HS7.out.bx4 0
    have yr1 : ((w6.setCell ⟨b + 1, 2, none⟩ (.int .u64 x2))).cell? ⟨b + 1, 1, none⟩ = some (.string s) := (blk_cell HS7.out.bx4 1).trans rfl
    have yf1 := blk_frozen HS7.out.bx4 1
    have yr2 : ((w6.setCell ⟨b + 1, 2, none⟩ (.int .u64 x2))).cell? ⟨b + 1, 2, none⟩ = some (.int .u64 x2) := (blk_cell HS7.out.bx4 2).trans rfl
    have yf2 := blk_frozen HS7.out.bx4 2
    have yr3 : ((w6.setCell ⟨b + 1, 2, none⟩ (.int .u64 x2))).cell? ⟨b + 1, 3, none⟩ = some (.slice none 0 0) := (blk_cell HS7.out.bx4 3).trans rfl
    have yf3 := blk_frozen HS7.out.bx4 3
    have yr4 : ((w6.setCell ⟨b + 1, 2, none⟩ (.int .u64 x2))).cell? ⟨b + 1, 4, none⟩ = some (.int .u64 0) := (blk_cell HS7.out.bx4 4).trans rfl
    have yf4 := blk_frozen HS7.out.bx4 4
    have yr5 : ((w6.setCell ⟨b + 1, 2, none⟩ (.int .u64 x2))).cell? ⟨b + 1, 5, none⟩ = some (.int .u64 0) := (blk_cell HS7.out.bx4 5).trans rfl
    have yf5 := blk_frozen HS7.out.bx4 5
    have yr6 : ((w6.setCell ⟨b + 1, 2, none⟩ (.int .u64 x2))).cell? ⟨b + 1, 6, none⟩ = some (.string ⟨#[]⟩) := (blk_cell HS7.out.bx4 6).trans rfl
    have yf6 := blk_frozen HS7.out.bx4 6
    obtain ⟨w7, hw7⟩ : ∃ w7, (w6.setCell ⟨b + 1, 2, none⟩ (.int .u64 x2)) = w7 := ⟨_, rfl⟩
    have hs8 := HS7.out
    rw [hw7] at hs8
    have HS8 := Lib.hid hs8
    have HW7 := Lib.hid hw7
    clear hs8 hw7
    go_wp2_with fail
    rw [HW7.out]
    clear p0 p1 r0 f0 r1 f1 r2 f2 r3 f3 r4 f4 r5 f5 r6 f6 yp0 yp1 yr0 yf0 yr1 yf1 yr2 yf2 yr3 yf3 yr4 yf4 yr5 yf5 yr6 yf6
    refine (HN3.out w7 HS8.out.rd).mono ?_
    rintro en w8 hp
    have HS9 := Lib.hid (HS8.out.read hp)
    obtain ⟨rfl, _⟩ := hp
    clear HS8 HS7 HS6 HS5 HS4 HW5 HW7 HN2 HN3
    go_wp2_with fail
    go_loopg [6] (l.length + 2) (fun kq u6 wr => ∃ (n a e : Int) (dv : Value) (dl : List S113), u6 = .int .u64 n ∧ 0 ≤ n ∧ n < 18446744073709551616 ∧ 0 ≤ a ∧ a ≤ (l.length : Int) ∧ Hid (LSt w0 W wr S g t T l b 1 s x2 dv dl 0 0 ⟨#[]⟩ a e) ∧ Hid (depsL 2 T l kq n a e dl = (ds, a5, e5)) ∧ (e = 0 → (l.length : Int) - a + 2 ≤ (kq : Int)) ∧ 1 ≤ kq ∧ dl.length + kq ≤ l.length + 2)
    case atStart => exact ⟨n, a4, e4, .slice none 0 0, [], rfl, HP4.out.2.2.1, HP4.out.2.2.2, HP4.out.1, HP4.out.2.1, HS9, HDD, fun _ => by have := HP4.out; omega, by omega, by simp⟩
    case round =>
      clear HDD HS9 HP4
      obtain ⟨n, a, e, dv, dl, rfl, hn0, hn1, ha0, ha1, H, HDL, hf1, hf2, hf3⟩ := hrel
      by_cases hn : 0 < n
      · have hnd : decide (0 < n) = true := decide_eq_true hn
        have p0 : wr.cell? ⟨b, 0, none⟩ = some (.pointer (some ⟨g, 0, none⟩)) := (blk_cell H.out.bx2 0).trans rfl
        have p1 : wr.cell? ⟨b, 1, none⟩ = some (.pointer (some ⟨t, 0, none⟩)) := (blk_cell H.out.bx2 1).trans rfl
        have HER := Lib.hid (rerr_any H.out.rd)
        by_cases he : e = 0
        · subst he
          cases gk with
          | zero => omega
          | succ k1 =>
            obtain ⟨Ad, cd, rfl⟩ := Kd.R_slice H.out.row
            have hdl := HDL.out
            rw [depsL, if_pos ⟨hn, rfl⟩] at hdl
            have hpd := depR_place 2 T l hb a 0 ⟨ha0, ha1⟩
            have HDP := Lib.hid (rdep2_any H.out.rd hb hl)
            generalize depR 2 T l a 0 = DR at *
            obtain ⟨⟨sd, od⟩, a7, e7⟩ := DR
            dsimp only at hdl hpd HDP
            have hps := cuNum_step l hb a7 e7 ⟨by omega, hpd.2⟩
            have HNH := Lib.hid (fun (X : World) (hr : Rd w0 X S g t T l a7 e7) => rnum_any hr hb hl)
            generalize cuNum l a7 e7 = NH at *
            obtain ⟨hh, a8, e8⟩ := NH
            dsimp only at hdl hps HNH
            have hwn : IntKind.u64.wrap (n - 1) = n - 1 := by rw [IntKind.wrap_u64]; omega
            have HDL2 := Lib.hid hdl
            have HPS := Lib.hid (show a + 0 ≤ a8 ∧ a8 ≤ (l.length : Int) ∧ (e8 = 0 → a + 1 ≤ a8) from ⟨by omega, hps.1, fun h => by have := (hps.2.2.1 h).1; omega⟩)
            have hfz := hf1 rfl
            clear hdl HDL hps hpd hf1
            go_wp2_with fail
            refine HER.out.mono ?_
            rintro en w9 ⟨rfl, rfl⟩
            go_wp2_with fail
            clear p0 p1 HER
            refine HDP.out.mono ?_
            rintro en w5 hp
            have HS5 := Lib.hid (H.out.read hp)
            obtain ⟨rfl, _⟩ := hp
            have HS6 := Lib.hid (HS5.out.below ((Below.refl _ _).alloc (Nat.le_refl _) (.cells #[.string sd, .int .u64 0, .bool od] 113)))
            have p0 : (w5.alloc (.cells #[.string sd, .int .u64 0, .bool od] 113)).cell? ⟨b, 0, none⟩ = some (.pointer (some ⟨g, 0, none⟩)) := (blk_cell HS6.out.bx2 0).trans rfl
            have hkb : (w5.alloc (.cells #[.string sd, .int .u64 0, .bool od] 113)).heap[w5.heap.size]? = some (.cells #[.string sd, .int .u64 0, .bool od] 113 (0, 0)) := heap_new _ _
            have hold : ∀ k, k < w5.heap.size → (w5.alloc (.cells #[.string sd, .int .u64 0, .bool od] 113)).heap[k]? = w5.heap[k]? := fun k hk => heap_new_old _ _ _ hk
            obtain ⟨w6, hw6⟩ : ∃ w6, w5.alloc (.cells #[.string sd, .int .u64 0, .bool od] 113) = w6 := ⟨_, rfl⟩
            have HW6 := Lib.hid hw6
            have hsz6 : w6.heap.size = w5.heap.size + 1 := by rw [← hw6, heap_size_alloc]
            have hs6 := HS6.out
            rw [hw6] at hs6 hkb hold
            replace HS6 := Lib.hid hs6
            have HKB := Lib.hid hkb
            have HOLD := Lib.hid hold
            have HSZ := Lib.hid hsz6
            clear hw6 hkb hold hs6 hsz6 HDP
            go_wp2_with fail
            rw [HW6.out]
            clear p0
            obtain ⟨b7, hb7⟩ : ∃ x, w5.heap.size = x := ⟨_, rfl⟩
            rw [hb7] at HKB ⊢
            refine (HNH.out w6 HS6.out.rd).mono ?_
            rintro en w7 hp
            have hs7 := HS6.out.read hp
            obtain ⟨rfl, _, hkk⟩ := hp
            have hgb := hs7.gb
            have hb7l : b + 2 ≤ b7 := by have := blk_lt HS5.out.bx4; omega
            have hk7 := hkk.heap HKB.out (show b7 ≠ g by omega)
            have hk8 : (w7.setCell ⟨b7, 1, none⟩ (.int .u64 hh)).heap[b7]? = some (.cells #[.string sd, .int .u64 hh, .bool od] 113 (0, 0)) := blk_put (cs' := #[.string sd, .int .u64 hh, .bool od]) hk7 1 (.int .u64 hh) rfl
            have hR8 : Kd.R k113 113 (w7.setCell ⟨b7, 1, none⟩ (.int .u64 hh)) (b + 2) (fun _ => True) (.slice Ad dl.length cd) dl := by
              refine Kd.R_mono (Kd.R_step (Kd.R_bound HS5.out.row) (fun k hk hlt => ?_)) (fun _ _ => trivial)
              have h1 := hk.2.1
              exact (Below.heap_setCell _ ⟨b7, 1, none⟩ _ _ (by show k ≠ b7; omega)).trans ((hkk.block k (by have := HSZ.out; omega) (by omega)).trans (HOLD.out k hlt))
            obtain ⟨g1, g2, g3, g4⟩ := hs7.grown (X' := w7.setCell ⟨b7, 1, none⟩ (.int .u64 hh)) (row := some b7) (grownBy_setAt _ _ _ _) (fun q e => by cases e; exact hb7l) hR8
            have HS8 : Hid (LSt w0 W (w7.setCell ⟨b7, 1, none⟩ (.int .u64 hh)) S g t T l b 1 s x2 (.slice Ad dl.length cd) dl 0 0 ⟨#[]⟩ a8 e8) := Lib.hid ⟨g1, g2, g3, hR8, g4, hs7.bW, hs7.gb, hs7.sb, hs7.wb⟩
            have q0 : w7.cell? ⟨b7, 0, none⟩ = some (.string sd) := (blk_cell hk7 0).trans rfl
            have q1 : w7.cell? ⟨b7, 1, none⟩ = some (.int .u64 0) := (blk_cell hk7 1).trans rfl
            have qf1 := blk_frozen hk7 1
            have y0 : (w7.setCell ⟨b7, 1, none⟩ (.int .u64 hh)).cell? ⟨b7, 0, none⟩ = some (.string sd) := (blk_cell hk8 0).trans rfl
            have y1 : (w7.setCell ⟨b7, 1, none⟩ (.int .u64 hh)).cell? ⟨b7, 1, none⟩ = some (.int .u64 hh) := (blk_cell hk8 1).trans rfl
            have y2 : (w7.setCell ⟨b7, 1, none⟩ (.int .u64 hh)).cell? ⟨b7, 2, none⟩ = some (.bool od) := (blk_cell hk8 2).trans rfl
            have z3 : (w7.setCell ⟨b7, 1, none⟩ (.int .u64 hh)).cell? ⟨b + 1, 3, none⟩ = some (.slice Ad dl.length cd) := (blk_cell HS8.out.bx4 3).trans rfl
            clear hk7 hk8 hR8 g1 g2 g3 g4 hs7 hkk HS5 HS6 HOLD HKB HW6 HNH hb7
            go_wp2_with (at_builtin; refine Halt.mk ?_)
            refine Halt.of ?_
            clear q0 q1 qf1 y0 y1 y2 z3
            have hsz8 : (w7.setCell ⟨b7, 1, none⟩ (.int .u64 hh)).heap.size = w7.heap.size := by simp
            generalize w7.setCell ⟨b7, 1, none⟩ (.int .u64 hh) = w8 at *
            have hb9 : Below w8.heap.size w8 (w8.alloc (.cells #[.string sd, .int .u64 hh, .bool od] 113)) := (Below.refl _ _).alloc (Nat.le_refl _) _
            have hk9 : (w8.alloc (.cells #[.string sd, .int .u64 hh, .bool od] 113)).heap[w8.heap.size]? = some (.cells #[.string sd, .int .u64 hh, .bool od] 113 (0, 0)) := heap_new _ _
            rw [hsz8] at hk9
            have hs9 := HS8.out.below hb9
            have hbz : b + 2 ≤ (w8.alloc (.cells #[.string sd, .int .u64 hh, .bool od] 113)).heap.size := by have := blk_lt hs9.bx4; omega
            refine Kd.R_append_rows k113 (w0 := w8.alloc (.cells #[.string sd, .int .u64 hh, .bool od] 113)) (b + 2) rfl (.tmp 53) (.tmp 55) 60 113 (.agg #[.string ⟨#[]⟩, .int .u64 0, .bool false]) 32 rfl Try.underlying60 info_dep rfl (by decide) (by omega) _ dl [⟨sd, hh, od⟩] _ _ _ (fun _ => True) (fun _ => False) rfl rfl hs9.row (row_dep hk9) ?_ (fun _ h => h.elim) (fun _ _ => trivial) (Below.refl _ _) hbz (by omega) ?_
            · rintro _ _ ⟨rfl, rfl⟩
              exact k113_mkM _ _ _ (⟨sd, hh, od⟩ : S113)
            intro v12 w12 hR12 _ hg12 _
            obtain ⟨dl2, hdl2⟩ : ∃ x, dl ++ [(⟨sd, hh, od⟩ : S113)] = x := ⟨_, rfl⟩
            have hln : dl2.length = dl.length + 1 := by rw [← hdl2, List.length_append]; rfl
            have hdq := HDL2.out
            rw [hdl2] at hR12 hdq
            obtain ⟨A12, c12, rfl⟩ := Kd.R_slice hR12
            have hpu := hs9.pushed hg12 hR12
            have r3 : w12.cell? ⟨b + 1, 3, none⟩ = some (.slice Ad dl.length cd) := (blk_cell hpu.1 3).trans rfl
            have f3 := blk_frozen hpu.1 3
            have HPU := Lib.hid hpu.2
            have HDQ := Lib.hid hdq
            have HLN := Lib.hid hln
            clear hpu hdq hR12 hg12 hs9 hk9 hb9 hbz HS8 HDL2 hdl2 hln
            go_wp2_with fail
            go_roundg k1
            case measure => omega
            case rel =>
              have hps := HPS.out
              have hln := HLN.out
              exact ⟨n - 1, a8, e8, _, dl2, rfl, by omega, by omega, by omega, by omega, HPU, HDQ, fun h8 => by have := hps.2.2 h8; omega, by omega, by omega⟩
        · have hed : decide (e = 0) = false := decide_eq_false he
          go_wp2_with fail
          refine HER.out.mono ?_
          rintro en w9 ⟨rfl, rfl⟩
          have hdl := HDL.out
          rw [depsL_end _ (by omega)] at hdl
          obtain ⟨rfl, rfl, rfl⟩ : dl = ds ∧ a = a5 ∧ e = e5 := by injection hdl with h1 h2; injection h2 with h2 h3; exact ⟨h1, h2, h3⟩
          clear p0 p1 HER HDL hdl
          obtain ⟨Ad, cd, rfl⟩ := Kd.R_slice H.out.row
          have p0 : (wr).cell? ⟨b, 0, none⟩ = some (.pointer (some ⟨g, 0, none⟩)) := (blk_cell H.out.bx2 0).trans rfl
          have p1 : (wr).cell? ⟨b, 1, none⟩ = some (.pointer (some ⟨t, 0, none⟩)) := (blk_cell H.out.bx2 1).trans rfl
          have r0 : (wr).cell? ⟨b + 1, 0, none⟩ = some (.int .i64 1) := (blk_cell H.out.bx4 0).trans rfl
          have f0 := blk_frozen H.out.bx4 0
          have r1 : (wr).cell? ⟨b + 1, 1, none⟩ = some (.string s) := (blk_cell H.out.bx4 1).trans rfl
          have f1 := blk_frozen H.out.bx4 1
          have r2 : (wr).cell? ⟨b + 1, 2, none⟩ = some (.int .u64 x2) := (blk_cell H.out.bx4 2).trans rfl
          have f2 := blk_frozen H.out.bx4 2
          have r3 : (wr).cell? ⟨b + 1, 3, none⟩ = some (.slice Ad dl.length cd) := (blk_cell H.out.bx4 3).trans rfl
          have f3 := blk_frozen H.out.bx4 3
          have r4 : (wr).cell? ⟨b + 1, 4, none⟩ = some (.int .u64 0) := (blk_cell H.out.bx4 4).trans rfl
          have f4 := blk_frozen H.out.bx4 4
          have r5 : (wr).cell? ⟨b + 1, 5, none⟩ = some (.int .u64 0) := (blk_cell H.out.bx4 5).trans rfl
          have f5 := blk_frozen H.out.bx4 5
          have r6 : (wr).cell? ⟨b + 1, 6, none⟩ = some (.string ⟨#[]⟩) := (blk_cell H.out.bx4 6).trans rfl
          have f6 := blk_frozen H.out.bx4 6
          go_wp2_with fail
          clear p0 p1 r0 f0 r1 f1 r2 f2 r3 f3 r4 f4 r5 f5 r6 f6
          refine (HN4.out wr H.out.rd).mono ?_
          rintro en wa hp
          have HA := Lib.hid (H.out.read hp)
          obtain ⟨rfl, _⟩ := hp
          have HB9 := Lib.hid (HA.out.put4 x4)
          have p0 : (wa).cell? ⟨b, 0, none⟩ = some (.pointer (some ⟨g, 0, none⟩)) := (blk_cell HA.out.bx2 0).trans rfl
          have p1 : (wa).cell? ⟨b, 1, none⟩ = some (.pointer (some ⟨t, 0, none⟩)) := (blk_cell HA.out.bx2 1).trans rfl
          have r0 : (wa).cell? ⟨b + 1, 0, none⟩ = some (.int .i64 1) := (blk_cell HA.out.bx4 0).trans rfl
          have f0 := blk_frozen HA.out.bx4 0
          have r1 : (wa).cell? ⟨b + 1, 1, none⟩ = some (.string s) := (blk_cell HA.out.bx4 1).trans rfl
          have f1 := blk_frozen HA.out.bx4 1
          have r2 : (wa).cell? ⟨b + 1, 2, none⟩ = some (.int .u64 x2) := (blk_cell HA.out.bx4 2).trans rfl
          have f2 := blk_frozen HA.out.bx4 2
          have r3 : (wa).cell? ⟨b + 1, 3, none⟩ = some (.slice Ad dl.length cd) := (blk_cell HA.out.bx4 3).trans rfl
          have f3 := blk_frozen HA.out.bx4 3
          have r4 : (wa).cell? ⟨b + 1, 4, none⟩ = some (.int .u64 0) := (blk_cell HA.out.bx4 4).trans rfl
          have f4 := blk_frozen HA.out.bx4 4
          have r5 : (wa).cell? ⟨b + 1, 5, none⟩ = some (.int .u64 0) := (blk_cell HA.out.bx4 5).trans rfl
          have f5 := blk_frozen HA.out.bx4 5
          have r6 : (wa).cell? ⟨b + 1, 6, none⟩ = some (.string ⟨#[]⟩) := (blk_cell HA.out.bx4 6).trans rfl
          have f6 := blk_frozen HA.out.bx4 6
          have yp0 : ((wa.setCell ⟨b + 1, 4, none⟩ (.int .u64 x4))).cell? ⟨b, 0, none⟩ = some (.pointer (some ⟨g, 0, none⟩)) := (blk_cell HB9.out.bx2 0).trans rfl
          have yp1 : ((wa.setCell ⟨b + 1, 4, none⟩ (.int .u64 x4))).cell? ⟨b, 1, none⟩ = some (.pointer (some ⟨t, 0, none⟩)) := (blk_cell HB9.out.bx2 1).trans rfl
          have yr0 : ((wa.setCell ⟨b + 1, 4, none⟩ (.int .u64 x4))).cell? ⟨b + 1, 0, none⟩ = some (.int .i64 1) := (blk_cell HB9.out.bx4 0).trans rfl
          have yf0 := blk_frozen HB9.out.bx4 0
          have yr1 : ((wa.setCell ⟨b + 1, 4, none⟩ (.int .u64 x4))).cell? ⟨b + 1, 1, none⟩ = some (.string s) := (blk_cell HB9.out.bx4 1).trans rfl
          have yf1 := blk_frozen HB9.out.bx4 1
          have yr2 : ((wa.setCell ⟨b + 1, 4, none⟩ (.int .u64 x4))).cell? ⟨b + 1, 2, none⟩ = some (.int .u64 x2) := (blk_cell HB9.out.bx4 2).trans rfl
          have yf2 := blk_frozen HB9.out.bx4 2
          have yr3 : ((wa.setCell ⟨b + 1, 4, none⟩ (.int .u64 x4))).cell? ⟨b + 1, 3, none⟩ = some (.slice Ad dl.length cd) := (blk_cell HB9.out.bx4 3).trans rfl
          have yf3 := blk_frozen HB9.out.bx4 3
          have yr4 : ((wa.setCell ⟨b + 1, 4, none⟩ (.int .u64 x4))).cell? ⟨b + 1, 4, none⟩ = some (.int .u64 x4) := (blk_cell HB9.out.bx4 4).trans rfl
          have yf4 := blk_frozen HB9.out.bx4 4
          have yr5 : ((wa.setCell ⟨b + 1, 4, none⟩ (.int .u64 x4))).cell? ⟨b + 1, 5, none⟩ = some (.int .u64 0) := (blk_cell HB9.out.bx4 5).trans rfl
          have yf5 := blk_frozen HB9.out.bx4 5
          have yr6 : ((wa.setCell ⟨b + 1, 4, none⟩ (.int .u64 x4))).cell? ⟨b + 1, 6, none⟩ = some (.string ⟨#[]⟩) := (blk_cell HB9.out.bx4 6).trans rfl
          have yf6 := blk_frozen HB9.out.bx4 6
          obtain ⟨wb, hwb⟩ : ∃ wb, (wa.setCell ⟨b + 1, 4, none⟩ (.int .u64 x4)) = wb := ⟨_, rfl⟩
          have HWB := Lib.hid hwb
          have hB9 := HB9.out
          rw [hwb] at hB9
          have HB := Lib.hid hB9
          clear hwb hB9
          go_wp2_with fail
          rw [HWB.out]
          clear p0 p1 r0 f0 r1 f1 r2 f2 r3 f3 r4 f4 r5 f5 r6 f6 yp0 yp1 yr0 yf0 yr1 yf1 yr2 yf2 yr3 yf3 yr4 yf4 yr5 yf5 yr6 yf6
          refine (HN5.out wb HB.out.rd).mono ?_
          rintro en wc hp
          have HC := Lib.hid (HB.out.read hp)
          obtain ⟨rfl, _⟩ := hp
          have HC9 := Lib.hid (HC.out.put5 x5)
          have p0 : (wc).cell? ⟨b, 0, none⟩ = some (.pointer (some ⟨g, 0, none⟩)) := (blk_cell HC.out.bx2 0).trans rfl
          have p1 : (wc).cell? ⟨b, 1, none⟩ = some (.pointer (some ⟨t, 0, none⟩)) := (blk_cell HC.out.bx2 1).trans rfl
          have r0 : (wc).cell? ⟨b + 1, 0, none⟩ = some (.int .i64 1) := (blk_cell HC.out.bx4 0).trans rfl
          have f0 := blk_frozen HC.out.bx4 0
          have r1 : (wc).cell? ⟨b + 1, 1, none⟩ = some (.string s) := (blk_cell HC.out.bx4 1).trans rfl
          have f1 := blk_frozen HC.out.bx4 1
          have r2 : (wc).cell? ⟨b + 1, 2, none⟩ = some (.int .u64 x2) := (blk_cell HC.out.bx4 2).trans rfl
          have f2 := blk_frozen HC.out.bx4 2
          have r3 : (wc).cell? ⟨b + 1, 3, none⟩ = some (.slice Ad dl.length cd) := (blk_cell HC.out.bx4 3).trans rfl
          have f3 := blk_frozen HC.out.bx4 3
          have r4 : (wc).cell? ⟨b + 1, 4, none⟩ = some (.int .u64 x4) := (blk_cell HC.out.bx4 4).trans rfl
          have f4 := blk_frozen HC.out.bx4 4
          have r5 : (wc).cell? ⟨b + 1, 5, none⟩ = some (.int .u64 0) := (blk_cell HC.out.bx4 5).trans rfl
          have f5 := blk_frozen HC.out.bx4 5
          have r6 : (wc).cell? ⟨b + 1, 6, none⟩ = some (.string ⟨#[]⟩) := (blk_cell HC.out.bx4 6).trans rfl
          have f6 := blk_frozen HC.out.bx4 6
          have yp0 : ((wc.setCell ⟨b + 1, 5, none⟩ (.int .u64 x5))).cell? ⟨b, 0, none⟩ = some (.pointer (some ⟨g, 0, none⟩)) := (blk_cell HC9.out.bx2 0).trans rfl
          have yp1 : ((wc.setCell ⟨b + 1, 5, none⟩ (.int .u64 x5))).cell? ⟨b, 1, none⟩ = some (.pointer (some ⟨t, 0, none⟩)) := (blk_cell HC9.out.bx2 1).trans rfl
          have yr0 : ((wc.setCell ⟨b + 1, 5, none⟩ (.int .u64 x5))).cell? ⟨b + 1, 0, none⟩ = some (.int .i64 1) := (blk_cell HC9.out.bx4 0).trans rfl
          have yf0 := blk_frozen HC9.out.bx4 0
          have yr1 : ((wc.setCell ⟨b + 1, 5, none⟩ (.int .u64 x5))).cell? ⟨b + 1, 1, none⟩ = some (.string s) := (blk_cell HC9.out.bx4 1).trans rfl
          have yf1 := blk_frozen HC9.out.bx4 1
          have yr2 : ((wc.setCell ⟨b + 1, 5, none⟩ (.int .u64 x5))).cell? ⟨b + 1, 2, none⟩ = some (.int .u64 x2) := (blk_cell HC9.out.bx4 2).trans rfl
          have yf2 := blk_frozen HC9.out.bx4 2
          have yr3 : ((wc.setCell ⟨b + 1, 5, none⟩ (.int .u64 x5))).cell? ⟨b + 1, 3, none⟩ = some (.slice Ad dl.length cd) := (blk_cell HC9.out.bx4 3).trans rfl
          have yf3 := blk_frozen HC9.out.bx4 3
          have yr4 : ((wc.setCell ⟨b + 1, 5, none⟩ (.int .u64 x5))).cell? ⟨b + 1, 4, none⟩ = some (.int .u64 x4) := (blk_cell HC9.out.bx4 4).trans rfl
          have yf4 := blk_frozen HC9.out.bx4 4
          have yr5 : ((wc.setCell ⟨b + 1, 5, none⟩ (.int .u64 x5))).cell? ⟨b + 1, 5, none⟩ = some (.int .u64 x5) := (blk_cell HC9.out.bx4 5).trans rfl
          have yf5 := blk_frozen HC9.out.bx4 5
          have yr6 : ((wc.setCell ⟨b + 1, 5, none⟩ (.int .u64 x5))).cell? ⟨b + 1, 6, none⟩ = some (.string ⟨#[]⟩) := (blk_cell HC9.out.bx4 6).trans rfl
          have yf6 := blk_frozen HC9.out.bx4 6
          have HEND := Lib.hid (HC9.out.putAll 1 s x2 (.slice Ad dl.length cd) x4 x5 ⟨#[]⟩ HC9.out.row)
          go_wp2_with fail
          refine bodyPost_ret (results_single (v := .agg #[.int .i64 1, .string s, .int .u64 x2, .slice Ad dl.length cd, .int .u64 x4, .int .u64 x5, .string ⟨#[]⟩]) rfl (.cell (b + 1) 62 #[.int .i64 1, .string s, .int .u64 x2, .slice Ad dl.length cd, .int .u64 x4, .int .u64 x5, .string ⟨#[]⟩] (0, 0) _ rfl HEND.out.bx4 HU.out rfl (by kernel_rfl) .nil)) rfl ?_
          rw [← HR2.out]
          exact ⟨_, rfl, Kd.R_lower HEND.out.row (by have := HBB.out; omega), HEND.out.kp⟩
      · have hnd : decide (0 < n) = false := decide_eq_false hn
        have hdl := HDL.out
        rw [depsL_end _ (by omega)] at hdl
        obtain ⟨rfl, rfl, rfl⟩ : dl = ds ∧ a = a5 ∧ e = e5 := by injection hdl with h1 h2; injection h2 with h2 h3; exact ⟨h1, h2, h3⟩
        clear HDL hdl
        obtain ⟨Ad, cd, rfl⟩ := Kd.R_slice H.out.row
        have p0 : (wr).cell? ⟨b, 0, none⟩ = some (.pointer (some ⟨g, 0, none⟩)) := (blk_cell H.out.bx2 0).trans rfl
        have p1 : (wr).cell? ⟨b, 1, none⟩ = some (.pointer (some ⟨t, 0, none⟩)) := (blk_cell H.out.bx2 1).trans rfl
        have r0 : (wr).cell? ⟨b + 1, 0, none⟩ = some (.int .i64 1) := (blk_cell H.out.bx4 0).trans rfl
        have f0 := blk_frozen H.out.bx4 0
        have r1 : (wr).cell? ⟨b + 1, 1, none⟩ = some (.string s) := (blk_cell H.out.bx4 1).trans rfl
        have f1 := blk_frozen H.out.bx4 1
        have r2 : (wr).cell? ⟨b + 1, 2, none⟩ = some (.int .u64 x2) := (blk_cell H.out.bx4 2).trans rfl
        have f2 := blk_frozen H.out.bx4 2
        have r3 : (wr).cell? ⟨b + 1, 3, none⟩ = some (.slice Ad dl.length cd) := (blk_cell H.out.bx4 3).trans rfl
        have f3 := blk_frozen H.out.bx4 3
        have r4 : (wr).cell? ⟨b + 1, 4, none⟩ = some (.int .u64 0) := (blk_cell H.out.bx4 4).trans rfl
        have f4 := blk_frozen H.out.bx4 4
        have r5 : (wr).cell? ⟨b + 1, 5, none⟩ = some (.int .u64 0) := (blk_cell H.out.bx4 5).trans rfl
        have f5 := blk_frozen H.out.bx4 5
        have r6 : (wr).cell? ⟨b + 1, 6, none⟩ = some (.string ⟨#[]⟩) := (blk_cell H.out.bx4 6).trans rfl
        have f6 := blk_frozen H.out.bx4 6
        go_wp2_with fail
        clear p0 p1 r0 f0 r1 f1 r2 f2 r3 f3 r4 f4 r5 f5 r6 f6
        refine (HN4.out wr H.out.rd).mono ?_
        rintro en wa hp
        have HA := Lib.hid (H.out.read hp)
        obtain ⟨rfl, _⟩ := hp
        have HB9 := Lib.hid (HA.out.put4 x4)
        have p0 : (wa).cell? ⟨b, 0, none⟩ = some (.pointer (some ⟨g, 0, none⟩)) := (blk_cell HA.out.bx2 0).trans rfl
        have p1 : (wa).cell? ⟨b, 1, none⟩ = some (.pointer (some ⟨t, 0, none⟩)) := (blk_cell HA.out.bx2 1).trans rfl
        have r0 : (wa).cell? ⟨b + 1, 0, none⟩ = some (.int .i64 1) := (blk_cell HA.out.bx4 0).trans rfl
        have f0 := blk_frozen HA.out.bx4 0
        have r1 : (wa).cell? ⟨b + 1, 1, none⟩ = some (.string s) := (blk_cell HA.out.bx4 1).trans rfl
        have f1 := blk_frozen HA.out.bx4 1
        have r2 : (wa).cell? ⟨b + 1, 2, none⟩ = some (.int .u64 x2) := (blk_cell HA.out.bx4 2).trans rfl
        have f2 := blk_frozen HA.out.bx4 2
        have r3 : (wa).cell? ⟨b + 1, 3, none⟩ = some (.slice Ad dl.length cd) := (blk_cell HA.out.bx4 3).trans rfl
        have f3 := blk_frozen HA.out.bx4 3
        have r4 : (wa).cell? ⟨b + 1, 4, none⟩ = some (.int .u64 0) := (blk_cell HA.out.bx4 4).trans rfl
        have f4 := blk_frozen HA.out.bx4 4
        have r5 : (wa).cell? ⟨b + 1, 5, none⟩ = some (.int .u64 0) := (blk_cell HA.out.bx4 5).trans rfl
        have f5 := blk_frozen HA.out.bx4 5
        have r6 : (wa).cell? ⟨b + 1, 6, none⟩ = some (.string ⟨#[]⟩) := (blk_cell HA.out.bx4 6).trans rfl
        have f6 := blk_frozen HA.out.bx4 6
        have yp0 : ((wa.setCell ⟨b + 1, 4, none⟩ (.int .u64 x4))).cell? ⟨b, 0, none⟩ = some (.pointer (some ⟨g, 0, none⟩)) := (blk_cell HB9.out.bx2 0).trans rfl
        have yp1 : ((wa.setCell ⟨b + 1, 4, none⟩ (.int .u64 x4))).cell? ⟨b, 1, none⟩ = some (.pointer (some ⟨t, 0, none⟩)) := (blk_cell HB9.out.bx2 1).trans rfl
        have yr0 : ((wa.setCell ⟨b + 1, 4, none⟩ (.int .u64 x4))).cell? ⟨b + 1, 0, none⟩ = some (.int .i64 1) := (blk_cell HB9.out.bx4 0).trans rfl
        have yf0 := blk_frozen HB9.out.bx4 0
        have yr1 : ((wa.setCell ⟨b + 1, 4, none⟩ (.int .u64 x4))).cell? ⟨b + 1, 1, none⟩ = some (.string s) := (blk_cell HB9.out.bx4 1).trans rfl
        have yf1 := blk_frozen HB9.out.bx4 1
        have yr2 : ((wa.setCell ⟨b + 1, 4, none⟩ (.int .u64 x4))).cell? ⟨b + 1, 2, none⟩ = some (.int .u64 x2) := (blk_cell HB9.out.bx4 2).trans rfl
        have yf2 := blk_frozen HB9.out.bx4 2
        have yr3 : ((wa.setCell ⟨b + 1, 4, none⟩ (.int .u64 x4))).cell? ⟨b + 1, 3, none⟩ = some (.slice Ad dl.length cd) := (blk_cell HB9.out.bx4 3).trans rfl
        have yf3 := blk_frozen HB9.out.bx4 3
        have yr4 : ((wa.setCell ⟨b + 1, 4, none⟩ (.int .u64 x4))).cell? ⟨b + 1, 4, none⟩ = some (.int .u64 x4) := (blk_cell HB9.out.bx4 4).trans rfl
        have yf4 := blk_frozen HB9.out.bx4 4
        have yr5 : ((wa.setCell ⟨b + 1, 4, none⟩ (.int .u64 x4))).cell? ⟨b + 1, 5, none⟩ = some (.int .u64 0) := (blk_cell HB9.out.bx4 5).trans rfl
        have yf5 := blk_frozen HB9.out.bx4 5
        have yr6 : ((wa.setCell ⟨b + 1, 4, none⟩ (.int .u64 x4))).cell? ⟨b + 1, 6, none⟩ = some (.string ⟨#[]⟩) := (blk_cell HB9.out.bx4 6).trans rfl
        have yf6 := blk_frozen HB9.out.bx4 6
        obtain ⟨wb, hwb⟩ : ∃ wb, (wa.setCell ⟨b + 1, 4, none⟩ (.int .u64 x4)) = wb := ⟨_, rfl⟩
        have HWB := Lib.hid hwb
        have hB9 := HB9.out
        rw [hwb] at hB9
        have HB := Lib.hid hB9
        clear hwb hB9
        go_wp2_with fail
        rw [HWB.out]
        clear p0 p1 r0 f0 r1 f1 r2 f2 r3 f3 r4 f4 r5 f5 r6 f6 yp0 yp1 yr0 yf0 yr1 yf1 yr2 yf2 yr3 yf3 yr4 yf4 yr5 yf5 yr6 yf6
        refine (HN5.out wb HB.out.rd).mono ?_
        rintro en wc hp
        have HC := Lib.hid (HB.out.read hp)
        obtain ⟨rfl, _⟩ := hp
        have HC9 := Lib.hid (HC.out.put5 x5)
        have p0 : (wc).cell? ⟨b, 0, none⟩ = some (.pointer (some ⟨g, 0, none⟩)) := (blk_cell HC.out.bx2 0).trans rfl
        have p1 : (wc).cell? ⟨b, 1, none⟩ = some (.pointer (some ⟨t, 0, none⟩)) := (blk_cell HC.out.bx2 1).trans rfl
        have r0 : (wc).cell? ⟨b + 1, 0, none⟩ = some (.int .i64 1) := (blk_cell HC.out.bx4 0).trans rfl
        have f0 := blk_frozen HC.out.bx4 0
        have r1 : (wc).cell? ⟨b + 1, 1, none⟩ = some (.string s) := (blk_cell HC.out.bx4 1).trans rfl
        have f1 := blk_frozen HC.out.bx4 1
        have r2 : (wc).cell? ⟨b + 1, 2, none⟩ = some (.int .u64 x2) := (blk_cell HC.out.bx4 2).trans rfl
        have f2 := blk_frozen HC.out.bx4 2
        have r3 : (wc).cell? ⟨b + 1, 3, none⟩ = some (.slice Ad dl.length cd) := (blk_cell HC.out.bx4 3).trans rfl
        have f3 := blk_frozen HC.out.bx4 3
        have r4 : (wc).cell? ⟨b + 1, 4, none⟩ = some (.int .u64 x4) := (blk_cell HC.out.bx4 4).trans rfl
        have f4 := blk_frozen HC.out.bx4 4
        have r5 : (wc).cell? ⟨b + 1, 5, none⟩ = some (.int .u64 0) := (blk_cell HC.out.bx4 5).trans rfl
        have f5 := blk_frozen HC.out.bx4 5
        have r6 : (wc).cell? ⟨b + 1, 6, none⟩ = some (.string ⟨#[]⟩) := (blk_cell HC.out.bx4 6).trans rfl
        have f6 := blk_frozen HC.out.bx4 6
        have yp0 : ((wc.setCell ⟨b + 1, 5, none⟩ (.int .u64 x5))).cell? ⟨b, 0, none⟩ = some (.pointer (some ⟨g, 0, none⟩)) := (blk_cell HC9.out.bx2 0).trans rfl
        have yp1 : ((wc.setCell ⟨b + 1, 5, none⟩ (.int .u64 x5))).cell? ⟨b, 1, none⟩ = some (.pointer (some ⟨t, 0, none⟩)) := (blk_cell HC9.out.bx2 1).trans rfl
        have yr0 : ((wc.setCell ⟨b + 1, 5, none⟩ (.int .u64 x5))).cell? ⟨b + 1, 0, none⟩ = some (.int .i64 1) := (blk_cell HC9.out.bx4 0).trans rfl
        have yf0 := blk_frozen HC9.out.bx4 0
        have yr1 : ((wc.setCell ⟨b + 1, 5, none⟩ (.int .u64 x5))).cell? ⟨b + 1, 1, none⟩ = some (.string s) := (blk_cell HC9.out.bx4 1).trans rfl
        have yf1 := blk_frozen HC9.out.bx4 1
        have yr2 : ((wc.setCell ⟨b + 1, 5, none⟩ (.int .u64 x5))).cell? ⟨b + 1, 2, none⟩ = some (.int .u64 x2) := (blk_cell HC9.out.bx4 2).trans rfl
        have yf2 := blk_frozen HC9.out.bx4 2
        have yr3 : ((wc.setCell ⟨b + 1, 5, none⟩ (.int .u64 x5))).cell? ⟨b + 1, 3, none⟩ = some (.slice Ad dl.length cd) := (blk_cell HC9.out.bx4 3).trans rfl
        have yf3 := blk_frozen HC9.out.bx4 3
        have yr4 : ((wc.setCell ⟨b + 1, 5, none⟩ (.int .u64 x5))).cell? ⟨b + 1, 4, none⟩ = some (.int .u64 x4) := (blk_cell HC9.out.bx4 4).trans rfl
        have yf4 := blk_frozen HC9.out.bx4 4
        have yr5 : ((wc.setCell ⟨b + 1, 5, none⟩ (.int .u64 x5))).cell? ⟨b + 1, 5, none⟩ = some (.int .u64 x5) := (blk_cell HC9.out.bx4 5).trans rfl
        have yf5 := blk_frozen HC9.out.bx4 5
        have yr6 : ((wc.setCell ⟨b + 1, 5, none⟩ (.int .u64 x5))).cell? ⟨b + 1, 6, none⟩ = some (.string ⟨#[]⟩) := (blk_cell HC9.out.bx4 6).trans rfl
        have yf6 := blk_frozen HC9.out.bx4 6
        have HEND := Lib.hid (HC9.out.putAll 1 s x2 (.slice Ad dl.length cd) x4 x5 ⟨#[]⟩ HC9.out.row)
        go_wp2_with fail
        refine bodyPost_ret (results_single (v := .agg #[.int .i64 1, .string s, .int .u64 x2, .slice Ad dl.length cd, .int .u64 x4, .int .u64 x5, .string ⟨#[]⟩]) rfl (.cell (b + 1) 62 #[.int .i64 1, .string s, .int .u64 x2, .slice Ad dl.length cd, .int .u64 x4, .int .u64 x5, .string ⟨#[]⟩] (0, 0) _ rfl HEND.out.bx4 HU.out rfl (by kernel_rfl) .nil)) rfl ?_
        rw [← HR2.out]
        exact ⟨_, rfl, Kd.R_lower HEND.out.row (by have := HBB.out; omega), HEND.out.kp⟩
  · have hkd : decide (kb = 1) = false := decide_eq_false hk1
    have HEND := Lib.hid (HS4.out.putAll kb s 0 (.slice none 0 0) 0 0 ⟨#[]⟩ HS4.out.row)
    have hR2 := HRR.out
    rw [if_neg hk1] at hR2
    have HR2 := Lib.hid hR2
    clear hR2 HRR
    go_wp2_with fail
    refine bodyPost_ret (results_single (v := .agg #[.int .i64 kb, .string s, .int .u64 0, .slice none 0 0, .int .u64 0, .int .u64 0, .string ⟨#[]⟩]) rfl (.cell (b + 1) 62 #[.int .i64 kb, .string s, .int .u64 0, .slice none 0 0, .int .u64 0, .int .u64 0, .string ⟨#[]⟩] (0, 0) _ rfl HEND.out.bx4 HU.out rfl (by kernel_rfl) .nil)) rfl ?_
    rw [← HR2.out]
    exact ⟨_, rfl, Kd.R_lower HEND.out.row (by have := HBB.out; omega), HEND.out.kp⟩
set_option maxHeartbeats 2000000 in
set_option maxRecDepth 100000 in
theorem rlast3_any {w0 W : World} {S : Nat → Prop} {g t : Nat} {T : List ByteArray} {l : List Int} (h : Rd w0 W S g t T l 0 0) (hb : ∀ x ∈ l, 0 ≤ x ∧ x < 256) (hl : l.length ≤ 1000000) :
    Calls Try.prog 76 #[.agg #[.pointer (some ⟨g, 0, none⟩), .pointer (some ⟨t, 0, none⟩)], .int .i64 3] W (LastPost W g (lastR 3 T l).1) := by
  obtain ⟨w1, hw1⟩ : ∃ w1, (W.alloc (.cells #[.pointer (some ⟨g, 0, none⟩), .pointer (some ⟨t, 0, none⟩)] 140)).alloc (.cells #[.int .i64 0, .string ⟨#[]⟩, .int .u64 0, .slice none 0 0, .int .u64 0, .int .u64 0, .string ⟨#[]⟩] 62) = w1 := ⟨_, rfl⟩
  have hb1 : Below W.heap.size W w1 := by rw [← hw1]; exact ((Below.refl _ _).alloc (Nat.le_refl _) _).alloc (by rw [heap_size_alloc]; omega) _
  have hk2 : w1.heap[W.heap.size]? = some (.cells #[.pointer (some ⟨g, 0, none⟩), .pointer (some ⟨t, 0, none⟩)] 140 (0, 0)) := by rw [← hw1]; exact blk_alloc (heap_new _ _) _
  have hk4 : w1.heap[W.heap.size + 1]? = some (.cells #[.int .i64 0, .string ⟨#[]⟩, .int .u64 0, .slice none 0 0, .int .u64 0, .int .u64 0, .string ⟨#[]⟩] 62 (0, 0)) := by
    rw [← hw1]
    have := heap_new (W.alloc (.cells #[.pointer (some ⟨g, 0, none⟩), .pointer (some ⟨t, 0, none⟩)] 140)) (.cells #[.int .i64 0, .string ⟨#[]⟩, .int .u64 0, .slice none 0 0, .int .u64 0, .int .u64 0, .string ⟨#[]⟩] 62)
    rwa [heap_size_alloc] at this
  obtain ⟨b, hbb⟩ : ∃ b, W.heap.size = b := ⟨_, rfl⟩
  have hgl : g < W.heap.size := by obtain ⟨_, _, hc, _⟩ := h.cu; exact blk_lt hc
  have hst : LSt w0 W w1 S g t T l W.heap.size 0 ⟨#[]⟩ 0 (.slice none 0 0) [] 0 0 ⟨#[]⟩ 0 0 :=
    ⟨h.keep hb1, hk2, hk4, Kd.R_nil _ _ _ _ _, Kp.of_below hb1 _, rfl, hgl, h.tab.lt, h.b.size⟩
  rw [hbb] at hst
  have hr1 := rbyte_any hst.rd hl (by omega)
  have HBY := Lib.hid hr1
  have HST := Lib.hid hst
  have HW1 := Lib.hid hw1
  have HBB := Lib.hid hbb
  have HU := Lib.hid Try.underlying62
  have hrg := cuByte_rg l hb
  have hb1p : 0 ≤ (cuByte l 0 0).2.1 ∧ (cuByte l 0 0).2.1 ≤ (l.length : Int) := by unfold cuByte; rw [if_neg (by simp)]; split <;> (dsimp only; constructor <;> omega)
  have HLR : Hid (lastR 3 T l = lastR 3 T l) := Lib.hid rfl
  generalize hRR : lastR 3 T l = RR at HLR ⊢
  conv at HLR => rw [← hRR]
  unfold lastR at hRR
  clear HLR h hb1 hw1 hk2 hk4 hbb hgl hst hr1
  generalize cuByte l 0 0 = F1 at *
  obtain ⟨kb, a1, e1⟩ := F1
  dsimp only at HBY hrg hRR hb1p
  rw [show textR 3 T l a1 e1 = txR T l a1 e1 from rfl] at hRR
  have HTX := Lib.hid (fun (X : World) (hr : Rd w0 X S g t T l a1 e1) => rknown_any hr hb hl)
  have hpl : 0 ≤ (txR T l a1 e1).2.1 ∧ (txR T l a1 e1).2.1 ≤ (l.length : Int) := (by have := cuNum_step l hb a1 e1 hb1p; exact ⟨by show 0 ≤ (cuNum l a1 e1).2.1; omega, this.1⟩)
  generalize txR T l a1 e1 = F2 at *
  obtain ⟨s, a2, e2⟩ := F2
  dsimp only at HTX hRR hpl
  have HPL := Lib.hid hpl
  clear hpl
  have HRR := Lib.hid hRR
  clear hRR
  have hcv : IntKind.i64.wrap kb = kb := by rw [IntKind.wrap_i64]; omega
  have p0 : (w1).cell? ⟨b, 0, none⟩ = some (.pointer (some ⟨g, 0, none⟩)) := (blk_cell HST.out.bx2 0).trans rfl
  have p1 : (w1).cell? ⟨b, 1, none⟩ = some (.pointer (some ⟨t, 0, none⟩)) := (blk_cell HST.out.bx2 1).trans rfl
  have r0 : (w1).cell? ⟨b + 1, 0, none⟩ = some (.int .i64 0) := (blk_cell HST.out.bx4 0).trans rfl
  have f0 := blk_frozen HST.out.bx4 0
  have r1 : (w1).cell? ⟨b + 1, 1, none⟩ = some (.string ⟨#[]⟩) := (blk_cell HST.out.bx4 1).trans rfl
  have f1 := blk_frozen HST.out.bx4 1
  have r2 : (w1).cell? ⟨b + 1, 2, none⟩ = some (.int .u64 0) := (blk_cell HST.out.bx4 2).trans rfl
  have f2 := blk_frozen HST.out.bx4 2
  have r3 : (w1).cell? ⟨b + 1, 3, none⟩ = some (.slice none 0 0) := (blk_cell HST.out.bx4 3).trans rfl
  have f3 := blk_frozen HST.out.bx4 3
  have r4 : (w1).cell? ⟨b + 1, 4, none⟩ = some (.int .u64 0) := (blk_cell HST.out.bx4 4).trans rfl
  have f4 := blk_frozen HST.out.bx4 4
  have r5 : (w1).cell? ⟨b + 1, 5, none⟩ = some (.int .u64 0) := (blk_cell HST.out.bx4 5).trans rfl
  have f5 := blk_frozen HST.out.bx4 5
  have r6 : (w1).cell? ⟨b + 1, 6, none⟩ = some (.string ⟨#[]⟩) := (blk_cell HST.out.bx4 6).trans rfl
  have f6 := blk_frozen HST.out.bx4 6
  go_enter Try.func76, Try.ntmps76
  go_wp2_with fail
  rw [HW1.out, HBB.out]
  clear p0 p1 r0 f0 r1 f1 r2 f2 r3 f3 r4 f4 r5 f5 r6 f6
  refine HBY.out.mono ?_
  rintro en w2 hp
  have hs2 := HST.out.read hp
  obtain ⟨rfl, _⟩ := hp
  have hs3 := hs2.putAll kb ⟨#[]⟩ 0 (.slice none 0 0) 0 0 ⟨#[]⟩ hs2.row
  have p0 : (w2).cell? ⟨b, 0, none⟩ = some (.pointer (some ⟨g, 0, none⟩)) := (blk_cell hs2.bx2 0).trans rfl
  have p1 : (w2).cell? ⟨b, 1, none⟩ = some (.pointer (some ⟨t, 0, none⟩)) := (blk_cell hs2.bx2 1).trans rfl
  have r0 : (w2).cell? ⟨b + 1, 0, none⟩ = some (.int .i64 0) := (blk_cell hs2.bx4 0).trans rfl
  have f0 := blk_frozen hs2.bx4 0
  have r1 : (w2).cell? ⟨b + 1, 1, none⟩ = some (.string ⟨#[]⟩) := (blk_cell hs2.bx4 1).trans rfl
  have f1 := blk_frozen hs2.bx4 1
  have r2 : (w2).cell? ⟨b + 1, 2, none⟩ = some (.int .u64 0) := (blk_cell hs2.bx4 2).trans rfl
  have f2 := blk_frozen hs2.bx4 2
  have r3 : (w2).cell? ⟨b + 1, 3, none⟩ = some (.slice none 0 0) := (blk_cell hs2.bx4 3).trans rfl
  have f3 := blk_frozen hs2.bx4 3
  have r4 : (w2).cell? ⟨b + 1, 4, none⟩ = some (.int .u64 0) := (blk_cell hs2.bx4 4).trans rfl
  have f4 := blk_frozen hs2.bx4 4
  have r5 : (w2).cell? ⟨b + 1, 5, none⟩ = some (.int .u64 0) := (blk_cell hs2.bx4 5).trans rfl
  have f5 := blk_frozen hs2.bx4 5
  have r6 : (w2).cell? ⟨b + 1, 6, none⟩ = some (.string ⟨#[]⟩) := (blk_cell hs2.bx4 6).trans rfl
  have f6 := blk_frozen hs2.bx4 6
  obtain ⟨w3, hw3⟩ : ∃ w3, (((((((w2.setCell ⟨b + 1, 0, none⟩ (.int .i64 kb)).setCell ⟨b + 1, 1, none⟩ (.string ⟨#[]⟩)).setCell ⟨b + 1, 2, none⟩ (.int .u64 0)).setCell ⟨b + 1, 3, none⟩ (.slice none 0 0)).setCell ⟨b + 1, 4, none⟩ (.int .u64 0)).setCell ⟨b + 1, 5, none⟩ (.int .u64 0)).setCell ⟨b + 1, 6, none⟩ (.string ⟨#[]⟩)) = w3 := ⟨_, rfl⟩
  rw [hw3] at hs3
  have HS3 := Lib.hid hs3
  have HW3 := Lib.hid hw3
  clear hs2 hs3 hw3 HST HBY
  go_wp2_with fail
  rw [HW3.out]
  clear p0 p1 r0 f0 r1 f1 r2 f2 r3 f3 r4 f4 r5 f5 r6 f6
  refine (HTX.out w3 HS3.out.rd).mono ?_
  rintro en w4 hp
  have hs4 := HS3.out.read hp
  obtain ⟨rfl, _⟩ := hp
  have hs5 := hs4.put1 s
  have p0 : (w4).cell? ⟨b, 0, none⟩ = some (.pointer (some ⟨g, 0, none⟩)) := (blk_cell hs4.bx2 0).trans rfl
  have p1 : (w4).cell? ⟨b, 1, none⟩ = some (.pointer (some ⟨t, 0, none⟩)) := (blk_cell hs4.bx2 1).trans rfl
  have r0 : (w4).cell? ⟨b + 1, 0, none⟩ = some (.int .i64 kb) := (blk_cell hs4.bx4 0).trans rfl
  have f0 := blk_frozen hs4.bx4 0
  have r1 : (w4).cell? ⟨b + 1, 1, none⟩ = some (.string ⟨#[]⟩) := (blk_cell hs4.bx4 1).trans rfl
  have f1 := blk_frozen hs4.bx4 1
  have r2 : (w4).cell? ⟨b + 1, 2, none⟩ = some (.int .u64 0) := (blk_cell hs4.bx4 2).trans rfl
  have f2 := blk_frozen hs4.bx4 2
  have r3 : (w4).cell? ⟨b + 1, 3, none⟩ = some (.slice none 0 0) := (blk_cell hs4.bx4 3).trans rfl
  have f3 := blk_frozen hs4.bx4 3
  have r4 : (w4).cell? ⟨b + 1, 4, none⟩ = some (.int .u64 0) := (blk_cell hs4.bx4 4).trans rfl
  have f4 := blk_frozen hs4.bx4 4
  have r5 : (w4).cell? ⟨b + 1, 5, none⟩ = some (.int .u64 0) := (blk_cell hs4.bx4 5).trans rfl
  have f5 := blk_frozen hs4.bx4 5
  have r6 : (w4).cell? ⟨b + 1, 6, none⟩ = some (.string ⟨#[]⟩) := (blk_cell hs4.bx4 6).trans rfl
  have f6 := blk_frozen hs4.bx4 6
  have yp0 : ((w4.setCell ⟨b + 1, 1, none⟩ (.string s))).cell? ⟨b, 0, none⟩ = some (.pointer (some ⟨g, 0, none⟩)) := (blk_cell hs5.bx2 0).trans rfl
  have yp1 : ((w4.setCell ⟨b + 1, 1, none⟩ (.string s))).cell? ⟨b, 1, none⟩ = some (.pointer (some ⟨t, 0, none⟩)) := (blk_cell hs5.bx2 1).trans rfl
  have yr0 : ((w4.setCell ⟨b + 1, 1, none⟩ (.string s))).cell? ⟨b + 1, 0, none⟩ = some (.int .i64 kb) := (blk_cell hs5.bx4 0).trans rfl
  have yf0 := blk_frozen hs5.bx4 0
  have yr1 : ((w4.setCell ⟨b + 1, 1, none⟩ (.string s))).cell? ⟨b + 1, 1, none⟩ = some (.string s) := (blk_cell hs5.bx4 1).trans rfl
  have yf1 := blk_frozen hs5.bx4 1
  have yr2 : ((w4.setCell ⟨b + 1, 1, none⟩ (.string s))).cell? ⟨b + 1, 2, none⟩ = some (.int .u64 0) := (blk_cell hs5.bx4 2).trans rfl
  have yf2 := blk_frozen hs5.bx4 2
  have yr3 : ((w4.setCell ⟨b + 1, 1, none⟩ (.string s))).cell? ⟨b + 1, 3, none⟩ = some (.slice none 0 0) := (blk_cell hs5.bx4 3).trans rfl
  have yf3 := blk_frozen hs5.bx4 3
  have yr4 : ((w4.setCell ⟨b + 1, 1, none⟩ (.string s))).cell? ⟨b + 1, 4, none⟩ = some (.int .u64 0) := (blk_cell hs5.bx4 4).trans rfl
  have yf4 := blk_frozen hs5.bx4 4
  have yr5 : ((w4.setCell ⟨b + 1, 1, none⟩ (.string s))).cell? ⟨b + 1, 5, none⟩ = some (.int .u64 0) := (blk_cell hs5.bx4 5).trans rfl
  have yf5 := blk_frozen hs5.bx4 5
  have yr6 : ((w4.setCell ⟨b + 1, 1, none⟩ (.string s))).cell? ⟨b + 1, 6, none⟩ = some (.string ⟨#[]⟩) := (blk_cell hs5.bx4 6).trans rfl
  have yf6 := blk_frozen hs5.bx4 6
  obtain ⟨w5, hw5⟩ : ∃ w5, (w4.setCell ⟨b + 1, 1, none⟩ (.string s)) = w5 := ⟨_, rfl⟩
  have hs6 := hs5
  rw [hw5] at hs6
  have HS5 := Lib.hid hs6
  have HS4 := Lib.hid hs5
  have HW5 := Lib.hid hw5
  clear hs4 hs5 hs6 hw5 HS3 HTX HW3
  by_cases hk1 : kb = 1
  · subst hk1
    have hR2 := HRR.out
    rw [if_pos rfl] at hR2
    unfold traceR at hR2
    have HN2 := Lib.hid (fun (X : World) (hr : Rd w0 X S g t T l a2 e2) => rnum_any hr hb hl)
    have hs2 := cuNum_step l hb a2 e2 HPL.out
    generalize cuNum l a2 e2 = N2 at *
    obtain ⟨x2, a3, e3⟩ := N2
    dsimp only at HN2 hR2 hs2
    have HN3 := Lib.hid (fun (X : World) (hr : Rd w0 X S g t T l a3 e3) => rnum_any hr hb hl)
    have hs3 := cuNum_step l hb a3 e3 ⟨by have := HPL.out; omega, hs2.1⟩
    generalize cuNum l a3 e3 = N3 at *
    obtain ⟨n, a4, e4⟩ := N3
    dsimp only at HN3 hR2 hs3
    have HP4 := Lib.hid (show 0 ≤ a4 ∧ a4 ≤ (l.length : Int) ∧ 0 ≤ n ∧ n < 18446744073709551616 from ⟨by have := HPL.out; omega, hs3.1, hs3.2.2.2.1, hs3.2.2.2.2.1⟩)
    obtain ⟨D, hD⟩ : ∃ D, depsL 3 T l (l.length + 2) n a4 e4 [] = D := ⟨_, rfl⟩
    rw [hD] at hR2
    have HDD := Lib.hid hD
    clear hD hs2 hs3
    obtain ⟨ds, a5, e5⟩ := D
    dsimp only at hR2
    have HN4 := Lib.hid (fun (X : World) (hr : Rd w0 X S g t T l a5 e5) => rnum_any hr hb hl)
    generalize cuNum l a5 e5 = N4 at *
    obtain ⟨x4, a6, e6⟩ := N4
    dsimp only at HN4 hR2
    unfold tailR at hR2
    rw [if_neg (by omega)] at hR2
    have HN5 := Lib.hid (fun (X : World) (hr : Rd w0 X S g t T l a6 e6) => rnum_any hr hb hl)
    generalize cuNum l a6 e6 = N5 at *
    obtain ⟨x5, a7, e7_⟩ := N5
    dsimp only at HN5 hR2
    rw [if_neg (by omega)] at hR2
    have HN6 := Lib.hid (fun (X : World) (hr : Rd w0 X S g t T l a7 e7_) => rnum_any hr hb hl)
    have hm6 := cuNum_rg (l := l) (a := a7) (e := e7_) hb
    generalize cuNum l a7 e7_ = N6 at *
    obtain ⟨m, a8, e7⟩ := N6
    dsimp only at HN6 hR2 hm6
    have HM6 := Lib.hid hm6
    clear hm6
    have HR2 := Lib.hid hR2
    clear hR2 HRR
    go_wp2_with fail
    rw [HW5.out]
    clear p0 p1 r0 f0 r1 f1 r2 f2 r3 f3 r4 f4 r5 f5 r6 f6 yp0 yp1 yr0 yf0 yr1 yf1 yr2 yf2 yr3 yf3 yr4 yf4 yr5 yf5 yr6 yf6
    refine (HN2.out w5 HS5.out.rd).mono ?_
    rintro en w6 hp
    have HS6 := Lib.hid (HS5.out.read hp)
    obtain ⟨rfl, _⟩ := hp
    have HS7 := Lib.hid (HS6.out.put2 x2)
    have p0 : (w6).cell? ⟨b, 0, none⟩ = some (.pointer (some ⟨g, 0, none⟩)) := (blk_cell HS6.out.bx2 0).trans rfl
    have p1 : (w6).cell? ⟨b, 1, none⟩ = some (.pointer (some ⟨t, 0, none⟩)) := (blk_cell HS6.out.bx2 1).trans rfl
    have r0 : (w6).cell? ⟨b + 1, 0, none⟩ = some (.int .i64 1) := (blk_cell HS6.out.bx4 0).trans rfl
    have f0 := blk_frozen HS6.out.bx4 0
    have r1 : (w6).cell? ⟨b + 1, 1, none⟩ = some (.string s) := (blk_cell HS6.out.bx4 1).trans rfl
    have f1 := blk_frozen HS6.out.bx4 1
    have r2 : (w6).cell? ⟨b + 1, 2, none⟩ = some (.int .u64 0) := (blk_cell HS6.out.bx4 2).trans rfl
    have f2 := blk_frozen HS6.out.bx4 2
    have r3 : (w6).cell? ⟨b + 1, 3, none⟩ = some (.slice none 0 0) := (blk_cell HS6.out.bx4 3).trans rfl
    have f3 := blk_frozen HS6.out.bx4 3
    have r4 : (w6).cell? ⟨b + 1, 4, none⟩ = some (.int .u64 0) := (blk_cell HS6.out.bx4 4).trans rfl
    have f4 := blk_frozen HS6.out.bx4 4
    have r5 : (w6).cell? ⟨b + 1, 5, none⟩ = some (.int .u64 0) := (blk_cell HS6.out.bx4 5).trans rfl
    have f5 := blk_frozen HS6.out.bx4 5
    have r6 : (w6).cell? ⟨b + 1, 6, none⟩ = some (.string ⟨#[]⟩) := (blk_cell HS6.out.bx4 6).trans rfl
    have f6 := blk_frozen HS6.out.bx4 6
    have yp0 : ((w6.setCell ⟨b + 1, 2, none⟩ (.int .u64 x2))).cell? ⟨b, 0, none⟩ = some (.pointer (some ⟨g, 0, none⟩)) := (blk_cell HS7.out.bx2 0).trans rfl
    have yp1 : ((w6.setCell ⟨b + 1, 2, none⟩ (.int .u64 x2))).cell? ⟨b, 1, none⟩ = some (.pointer (some ⟨t, 0, none⟩)) := (blk_cell HS7.out.bx2 1).trans rfl
    have yr0 : ((w6.setCell ⟨b + 1, 2, none⟩ (.int .u64 x2))).cell? ⟨b + 1, 0, none⟩ = some (.int .i64 1) := (blk_cell HS7.out.bx4 0).trans rfl
    have yf0 := blk_frozen HS7.out.bx4 0
    have yr1 : ((w6.setCell ⟨b + 1, 2, none⟩ (.int .u64 x2))).cell? ⟨b + 1, 1, none⟩ = some (.string s) := (blk_cell HS7.out.bx4 1).trans rfl
    have yf1 := blk_frozen HS7.out.bx4 1
    have yr2 : ((w6.setCell ⟨b + 1, 2, none⟩ (.int .u64 x2))).cell? ⟨b + 1, 2, none⟩ = some (.int .u64 x2) := (blk_cell HS7.out.bx4 2).trans rfl
    have yf2 := blk_frozen HS7.out.bx4 2
    have yr3 : ((w6.setCell ⟨b + 1, 2, none⟩ (.int .u64 x2))).cell? ⟨b + 1, 3, none⟩ = some (.slice none 0 0) := (blk_cell HS7.out.bx4 3).trans rfl
    have yf3 := blk_frozen HS7.out.bx4 3
    have yr4 : ((w6.setCell ⟨b + 1, 2, none⟩ (.int .u64 x2))).cell? ⟨b + 1, 4, none⟩ = some (.int .u64 0) := (blk_cell HS7.out.bx4 4).trans rfl
    have yf4 := blk_frozen HS7.out.bx4 4
    have yr5 : ((w6.setCell ⟨b + 1, 2, none⟩ (.int .u64 x2))).cell? ⟨b + 1, 5, none⟩ = some (.int .u64 0) := (blk_cell HS7.out.bx4 5).trans rfl
    have yf5 := blk_frozen HS7.out.bx4 5
    have yr6 : ((w6.setCell ⟨b + 1, 2, none⟩ (.int .u64 x2))).cell? ⟨b + 1, 6, none⟩ = some (.string ⟨#[]⟩) := (blk_cell HS7.out.bx4 6).trans rfl
    have yf6 := blk_frozen HS7.out.bx4 6
    obtain ⟨w7, hw7⟩ : ∃ w7, (w6.setCell ⟨b + 1, 2, none⟩ (.int .u64 x2)) = w7 := ⟨_, rfl⟩
    have hs8 := HS7.out
    rw [hw7] at hs8
    have HS8 := Lib.hid hs8
    have HW7 := Lib.hid hw7
    clear hs8 hw7
    go_wp2_with fail
    rw [HW7.out]
    clear p0 p1 r0 f0 r1 f1 r2 f2 r3 f3 r4 f4 r5 f5 r6 f6 yp0 yp1 yr0 yf0 yr1 yf1 yr2 yf2 yr3 yf3 yr4 yf4 yr5 yf5 yr6 yf6
    refine (HN3.out w7 HS8.out.rd).mono ?_
    rintro en w8 hp
    have HS9 := Lib.hid (HS8.out.read hp)
    obtain ⟨rfl, _⟩ := hp
    clear HS8 HS7 HS6 HS5 HS4 HW5 HW7 HN2 HN3
    go_wp2_with fail
    go_loopg [6] (l.length + 2) (fun kq u6 wr => ∃ (n a e : Int) (dv : Value) (dl : List S113), u6 = .int .u64 n ∧ 0 ≤ n ∧ n < 18446744073709551616 ∧ 0 ≤ a ∧ a ≤ (l.length : Int) ∧ Hid (LSt w0 W wr S g t T l b 1 s x2 dv dl 0 0 ⟨#[]⟩ a e) ∧ Hid (depsL 3 T l kq n a e dl = (ds, a5, e5)) ∧ (e = 0 → (l.length : Int) - a + 2 ≤ (kq : Int)) ∧ 1 ≤ kq ∧ dl.length + kq ≤ l.length + 2)
    case atStart => exact ⟨n, a4, e4, .slice none 0 0, [], rfl, HP4.out.2.2.1, HP4.out.2.2.2, HP4.out.1, HP4.out.2.1, HS9, HDD, fun _ => by have := HP4.out; omega, by omega, by simp⟩
    case round =>
      clear HDD HS9 HP4
      obtain ⟨n, a, e, dv, dl, rfl, hn0, hn1, ha0, ha1, H, HDL, hf1, hf2, hf3⟩ := hrel
      by_cases hn : 0 < n
      · have hnd : decide (0 < n) = true := decide_eq_true hn
        have p0 : wr.cell? ⟨b, 0, none⟩ = some (.pointer (some ⟨g, 0, none⟩)) := (blk_cell H.out.bx2 0).trans rfl
        have p1 : wr.cell? ⟨b, 1, none⟩ = some (.pointer (some ⟨t, 0, none⟩)) := (blk_cell H.out.bx2 1).trans rfl
        have HER := Lib.hid (rerr_any H.out.rd)
        by_cases he : e = 0
        · subst he
          cases gk with
          | zero => omega
          | succ k1 =>
            obtain ⟨Ad, cd, rfl⟩ := Kd.R_slice H.out.row
            have hdl := HDL.out
            rw [depsL, if_pos ⟨hn, rfl⟩] at hdl
            have hpd := depR_place 3 T l hb a 0 ⟨ha0, ha1⟩
            have HDP := Lib.hid (rdep3_any H.out.rd hb hl (.func (.func 99) #[.agg #[.pointer (some ⟨g, 0, none⟩), .pointer (some ⟨t, 0, none⟩)]] #[]))
            generalize depR 3 T l a 0 = DR at *
            obtain ⟨⟨sd, od⟩, a7, e7⟩ := DR
            dsimp only at hdl hpd HDP
            have hps := cuNum_step l hb a7 e7 ⟨by omega, hpd.2⟩
            have HNH := Lib.hid (fun (X : World) (hr : Rd w0 X S g t T l a7 e7) => rnum_any hr hb hl)
            generalize cuNum l a7 e7 = NH at *
            obtain ⟨hh, a8, e8⟩ := NH
            dsimp only at hdl hps HNH
            have hwn : IntKind.u64.wrap (n - 1) = n - 1 := by rw [IntKind.wrap_u64]; omega
            have HDL2 := Lib.hid hdl
            have HPS := Lib.hid (show a + 0 ≤ a8 ∧ a8 ≤ (l.length : Int) ∧ (e8 = 0 → a + 1 ≤ a8) from ⟨by omega, hps.1, fun h => by have := (hps.2.2.1 h).1; omega⟩)
            have hfz := hf1 rfl
            clear hdl HDL hps hpd hf1
            go_wp2_with fail
            refine HER.out.mono ?_
            rintro en w9 ⟨rfl, rfl⟩
            go_wp2_with fail
            clear p0 p1 HER
            refine HDP.out.mono ?_
            rintro en w5 hp
            have HS5 := Lib.hid (H.out.read hp)
            obtain ⟨rfl, _⟩ := hp
            have HS6 := Lib.hid (HS5.out.below ((Below.refl _ _).alloc (Nat.le_refl _) (.cells #[.string sd, .int .u64 0, .bool od] 113)))
            have p0 : (w5.alloc (.cells #[.string sd, .int .u64 0, .bool od] 113)).cell? ⟨b, 0, none⟩ = some (.pointer (some ⟨g, 0, none⟩)) := (blk_cell HS6.out.bx2 0).trans rfl
            have hkb : (w5.alloc (.cells #[.string sd, .int .u64 0, .bool od] 113)).heap[w5.heap.size]? = some (.cells #[.string sd, .int .u64 0, .bool od] 113 (0, 0)) := heap_new _ _
            have hold : ∀ k, k < w5.heap.size → (w5.alloc (.cells #[.string sd, .int .u64 0, .bool od] 113)).heap[k]? = w5.heap[k]? := fun k hk => heap_new_old _ _ _ hk
            obtain ⟨w6, hw6⟩ : ∃ w6, w5.alloc (.cells #[.string sd, .int .u64 0, .bool od] 113) = w6 := ⟨_, rfl⟩
            have HW6 := Lib.hid hw6
            have hsz6 : w6.heap.size = w5.heap.size + 1 := by rw [← hw6, heap_size_alloc]
            have hs6 := HS6.out
            rw [hw6] at hs6 hkb hold
            replace HS6 := Lib.hid hs6
            have HKB := Lib.hid hkb
            have HOLD := Lib.hid hold
            have HSZ := Lib.hid hsz6
            clear hw6 hkb hold hs6 hsz6 HDP
            go_wp2_with fail
            rw [HW6.out]
            clear p0
            obtain ⟨b7, hb7⟩ : ∃ x, w5.heap.size = x := ⟨_, rfl⟩
            rw [hb7] at HKB ⊢
            refine (HNH.out w6 HS6.out.rd).mono ?_
            rintro en w7 hp
            have hs7 := HS6.out.read hp
            obtain ⟨rfl, _, hkk⟩ := hp
            have hgb := hs7.gb
            have hb7l : b + 2 ≤ b7 := by have := blk_lt HS5.out.bx4; omega
            have hk7 := hkk.heap HKB.out (show b7 ≠ g by omega)
            have hk8 : (w7.setCell ⟨b7, 1, none⟩ (.int .u64 hh)).heap[b7]? = some (.cells #[.string sd, .int .u64 hh, .bool od] 113 (0, 0)) := blk_put (cs' := #[.string sd, .int .u64 hh, .bool od]) hk7 1 (.int .u64 hh) rfl
            have hR8 : Kd.R k113 113 (w7.setCell ⟨b7, 1, none⟩ (.int .u64 hh)) (b + 2) (fun _ => True) (.slice Ad dl.length cd) dl := by
              refine Kd.R_mono (Kd.R_step (Kd.R_bound HS5.out.row) (fun k hk hlt => ?_)) (fun _ _ => trivial)
              have h1 := hk.2.1
              exact (Below.heap_setCell _ ⟨b7, 1, none⟩ _ _ (by show k ≠ b7; omega)).trans ((hkk.block k (by have := HSZ.out; omega) (by omega)).trans (HOLD.out k hlt))
            obtain ⟨g1, g2, g3, g4⟩ := hs7.grown (X' := w7.setCell ⟨b7, 1, none⟩ (.int .u64 hh)) (row := some b7) (grownBy_setAt _ _ _ _) (fun q e => by cases e; exact hb7l) hR8
            have HS8 : Hid (LSt w0 W (w7.setCell ⟨b7, 1, none⟩ (.int .u64 hh)) S g t T l b 1 s x2 (.slice Ad dl.length cd) dl 0 0 ⟨#[]⟩ a8 e8) := Lib.hid ⟨g1, g2, g3, hR8, g4, hs7.bW, hs7.gb, hs7.sb, hs7.wb⟩
            have q0 : w7.cell? ⟨b7, 0, none⟩ = some (.string sd) := (blk_cell hk7 0).trans rfl
            have q1 : w7.cell? ⟨b7, 1, none⟩ = some (.int .u64 0) := (blk_cell hk7 1).trans rfl
            have qf1 := blk_frozen hk7 1
            have y0 : (w7.setCell ⟨b7, 1, none⟩ (.int .u64 hh)).cell? ⟨b7, 0, none⟩ = some (.string sd) := (blk_cell hk8 0).trans rfl
            have y1 : (w7.setCell ⟨b7, 1, none⟩ (.int .u64 hh)).cell? ⟨b7, 1, none⟩ = some (.int .u64 hh) := (blk_cell hk8 1).trans rfl
            have y2 : (w7.setCell ⟨b7, 1, none⟩ (.int .u64 hh)).cell? ⟨b7, 2, none⟩ = some (.bool od) := (blk_cell hk8 2).trans rfl
            have z3 : (w7.setCell ⟨b7, 1, none⟩ (.int .u64 hh)).cell? ⟨b + 1, 3, none⟩ = some (.slice Ad dl.length cd) := (blk_cell HS8.out.bx4 3).trans rfl
            clear hk7 hk8 hR8 g1 g2 g3 g4 hs7 hkk HS5 HS6 HOLD HKB HW6 HNH hb7
            go_wp2_with (at_builtin; refine Halt.mk ?_)
            refine Halt.of ?_
            clear q0 q1 qf1 y0 y1 y2 z3
            have hsz8 : (w7.setCell ⟨b7, 1, none⟩ (.int .u64 hh)).heap.size = w7.heap.size := by simp
            generalize w7.setCell ⟨b7, 1, none⟩ (.int .u64 hh) = w8 at *
            have hb9 : Below w8.heap.size w8 (w8.alloc (.cells #[.string sd, .int .u64 hh, .bool od] 113)) := (Below.refl _ _).alloc (Nat.le_refl _) _
            have hk9 : (w8.alloc (.cells #[.string sd, .int .u64 hh, .bool od] 113)).heap[w8.heap.size]? = some (.cells #[.string sd, .int .u64 hh, .bool od] 113 (0, 0)) := heap_new _ _
            rw [hsz8] at hk9
            have hs9 := HS8.out.below hb9
            have hbz : b + 2 ≤ (w8.alloc (.cells #[.string sd, .int .u64 hh, .bool od] 113)).heap.size := by have := blk_lt hs9.bx4; omega
            refine Kd.R_append_rows k113 (w0 := w8.alloc (.cells #[.string sd, .int .u64 hh, .bool od] 113)) (b + 2) rfl (.tmp 53) (.tmp 55) 60 113 (.agg #[.string ⟨#[]⟩, .int .u64 0, .bool false]) 32 rfl Try.underlying60 info_dep rfl (by decide) (by omega) _ dl [⟨sd, hh, od⟩] _ _ _ (fun _ => True) (fun _ => False) rfl rfl hs9.row (row_dep hk9) ?_ (fun _ h => h.elim) (fun _ _ => trivial) (Below.refl _ _) hbz (by omega) ?_
            · rintro _ _ ⟨rfl, rfl⟩
              exact k113_mkM _ _ _ (⟨sd, hh, od⟩ : S113)
            intro v12 w12 hR12 _ hg12 _
            obtain ⟨dl2, hdl2⟩ : ∃ x, dl ++ [(⟨sd, hh, od⟩ : S113)] = x := ⟨_, rfl⟩
            have hln : dl2.length = dl.length + 1 := by rw [← hdl2, List.length_append]; rfl
            have hdq := HDL2.out
            rw [hdl2] at hR12 hdq
            obtain ⟨A12, c12, rfl⟩ := Kd.R_slice hR12
            have hpu := hs9.pushed hg12 hR12
            have r3 : w12.cell? ⟨b + 1, 3, none⟩ = some (.slice Ad dl.length cd) := (blk_cell hpu.1 3).trans rfl
            have f3 := blk_frozen hpu.1 3
            have HPU := Lib.hid hpu.2
            have HDQ := Lib.hid hdq
            have HLN := Lib.hid hln
            clear hpu hdq hR12 hg12 hs9 hk9 hb9 hbz HS8 HDL2 hdl2 hln
            go_wp2_with fail
            go_roundg k1
            case measure => omega
            case rel =>
              have hps := HPS.out
              have hln := HLN.out
              exact ⟨n - 1, a8, e8, _, dl2, rfl, by omega, by omega, by omega, by omega, HPU, HDQ, fun h8 => by have := hps.2.2 h8; omega, by omega, by omega⟩
        · have hed : decide (e = 0) = false := decide_eq_false he
          go_wp2_with fail
          refine HER.out.mono ?_
          rintro en w9 ⟨rfl, rfl⟩
          have hdl := HDL.out
          rw [depsL_end _ (by omega)] at hdl
          obtain ⟨rfl, rfl, rfl⟩ : dl = ds ∧ a = a5 ∧ e = e5 := by injection hdl with h1 h2; injection h2 with h2 h3; exact ⟨h1, h2, h3⟩
          clear p0 p1 HER HDL hdl
          obtain ⟨Ad, cd, rfl⟩ := Kd.R_slice H.out.row
          have p0 : (wr).cell? ⟨b, 0, none⟩ = some (.pointer (some ⟨g, 0, none⟩)) := (blk_cell H.out.bx2 0).trans rfl
          have p1 : (wr).cell? ⟨b, 1, none⟩ = some (.pointer (some ⟨t, 0, none⟩)) := (blk_cell H.out.bx2 1).trans rfl
          have r0 : (wr).cell? ⟨b + 1, 0, none⟩ = some (.int .i64 1) := (blk_cell H.out.bx4 0).trans rfl
          have f0 := blk_frozen H.out.bx4 0
          have r1 : (wr).cell? ⟨b + 1, 1, none⟩ = some (.string s) := (blk_cell H.out.bx4 1).trans rfl
          have f1 := blk_frozen H.out.bx4 1
          have r2 : (wr).cell? ⟨b + 1, 2, none⟩ = some (.int .u64 x2) := (blk_cell H.out.bx4 2).trans rfl
          have f2 := blk_frozen H.out.bx4 2
          have r3 : (wr).cell? ⟨b + 1, 3, none⟩ = some (.slice Ad dl.length cd) := (blk_cell H.out.bx4 3).trans rfl
          have f3 := blk_frozen H.out.bx4 3
          have r4 : (wr).cell? ⟨b + 1, 4, none⟩ = some (.int .u64 0) := (blk_cell H.out.bx4 4).trans rfl
          have f4 := blk_frozen H.out.bx4 4
          have r5 : (wr).cell? ⟨b + 1, 5, none⟩ = some (.int .u64 0) := (blk_cell H.out.bx4 5).trans rfl
          have f5 := blk_frozen H.out.bx4 5
          have r6 : (wr).cell? ⟨b + 1, 6, none⟩ = some (.string ⟨#[]⟩) := (blk_cell H.out.bx4 6).trans rfl
          have f6 := blk_frozen H.out.bx4 6
          go_wp2_with fail
          clear p0 p1 r0 f0 r1 f1 r2 f2 r3 f3 r4 f4 r5 f5 r6 f6
          refine (HN4.out wr H.out.rd).mono ?_
          rintro en wa hp
          have HA := Lib.hid (H.out.read hp)
          obtain ⟨rfl, _⟩ := hp
          have HB9 := Lib.hid (HA.out.put4 x4)
          have p0 : (wa).cell? ⟨b, 0, none⟩ = some (.pointer (some ⟨g, 0, none⟩)) := (blk_cell HA.out.bx2 0).trans rfl
          have p1 : (wa).cell? ⟨b, 1, none⟩ = some (.pointer (some ⟨t, 0, none⟩)) := (blk_cell HA.out.bx2 1).trans rfl
          have r0 : (wa).cell? ⟨b + 1, 0, none⟩ = some (.int .i64 1) := (blk_cell HA.out.bx4 0).trans rfl
          have f0 := blk_frozen HA.out.bx4 0
          have r1 : (wa).cell? ⟨b + 1, 1, none⟩ = some (.string s) := (blk_cell HA.out.bx4 1).trans rfl
          have f1 := blk_frozen HA.out.bx4 1
          have r2 : (wa).cell? ⟨b + 1, 2, none⟩ = some (.int .u64 x2) := (blk_cell HA.out.bx4 2).trans rfl
          have f2 := blk_frozen HA.out.bx4 2
          have r3 : (wa).cell? ⟨b + 1, 3, none⟩ = some (.slice Ad dl.length cd) := (blk_cell HA.out.bx4 3).trans rfl
          have f3 := blk_frozen HA.out.bx4 3
          have r4 : (wa).cell? ⟨b + 1, 4, none⟩ = some (.int .u64 0) := (blk_cell HA.out.bx4 4).trans rfl
          have f4 := blk_frozen HA.out.bx4 4
          have r5 : (wa).cell? ⟨b + 1, 5, none⟩ = some (.int .u64 0) := (blk_cell HA.out.bx4 5).trans rfl
          have f5 := blk_frozen HA.out.bx4 5
          have r6 : (wa).cell? ⟨b + 1, 6, none⟩ = some (.string ⟨#[]⟩) := (blk_cell HA.out.bx4 6).trans rfl
          have f6 := blk_frozen HA.out.bx4 6
          have yp0 : ((wa.setCell ⟨b + 1, 4, none⟩ (.int .u64 x4))).cell? ⟨b, 0, none⟩ = some (.pointer (some ⟨g, 0, none⟩)) := (blk_cell HB9.out.bx2 0).trans rfl
          have yp1 : ((wa.setCell ⟨b + 1, 4, none⟩ (.int .u64 x4))).cell? ⟨b, 1, none⟩ = some (.pointer (some ⟨t, 0, none⟩)) := (blk_cell HB9.out.bx2 1).trans rfl
          have yr0 : ((wa.setCell ⟨b + 1, 4, none⟩ (.int .u64 x4))).cell? ⟨b + 1, 0, none⟩ = some (.int .i64 1) := (blk_cell HB9.out.bx4 0).trans rfl
          have yf0 := blk_frozen HB9.out.bx4 0
          have yr1 : ((wa.setCell ⟨b + 1, 4, none⟩ (.int .u64 x4))).cell? ⟨b + 1, 1, none⟩ = some (.string s) := (blk_cell HB9.out.bx4 1).trans rfl
          have yf1 := blk_frozen HB9.out.bx4 1
          have yr2 : ((wa.setCell ⟨b + 1, 4, none⟩ (.int .u64 x4))).cell? ⟨b + 1, 2, none⟩ = some (.int .u64 x2) := (blk_cell HB9.out.bx4 2).trans rfl
          have yf2 := blk_frozen HB9.out.bx4 2
          have yr3 : ((wa.setCell ⟨b + 1, 4, none⟩ (.int .u64 x4))).cell? ⟨b + 1, 3, none⟩ = some (.slice Ad dl.length cd) := (blk_cell HB9.out.bx4 3).trans rfl
          have yf3 := blk_frozen HB9.out.bx4 3
          have yr4 : ((wa.setCell ⟨b + 1, 4, none⟩ (.int .u64 x4))).cell? ⟨b + 1, 4, none⟩ = some (.int .u64 x4) := (blk_cell HB9.out.bx4 4).trans rfl
          have yf4 := blk_frozen HB9.out.bx4 4
          have yr5 : ((wa.setCell ⟨b + 1, 4, none⟩ (.int .u64 x4))).cell? ⟨b + 1, 5, none⟩ = some (.int .u64 0) := (blk_cell HB9.out.bx4 5).trans rfl
          have yf5 := blk_frozen HB9.out.bx4 5
          have yr6 : ((wa.setCell ⟨b + 1, 4, none⟩ (.int .u64 x4))).cell? ⟨b + 1, 6, none⟩ = some (.string ⟨#[]⟩) := (blk_cell HB9.out.bx4 6).trans rfl
          have yf6 := blk_frozen HB9.out.bx4 6
          obtain ⟨wb, hwb⟩ : ∃ wb, (wa.setCell ⟨b + 1, 4, none⟩ (.int .u64 x4)) = wb := ⟨_, rfl⟩
          have HWB := Lib.hid hwb
          have hB9 := HB9.out
          rw [hwb] at hB9
          have HB := Lib.hid hB9
          clear hwb hB9
          go_wp2_with fail
          rw [HWB.out]
          clear p0 p1 r0 f0 r1 f1 r2 f2 r3 f3 r4 f4 r5 f5 r6 f6 yp0 yp1 yr0 yf0 yr1 yf1 yr2 yf2 yr3 yf3 yr4 yf4 yr5 yf5 yr6 yf6
          refine (HN5.out wb HB.out.rd).mono ?_
          rintro en wc hp
          have HC := Lib.hid (HB.out.read hp)
          obtain ⟨rfl, _⟩ := hp
          have HC9 := Lib.hid (HC.out.put5 x5)
          have p0 : (wc).cell? ⟨b, 0, none⟩ = some (.pointer (some ⟨g, 0, none⟩)) := (blk_cell HC.out.bx2 0).trans rfl
          have p1 : (wc).cell? ⟨b, 1, none⟩ = some (.pointer (some ⟨t, 0, none⟩)) := (blk_cell HC.out.bx2 1).trans rfl
          have r0 : (wc).cell? ⟨b + 1, 0, none⟩ = some (.int .i64 1) := (blk_cell HC.out.bx4 0).trans rfl
          have f0 := blk_frozen HC.out.bx4 0
          have r1 : (wc).cell? ⟨b + 1, 1, none⟩ = some (.string s) := (blk_cell HC.out.bx4 1).trans rfl
          have f1 := blk_frozen HC.out.bx4 1
          have r2 : (wc).cell? ⟨b + 1, 2, none⟩ = some (.int .u64 x2) := (blk_cell HC.out.bx4 2).trans rfl
          have f2 := blk_frozen HC.out.bx4 2
          have r3 : (wc).cell? ⟨b + 1, 3, none⟩ = some (.slice Ad dl.length cd) := (blk_cell HC.out.bx4 3).trans rfl
          have f3 := blk_frozen HC.out.bx4 3
          have r4 : (wc).cell? ⟨b + 1, 4, none⟩ = some (.int .u64 x4) := (blk_cell HC.out.bx4 4).trans rfl
          have f4 := blk_frozen HC.out.bx4 4
          have r5 : (wc).cell? ⟨b + 1, 5, none⟩ = some (.int .u64 0) := (blk_cell HC.out.bx4 5).trans rfl
          have f5 := blk_frozen HC.out.bx4 5
          have r6 : (wc).cell? ⟨b + 1, 6, none⟩ = some (.string ⟨#[]⟩) := (blk_cell HC.out.bx4 6).trans rfl
          have f6 := blk_frozen HC.out.bx4 6
          have yp0 : ((wc.setCell ⟨b + 1, 5, none⟩ (.int .u64 x5))).cell? ⟨b, 0, none⟩ = some (.pointer (some ⟨g, 0, none⟩)) := (blk_cell HC9.out.bx2 0).trans rfl
          have yp1 : ((wc.setCell ⟨b + 1, 5, none⟩ (.int .u64 x5))).cell? ⟨b, 1, none⟩ = some (.pointer (some ⟨t, 0, none⟩)) := (blk_cell HC9.out.bx2 1).trans rfl
          have yr0 : ((wc.setCell ⟨b + 1, 5, none⟩ (.int .u64 x5))).cell? ⟨b + 1, 0, none⟩ = some (.int .i64 1) := (blk_cell HC9.out.bx4 0).trans rfl
          have yf0 := blk_frozen HC9.out.bx4 0
          have yr1 : ((wc.setCell ⟨b + 1, 5, none⟩ (.int .u64 x5))).cell? ⟨b + 1, 1, none⟩ = some (.string s) := (blk_cell HC9.out.bx4 1).trans rfl
          have yf1 := blk_frozen HC9.out.bx4 1
          have yr2 : ((wc.setCell ⟨b + 1, 5, none⟩ (.int .u64 x5))).cell? ⟨b + 1, 2, none⟩ = some (.int .u64 x2) := (blk_cell HC9.out.bx4 2).trans rfl
          have yf2 := blk_frozen HC9.out.bx4 2
          have yr3 : ((wc.setCell ⟨b + 1, 5, none⟩ (.int .u64 x5))).cell? ⟨b + 1, 3, none⟩ = some (.slice Ad dl.length cd) := (blk_cell HC9.out.bx4 3).trans rfl
          have yf3 := blk_frozen HC9.out.bx4 3
          have yr4 : ((wc.setCell ⟨b + 1, 5, none⟩ (.int .u64 x5))).cell? ⟨b + 1, 4, none⟩ = some (.int .u64 x4) := (blk_cell HC9.out.bx4 4).trans rfl
          have yf4 := blk_frozen HC9.out.bx4 4
          have yr5 : ((wc.setCell ⟨b + 1, 5, none⟩ (.int .u64 x5))).cell? ⟨b + 1, 5, none⟩ = some (.int .u64 x5) := (blk_cell HC9.out.bx4 5).trans rfl
          have yf5 := blk_frozen HC9.out.bx4 5
          have yr6 : ((wc.setCell ⟨b + 1, 5, none⟩ (.int .u64 x5))).cell? ⟨b + 1, 6, none⟩ = some (.string ⟨#[]⟩) := (blk_cell HC9.out.bx4 6).trans rfl
          have yf6 := blk_frozen HC9.out.bx4 6
          obtain ⟨wd, hwd⟩ : ∃ wd, (wc.setCell ⟨b + 1, 5, none⟩ (.int .u64 x5)) = wd := ⟨_, rfl⟩
          have HWD := Lib.hid hwd
          have hC9 := HC9.out
          rw [hwd] at hC9
          have HD := Lib.hid hC9
          clear hwd hC9
          go_wp2_with fail
          rw [HWD.out]
          clear p0 p1 r0 f0 r1 f1 r2 f2 r3 f3 r4 f4 r5 f5 r6 f6 yp0 yp1 yr0 yf0 yr1 yf1 yr2 yf2 yr3 yf3 yr4 yf4 yr5 yf5 yr6 yf6
          refine (HN6.out wd HD.out.rd).mono ?_
          rintro en we hp
          have HE := Lib.hid (HD.out.read hp)
          obtain ⟨rfl, _⟩ := hp
          have p0 : (we).cell? ⟨b, 0, none⟩ = some (.pointer (some ⟨g, 0, none⟩)) := (blk_cell HE.out.bx2 0).trans rfl
          have p1 : (we).cell? ⟨b, 1, none⟩ = some (.pointer (some ⟨t, 0, none⟩)) := (blk_cell HE.out.bx2 1).trans rfl
          have r0 : (we).cell? ⟨b + 1, 0, none⟩ = some (.int .i64 1) := (blk_cell HE.out.bx4 0).trans rfl
          have f0 := blk_frozen HE.out.bx4 0
          have r1 : (we).cell? ⟨b + 1, 1, none⟩ = some (.string s) := (blk_cell HE.out.bx4 1).trans rfl
          have f1 := blk_frozen HE.out.bx4 1
          have r2 : (we).cell? ⟨b + 1, 2, none⟩ = some (.int .u64 x2) := (blk_cell HE.out.bx4 2).trans rfl
          have f2 := blk_frozen HE.out.bx4 2
          have r3 : (we).cell? ⟨b + 1, 3, none⟩ = some (.slice Ad dl.length cd) := (blk_cell HE.out.bx4 3).trans rfl
          have f3 := blk_frozen HE.out.bx4 3
          have r4 : (we).cell? ⟨b + 1, 4, none⟩ = some (.int .u64 x4) := (blk_cell HE.out.bx4 4).trans rfl
          have f4 := blk_frozen HE.out.bx4 4
          have r5 : (we).cell? ⟨b + 1, 5, none⟩ = some (.int .u64 x5) := (blk_cell HE.out.bx4 5).trans rfl
          have f5 := blk_frozen HE.out.bx4 5
          have r6 : (we).cell? ⟨b + 1, 6, none⟩ = some (.string ⟨#[]⟩) := (blk_cell HE.out.bx4 6).trans rfl
          have f6 := blk_frozen HE.out.bx4 6
          by_cases hm : 0 < m
          · have hmd : decide (0 < m) = true := decide_eq_true hm
            have hwm : IntKind.u64.wrap (m - 1) = m - 1 := by have := HM6.out; rw [IntKind.wrap_u64]; omega
            have HTX6 := Lib.hid (rtext_any HE.out.rd (m - 1) (by have := HM6.out; omega))
            have hR3 := HR2.out
            rw [if_pos hm] at hR3
            generalize txF T (m - 1) = s6 at HTX6 hR3
            generalize txE T (m - 1) e7 = e8 at HTX6 hR3
            replace HR2 := Lib.hid hR3
            clear hR3
            go_wp2_with fail
            clear p0 p1 r0 f0 r1 f1 r2 f2 r3 f3 r4 f4 r5 f5 r6 f6
            refine HTX6.out.mono ?_
            rintro en wf hp
            have HF := Lib.hid (HE.out.read hp)
            obtain ⟨rfl, _⟩ := hp
            have HF9 := Lib.hid (HF.out.put6 s6)
            have p0 : (wf).cell? ⟨b, 0, none⟩ = some (.pointer (some ⟨g, 0, none⟩)) := (blk_cell HF.out.bx2 0).trans rfl
            have p1 : (wf).cell? ⟨b, 1, none⟩ = some (.pointer (some ⟨t, 0, none⟩)) := (blk_cell HF.out.bx2 1).trans rfl
            have r0 : (wf).cell? ⟨b + 1, 0, none⟩ = some (.int .i64 1) := (blk_cell HF.out.bx4 0).trans rfl
            have f0 := blk_frozen HF.out.bx4 0
            have r1 : (wf).cell? ⟨b + 1, 1, none⟩ = some (.string s) := (blk_cell HF.out.bx4 1).trans rfl
            have f1 := blk_frozen HF.out.bx4 1
            have r2 : (wf).cell? ⟨b + 1, 2, none⟩ = some (.int .u64 x2) := (blk_cell HF.out.bx4 2).trans rfl
            have f2 := blk_frozen HF.out.bx4 2
            have r3 : (wf).cell? ⟨b + 1, 3, none⟩ = some (.slice Ad dl.length cd) := (blk_cell HF.out.bx4 3).trans rfl
            have f3 := blk_frozen HF.out.bx4 3
            have r4 : (wf).cell? ⟨b + 1, 4, none⟩ = some (.int .u64 x4) := (blk_cell HF.out.bx4 4).trans rfl
            have f4 := blk_frozen HF.out.bx4 4
            have r5 : (wf).cell? ⟨b + 1, 5, none⟩ = some (.int .u64 x5) := (blk_cell HF.out.bx4 5).trans rfl
            have f5 := blk_frozen HF.out.bx4 5
            have r6 : (wf).cell? ⟨b + 1, 6, none⟩ = some (.string ⟨#[]⟩) := (blk_cell HF.out.bx4 6).trans rfl
            have f6 := blk_frozen HF.out.bx4 6
            have yp0 : ((wf.setCell ⟨b + 1, 6, none⟩ (.string s6))).cell? ⟨b, 0, none⟩ = some (.pointer (some ⟨g, 0, none⟩)) := (blk_cell HF9.out.bx2 0).trans rfl
            have yp1 : ((wf.setCell ⟨b + 1, 6, none⟩ (.string s6))).cell? ⟨b, 1, none⟩ = some (.pointer (some ⟨t, 0, none⟩)) := (blk_cell HF9.out.bx2 1).trans rfl
            have yr0 : ((wf.setCell ⟨b + 1, 6, none⟩ (.string s6))).cell? ⟨b + 1, 0, none⟩ = some (.int .i64 1) := (blk_cell HF9.out.bx4 0).trans rfl
            have yf0 := blk_frozen HF9.out.bx4 0
            have yr1 : ((wf.setCell ⟨b + 1, 6, none⟩ (.string s6))).cell? ⟨b + 1, 1, none⟩ = some (.string s) := (blk_cell HF9.out.bx4 1).trans rfl
            have yf1 := blk_frozen HF9.out.bx4 1
            have yr2 : ((wf.setCell ⟨b + 1, 6, none⟩ (.string s6))).cell? ⟨b + 1, 2, none⟩ = some (.int .u64 x2) := (blk_cell HF9.out.bx4 2).trans rfl
            have yf2 := blk_frozen HF9.out.bx4 2
            have yr3 : ((wf.setCell ⟨b + 1, 6, none⟩ (.string s6))).cell? ⟨b + 1, 3, none⟩ = some (.slice Ad dl.length cd) := (blk_cell HF9.out.bx4 3).trans rfl
            have yf3 := blk_frozen HF9.out.bx4 3
            have yr4 : ((wf.setCell ⟨b + 1, 6, none⟩ (.string s6))).cell? ⟨b + 1, 4, none⟩ = some (.int .u64 x4) := (blk_cell HF9.out.bx4 4).trans rfl
            have yf4 := blk_frozen HF9.out.bx4 4
            have yr5 : ((wf.setCell ⟨b + 1, 6, none⟩ (.string s6))).cell? ⟨b + 1, 5, none⟩ = some (.int .u64 x5) := (blk_cell HF9.out.bx4 5).trans rfl
            have yf5 := blk_frozen HF9.out.bx4 5
            have yr6 : ((wf.setCell ⟨b + 1, 6, none⟩ (.string s6))).cell? ⟨b + 1, 6, none⟩ = some (.string s6) := (blk_cell HF9.out.bx4 6).trans rfl
            have yf6 := blk_frozen HF9.out.bx4 6
            have HEND := Lib.hid (HF9.out.putAll 1 s x2 (.slice Ad dl.length cd) x4 x5 s6 HF9.out.row)
            go_wp2_with fail
            refine bodyPost_ret (results_single (v := .agg #[.int .i64 1, .string s, .int .u64 x2, .slice Ad dl.length cd, .int .u64 x4, .int .u64 x5, .string s6]) rfl (.cell (b + 1) 62 #[.int .i64 1, .string s, .int .u64 x2, .slice Ad dl.length cd, .int .u64 x4, .int .u64 x5, .string s6] (0, 0) _ rfl HEND.out.bx4 HU.out rfl (by kernel_rfl) .nil)) rfl ?_
            rw [← HR2.out]
            exact ⟨_, rfl, Kd.R_lower HEND.out.row (by have := HBB.out; omega), HEND.out.kp⟩
          · have hmd : decide (0 < m) = false := decide_eq_false hm
            have hR3 := HR2.out
            rw [if_neg hm] at hR3
            replace HR2 := Lib.hid hR3
            clear hR3
            have HEND := Lib.hid (HE.out.putAll 1 s x2 (.slice Ad dl.length cd) x4 x5 ⟨#[]⟩ HE.out.row)
            go_wp2_with fail
            refine bodyPost_ret (results_single (v := .agg #[.int .i64 1, .string s, .int .u64 x2, .slice Ad dl.length cd, .int .u64 x4, .int .u64 x5, .string ⟨#[]⟩]) rfl (.cell (b + 1) 62 #[.int .i64 1, .string s, .int .u64 x2, .slice Ad dl.length cd, .int .u64 x4, .int .u64 x5, .string ⟨#[]⟩] (0, 0) _ rfl HEND.out.bx4 HU.out rfl (by kernel_rfl) .nil)) rfl ?_
            rw [← HR2.out]
            exact ⟨_, rfl, Kd.R_lower HEND.out.row (by have := HBB.out; omega), HEND.out.kp⟩
      · have hnd : decide (0 < n) = false := decide_eq_false hn
        have hdl := HDL.out
        rw [depsL_end _ (by omega)] at hdl
        obtain ⟨rfl, rfl, rfl⟩ : dl = ds ∧ a = a5 ∧ e = e5 := by injection hdl with h1 h2; injection h2 with h2 h3; exact ⟨h1, h2, h3⟩
        clear HDL hdl
        obtain ⟨Ad, cd, rfl⟩ := Kd.R_slice H.out.row
        have p0 : (wr).cell? ⟨b, 0, none⟩ = some (.pointer (some ⟨g, 0, none⟩)) := (blk_cell H.out.bx2 0).trans rfl
        have p1 : (wr).cell? ⟨b, 1, none⟩ = some (.pointer (some ⟨t, 0, none⟩)) := (blk_cell H.out.bx2 1).trans rfl
        have r0 : (wr).cell? ⟨b + 1, 0, none⟩ = some (.int .i64 1) := (blk_cell H.out.bx4 0).trans rfl
        have f0 := blk_frozen H.out.bx4 0
        have r1 : (wr).cell? ⟨b + 1, 1, none⟩ = some (.string s) := (blk_cell H.out.bx4 1).trans rfl
        have f1 := blk_frozen H.out.bx4 1
        have r2 : (wr).cell? ⟨b + 1, 2, none⟩ = some (.int .u64 x2) := (blk_cell H.out.bx4 2).trans rfl
        have f2 := blk_frozen H.out.bx4 2
        have r3 : (wr).cell? ⟨b + 1, 3, none⟩ = some (.slice Ad dl.length cd) := (blk_cell H.out.bx4 3).trans rfl
        have f3 := blk_frozen H.out.bx4 3
        have r4 : (wr).cell? ⟨b + 1, 4, none⟩ = some (.int .u64 0) := (blk_cell H.out.bx4 4).trans rfl
        have f4 := blk_frozen H.out.bx4 4
        have r5 : (wr).cell? ⟨b + 1, 5, none⟩ = some (.int .u64 0) := (blk_cell H.out.bx4 5).trans rfl
        have f5 := blk_frozen H.out.bx4 5
        have r6 : (wr).cell? ⟨b + 1, 6, none⟩ = some (.string ⟨#[]⟩) := (blk_cell H.out.bx4 6).trans rfl
        have f6 := blk_frozen H.out.bx4 6
        go_wp2_with fail
        clear p0 p1 r0 f0 r1 f1 r2 f2 r3 f3 r4 f4 r5 f5 r6 f6
        refine (HN4.out wr H.out.rd).mono ?_
        rintro en wa hp
        have HA := Lib.hid (H.out.read hp)
        obtain ⟨rfl, _⟩ := hp
        have HB9 := Lib.hid (HA.out.put4 x4)
        have p0 : (wa).cell? ⟨b, 0, none⟩ = some (.pointer (some ⟨g, 0, none⟩)) := (blk_cell HA.out.bx2 0).trans rfl
        have p1 : (wa).cell? ⟨b, 1, none⟩ = some (.pointer (some ⟨t, 0, none⟩)) := (blk_cell HA.out.bx2 1).trans rfl
        have r0 : (wa).cell? ⟨b + 1, 0, none⟩ = some (.int .i64 1) := (blk_cell HA.out.bx4 0).trans rfl
        have f0 := blk_frozen HA.out.bx4 0
        have r1 : (wa).cell? ⟨b + 1, 1, none⟩ = some (.string s) := (blk_cell HA.out.bx4 1).trans rfl
        have f1 := blk_frozen HA.out.bx4 1
        have r2 : (wa).cell? ⟨b + 1, 2, none⟩ = some (.int .u64 x2) := (blk_cell HA.out.bx4 2).trans rfl
        have f2 := blk_frozen HA.out.bx4 2
        have r3 : (wa).cell? ⟨b + 1, 3, none⟩ = some (.slice Ad dl.length cd) := (blk_cell HA.out.bx4 3).trans rfl
        have f3 := blk_frozen HA.out.bx4 3
        have r4 : (wa).cell? ⟨b + 1, 4, none⟩ = some (.int .u64 0) := (blk_cell HA.out.bx4 4).trans rfl
        have f4 := blk_frozen HA.out.bx4 4
        have r5 : (wa).cell? ⟨b + 1, 5, none⟩ = some (.int .u64 0) := (blk_cell HA.out.bx4 5).trans rfl
        have f5 := blk_frozen HA.out.bx4 5
        have r6 : (wa).cell? ⟨b + 1, 6, none⟩ = some (.string ⟨#[]⟩) := (blk_cell HA.out.bx4 6).trans rfl
        have f6 := blk_frozen HA.out.bx4 6
        have yp0 : ((wa.setCell ⟨b + 1, 4, none⟩ (.int .u64 x4))).cell? ⟨b, 0, none⟩ = some (.pointer (some ⟨g, 0, none⟩)) := (blk_cell HB9.out.bx2 0).trans rfl
        have yp1 : ((wa.setCell ⟨b + 1, 4, none⟩ (.int .u64 x4))).cell? ⟨b, 1, none⟩ = some (.pointer (some ⟨t, 0, none⟩)) := (blk_cell HB9.out.bx2 1).trans rfl
        have yr0 : ((wa.setCell ⟨b + 1, 4, none⟩ (.int .u64 x4))).cell? ⟨b + 1, 0, none⟩ = some (.int .i64 1) := (blk_cell HB9.out.bx4 0).trans rfl
        have yf0 := blk_frozen HB9.out.bx4 0
        have yr1 : ((wa.setCell ⟨b + 1, 4, none⟩ (.int .u64 x4))).cell? ⟨b + 1, 1, none⟩ = some (.string s) := (blk_cell HB9.out.bx4 1).trans rfl
        have yf1 := blk_frozen HB9.out.bx4 1
        have yr2 : ((wa.setCell ⟨b + 1, 4, none⟩ (.int .u64 x4))).cell? ⟨b + 1, 2, none⟩ = some (.int .u64 x2) := (blk_cell HB9.out.bx4 2).trans rfl
        have yf2 := blk_frozen HB9.out.bx4 2
        have yr3 : ((wa.setCell ⟨b + 1, 4, none⟩ (.int .u64 x4))).cell? ⟨b + 1, 3, none⟩ = some (.slice Ad dl.length cd) := (blk_cell HB9.out.bx4 3).trans rfl
        have yf3 := blk_frozen HB9.out.bx4 3
        have yr4 : ((wa.setCell ⟨b + 1, 4, none⟩ (.int .u64 x4))).cell? ⟨b + 1, 4, none⟩ = some (.int .u64 x4) := (blk_cell HB9.out.bx4 4).trans rfl
        have yf4 := blk_frozen HB9.out.bx4 4
        have yr5 : ((wa.setCell ⟨b + 1, 4, none⟩ (.int .u64 x4))).cell? ⟨b + 1, 5, none⟩ = some (.int .u64 0) := (blk_cell HB9.out.bx4 5).trans rfl
        have yf5 := blk_frozen HB9.out.bx4 5
        have yr6 : ((wa.setCell ⟨b + 1, 4, none⟩ (.int .u64 x4))).cell? ⟨b + 1, 6, none⟩ = some (.string ⟨#[]⟩) := (blk_cell HB9.out.bx4 6).trans rfl
        have yf6 := blk_frozen HB9.out.bx4 6
        obtain ⟨wb, hwb⟩ : ∃ wb, (wa.setCell ⟨b + 1, 4, none⟩ (.int .u64 x4)) = wb := ⟨_, rfl⟩
        have HWB := Lib.hid hwb
        have hB9 := HB9.out
        rw [hwb] at hB9
        have HB := Lib.hid hB9
        clear hwb hB9
        go_wp2_with fail
        rw [HWB.out]
        clear p0 p1 r0 f0 r1 f1 r2 f2 r3 f3 r4 f4 r5 f5 r6 f6 yp0 yp1 yr0 yf0 yr1 yf1 yr2 yf2 yr3 yf3 yr4 yf4 yr5 yf5 yr6 yf6
        refine (HN5.out wb HB.out.rd).mono ?_
        rintro en wc hp
        have HC := Lib.hid (HB.out.read hp)
        obtain ⟨rfl, _⟩ := hp
        have HC9 := Lib.hid (HC.out.put5 x5)
        have p0 : (wc).cell? ⟨b, 0, none⟩ = some (.pointer (some ⟨g, 0, none⟩)) := (blk_cell HC.out.bx2 0).trans rfl
        have p1 : (wc).cell? ⟨b, 1, none⟩ = some (.pointer (some ⟨t, 0, none⟩)) := (blk_cell HC.out.bx2 1).trans rfl
        have r0 : (wc).cell? ⟨b + 1, 0, none⟩ = some (.int .i64 1) := (blk_cell HC.out.bx4 0).trans rfl
        have f0 := blk_frozen HC.out.bx4 0
        have r1 : (wc).cell? ⟨b + 1, 1, none⟩ = some (.string s) := (blk_cell HC.out.bx4 1).trans rfl
        have f1 := blk_frozen HC.out.bx4 1
        have r2 : (wc).cell? ⟨b + 1, 2, none⟩ = some (.int .u64 x2) := (blk_cell HC.out.bx4 2).trans rfl
        have f2 := blk_frozen HC.out.bx4 2
        have r3 : (wc).cell? ⟨b + 1, 3, none⟩ = some (.slice Ad dl.length cd) := (blk_cell HC.out.bx4 3).trans rfl
        have f3 := blk_frozen HC.out.bx4 3
        have r4 : (wc).cell? ⟨b + 1, 4, none⟩ = some (.int .u64 x4) := (blk_cell HC.out.bx4 4).trans rfl
        have f4 := blk_frozen HC.out.bx4 4
        have r5 : (wc).cell? ⟨b + 1, 5, none⟩ = some (.int .u64 0) := (blk_cell HC.out.bx4 5).trans rfl
        have f5 := blk_frozen HC.out.bx4 5
        have r6 : (wc).cell? ⟨b + 1, 6, none⟩ = some (.string ⟨#[]⟩) := (blk_cell HC.out.bx4 6).trans rfl
        have f6 := blk_frozen HC.out.bx4 6
        have yp0 : ((wc.setCell ⟨b + 1, 5, none⟩ (.int .u64 x5))).cell? ⟨b, 0, none⟩ = some (.pointer (some ⟨g, 0, none⟩)) := (blk_cell HC9.out.bx2 0).trans rfl
        have yp1 : ((wc.setCell ⟨b + 1, 5, none⟩ (.int .u64 x5))).cell? ⟨b, 1, none⟩ = some (.pointer (some ⟨t, 0, none⟩)) := (blk_cell HC9.out.bx2 1).trans rfl
        have yr0 : ((wc.setCell ⟨b + 1, 5, none⟩ (.int .u64 x5))).cell? ⟨b + 1, 0, none⟩ = some (.int .i64 1) := (blk_cell HC9.out.bx4 0).trans rfl
        have yf0 := blk_frozen HC9.out.bx4 0
        have yr1 : ((wc.setCell ⟨b + 1, 5, none⟩ (.int .u64 x5))).cell? ⟨b + 1, 1, none⟩ = some (.string s) := (blk_cell HC9.out.bx4 1).trans rfl
        have yf1 := blk_frozen HC9.out.bx4 1
        have yr2 : ((wc.setCell ⟨b + 1, 5, none⟩ (.int .u64 x5))).cell? ⟨b + 1, 2, none⟩ = some (.int .u64 x2) := (blk_cell HC9.out.bx4 2).trans rfl
        have yf2 := blk_frozen HC9.out.bx4 2
        have yr3 : ((wc.setCell ⟨b + 1, 5, none⟩ (.int .u64 x5))).cell? ⟨b + 1, 3, none⟩ = some (.slice Ad dl.length cd) := (blk_cell HC9.out.bx4 3).trans rfl
        have yf3 := blk_frozen HC9.out.bx4 3
        have yr4 : ((wc.setCell ⟨b + 1, 5, none⟩ (.int .u64 x5))).cell? ⟨b + 1, 4, none⟩ = some (.int .u64 x4) := (blk_cell HC9.out.bx4 4).trans rfl
        have yf4 := blk_frozen HC9.out.bx4 4
        have yr5 : ((wc.setCell ⟨b + 1, 5, none⟩ (.int .u64 x5))).cell? ⟨b + 1, 5, none⟩ = some (.int .u64 x5) := (blk_cell HC9.out.bx4 5).trans rfl
        have yf5 := blk_frozen HC9.out.bx4 5
        have yr6 : ((wc.setCell ⟨b + 1, 5, none⟩ (.int .u64 x5))).cell? ⟨b + 1, 6, none⟩ = some (.string ⟨#[]⟩) := (blk_cell HC9.out.bx4 6).trans rfl
        have yf6 := blk_frozen HC9.out.bx4 6
        obtain ⟨wd, hwd⟩ : ∃ wd, (wc.setCell ⟨b + 1, 5, none⟩ (.int .u64 x5)) = wd := ⟨_, rfl⟩
        have HWD := Lib.hid hwd
        have hC9 := HC9.out
        rw [hwd] at hC9
        have HD := Lib.hid hC9
        clear hwd hC9
        go_wp2_with fail
        rw [HWD.out]
        clear p0 p1 r0 f0 r1 f1 r2 f2 r3 f3 r4 f4 r5 f5 r6 f6 yp0 yp1 yr0 yf0 yr1 yf1 yr2 yf2 yr3 yf3 yr4 yf4 yr5 yf5 yr6 yf6
        refine (HN6.out wd HD.out.rd).mono ?_
        rintro en we hp
        have HE := Lib.hid (HD.out.read hp)
        obtain ⟨rfl, _⟩ := hp
        have p0 : (we).cell? ⟨b, 0, none⟩ = some (.pointer (some ⟨g, 0, none⟩)) := (blk_cell HE.out.bx2 0).trans rfl
        have p1 : (we).cell? ⟨b, 1, none⟩ = some (.pointer (some ⟨t, 0, none⟩)) := (blk_cell HE.out.bx2 1).trans rfl
        have r0 : (we).cell? ⟨b + 1, 0, none⟩ = some (.int .i64 1) := (blk_cell HE.out.bx4 0).trans rfl
        have f0 := blk_frozen HE.out.bx4 0
        have r1 : (we).cell? ⟨b + 1, 1, none⟩ = some (.string s) := (blk_cell HE.out.bx4 1).trans rfl
        have f1 := blk_frozen HE.out.bx4 1
        have r2 : (we).cell? ⟨b + 1, 2, none⟩ = some (.int .u64 x2) := (blk_cell HE.out.bx4 2).trans rfl
        have f2 := blk_frozen HE.out.bx4 2
        have r3 : (we).cell? ⟨b + 1, 3, none⟩ = some (.slice Ad dl.length cd) := (blk_cell HE.out.bx4 3).trans rfl
        have f3 := blk_frozen HE.out.bx4 3
        have r4 : (we).cell? ⟨b + 1, 4, none⟩ = some (.int .u64 x4) := (blk_cell HE.out.bx4 4).trans rfl
        have f4 := blk_frozen HE.out.bx4 4
        have r5 : (we).cell? ⟨b + 1, 5, none⟩ = some (.int .u64 x5) := (blk_cell HE.out.bx4 5).trans rfl
        have f5 := blk_frozen HE.out.bx4 5
        have r6 : (we).cell? ⟨b + 1, 6, none⟩ = some (.string ⟨#[]⟩) := (blk_cell HE.out.bx4 6).trans rfl
        have f6 := blk_frozen HE.out.bx4 6
        by_cases hm : 0 < m
        · have hmd : decide (0 < m) = true := decide_eq_true hm
          have hwm : IntKind.u64.wrap (m - 1) = m - 1 := by have := HM6.out; rw [IntKind.wrap_u64]; omega
          have HTX6 := Lib.hid (rtext_any HE.out.rd (m - 1) (by have := HM6.out; omega))
          have hR3 := HR2.out
          rw [if_pos hm] at hR3
          generalize txF T (m - 1) = s6 at HTX6 hR3
          generalize txE T (m - 1) e7 = e8 at HTX6 hR3
          replace HR2 := Lib.hid hR3
          clear hR3
          go_wp2_with fail
          clear p0 p1 r0 f0 r1 f1 r2 f2 r3 f3 r4 f4 r5 f5 r6 f6
          refine HTX6.out.mono ?_
          rintro en wf hp
          have HF := Lib.hid (HE.out.read hp)
          obtain ⟨rfl, _⟩ := hp
          have HF9 := Lib.hid (HF.out.put6 s6)
          have p0 : (wf).cell? ⟨b, 0, none⟩ = some (.pointer (some ⟨g, 0, none⟩)) := (blk_cell HF.out.bx2 0).trans rfl
          have p1 : (wf).cell? ⟨b, 1, none⟩ = some (.pointer (some ⟨t, 0, none⟩)) := (blk_cell HF.out.bx2 1).trans rfl
          have r0 : (wf).cell? ⟨b + 1, 0, none⟩ = some (.int .i64 1) := (blk_cell HF.out.bx4 0).trans rfl
          have f0 := blk_frozen HF.out.bx4 0
          have r1 : (wf).cell? ⟨b + 1, 1, none⟩ = some (.string s) := (blk_cell HF.out.bx4 1).trans rfl
          have f1 := blk_frozen HF.out.bx4 1
          have r2 : (wf).cell? ⟨b + 1, 2, none⟩ = some (.int .u64 x2) := (blk_cell HF.out.bx4 2).trans rfl
          have f2 := blk_frozen HF.out.bx4 2
          have r3 : (wf).cell? ⟨b + 1, 3, none⟩ = some (.slice Ad dl.length cd) := (blk_cell HF.out.bx4 3).trans rfl
          have f3 := blk_frozen HF.out.bx4 3
          have r4 : (wf).cell? ⟨b + 1, 4, none⟩ = some (.int .u64 x4) := (blk_cell HF.out.bx4 4).trans rfl
          have f4 := blk_frozen HF.out.bx4 4
          have r5 : (wf).cell? ⟨b + 1, 5, none⟩ = some (.int .u64 x5) := (blk_cell HF.out.bx4 5).trans rfl
          have f5 := blk_frozen HF.out.bx4 5
          have r6 : (wf).cell? ⟨b + 1, 6, none⟩ = some (.string ⟨#[]⟩) := (blk_cell HF.out.bx4 6).trans rfl
          have f6 := blk_frozen HF.out.bx4 6
          have yp0 : ((wf.setCell ⟨b + 1, 6, none⟩ (.string s6))).cell? ⟨b, 0, none⟩ = some (.pointer (some ⟨g, 0, none⟩)) := (blk_cell HF9.out.bx2 0).trans rfl
          have yp1 : ((wf.setCell ⟨b + 1, 6, none⟩ (.string s6))).cell? ⟨b, 1, none⟩ = some (.pointer (some ⟨t, 0, none⟩)) := (blk_cell HF9.out.bx2 1).trans rfl
          have yr0 : ((wf.setCell ⟨b + 1, 6, none⟩ (.string s6))).cell? ⟨b + 1, 0, none⟩ = some (.int .i64 1) := (blk_cell HF9.out.bx4 0).trans rfl
          have yf0 := blk_frozen HF9.out.bx4 0
          have yr1 : ((wf.setCell ⟨b + 1, 6, none⟩ (.string s6))).cell? ⟨b + 1, 1, none⟩ = some (.string s) := (blk_cell HF9.out.bx4 1).trans rfl
          have yf1 := blk_frozen HF9.out.bx4 1
          have yr2 : ((wf.setCell ⟨b + 1, 6, none⟩ (.string s6))).cell? ⟨b + 1, 2, none⟩ = some (.int .u64 x2) := (blk_cell HF9.out.bx4 2).trans rfl
          have yf2 := blk_frozen HF9.out.bx4 2
          have yr3 : ((wf.setCell ⟨b + 1, 6, none⟩ (.string s6))).cell? ⟨b + 1, 3, none⟩ = some (.slice Ad dl.length cd) := (blk_cell HF9.out.bx4 3).trans rfl
          have yf3 := blk_frozen HF9.out.bx4 3
          have yr4 : ((wf.setCell ⟨b + 1, 6, none⟩ (.string s6))).cell? ⟨b + 1, 4, none⟩ = some (.int .u64 x4) := (blk_cell HF9.out.bx4 4).trans rfl
          have yf4 := blk_frozen HF9.out.bx4 4
          have yr5 : ((wf.setCell ⟨b + 1, 6, none⟩ (.string s6))).cell? ⟨b + 1, 5, none⟩ = some (.int .u64 x5) := (blk_cell HF9.out.bx4 5).trans rfl
          have yf5 := blk_frozen HF9.out.bx4 5
          have yr6 : ((wf.setCell ⟨b + 1, 6, none⟩ (.string s6))).cell? ⟨b + 1, 6, none⟩ = some (.string s6) := (blk_cell HF9.out.bx4 6).trans rfl
          have yf6 := blk_frozen HF9.out.bx4 6
          have HEND := Lib.hid (HF9.out.putAll 1 s x2 (.slice Ad dl.length cd) x4 x5 s6 HF9.out.row)
          go_wp2_with fail
          refine bodyPost_ret (results_single (v := .agg #[.int .i64 1, .string s, .int .u64 x2, .slice Ad dl.length cd, .int .u64 x4, .int .u64 x5, .string s6]) rfl (.cell (b + 1) 62 #[.int .i64 1, .string s, .int .u64 x2, .slice Ad dl.length cd, .int .u64 x4, .int .u64 x5, .string s6] (0, 0) _ rfl HEND.out.bx4 HU.out rfl (by kernel_rfl) .nil)) rfl ?_
          rw [← HR2.out]
          exact ⟨_, rfl, Kd.R_lower HEND.out.row (by have := HBB.out; omega), HEND.out.kp⟩
        · have hmd : decide (0 < m) = false := decide_eq_false hm
          have hR3 := HR2.out
          rw [if_neg hm] at hR3
          replace HR2 := Lib.hid hR3
          clear hR3
          have HEND := Lib.hid (HE.out.putAll 1 s x2 (.slice Ad dl.length cd) x4 x5 ⟨#[]⟩ HE.out.row)
          go_wp2_with fail
          refine bodyPost_ret (results_single (v := .agg #[.int .i64 1, .string s, .int .u64 x2, .slice Ad dl.length cd, .int .u64 x4, .int .u64 x5, .string ⟨#[]⟩]) rfl (.cell (b + 1) 62 #[.int .i64 1, .string s, .int .u64 x2, .slice Ad dl.length cd, .int .u64 x4, .int .u64 x5, .string ⟨#[]⟩] (0, 0) _ rfl HEND.out.bx4 HU.out rfl (by kernel_rfl) .nil)) rfl ?_
          rw [← HR2.out]
          exact ⟨_, rfl, Kd.R_lower HEND.out.row (by have := HBB.out; omega), HEND.out.kp⟩
  · have hkd : decide (kb = 1) = false := decide_eq_false hk1
    have HEND := Lib.hid (HS4.out.putAll kb s 0 (.slice none 0 0) 0 0 ⟨#[]⟩ HS4.out.row)
    have hR2 := HRR.out
    rw [if_neg hk1] at hR2
    have HR2 := Lib.hid hR2
    clear hR2 HRR
    go_wp2_with fail
    refine bodyPost_ret (results_single (v := .agg #[.int .i64 kb, .string s, .int .u64 0, .slice none 0 0, .int .u64 0, .int .u64 0, .string ⟨#[]⟩]) rfl (.cell (b + 1) 62 #[.int .i64 kb, .string s, .int .u64 0, .slice none 0 0, .int .u64 0, .int .u64 0, .string ⟨#[]⟩] (0, 0) _ rfl HEND.out.bx4 HU.out rfl (by kernel_rfl) .nil)) rfl ?_
    rw [← HR2.out]
    exact ⟨_, rfl, Kd.R_lower HEND.out.row (by have := HBB.out; omega), HEND.out.kp⟩
end Go.Proofs.Ytfflenbfapgilaa
namespace Go.Proofs.Ytfflenbfapgilaa
open Go.RowKit Go.Proofs.YtfflenbfapgilaaW.PrintWords Go.Proofs.Ytfflenbfapgilaa.GRR
theorem atI_in {T : List ByteArray} {s : ByteArray} (h : s ∈ T) : atI T s = (posOf T s : Int) := by unfold atI; rw [isIn_iff.2 h]; rfl
theorem txF_pos {T : List ByteArray} {s : ByteArray} (h : s ∈ T) : txF T (posOf T s : Int) = s := by
  have h1 := posOf_lt h
  have h2 := posOf_get h
  unfold txF
  rw [if_pos (by omega), Int.toNat_natCast]
  rw [List.getElem?_eq_getElem h1] at h2
  simpa [h1] using Option.some.inj h2
theorem txE_pos {T : List ByteArray} {s : ByteArray} (h : s ∈ T) (e : Int) : txE T (posOf T s : Int) e = e := by
  have h1 := posOf_lt h
  unfold txE
  rw [if_pos (by omega)]
theorem textR_rt (v : Int) (T : List ByteArray) (hT : T.length ≤ 1000000) (p u : List Int) (s : ByteArray) (hs : s.size ≤ 64) (hin : v ≠ 1 → s ∈ T) :
    textR v T (p ++ (textE v T s ++ u)) (p.length : Int) 0 = (s, (((p ++ textE v T s).length : Nat) : Int), 0) := by
  unfold textR textE
  by_cases hv : v = 1
  · rw [if_pos hv, if_pos hv]
    exact cuText_blob p s u 64 (by omega) (by omega)
  · rw [if_neg hv, if_neg hv]
    have hi := hin hv
    have hp := posOf_lt hi
    have h := cuNum_vb p (posOf T s : Int) u (by omega)
    unfold txR numE
    rw [atI_in hi, h]
    dsimp only
    rw [txF_pos hi, txE_pos hi]
theorem depR_rt (v : Int) (T : List ByteArray) (hT : T.length ≤ 1000000) (p u : List Int) (d : S113) (hs : d.f0.size ≤ 64) (hin : v ≠ 1 → d.f0 ∈ T) (ho : d.f2 = true → 3 ≤ v) :
    depR v T (p ++ (depE v T d ++ u)) (p.length : Int) 0 = ((d.f0, d.f2), (((p ++ depE v T d).length : Nat) : Int), 0) := by
  unfold depR depE
  by_cases hv : v < 3
  · rw [if_pos hv, if_pos hv, textR_rt v T hT p u d.f0 hs hin]
    have : d.f2 = false := by
      cases h : d.f2 with
      | false => rfl
      | true => have := ho h; omega
    rw [this]
  · rw [if_neg hv, if_neg hv]
    have hi := hin (by omega)
    have hp := posOf_lt hi
    have h := cuNum_vb p (2 * atI T d.f0 + (if d.f2 = true then 1 else 0)) u (by rw [atI_in hi]; split <;> omega)
    rw [h]
    dsimp only
    rw [atI_in hi]
    have e1 : (2 * (posOf T d.f0 : Int) + (if d.f2 = true then 1 else 0)) / 2 = (posOf T d.f0 : Int) := by split <;> omega
    have e2 : decide ((2 * (posOf T d.f0 : Int) + (if d.f2 = true then 1 else 0)) % 2 = 1) = d.f2 := by
      cases hf : d.f2 with
      | true => exact decide_eq_true (by first | (simp; done) | (simp; omega))
      | false => exact decide_eq_false (by simp)
    rw [e1, e2, txF_pos hi, txE_pos hi]
theorem depsL_rt (v : Int) (T : List ByteArray) (hT : T.length ≤ 1000000) (u : List Int) : ∀ (ds : List S113) (p : List Int) (acc : List S113) (f : Nat), ds.length ≤ f →
    (∀ d ∈ ds, d.f0.size ≤ 64 ∧ (v ≠ 1 → d.f0 ∈ T) ∧ (d.f2 = true → 3 ≤ v) ∧ 0 ≤ d.f1 ∧ d.f1 < 18446744073709551616) →
    depsL v T (p ++ (depsE v T ds ++ u)) f (ds.length : Int) (p.length : Int) 0 acc = (acc ++ ds, (((p ++ depsE v T ds).length : Nat) : Int), 0) := by
  intro ds
  induction ds with
  | nil =>
    intro p acc f _ _
    rw [depsL_end f (by simp)]
    simp [depsE]
  | cons d r ih =>
    intro p acc f hf hd
    obtain ⟨f, rfl⟩ : ∃ m, f = m + 1 := ⟨f - 1, by simp only [List.length_cons] at hf; omega⟩
    obtain ⟨h1, h2, h3, h4, h5⟩ := hd d List.mem_cons_self
    have e : depsE v T (d :: r) = depE v T d ++ (ints (vb d.f1.toNat) ++ depsE v T r) := by simp [depsE]
    rw [e]
    have hR := depR_rt v T hT p ((ints (vb d.f1.toNat) ++ depsE v T r) ++ u) d h1 h2 h3
    have hN := cuNum_vb (p ++ depE v T d) d.f1 (depsE v T r ++ u) ⟨h4, h5⟩
    have e1 : p ++ ((depE v T d ++ (ints (vb d.f1.toNat) ++ depsE v T r)) ++ u) = p ++ (depE v T d ++ ((ints (vb d.f1.toNat) ++ depsE v T r) ++ u)) := by simp only [List.append_assoc]
    have e2 : p ++ (depE v T d ++ ((ints (vb d.f1.toNat) ++ depsE v T r) ++ u)) = (p ++ depE v T d) ++ (ints (vb d.f1.toNat) ++ (depsE v T r ++ u)) := by simp only [List.append_assoc]
    rw [depsL, if_pos ⟨by simp only [List.length_cons]; omega, rfl⟩, e1, hR]
    dsimp only
    rw [e2, hN]
    dsimp only
    have e3 : (p ++ depE v T d) ++ (ints (vb d.f1.toNat) ++ (depsE v T r ++ u)) = ((p ++ depE v T d) ++ ints (vb d.f1.toNat)) ++ (depsE v T r ++ u) := by simp only [List.append_assoc]
    have e4 : ((d :: r).length : Int) - 1 = (r.length : Int) := by simp only [List.length_cons]; omega
    rw [e3, e4, ih _ _ f (by simp only [List.length_cons] at hf; omega) (fun x hx => hd x (List.mem_cons_of_mem _ hx))]
    simp only [List.append_assoc, List.singleton_append]
theorem depsE_ge (v : Int) (T : List ByteArray) (ds : List S113) : ds.length ≤ (depsE v T ds).length := by
  induction ds with
  | nil => simp
  | cons d r ih =>
    have e : depsE v T (d :: r) = depE v T d ++ (ints (vb d.f1.toNat) ++ depsE v T r) := by simp [depsE]
    have h : 0 < (ints (vb d.f1.toNat)).length := by
      rw [show (ints (vb d.f1.toNat)).length = (vb d.f1.toNat).length by simp [ints]]
      exact List.length_pos_iff.2 (vb_ne _)
    rw [e, List.length_append, List.length_append, List.length_cons]
    omega
theorem cuNum_at {L p u : List Int} {n : Int} (hL : L = p ++ (ints (vb n.toNat) ++ u)) (hn : 0 ≤ n ∧ n < 18446744073709551616) : cuNum L (p.length : Int) 0 = (n, (((p ++ ints (vb n.toNat)).length : Nat) : Int), 0) := by
  subst hL; exact cuNum_vb p n u hn
/-- Behind a trace's last number but When and Tag. -/
def endE (v : Int) (T : List ByteArray) (x5 : Int) (x6 : ByteArray) : List Int := (if 2 ≤ v then ints (vb x5.toNat) else []) ++ (if 3 ≤ v then tagE T x6 else [])
theorem tailR_rt (v : Int) (T : List ByteArray) (hT : T.length ≤ 1000000) (k : Int) (s : ByteArray) (x2 : Int) (ds : List S113) (x4 x5 : Int) (x6 : ByteArray) (L p : List Int) (hL : L = p ++ endE v T x5 x6) (hv : 1 ≤ v ∧ v ≤ 3)
    (h5 : 0 ≤ x5 ∧ x5 < 18446744073709551616) (hw : v < 2 → x5 = 0) (ht : v < 3 → x6.size = 0) (hin : 3 ≤ v → x6.size ≠ 0 → x6 ∈ T) :
    tailR v T L k s x2 ds x4 (p.length : Int) 0 = ((k, s, x2, ds, x4, x5, x6), (L.length : Int), 0) := by
  have he : ∀ y : ByteArray, y.size = 0 → y = ⟨#[]⟩ := fun y hy => ByteArray.ext (Array.eq_empty_of_size_eq_zero hy)
  unfold endE at hL
  unfold tailR
  have hv3 : v = 1 ∨ v = 2 ∨ v = 3 := by omega
  rcases hv3 with rfl | rfl | rfl
  · rw [if_pos (by omega), hw (by omega), he x6 (ht (by omega)), hL]
    simp
  · rw [if_neg (by omega), if_pos (by omega), he x6 (ht (by omega))]
    rw [if_pos (by omega), if_neg (by omega)] at hL
    rw [cuNum_at hL h5, hL]
    simp
  · rw [if_neg (by omega), if_neg (by omega)]
    rw [if_pos (by omega), if_pos (by omega)] at hL
    rw [cuNum_at hL h5]
    dsimp only
    unfold tagE at hL
    by_cases h0 : x6.size = 0
    · rw [if_pos h0] at hL
      have hL2 : L = (p ++ ints (vb x5.toNat)) ++ (ints (vb (0 : Int).toNat) ++ []) := by rw [hL]; simp
      rw [cuNum_at hL2 (by omega)]
      dsimp only
      rw [if_neg (by omega), he x6 h0, hL2]
      simp
    · rw [if_neg h0] at hL
      have hi := hin (by omega) h0
      have hp := posOf_lt hi
      rw [atI_in hi] at hL
      have hL2 : L = (p ++ ints (vb x5.toNat)) ++ (ints (vb ((posOf T x6 : Int) + 1).toNat) ++ []) := by rw [hL]; simp
      rw [cuNum_at hL2 (by omega)]
      dsimp only
      rw [if_pos (by omega), show (posOf T x6 : Int) + 1 - 1 = (posOf T x6 : Int) by omega, txF_pos hi, txE_pos hi, hL2]
      simp
theorem depsL_at {v : Int} {T : List ByteArray} (hT : T.length ≤ 1000000) {L p u : List Int} {ds : List S113} (hL : L = p ++ (depsE v T ds ++ u)) (hd : ∀ d ∈ ds, d.f0.size ≤ 64 ∧ (v ≠ 1 → d.f0 ∈ T) ∧ (d.f2 = true → 3 ≤ v) ∧ 0 ≤ d.f1 ∧ d.f1 < 18446744073709551616) :
    depsL v T L (L.length + 2) (ds.length : Int) (p.length : Int) 0 [] = (ds, (((p ++ depsE v T ds).length : Nat) : Int), 0) := by
  have hf : ds.length ≤ L.length + 2 := by
    have := depsE_ge v T ds
    rw [hL, List.length_append, List.length_append]; omega
  generalize L.length + 2 = f at hf ⊢
  subst hL
  rw [depsL_rt v T hT u ds p [] f hf hd, List.nil_append]
theorem traceR_rt (v : Int) (T : List ByteArray) (hT : T.length ≤ 1000000) (k : Int) (s : ByteArray) (x2 : Int) (ds : List S113) (x4 x5 : Int) (x6 : ByteArray) (L p : List Int) (hL : L = p ++ bodyE v T x2 ds x4 x5 x6) (hv : 1 ≤ v ∧ v ≤ 3)
    (h2 : 0 ≤ x2 ∧ x2 < 18446744073709551616) (h4 : 0 ≤ x4 ∧ x4 < 18446744073709551616) (h5 : 0 ≤ x5 ∧ x5 < 18446744073709551616) (hn : ds.length ≤ 1000)
    (hd : ∀ d ∈ ds, d.f0.size ≤ 64 ∧ (v ≠ 1 → d.f0 ∈ T) ∧ (d.f2 = true → 3 ≤ v) ∧ 0 ≤ d.f1 ∧ d.f1 < 18446744073709551616)
    (hw : v < 2 → x5 = 0) (ht : v < 3 → x6.size = 0) (hin : 3 ≤ v → x6.size ≠ 0 → x6 ∈ T) :
    traceR v T L k s (p.length : Int) 0 = ((k, s, x2, ds, x4, x5, x6), (L.length : Int), 0) := by
  have hb : bodyE v T x2 ds x4 x5 x6 = ints (vb x2.toNat) ++ (ints (vb ((ds.length : Int)).toNat) ++ (depsE v T ds ++ (ints (vb x4.toNat) ++ endE v T x5 x6))) := by
    unfold bodyE endE
    rw [Int.toNat_natCast]
    simp only [List.append_assoc]
  rw [hb] at hL
  have a1 := cuNum_at hL h2
  have hL2 : L = (p ++ ints (vb x2.toNat)) ++ (ints (vb ((ds.length : Int)).toNat) ++ (depsE v T ds ++ (ints (vb x4.toNat) ++ endE v T x5 x6))) := by rw [hL]; simp only [List.append_assoc]
  have a2 := cuNum_at hL2 (by omega)
  have hL3 : L = ((p ++ ints (vb x2.toNat)) ++ ints (vb ((ds.length : Int)).toNat)) ++ (depsE v T ds ++ (ints (vb x4.toNat) ++ endE v T x5 x6)) := by rw [hL]; simp only [List.append_assoc]
  have a3 := depsL_at hT hL3 hd
  have hL4 : L = (((p ++ ints (vb x2.toNat)) ++ ints (vb ((ds.length : Int)).toNat)) ++ depsE v T ds) ++ (ints (vb x4.toNat) ++ endE v T x5 x6) := by rw [hL]; simp only [List.append_assoc]
  have a4 := cuNum_at hL4 h4
  have hL5 : L = ((((p ++ ints (vb x2.toNat)) ++ ints (vb ((ds.length : Int)).toNat)) ++ depsE v T ds) ++ ints (vb x4.toNat)) ++ endE v T x5 x6 := by rw [hL]; simp only [List.append_assoc]
  have a5 := tailR_rt v T hT k s x2 ds x4 x5 x6 L _ hL5 hv h5 hw ht hin
  unfold traceR
  rw [a1]
  dsimp only
  rw [a2]
  dsimp only
  rw [a3]
  dsimp only
  rw [a4]
  dsimp only
  exact a5
/-- What is laid of a record that may be, by a table that has its names, is read as the record. -/
theorem lastR_rt (v : Int) (T : List ByteArray) (hT : T.length ≤ 1000000) (k0 : Int) (x1 : ByteArray) (x2 : Int) (l : List S113) (x4 x5 : Int) (x6 : ByteArray) (hm : mayB v k0 x1 x2 l x4 x5 x6 = true)
    (h2 : 0 ≤ x2 ∧ x2 < 18446744073709551616) (h4 : 0 ≤ x4 ∧ x4 < 18446744073709551616) (h5 : 0 ≤ x5 ∧ x5 < 18446744073709551616) (hdr : ∀ d ∈ l, 0 ≤ d.f1 ∧ d.f1 < 18446744073709551616)
    (hin : v ≠ 1 → ∀ s ∈ namesL x1 l x6, s ∈ T) :
    lastR v T (lastE v T k0 x1 x2 l x4 x5 x6) = ((k0, x1, x2, l, x4, x5, x6), ((lastE v T k0 x1 x2 l x4 x5 x6).length : Int), 0) := by
  have M := may_facts hm
  have hn1 : v ≠ 1 → x1 ∈ T := fun hv => hin hv x1 (by unfold namesL; simp)
  have hnd : ∀ d ∈ l, v ≠ 1 → d.f0 ∈ T := fun d hd hv => hin hv d.f0 (by unfold namesL; rw [List.mem_append]; exact .inl (List.mem_cons_of_mem _ (List.mem_map.2 ⟨d, hd, rfl⟩)))
  have hn6 : 3 ≤ v → x6.size ≠ 0 → x6 ∈ T := fun hv h0 => hin (by omega) x6 (by unfold namesL; rw [if_neg (by rw [tl_nil]; exact h0)]; simp)
  have hB : cuByte (lastE v T k0 x1 x2 l x4 x5 x6) 0 0 = (k0, 1, 0) := by
    unfold cuByte lastE
    rw [if_neg (by simp), if_neg (by simp only [List.length_append, List.length_cons]; omega)]
    simp [rd]
  obtain ⟨U, hU⟩ : ∃ U, (if k0 = 2 then [] else bodyE v T x2 l x4 x5 x6) = U := ⟨_, rfl⟩
  have hE : lastE v T k0 x1 x2 l x4 x5 x6 = [k0] ++ (textE v T x1 ++ U) := by unfold lastE; rw [hU]; simp only [List.append_assoc]
  have hX := textR_rt v T hT [k0] U x1 M.t.2 hn1
  rw [← hE] at hX
  unfold lastR
  rw [hB]
  dsimp only
  rw [show (([k0] : List Int).length : Int) = 1 from rfl] at hX
  rw [hX]
  dsimp only
  rcases M.k with hk | hk
  · rw [if_pos hk]
    have hL : lastE v T k0 x1 x2 l x4 x5 x6 = ([k0] ++ textE v T x1) ++ bodyE v T x2 l x4 x5 x6 := by
      unfold lastE; rw [if_neg (by omega)]
    exact traceR_rt v T hT k0 x1 x2 l x4 x5 x6 _ _ hL M.ver h2 h4 h5 (by have := M.n; omega) (fun d hd => ⟨(M.d d hd).2.1, hnd d hd, (M.d d hd).2.2, hdr d hd⟩) M.w M.tag.2 hn6
  · obtain ⟨g1, g2, g3, g4, g5⟩ := M.gone hk
    rw [if_neg (by omega)]
    have e6 : x6 = ⟨#[]⟩ := ByteArray.ext (Array.eq_empty_of_size_eq_zero g5)
    have hL : lastE v T k0 x1 x2 l x4 x5 x6 = [k0] ++ textE v T x1 := by unfold lastE; rw [if_pos hk]; simp
    rw [hL, g1, g2, g3, g4, e6]
end Go.Proofs.Ytfflenbfapgilaa
