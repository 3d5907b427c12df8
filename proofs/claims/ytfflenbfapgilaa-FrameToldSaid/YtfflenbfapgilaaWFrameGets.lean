/- What stands in any bytes at any place, and all from there on, is the document's; what is answered is new memory: the law FrameGets returns true, and writes nothing that was there (up to 4000 bytes). -/
import Derived.Test.YtfflenbfapgilaaFrT
set_option linter.unusedVariables false
set_option linter.unusedSimpArgs false
namespace Go.Proofs.Ytfflenbfapgilaa
open Go.RowKit Go.Proofs.YtfflenbfapgilaaW.PrintWords Go.Proofs.Ytfflenbfapgilaa.GVB

theorem C_of_fresh {W : World} {A : Option Addr} {base : Nat} {vs : List {v : Value // v.oneCell' = true}} {ps : List (ByteArray × Int)} (h : Kd.C valK W A vs.length vs) (hl : vs.length = ps.length)
    (hf : ∀ (k : Nat) (x : {v : Value // v.oneCell' = true}) (y : ByteArray × Int), vs[k]? = some x → ps[k]? = some y → Fresh base W x.1 (bytesOf y.1)) : Kd.C (Kd.slice 5 (Kd.int .u8)) W A (ps.map fun y => bytesOf y.1).length (ps.map fun y => bytesOf y.1) := by
  refine ⟨rfl, by have := h.2.1; rw [List.length_map]; omega, fun hn => ?_⟩
  rw [List.length_map] at hn
  obtain ⟨ad, he, hc⟩ := h.2.2 (by omega)
  refine ⟨ad, he, fun j p hj => ?_⟩
  rw [List.getElem?_map] at hj
  obtain ⟨y, hy, rfl⟩ := Option.map_eq_some_iff.1 hj
  have hlt : j < vs.length := by have := (List.getElem?_eq_some_iff.1 hy).1; omega
  obtain ⟨cs, hk, hcs, hcell⟩ := hc j vs[j] (List.getElem?_eq_getElem hlt)
  have hcs' : cs = [vs[j].1] := hcs
  subst hcs'
  obtain ⟨b, c, C, fr, h1, h2, h3, h4, h5, h6⟩ := hf j vs[j] y (List.getElem?_eq_getElem hlt) hy
  exact ⟨[vs[j].1], rfl, ⟨_, c, by rw [h1], h2, h6⟩, hcell⟩
/-- A slice of bytes in a block made from base on, all of which may be written. -/
def Wr (base : Nat) (W : World) (v : Value) : Prop :=
  ∃ (b n c : Nat) (C : Array Value) (fr : Nat × Nat), v = .slice (some ⟨b, 0, none⟩) n c ∧ n ≤ 9223372036854775807 ∧ base ≤ b ∧ W.heap[b]? = some (.cells C 5 fr) ∧ ∀ i, i < n → (∃ x : Int, 0 ≤ x ∧ x < 256 ∧ W.cell? ⟨b, i, none⟩ = some (.int .u8 x)) ∧ W.frozen? ⟨b, i, none⟩ = false
theorem Fresh.wr {base : Nat} {W : World} {v : Value} {p : List Int} (h : Fresh base W v p) (hb : ∀ x ∈ p, 0 ≤ x ∧ x < 256) : Wr base W v := by
  obtain ⟨b, c, C, fr, h1, h2, h3, h4, h5, h6⟩ := h
  refine ⟨b, p.length, c, C, fr, h1, h6.2.1, h3, h4, fun i hi => ⟨?_, h5 i hi⟩⟩
  obtain ⟨ad, he, hc⟩ := byte_at h6 i hi
  cases he
  refine ⟨p[i], (hb _ (List.getElem_mem _)).1, (hb _ (List.getElem_mem _)).2, ?_⟩
  rwa [show (⟨b, 0, none⟩ : Addr).add i = ⟨b, i, none⟩ by unfold Addr.add; split <;> simp_all] at hc
theorem blk_setF {w : World} {g : Nat} {t : TypeId} {cs : Array Value} {fr : Nat × Nat} (h : w.heap[g]? = some (.cells cs t fr)) (i : Nat) (u : Value) : (w.setCell ⟨g, i, none⟩ u).heap[g]? = some (.cells (cs.setIfInBounds i u) t fr) := by
  simp [World.setCell, Array.getElem?_modify, h]
theorem Wr.set {base : Nat} {W : World} {v : Value} (h : Wr base W v) {g i : Nat} {z : Int} (hz : 0 ≤ z ∧ z < 256) {y : Value} (hc : W.cell? ⟨g, i, none⟩ = some y) : Wr base (W.setCell ⟨g, i, none⟩ (.int .u8 z)) v := by
  obtain ⟨b, n, c, C, fr, h1, h2, h3, h4, h5⟩ := h
  have hblk : ∃ C' , (W.setCell ⟨g, i, none⟩ (.int .u8 z)).heap[b]? = some (.cells C' 5 fr) := by
    by_cases hbg : b = g
    · subst hbg; exact ⟨_, blk_setF h4 i _⟩
    · exact ⟨C, (Below.heap_setCell _ _ _ _ hbg).trans h4⟩
  obtain ⟨C', hC'⟩ := hblk
  refine ⟨b, n, c, C', fr, h1, h2, h3, hC', fun j hj => ?_⟩
  obtain ⟨⟨x, hx1, hx2, hx3⟩, hfz⟩ := h5 j hj
  refine ⟨?_, by simpa using hfz⟩
  by_cases he : (⟨g, i, none⟩ : Addr) = ⟨b, j, none⟩
  · rw [← he]
    exact ⟨z, hz.1, hz.2, World.cell?_setCell_same _ _ _ hc⟩
  · exact ⟨x, hx1, hx2, by rw [World.cell?_setCell_other _ _ _ _ he]; exact hx3⟩
theorem Wr.below {base : Nat} {W W' : World} {v : Value} (h : Wr base W v) (hb : Below W.heap.size W W') : Wr base W' v := by
  obtain ⟨b, n, c, C, fr, h1, h2, h3, h4, h5⟩ := h
  have hlt : b < W.heap.size := (Array.getElem?_eq_some_iff.1 h4).1
  refine ⟨b, n, c, C, fr, h1, h2, h3, (hb.block b hlt).trans h4, fun i hi => ?_⟩
  obtain ⟨⟨x, hx1, hx2, hx3⟩, hfz⟩ := h5 i hi
  refine ⟨⟨x, hx1, hx2, cell_keep hb hx3⟩, ?_⟩
  simp only [World.frozen?] at hfz ⊢
  rw [hb.block b hlt]; exact hfz
/-- What may be written anew, and the row of its slices, which stays. -/
structure Turn (base : Nat) (v1 pv : Value) (vs : List {v : Value // v.oneCell' = true}) (w : World) (W : World) : Prop where
  row : Kd.R valK 22 W base (fun _ => True) v1 vs
  all : ∀ x ∈ vs, Wr base W x.1
  one : pv = .slice none 0 0 ∨ Wr base W pv
  old : Below base w W
theorem Turn.set {base : Nat} {v1 pv : Value} {vs : List {v : Value // v.oneCell' = true}} {w W : World} (h : Turn base v1 pv vs w W) {g i : Nat} {z : Int} {C : Array Value} {fr : Nat × Nat} (hz : 0 ≤ z ∧ z < 256) {y : Value} (hc : W.cell? ⟨g, i, none⟩ = some y) (hg : base ≤ g) (ht : W.heap[g]? = some (.cells C 5 fr)) : Turn base v1 pv vs w (W.setCell ⟨g, i, none⟩ (.int .u8 z)) := by
  refine ⟨?_, fun x hx => (h.all x hx).set hz hc, ?_, h.old.setCell hg _⟩
  · refine Kd.R_mono (Kd.R_step (Kd.R_bound h.row) (fun k hk _ => Below.heap_setCell _ _ _ _ ?_)) (fun _ _ => trivial)
    rintro rfl
    obtain ⟨_, _, _, q, hq, cells, hcl⟩ := hk
    rw [ht] at hcl
    injection hcl with hcl
    injection hcl with _ hcl _
    subst hcl
    exact absurd hq (by decide)
  · rcases h.one with h1 | h1
    · exact .inl h1
    · exact .inr (h1.set hz hc)
end Go.Proofs.Ytfflenbfapgilaa
namespace Go.Proofs.Ytfflenbfapgilaa.WFrameGets
open Go.RowKit Go.Proofs.YtfflenbfapgilaaW.PrintWords Go.Proofs.Ytfflenbfapgilaa.GVB
theorem gets_great (A : Option Addr) (c : Nat) (l : List Int) (a : Int) (w : World) (hl : 4000 < (l.length : Int)) (hml : l.length ≤ 9223372036854775807) :
    Calls Try.prog 5 #[.slice A l.length c, .int .i64 a] w fun e w' => e = .returned (.bool true) ∧ Below w.heap.size w w' := by
  have d0 : decide (4000 < (l.length : Int)) = true := decide_eq_true hl
  go_enter Try.func5, Try.ntmps5
  go_wp2_with (go_at_call 14; refine (fixed6_any _).mono ?_; rintro e w1 ⟨rfl, hb⟩)
  go_ret
  exact ⟨rfl, hb⟩
set_option maxRecDepth 100000 in
set_option maxHeartbeats 4000000 in
theorem gets_main (A : Option Addr) (c : Nat) (l : List Int) (a : Int) (w : World) (hC : Kd.C (Kd.int .u8) w A l.length l) (hc : l.length ≤ c) (hb : ∀ x ∈ l, 0 ≤ x ∧ x < 256) (hl : l.length ≤ 4000) :
    Calls Try.prog 5 #[.slice A l.length c, .int .i64 a] w fun e w' => e = .returned (.bool true) ∧ Below w.heap.size w w' := by
  have d0 : decide (4000 < (l.length : Int)) = false := decide_eq_false (by omega)
  have hcv := Kd.C_string (P := Try.prog) (A := A) (c := c) Try.underlying22 Try.underlying5 Try.underlying9 hC
  have HG := Lib.hid (fget_any A c l a w hC hc hb (by omega))
  have HRG := Lib.hid (fun (W : World) => tephraref06_Get.calls 50000 (strOfNums l) a (fgetS l a).1 (fgetS l a).2.1 (fgetS l a).2.2 W (rfget_is l hb hl a 50000 (Nat.le_refl _)))
  have HR := Lib.hid (fun (W : World) (h : Below w.heap.size w W) => frun_any A c l a W (Kd.C_below hC h) hc hb (by omega))
  have HRR := Lib.hid (fun (W : World) => tephraref06_Run.calls 60000 (strOfNums l) a _ _ W (rfrun_is l hb hl a))
  have HC := Lib.hid (fun (W : World) (h : Below w.heap.size w W) => Kd.C_below hC h)
  obtain ⟨ls, hls⟩ : ∃ ls, (runs l a).map (fun y => bytesOf y.1) = ls := ⟨_, rfl⟩
  obtain ⟨xs, hxs⟩ : ∃ xs, (runs l a).map (·.2) = xs := ⟨_, rfl⟩
  have hstr : (runs l a).map (·.1) = ls.map strOfNums := by
    rw [← hls, List.map_map]
    apply List.map_congr_left
    intro y _
    exact (bytes_str y.1).symm
  have hlen : (runs l a).length = ls.length ∧ xs.length = ls.length ∧ ls.length ≤ 4001 := by
    have := runs_len (l.length + 1) l a
    rw [← hls, ← hxs, List.length_map, List.length_map]
    exact ⟨rfl, rfl, by unfold runs; omega⟩
  have HLEN := Lib.hid hlen
  have HCF := Lib.hid (fun (W : World) (A : Option Addr) (base : Nat) (vs : List {v : Value // v.oneCell' = true}) h1 h2 h3 => (C_of_fresh (W := W) (A := A) (base := base) (vs := vs) (ps := runs l a) h1 h2 h3))
  have HSM := Lib.hid (fun A1 c1 A2 c2 A3 c3 A4 c4 W h1 h2 h3 h4 h5 h6 => same_true A1 c1 ls A2 c2 xs A3 c3 A4 c4 W h1 h2 h3 h4 h5 h6)
  rw [hxs, hstr] at HRR
  rw [hls] at HCF
  unfold FRunPost at HR
  rw [hxs] at HR
  obtain ⟨s, hs⟩ : ∃ s, (fgetS l a).1 = s := ⟨_, rfl⟩
  obtain ⟨p, hp⟩ : ∃ p, (fgetS l a).2.1 = p := ⟨_, rfl⟩
  obtain ⟨ec, hec⟩ : ∃ e, (fgetS l a).2.2 = e := ⟨_, rfl⟩
  have hz : ec ≠ 0 → s = ⟨#[]⟩ := by
    intro h
    rcases fgetS_cases l hb a with ⟨e, he, _⟩ | ⟨lo, p, q, _, _, _, _, _, he⟩
    · rw [← hs, he]
    · rw [← hec, he] at h; exact absurd rfl h
  unfold FGet at HG
  rw [hs, hp, hec] at HG HRG
  have HZ := Lib.hid hz
  have HL := Lib.hid hc
  clear hC hc hb hs hp hec hz hls hxs hstr hlen
  go_enter Try.func5, Try.ntmps5
  go_wp2_with fail
  clear hcv
  refine HG.out.mono ?_
  rintro e w1 ⟨pv, rfl, hv, hb1⟩
  have HB1 := Lib.hid hb1
  have HV := Lib.hid hv
  clear hv hb1
  go_wp2_with fail
  refine (HRG.out _).mono ?_
  rintro e w2 ⟨rfl, hb2⟩
  have HB2 := Lib.hid (HB1.out.trans (hb2.mono HB1.out.size))
  obtain ⟨P, n, cp, hpv⟩ : ∃ P n cp, pv = .slice P n cp := by
    rcases HV.out with ⟨_, h⟩ | ⟨_, h⟩
    · exact ⟨_, _, _, h⟩
    · obtain ⟨b, c, C, fr, h1, _⟩ := h; exact ⟨_, _, _, h1⟩
  subst hpv
  have hcv : (convert 22 9 (.slice P n cp)).run Try.prog w2 = .ok (.string s) w2 := by
    rcases HV.out with ⟨h0, h⟩ | ⟨_, h⟩
    · cases h
      rw [HZ.out h0]
      exact Kd.C_string (P := Try.prog) (A := none) (c := 0) Try.underlying22 Try.underlying5 Try.underlying9 (Kd.C_nil (Kd.int .u8) w2)
    · obtain ⟨b, c', C, fr, h1, h2, h3, h4, h5, h6⟩ := h
      cases h1
      have := Kd.C_string (P := Try.prog) (A := some ⟨b, 0, none⟩) (c := cp) Try.underlying22 Try.underlying5 Try.underlying9 (Kd.C_below h6 hb2)
      rwa [bytes_str] at this
  have HW2 := Lib.hid (show Value.slice P n cp = .slice none 0 0 ∨ Wr w.heap.size w2 (.slice P n cp) from by
    rcases HV.out with ⟨h0, h⟩ | ⟨_, h⟩
    · exact .inl h
    · exact .inr ((h.below hb2).wr (bytesOf_byte _)))
  clear hb2
  go_wp2_with fail
  clear hcv
  refine (HR.out _ HB2.out).mono ?_
  rintro e w3 ⟨v1, v2, vs, rfl, hr1, hr2, hvl, hfr, hb3⟩
  have HB3 := Lib.hid (HB2.out.trans (hb3.mono HB2.out.size))
  have hvl' : vs.length = ls.length := by rw [hvl]; exact HLEN.out.1
  obtain ⟨A1, c1, hv1⟩ := Kd.R_slice hr1
  subst hv1
  obtain ⟨A2, c2, hv2⟩ := Kd.R_slice hr2
  subst hv2
  have HT3 := Lib.hid (show Turn w.heap.size (.slice A1 vs.length c1) (.slice P n cp) vs w w3 from ⟨Kd.R_lower hr1 HB2.out.size, fun x hx => by
      obtain ⟨k, hk⟩ := List.getElem?_of_mem hx
      have hk2 : k < (runs l a).length := by rw [← hvl]; exact (List.getElem?_eq_some_iff.1 hk).1
      exact ((hfr k x _ hk (List.getElem?_eq_getElem hk2)).lower HB2.out.size).wr (bytesOf_byte _), by
      rcases HW2.out with h | h
      · exact .inl h
      · exact .inr (h.below hb3), HB3.out⟩)
  have HR1 := Lib.hid (And.intro (HCF.out w3 A1 w2.heap.size vs (Kd.R_reads' hr1).2.2 hvl hfr) (And.intro (Kd.R_reads' hr1).2.1 (Kd.R_reads' hr2).2.2))
  have HVL := Lib.hid hvl'
  clear hr1 hr2 hvl hfr hb3 hvl'
  go_wp2_with fail
  refine (HRR.out _).mono ?_
  rintro e w4 ⟨v3, v4, rfl, hr3, hr4, hb4⟩
  have HB4 := Lib.hid (HB3.out.trans (hb4.mono HB3.out.size))
  obtain ⟨A3, c3, hv3⟩ := Kd.R_slice hr3
  subst hv3
  obtain ⟨A4, c4, hv4⟩ := Kd.R_slice hr4
  subst hv4
  have hsm := HSM.out A1 c1 A2 c2 A3 c3 A4 c4 w4 (Kd.C_below HR1.out.1 hb4) (by rw [← HVL.out]; exact HR1.out.2.1) (Kd.C_below HR1.out.2.2 hb4) (by have := (Kd.R_reads' hr3).2.2; rwa [List.length_map] at this) (by have := (Kd.R_reads' hr3).2.1; rwa [List.length_map] at this) (Kd.R_reads' hr4).2.2
  rw [← HVL.out] at hsm
  have HSM4 := Lib.hid hsm
  have HT4 := Lib.hid (show Turn w.heap.size (.slice A1 vs.length c1) (.slice P n cp) vs w w4 from ⟨Kd.R_below HT3.out.row hb4, fun x hx => (HT3.out.all x hx).below hb4, by
      rcases HT3.out.one with h | h
      · exact .inl h
      · exact .inr (h.below hb4), HB4.out⟩)
  have hlm : (ls.map strOfNums).length = vs.length := by rw [List.length_map]; exact HVL.out.symm
  rw [hlm]
  clear hr3 hr4 hb4 hsm hlm
  go_wp2_with fail
  refine HSM4.out.mono ?_
  rintro e w5 ⟨rfl, hb5⟩
  have HT5 := Lib.hid (show Turn w.heap.size (.slice A1 vs.length c1) (.slice P n cp) vs w w5 from ⟨Kd.R_below HT4.out.row hb5, fun x hx => (HT4.out.all x hx).below hb5, by
      rcases HT4.out.one with h | h
      · exact .inl h
      · exact .inr (h.below hb5), HT4.out.old.trans (hb5.mono HT4.out.old.size)⟩)
  clear hb5
  have hn : n ≤ 9223372036854775807 := by
    rcases HT5.out.one with h | ⟨b, n', c', C, fr, h, hh, _⟩
    · cases h; omega
    · cases h; exact hh
  have hvm : vs.length ≤ 4001 := by have := HVL.out; have := HLEN.out.2.2; omega
  go_wp2_with fail
  go_loopw [74] (fun u wr => ∃ (i : Nat), i ≤ n ∧ u = .int .i64 i ∧ Turn w.heap.size (.slice A1 vs.length c1) (.slice P n cp) vs w wr) (fun v _ => n - (intOf v).toNat)
  case atStart => exact ⟨0, by omega, rfl, HT5.out⟩
  case round =>
    obtain ⟨i, hi, rfl, ht⟩ := hrel
    by_cases hlt : i < n
    · obtain ⟨b, n', c', C, fr, hpv, _, hbase, hblk, hall⟩ : Wr w.heap.size wr (.slice P n cp) := by
        rcases ht.one with h | h
        · cases h; omega
        · exact h
      cases hpv
      obtain ⟨⟨x, hx1, hx2, hcell⟩, hfz⟩ := hall i hlt
      have hw : (x + 1) % 256 = IntKind.u8.wrap (x + 1) := by simp [IntKind.wrap, IntKind.signed, IntKind.bits]
      have hz0 : 0 ≤ (x + 1) % 256 ∧ (x + 1) % 256 < 256 := by omega
      have HT := Lib.hid (ht.set (z := (x + 1) % 256) hz0 hcell hbase hblk)
      clear ht hblk hall hw
      go_wp2
      go_roundw
      case rel => exact ⟨i + 1, by omega, by go_num, HT.out⟩
      case measure => simp [intOf]; omega
    · obtain rfl : n = i := by omega
      have HT := Lib.hid ht
      clear ht
      go_wp2_with fail
      go_loopw [86] (fun u wr => ∃ (i : Nat), i ≤ vs.length ∧ u = .int .i64 i ∧ Turn w.heap.size (.slice A1 vs.length c1) (.slice P n cp) vs w wr) (fun v _ => vs.length - (intOf v).toNat)
      case atStart => exact ⟨0, by omega, rfl, HT.out⟩
      case round =>
        obtain ⟨k, hk, rfl, ht⟩ := hrel
        by_cases hlt : k < vs.length
        · obtain ⟨b, m, cm, C, fr, hx, hm, hbase, _, _⟩ := ht.all vs[k] (List.getElem_mem _)
          obtain ⟨ad, he, hc0⟩ := (Kd.R_reads' ht.row).2.2.2.2 (by omega)
          obtain ⟨cs, _, hcs, hcell0⟩ := hc0 k vs[k] (List.getElem?_eq_getElem hlt)
          have hcs' : cs = [vs[k].1] := hcs
          have hcell := hcell0 0 _ (by rw [hcs']; rfl)
          rw [show valK.sz = 1 from rfl, Nat.mul_one, Nat.add_zero, hx] at hcell
          have HX := Lib.hid (And.intro hx hlt)
          have HT := Lib.hid ht
          subst he
          clear ht hc0 hcell0 hcs hcs' hx
          go_wp2_with fail
          go_loopw [92] (fun u wr => ∃ (i : Nat), i ≤ m ∧ u = .int .i64 i ∧ Turn w.heap.size (.slice (some ad) vs.length c1) (.slice P n cp) vs w wr) (fun v _ => m - (intOf v).toNat)
          case atStart => exact ⟨0, by omega, rfl, HT.out⟩
          case round =>
            obtain ⟨i, hi, rfl, ht⟩ := hrel
            by_cases hlt2 : i < m
            · obtain ⟨b', m', cm', C', fr', hx', _, hbase', hblk, hall⟩ := ht.all (vs[k]'HX.out.2) (List.getElem_mem _)
              rw [HX.out.1] at hx'
              cases hx'
              obtain ⟨⟨x, hx1, hx2, hcell⟩, hfz⟩ := hall i hlt2
              have hz0 : 0 ≤ (x + 1) % 256 ∧ (x + 1) % 256 < 256 := by omega
              have HT := Lib.hid (ht.set (z := (x + 1) % 256) hz0 hcell hbase hblk)
              clear ht hblk hall
              go_wp2
              go_roundw
              case rel => exact ⟨i + 1, by omega, by go_num, HT.out⟩
              case measure => simp [intOf]; omega
            · obtain rfl : m = i := by omega
              have HT := Lib.hid ht
              clear ht
              go_wp2
              go_roundw
              case rel => exact ⟨k + 1, by omega, by go_num, HT.out⟩
              case measure => simp [intOf]; omega
        · obtain rfl : k = vs.length := by omega
          have HT := Lib.hid ht
          clear ht
          go_wp2_with fail
          refine (fixed6_any _).mono ?_
          rintro e w6 ⟨rfl, hb6⟩
          have HB6 := Lib.hid (HT.out.old.trans (hb6.mono HT.out.old.size))
          have hcv := Kd.C_string (P := Try.prog) (A := A) (c := c) Try.underlying22 Try.underlying5 Try.underlying9 (HC.out w6 HB6.out)
          clear hb6
          go_wp2_with fail
          go_ret
          exact ⟨rfl, HB6.out⟩
theorem walk (a0 : Option Addr) (len0 cap0 : Nat) (z0 : List Int) (a1 : Int) (w : World) (w0 : (a0 = none ∧ len0 = 0 ∧ cap0 = 0 ∧ z0 = []) ∨ ∃ x, a0 = some x ∧ len0 ≤ cap0 ∧ cap0 ≤ maxLen ∧ z0.length = cap0 ∧ (∀ i, i < z0.length → w.cell? (x.add i) = some (.int .u8 (z0.getD i 0))) ∧ ∀ n ∈ z0, (Lit.int .u8 n).wf = true) (y0 : len0 * 1 ≤ 140737488351232) (w1 : (Lit.int .i64 a1).wf = true) :
    Calls Try.prog 5 #[.slice a0 len0 cap0, .int .i64 a1] w fun e w' => e = .returned (.bool true) ∧ Below w.heap.size w w' := by
  obtain ⟨l, rfl, hr, hm, hb, hc⟩ := ReadsInt.ofRowC w0
  have hr := Kd.C_of_reads (d := (0 : Int)) (h1 := fun _ => rfl) hr
  have hb := bytes_of_wf hb
  by_cases hle : 4000 < (l.length : Int)
  · exact gets_great a0 cap0 l a1 w hle (by have := hr.2.1; omega)
  · exact gets_main a0 cap0 l a1 w hr hc hb (by omega)
end Go.Proofs.Ytfflenbfapgilaa.WFrameGets
