/- What record.deps, record.Names and slices.Clone (of deps) do, in the form in which the printed texts take them. -/
import Derived.Test.YthpbkhagjgggjaaTabK
import Derived.Test.YthpbkhagjgggjaaLits
import Derived.Test.YthpbkhagjgggjaaGRRx0
set_option linter.unusedVariables false
set_option linter.unusedSimpArgs false
namespace Go.Proofs.Ythpbkhagjgggjaa
open Go.RowKit Go.Proofs.YthpbkhagjgggjaaW.PrintWords Go.Proofs.Ythpbkhagjgggjaa.GRR

theorem info_dep : (Try.prog.info? 76).map (fun i => (i.zero, i.size, i.bytes)) = some (some (.agg #[.string ⟨#[]⟩, .int .u64 0, .bool false]), 3, 32) := by kernel_rfl
/-- An empty row of one's own. -/
theorem R_empty {α : Type} (d : Kd α) (W : World) (base b : Nat) (e : TypeId) (ok : Nat → Prop) (h : W.heap[b]? = some (.cells #[] e (0, 0))) (hb : base ≤ b) (hok : ok b) : Kd.R d e W base ok (.slice (some ⟨b, 0, none⟩) 0 0) [] :=
  ⟨fun k hk => by simp only [Value.ownBlock, Option.some.injEq] at hk; exact hk ▸ hok, [], ⟨by simp, .inr ⟨b, 0, #[], rfl, hb, h, Nat.le_refl _, by simp [maxLen], by simp, by simp⟩⟩, Reps.none _ _⟩
theorem dep_KM {W : World} {base : Nat} {x : S76} {cs : List Value} (h : k76.K W x cs) : k76.M W base (fun _ => False) x cs := by
  obtain rfl := k76_open h
  exact k76_mkM W base _ x
theorem clone_dep (A : Option Addr) (c : Nat) (l : List S76) (w : World) (hr : Kd.C k76 w A l.length l) (hc : l.length ≤ c) (hl : l.length ≤ 1000000) :
    Calls Try.prog 88 #[.slice A l.length c] w fun e w' => ∃ v : Value, e = .returned v ∧ Kd.R k76 76 w' w.heap.size (fun _ => True) v l ∧ Below w.heap.size w w' := by
  have HC := Lib.hid hr
  clear hr
  have hnil := fun wx => Lib.run_eql_slice_nil (P := Try.prog) (w := wx)
  cases A with
  | none =>
    go_enter Try.func88, Try.ntmps88
    go_wp2_with (at_builtin; refine Halt.mk ?_)
    go_ret
    refine ⟨_, rfl, ?_, Below.refl _ _⟩
    have : l = [] := by
      cases l with
      | nil => rfl
      | cons x l => obtain ⟨ad, h, _⟩ := HC.out.2.2 (by simp); cases h
    rw [this]; exact Kd.R_nil ..
  | some ad =>
    go_enter Try.func88, Try.ntmps88
    go_wp2_with (at_builtin; refine Halt.mk ?_)
    have HO := Lib.hid (R_empty k76 (w.alloc (.cells #[] 76)) w.heap.size w.heap.size 76 (fun _ => True) (heap_new _ _) (Nat.le_refl _) trivial)
    have hb3 := (Below.refl w.heap.size w).alloc (Nat.le_refl _) (.cells #[] 76)
    refine Halt.of ?_
    refine Kd.R_append_rows k76 (w0 := w) w.heap.size rfl (.tmp 5) (.tmp 6) 68 76 (.agg #[.string ⟨#[]⟩, .int .u64 0, .bool false]) 32 rfl Try.underlying68 info_dep rfl (by decide) (by omega) _ [] l _ _ _ (fun _ => True) (fun _ => False) rfl rfl HO.out (Kd.C_below HC.out hb3) (fun _ _ h => dep_KM h) (fun _ h => h.elim) (fun _ _ => trivial) hb3 hb3.size (by simp; omega) ?_
    intro v1 w1 HO1 hb1 _ _
    go_wp2
    go_ret
    exact ⟨_, rfl, HO1, hb1⟩
def api_Dep_88.f (l0 : List S76) : Option (List S76) := if l0.length ≤ 1000000 then some l0 else none
theorem api_Dep_88.calls (A0 : Option Addr) (c0 : Nat) (l0 : List S76) (r : List S76) (w : World) (hr0 : Kd.C k76 w A0 l0.length l0) (hc0 : l0.length ≤ c0) (h : api_Dep_88.f l0 = some r) :
    Calls Try.prog 88 #[.slice A0 l0.length c0] w fun e w' => ∃ v0_ : Value, e = .returned (v0_) ∧ Kd.R k76 76 w' w.heap.size (fun _ => True) v0_ r ∧ Below w.heap.size w w' := by
  unfold api_Dep_88.f at h
  split at h
  · cases h; exact clone_dep A0 c0 l0 w hr0 hc0 ‹_›
  · cases h
/-- a name -/
def nameB (s : ByteArray) : Bool := decide (1 ≤ s.size ∧ s.size ≤ 64)
theorem name_any (s : ByteArray) (w : World) (hs : s.size ≤ 9223372036854775807) : Calls Try.prog 51 #[.string s] w fun e w' => e = .returned (.bool (nameB s)) ∧ w = w' := by
  by_cases h1 : 1 ≤ s.size
  · have b1 : decide ((1 : Int) ≤ (s.size : Int)) = true := decide_eq_true (by omega)
    have e : nameB s = decide ((s.size : Int) ≤ 64) := by unfold nameB; rw [Bool.eq_iff_iff, decide_eq_true_eq, decide_eq_true_eq]; omega
    rw [e]
    go_enter Try.func51, Try.ntmps51
    go_wp2_with fail
    all_goals
      go_ret
      exact ⟨by first | rfl | simp_all, rfl⟩
  · have b1 : decide ((1 : Int) ≤ (s.size : Int)) = false := decide_eq_false (by omega)
    have e : nameB s = false := by unfold nameB; rw [decide_eq_false_iff_not]; omega
    rw [e]
    go_enter Try.func51, Try.ntmps51
    go_wp2_with fail
    all_goals
      go_ret
      exact ⟨by first | rfl | simp_all, rfl⟩
/-- may these deps be, behind those texts -/
def depsOk (v : Int) : List ByteArray → List S76 → Bool
  | _, [] => true
  | met, d :: r => nameB d.f0 && !isIn met d.f0 && !(d.f2 && decide (v < 3)) && depsOk v (met ++ [d.f0]) r
def depsB (v : Int) (t : ByteArray) (l : List S76) : Bool := depsOk v [t] l && decide ((l.length : Int) ≤ 16)
theorem rd_dep (l : List S76) (i : Nat) (h : i < l.length) : rd_T76 l (i : Int) = l[i] := by simp [rd_T76, h]
/-- A new table, beside a record's box that has this row. -/
def NewRec (w w' : World) (g : Nat) (l : List ByteArray) (b0 : Nat) (v : Value) : Prop :=
  ∃ S, Tab w' S g l ∧ (∀ k, S k → w.heap.size ≤ k) ∧ Below w.heap.size w w' ∧ (∀ k, S k → k ≠ b0) ∧ ∃ a0 a1 a2 a4 a5 a6, w'.heap[b0]? = some (.cells #[a0, a1, a2, v, a4, a5, a6] 70 (0, 0))
set_option maxHeartbeats 2000000 in
set_option maxRecDepth 100000 in
theorem deps_any (v : Int) (x0 : Int) (x1 : ByteArray) (x2 : Int) (A : Option Addr) (c : Nat) (l : List S76) (x4 x5 : Int) (x6 : ByteArray) (w : World) (hr : Kd.C k76 w A l.length l) (hc : l.length ≤ c) (hl : l.length ≤ 1000) (hz : ∀ d ∈ l, d.f0.size ≤ maxLen) (hx : x1.size ≤ maxLen) :
    Calls Try.prog 85 #[.int .i64 v, .agg #[.int .i64 x0, .string x1, .int .u64 x2, .slice A l.length c, .int .u64 x4, .int .u64 x5, .string x6]] w fun e w' => e = .returned (.bool (depsB v x1 l)) ∧ Below w.heap.size w w' := by
  have HR := Lib.hid hr
  have HZ := Lib.hid hz
  have HX := Lib.hid hx
  clear hr hz hx
  obtain ⟨vb, hvb⟩ : ∃ vb, decide (v < 3) = vb := ⟨_, rfl⟩
  have hC1 := C_block_str ((w.alloc (.cells #[.int .i64 x0, .string x1, .int .u64 x2, .slice A l.length c, .int .u64 x4, .int .u64 x5, .string x6] 70)).alloc (.cells #[.string x1] 9)) (w.heap.size + 1) 9 (0, 0) [x1] (by have := heap_new (w.alloc (.cells #[.int .i64 x0, .string x1, .int .u64 x2, .slice A l.length c, .int .u64 x4, .int .u64 x5, .string x6] 70)) (.cells #[.string x1] 9); rwa [heap_size_alloc] at this) (by simp)
  have HN := Lib.hid (new_any (some ⟨w.heap.size + 1, 0, none⟩) 1 [x1] _ hC1 (Nat.le_refl _) (by simp; exact HX.out) (by simp))
  have hb0 : Below w.heap.size w ((w.alloc (.cells #[.int .i64 x0, .string x1, .int .u64 x2, .slice A l.length c, .int .u64 x4, .int .u64 x5, .string x6] 70)).alloc (.cells #[.string x1] 9)) := ((Below.refl _ _).alloc (Nat.le_refl _) _).alloc (by simp) _
  have HB0 := Lib.hid hb0
  have hbx : ((w.alloc (.cells #[.int .i64 x0, .string x1, .int .u64 x2, .slice A l.length c, .int .u64 x4, .int .u64 x5, .string x6] 70)).alloc (.cells #[.string x1] 9)).heap[w.heap.size]? = _ := blk_alloc (heap_new w _) _
  have HBX := Lib.hid hbx
  obtain ⟨D, hD⟩ : ∃ D, depsOk v [x1] l = D := ⟨_, rfl⟩
  have hres : depsB v x1 l = (D && decide ((l.length : Int) ≤ 16)) := by unfold depsB; rw [hD]
  have HRES := Lib.hid hres
  have HVB := Lib.hid hvb
  have HD := Lib.hid hD
  clear hC1 hb0 hbx hres hD
  go_enter Try.func85, Try.ntmps85
  go_wp2_with fail
  generalize (w.alloc (.cells #[.int .i64 x0, .string x1, .int .u64 x2, .slice A l.length c, .int .u64 x4, .int .u64 x5, .string x6] 70)).alloc (.cells #[.string x1] 9) = w0 at *
  refine HN.out.mono ?_
  rintro e w1 ⟨rfl, hd⟩
  rw [show tnew [x1] = [x1] from tnew_self (by simp)] at hd
  generalize w0.heap.size = g at hd ⊢
  have hblt := (Array.getElem?_eq_some_iff.1 HBX.out).1
  obtain ⟨S, hT, hS, hB⟩ := hd
  have h1 : NewTab w w1 g [x1] := ⟨S, hT, fun k hk => Nat.le_trans HB0.out.size (hS k hk), HB0.out.trans (hB.mono HB0.out.size)⟩
  obtain ⟨b0, hb0⟩ : ∃ b0, b0 = w.heap.size := ⟨_, rfl⟩
  have hbk : w1.heap[b0]? = some (.cells #[.int .i64 x0, .string x1, .int .u64 x2, .slice A l.length c, .int .u64 x4, .int .u64 x5, .string x6] 70 (0, 0)) := by rw [hb0]; exact blk_below HBX.out hB
  have hc3 : w1.cell? ⟨b0, 3, none⟩ = some (.slice A l.length c) := (cell_of_blk hbk 3).trans rfl
  have hnS : ∀ k, S k → k ≠ b0 := fun k hk e => by have := hS k hk; omega
  have H1 := Lib.hid (show NewRec w w1 g [x1] b0 (.slice A l.length c) from ⟨S, hT, fun k hk => Nat.le_trans HB0.out.size (hS k hk), HB0.out.trans (hB.mono HB0.out.size), hnS, _, _, _, _, _, _, hbk⟩)
  rw [← hb0]
  clear hT hS hB h1 hbk hnS hblt HBX HB0 HN
  clear hb0
  go_wp2_with fail
  go_loopw [17] (fun u17 wr => ∃ (i : Nat) (met : List ByteArray), i ≤ l.length ∧ u17 = .int .i64 i ∧ met.length ≤ 1 + i ∧ Hid (NewRec w wr g met b0 (.slice A l.length c)) ∧ Hid (depsOk v met (l.drop i) = D)) (fun u _ => l.length - (intOf u).toNat)
  case atStart => exact ⟨0, [x1], by omega, rfl, by simp, H1, HD⟩
  case round =>
    obtain ⟨i, met, hi, rfl, hml, hrel, hdd⟩ := hrel
    by_cases hlt : i < l.length
    · obtain ⟨S, hT, hS, hB, hnS, a0, a1, a2, a4, a5, a6, hbk⟩ := hrel.out
      obtain ⟨ad, had, hcl0, hcl1, hcl2⟩ := at_T76 (Kd.C_below HR.out hB) (i : Int) (by omega) (by omega)
      subst had
      rw [Int.toNat_natCast, rd_dep l i hlt] at hcl0 hcl1 hcl2
      have hds := hdd.out
      rw [List.drop_eq_getElem_cons hlt] at hds
      have hsz := HZ.out l[i] (List.getElem_mem _)
      generalize l[i] = d at hcl0 hcl1 hcl2 hds hsz
      obtain ⟨d0, d1, d2⟩ := d
      simp only at hcl0 hcl1 hcl2 hsz
      simp only [depsOk] at hds
      rw [HVB.out] at hds
      have HDS := Lib.hid hds
      have hb1 := (Below.refl wr.heap.size wr).alloc (Nat.le_refl _) (.cells #[.string d0, .int .u64 d1, .bool d2] 76)
      have hT1 := hT.keep (Kp.of_below hb1 (fun _ => False)) (fun _ _ h => h)
      have hbd := heap_new wr (.cells #[.string d0, .int .u64 d1, .bool d2] 76)
      have hnd : ∀ k, S k → k ≠ wr.heap.size := fun k hk e => by have := hT.lt k hk; omega
      have hbk1 := blk_below hbk hb1
      have HID := Lib.hid (id_any hT1 d0 hsz (by omega))
      have HNM := Lib.hid (fun W => name_any d0 W (by simp only [maxLen] at hsz; omega))
      have HAll := Lib.hid (And.intro hT1 (And.intro hS (And.intro (hB.trans (hb1.mono hB.size)) (And.intro hnS (And.intro hnd (And.intro hbk1 hbd))))))
      obtain ⟨bd, hbd2⟩ : ∃ bd, bd = wr.heap.size := ⟨_, rfl⟩
      rw [← hbd2] at HAll
      have HBD := Lib.hid hbd2
      obtain ⟨p, hp⟩ : ∃ p, posOf met d0 = p := ⟨_, rfl⟩
      obtain ⟨nb, hnb⟩ : ∃ nb, nameB d0 = nb := ⟨_, rfl⟩
      obtain ⟨ib, hib⟩ : ∃ ib, isIn met d0 = ib := ⟨_, rfl⟩
      rw [hp, hib] at HID
      rw [hnb] at HNM
      rw [hnb, hib] at HDS
      have HIB := Lib.hid hib
      clear hds hsz hT hT1 hS hB hnS hnd hbk hbk1 hbd hb1 hbd2 hp hnb hib hdd hrel
      go_wp2_with fail
      rw [← HBD.out]
      generalize wr.alloc (.cells #[.string d0, .int .u64 d1, .bool d2] 76) = W at *
      refine HID.out.mono ?_
      rintro e w2 ⟨rfl, hd⟩
      obtain ⟨hT1, hS, hB, hnS, hnd, hbk1, hbd⟩ := HAll.out
      obtain ⟨S2, hT2, hS2, hK2⟩ := hd
      have hszW := (Array.getElem?_eq_some_iff.1 hbk1).1
      have hszD := (Array.getElem?_eq_some_iff.1 hbd).1
      have hbk2 := hK2.heap hbk1 (fun h => hnS _ h rfl)
      have hbd2 := hK2.heap hbd (fun h => hnd _ h rfl)
      have hN2 : NewRec w w2 g (tput met d0) b0 (.slice (some ad) l.length c) := ⟨S2, hT2, fun k hk => (hS2 k hk).elim (hS k) (fun h => Nat.le_trans hB.size h), ((Kp.of_below hB S).trans hK2 (fun k hk => .inl hk)).to_below hS, fun k hk e => (hS2 k hk).elim (fun h => hnS k h e) (fun h => by omega), _, _, _, _, _, _, hbk2⟩
      have HN2 := Lib.hid hN2
      have hbe := HN2.out.choose_spec.2.2.1
      have hcd0 : w2.cell? ⟨bd, 0, none⟩ = some (.string d0) := (cell_of_blk hbd2 0).trans rfl
      have hcd2 : w2.cell? ⟨bd, 2, none⟩ = some (.bool d2) := (cell_of_blk hbd2 2).trans rfl
      have hc23 : w2.cell? ⟨b0, 3, none⟩ = some (.slice (some ad) l.length c) := (cell_of_blk hbk2 3).trans rfl
      have HBE := Lib.hid hbe
      clear hT1 hS hB hnS hnd hbk1 hbd hT2 hS2 hK2 hbk2 hbd2 hN2 hbe HAll HID
      have hvv : decide (v < 3) = vb := HVB.out
      cases nb with
      | false =>
        go_wp2_with fail
        refine (HNM.out _).mono ?_
        rintro e w3 ⟨rfl, rfl⟩
        go_wp2_with fail
        go_ret
        have h := HDS.out
        exact ⟨by rw [HRES.out, ← h]; rfl, HBE.out⟩
      | true =>
        cases ib with
        | true =>
          go_wp2_with fail
          refine (HNM.out _).mono ?_
          rintro e w3 ⟨rfl, rfl⟩
          go_wp2_with fail
          go_ret
          have h := HDS.out
          exact ⟨by rw [HRES.out, ← h]; rfl, HBE.out⟩
        | false =>
          cases d2 with
          | false =>
            go_wp2_with fail
            refine (HNM.out _).mono ?_
            rintro e w3 ⟨rfl, rfl⟩
            go_wp2
            go_roundw
            case rel =>
              rw [tput_out (isIn_ne.1 HIB.out)] at HN2
              exact ⟨i + 1, met ++ [d0], by omega, by go_num, by simp; omega, HN2, Lib.hid HDS.out⟩
            case measure => simp [intOf]; omega
          | true =>
            cases vb with
            | true =>
              go_wp2_with fail
              refine (HNM.out _).mono ?_
              rintro e w3 ⟨rfl, rfl⟩
              go_wp2_with fail
              go_ret
              have h := HDS.out
              exact ⟨by rw [HRES.out, ← h]; rfl, HBE.out⟩
            | false =>
              go_wp2_with fail
              refine (HNM.out _).mono ?_
              rintro e w3 ⟨rfl, rfl⟩
              go_wp2
              go_roundw
              case rel =>
                rw [tput_out (isIn_ne.1 HIB.out)] at HN2
                exact ⟨i + 1, met ++ [d0], by omega, by go_num, by simp; omega, HN2, Lib.hid HDS.out⟩
              case measure => simp [intOf]; omega
    · obtain rfl : i = l.length := by omega
      have hds := hdd.out
      rw [List.drop_of_length_le (Nat.le_refl _)] at hds
      obtain ⟨S, hT, hS, hB, hnS, a0, a1, a2, a4, a5, a6, hbk⟩ := hrel.out
      have hc23 : wr.cell? ⟨b0, 3, none⟩ = some (.slice A l.length c) := (cell_of_blk hbk 3).trans rfl
      have HDS := Lib.hid hds
      have HB := Lib.hid hB
      clear hds hT hS hB hnS hbk hrel hdd
      go_wp2_with fail
      go_ret
      exact ⟨by rw [HRES.out, ← HDS.out]; simp [depsOk], HB.out⟩
def record_deps.f (a0 : Int) (a1_0 : Int) (a1_1 : ByteArray) (a1_2 : Int) (l1_3 : List S76) (a1_4 : Int) (a1_5 : Int) (a1_6 : ByteArray) : Option Bool :=
  if l1_3.length ≤ 1000 ∧ (∀ d ∈ l1_3, d.f0.size ≤ maxLen) ∧ a1_1.size ≤ maxLen then some (depsB a0 a1_1 l1_3) else none
theorem record_deps.calls (a0 : Int) (a1_0 : Int) (a1_1 : ByteArray) (a1_2 : Int) (A1_3 : Option Addr) (c1_3 : Nat) (l1_3 : List S76) (a1_4 : Int) (a1_5 : Int) (a1_6 : ByteArray) (r : Bool) (w : World) (hr1_3 : Kd.C k76 w A1_3 l1_3.length l1_3) (hc1_3 : l1_3.length ≤ c1_3) (h : record_deps.f a0 a1_0 a1_1 a1_2 l1_3 a1_4 a1_5 a1_6 = some r) :
    Calls Try.prog 85 #[.int .i64 a0, .agg #[.int .i64 a1_0, .string a1_1, .int .u64 a1_2, .slice A1_3 l1_3.length c1_3, .int .u64 a1_4, .int .u64 a1_5, .string a1_6]] w fun e w' => e = .returned (.bool r) ∧ Below w.heap.size w w' := by
  unfold record_deps.f at h
  split at h
  · rename_i hh
    cases h; exact deps_any a0 a1_0 a1_1 a1_2 A1_3 c1_3 l1_3 a1_4 a1_5 a1_6 w hr1_3 hc1_3 hh.1 hh.2.1 hh.2.2
  · cases h
end Go.Proofs.Ythpbkhagjgggjaa
