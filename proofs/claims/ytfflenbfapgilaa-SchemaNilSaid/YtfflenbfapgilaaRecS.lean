/- Texts laid as one: RecD, RecN, RecP, RecM, RecO, RecR. -/
import Derived.Test.YtfflenbfapgilaaTabS
import Derived.Test.YtfflenbfapgilaaTabS
import Derived.Test.YtfflenbfapgilaaGRRx0
import Derived.Test.YtfflenbfapgilaaGRRz1
import Derived.Test.YtfflenbfapgilaaGRRx4
import Derived.Test.YtfflenbfapgilaaGRRz2
import Derived.Lib.Strings
import Derived.Test.YtfflenbfapgilaaOpen
import Derived.Test.YtfflenbfapgilaaGRRx6
set_option linter.unusedVariables false
set_option linter.unusedSimpArgs false
/- What record.deps, record.Names and slices.Clone (of deps) do, in the form in which the printed texts take them. -/
namespace Go.Proofs.Ytfflenbfapgilaa
open Go.RowKit Go.Proofs.YtfflenbfapgilaaW.PrintWords Go.Proofs.Ytfflenbfapgilaa.GRR

theorem info_dep : (Try.prog.info? 113).map (fun i => (i.zero, i.size, i.bytes)) = some (some (.agg #[.string ⟨#[]⟩, .int .u64 0, .bool false]), 3, 32) := by kernel_rfl
/-- An empty row of one's own. -/
theorem R_empty {α : Type} (d : Kd α) (W : World) (base b : Nat) (e : TypeId) (ok : Nat → Prop) (h : W.heap[b]? = some (.cells #[] e (0, 0))) (hb : base ≤ b) (hok : ok b) : Kd.R d e W base ok (.slice (some ⟨b, 0, none⟩) 0 0) [] :=
  ⟨fun k hk => by simp only [Value.ownBlock, Option.some.injEq] at hk; exact hk ▸ hok, [], ⟨by simp, .inr ⟨b, 0, #[], rfl, hb, h, Nat.le_refl _, by simp [maxLen], by simp, by simp⟩⟩, Reps.none _ _⟩
theorem dep_KM {W : World} {base : Nat} {x : S113} {cs : List Value} (h : k113.K W x cs) : k113.M W base (fun _ => False) x cs := by
  obtain rfl := k113_open h
  exact k113_mkM W base _ x
/-- a name -/
def nameB (s : ByteArray) : Bool := decide (1 ≤ s.size ∧ s.size ≤ 64)
theorem name_any (s : ByteArray) (w : World) (hs : s.size ≤ 9223372036854775807) : Calls Try.prog 89 #[.string s] w fun e w' => e = .returned (.bool (nameB s)) ∧ w = w' := by
  by_cases h1 : 1 ≤ s.size
  · have b1 : decide ((1 : Int) ≤ (s.size : Int)) = true := decide_eq_true (by omega)
    have e : nameB s = decide ((s.size : Int) ≤ 64) := by unfold nameB; rw [Bool.eq_iff_iff, decide_eq_true_eq, decide_eq_true_eq]; omega
    rw [e]
    go_enter Try.func89, Try.ntmps89
    go_wp2_with fail
    all_goals
      go_ret
      exact ⟨by first | rfl | simp_all, rfl⟩
  · have b1 : decide ((1 : Int) ≤ (s.size : Int)) = false := decide_eq_false (by omega)
    have e : nameB s = false := by unfold nameB; rw [decide_eq_false_iff_not]; omega
    rw [e]
    go_enter Try.func89, Try.ntmps89
    go_wp2_with fail
    all_goals
      go_ret
      exact ⟨by first | rfl | simp_all, rfl⟩
/-- may these deps be, behind those texts -/
def depsOk (v : Int) : List ByteArray → List S113 → Bool
  | _, [] => true
  | met, d :: r => nameB d.f0 && !isIn met d.f0 && !(d.f2 && decide (v < 3)) && depsOk v (met ++ [d.f0]) r
def depsB (v : Int) (t : ByteArray) (l : List S113) : Bool := depsOk v [t] l && decide ((l.length : Int) ≤ 16)
theorem rd_dep (l : List S113) (i : Nat) (h : i < l.length) : rd_T113 l (i : Int) = l[i] := by simp [rd_T113, h]
/-- A new table, beside a record's box that has this row. -/
def NewRec (w w' : World) (g : Nat) (l : List ByteArray) (b0 : Nat) (v : Value) : Prop :=
  ∃ S, Tab w' S g l ∧ (∀ k, S k → w.heap.size ≤ k) ∧ Below w.heap.size w w' ∧ (∀ k, S k → k ≠ b0) ∧ ∃ a0 a1 a2 a4 a5 a6, w'.heap[b0]? = some (.cells #[a0, a1, a2, v, a4, a5, a6] 62 (0, 0))
set_option maxHeartbeats 2000000 in
set_option maxRecDepth 100000 in
theorem deps_any (v : Int) (x0 : Int) (x1 : ByteArray) (x2 : Int) (A : Option Addr) (c : Nat) (l : List S113) (x4 x5 : Int) (x6 : ByteArray) (w : World) (hr : Kd.C k113 w A l.length l) (hc : l.length ≤ c) (hl : l.length ≤ 1000) (hz : ∀ d ∈ l, d.f0.size ≤ maxLen) (hx : x1.size ≤ maxLen) :
    Calls Try.prog 90 #[.int .i64 v, .agg #[.int .i64 x0, .string x1, .int .u64 x2, .slice A l.length c, .int .u64 x4, .int .u64 x5, .string x6]] w fun e w' => e = .returned (.bool (depsB v x1 l)) ∧ Below w.heap.size w w' := by
  have HR := Lib.hid hr
  have HZ := Lib.hid hz
  have HX := Lib.hid hx
  clear hr hz hx
  obtain ⟨vb, hvb⟩ : ∃ vb, decide (v < 3) = vb := ⟨_, rfl⟩
  have hC1 := C_block_str ((w.alloc (.cells #[.int .i64 x0, .string x1, .int .u64 x2, .slice A l.length c, .int .u64 x4, .int .u64 x5, .string x6] 62)).alloc (.cells #[.string x1] 9)) (w.heap.size + 1) 9 (0, 0) [x1] (by have := heap_new (w.alloc (.cells #[.int .i64 x0, .string x1, .int .u64 x2, .slice A l.length c, .int .u64 x4, .int .u64 x5, .string x6] 62)) (.cells #[.string x1] 9); rwa [heap_size_alloc] at this) (by simp)
  have HN := Lib.hid (new_any (some ⟨w.heap.size + 1, 0, none⟩) 1 [x1] _ hC1 (Nat.le_refl _) (by simp; exact HX.out) (by simp))
  have hb0 : Below w.heap.size w ((w.alloc (.cells #[.int .i64 x0, .string x1, .int .u64 x2, .slice A l.length c, .int .u64 x4, .int .u64 x5, .string x6] 62)).alloc (.cells #[.string x1] 9)) := ((Below.refl _ _).alloc (Nat.le_refl _) _).alloc (by simp) _
  have HB0 := Lib.hid hb0
  have hbx : ((w.alloc (.cells #[.int .i64 x0, .string x1, .int .u64 x2, .slice A l.length c, .int .u64 x4, .int .u64 x5, .string x6] 62)).alloc (.cells #[.string x1] 9)).heap[w.heap.size]? = _ := blk_alloc (heap_new w _) _
  have HBX := Lib.hid hbx
  obtain ⟨D, hD⟩ : ∃ D, depsOk v [x1] l = D := ⟨_, rfl⟩
  have hres : depsB v x1 l = (D && decide ((l.length : Int) ≤ 16)) := by unfold depsB; rw [hD]
  have HRES := Lib.hid hres
  have HVB := Lib.hid hvb
  have HD := Lib.hid hD
  clear hC1 hb0 hbx hres hD
  go_enter Try.func90, Try.ntmps90
  go_wp2_with fail
  generalize (w.alloc (.cells #[.int .i64 x0, .string x1, .int .u64 x2, .slice A l.length c, .int .u64 x4, .int .u64 x5, .string x6] 62)).alloc (.cells #[.string x1] 9) = w0 at *
  refine HN.out.mono ?_
  rintro e w1 ⟨rfl, hd⟩
  rw [show tnew [x1] = [x1] from tnew_self (by simp)] at hd
  generalize w0.heap.size = g at hd ⊢
  have hblt := (Array.getElem?_eq_some_iff.1 HBX.out).1
  obtain ⟨S, hT, hS, hB⟩ := hd
  have h1 : NewTab w w1 g [x1] := ⟨S, hT, fun k hk => Nat.le_trans HB0.out.size (hS k hk), HB0.out.trans (hB.mono HB0.out.size)⟩
  obtain ⟨b0, hb0⟩ : ∃ b0, b0 = w.heap.size := ⟨_, rfl⟩
  have hbk : w1.heap[b0]? = some (.cells #[.int .i64 x0, .string x1, .int .u64 x2, .slice A l.length c, .int .u64 x4, .int .u64 x5, .string x6] 62 (0, 0)) := by rw [hb0]; exact blk_below HBX.out hB
  have hc3 : w1.cell? ⟨b0, 3, none⟩ = some (.slice A l.length c) := (cell_of_blk hbk 3).trans rfl
  have hnS : ∀ k, S k → k ≠ b0 := fun k hk e => by have := hS k hk; omega
  have H1 := Lib.hid (show NewRec w w1 g [x1] b0 (.slice A l.length c) from ⟨S, hT, fun k hk => Nat.le_trans HB0.out.size (hS k hk), HB0.out.trans (hB.mono HB0.out.size), hnS, _, _, _, _, _, _, hbk⟩)
  rw [← hb0]
  clear hT hS hB h1 hbk hnS hblt HBX HB0 HN
  clear hb0
  go_wp2_with fail
  go_loopw [17] (fun u17 wr => ∃ (i : Nat) (met : List ByteArray), i ≤ l.length ∧ u17 = .int .i64 i ∧ met.length ≤ 1 + i ∧ Hid (NewRec w wr g met b0 (.slice A l.length c)) ∧ Hid (depsOk v met (l.drop i) = D)) (fun u _ => l.length - (intOf u).toNat)
  case atStart => exact ⟨0, [x1], by omega, rfl, by simp, H1, HD⟩
  case round =>
    obtain ⟨i, met, hi, rfl, hml, hrel, hdd⟩ := hrel
    by_cases hlt : i < l.length
    · obtain ⟨S, hT, hS, hB, hnS, a0, a1, a2, a4, a5, a6, hbk⟩ := hrel.out
      obtain ⟨ad, had, hcl0, hcl1, hcl2⟩ := at_T113 (Kd.C_below HR.out hB) (i : Int) (by omega) (by omega)
      subst had
      rw [Int.toNat_natCast, rd_dep l i hlt] at hcl0 hcl1 hcl2
      have hds := hdd.out
      rw [List.drop_eq_getElem_cons hlt] at hds
      have hsz := HZ.out l[i] (List.getElem_mem _)
      generalize l[i] = d at hcl0 hcl1 hcl2 hds hsz
      obtain ⟨d0, d1, d2⟩ := d
      simp only at hcl0 hcl1 hcl2 hsz
      simp only [depsOk] at hds
      rw [HVB.out] at hds
      have HDS := Lib.hid hds
      have hb1 := (Below.refl wr.heap.size wr).alloc (Nat.le_refl _) (.cells #[.string d0, .int .u64 d1, .bool d2] 113)
      have hT1 := hT.keep (Kp.of_below hb1 (fun _ => False)) (fun _ _ h => h)
      have hbd := heap_new wr (.cells #[.string d0, .int .u64 d1, .bool d2] 113)
      have hnd : ∀ k, S k → k ≠ wr.heap.size := fun k hk e => by have := hT.lt k hk; omega
      have hbk1 := blk_below hbk hb1
      have HID := Lib.hid (id_any hT1 d0 hsz (by omega))
      have HNM := Lib.hid (fun W => name_any d0 W (by simp only [maxLen] at hsz; omega))
      have HAll := Lib.hid (And.intro hT1 (And.intro hS (And.intro (hB.trans (hb1.mono hB.size)) (And.intro hnS (And.intro hnd (And.intro hbk1 hbd))))))
      obtain ⟨bd, hbd2⟩ : ∃ bd, bd = wr.heap.size := ⟨_, rfl⟩
      rw [← hbd2] at HAll
      have HBD := Lib.hid hbd2
      obtain ⟨p, hp⟩ : ∃ p, posOf met d0 = p := ⟨_, rfl⟩
      obtain ⟨nb, hnb⟩ : ∃ nb, nameB d0 = nb := ⟨_, rfl⟩
      obtain ⟨ib, hib⟩ : ∃ ib, isIn met d0 = ib := ⟨_, rfl⟩
      rw [hp, hib] at HID
      rw [hnb] at HNM
      rw [hnb, hib] at HDS
      have HIB := Lib.hid hib
      clear hds hsz hT hT1 hS hB hnS hnd hbk hbk1 hbd hb1 hbd2 hp hnb hib hdd hrel
      go_wp2_with fail
      rw [← HBD.out]
      generalize wr.alloc (.cells #[.string d0, .int .u64 d1, .bool d2] 113) = W at *
      refine HID.out.mono ?_
      rintro e w2 ⟨rfl, hd⟩
      obtain ⟨hT1, hS, hB, hnS, hnd, hbk1, hbd⟩ := HAll.out
      obtain ⟨S2, hT2, hS2, hK2⟩ := hd
      have hszW := (Array.getElem?_eq_some_iff.1 hbk1).1
      have hszD := (Array.getElem?_eq_some_iff.1 hbd).1
      have hbk2 := hK2.heap hbk1 (fun h => hnS _ h rfl)
      have hbd2 := hK2.heap hbd (fun h => hnd _ h rfl)
      have hN2 : NewRec w w2 g (tput met d0) b0 (.slice (some ad) l.length c) := ⟨S2, hT2, fun k hk => (hS2 k hk).elim (hS k) (fun h => Nat.le_trans hB.size h), ((Kp.of_below hB S).trans hK2 (fun k hk => .inl hk)).to_below hS, fun k hk e => (hS2 k hk).elim (fun h => hnS k h e) (fun h => by omega), _, _, _, _, _, _, hbk2⟩
      have HN2 := Lib.hid hN2
      have hbe := HN2.out.choose_spec.2.2.1
      have hcd0 : w2.cell? ⟨bd, 0, none⟩ = some (.string d0) := (cell_of_blk hbd2 0).trans rfl
      have hcd2 : w2.cell? ⟨bd, 2, none⟩ = some (.bool d2) := (cell_of_blk hbd2 2).trans rfl
      have hc23 : w2.cell? ⟨b0, 3, none⟩ = some (.slice (some ad) l.length c) := (cell_of_blk hbk2 3).trans rfl
      have HBE := Lib.hid hbe
      clear hT1 hS hB hnS hnd hbk1 hbd hT2 hS2 hK2 hbk2 hbd2 hN2 hbe HAll HID
      have hvv : decide (v < 3) = vb := HVB.out
      cases nb with
      | false =>
        go_wp2_with fail
        refine (HNM.out _).mono ?_
        rintro e w3 ⟨rfl, rfl⟩
        go_wp2_with fail
        go_ret
        have h := HDS.out
        exact ⟨by rw [HRES.out, ← h]; rfl, HBE.out⟩
      | true =>
        cases ib with
        | true =>
          go_wp2_with fail
          refine (HNM.out _).mono ?_
          rintro e w3 ⟨rfl, rfl⟩
          go_wp2_with fail
          go_ret
          have h := HDS.out
          exact ⟨by rw [HRES.out, ← h]; rfl, HBE.out⟩
        | false =>
          cases d2 with
          | false =>
            go_wp2_with fail
            refine (HNM.out _).mono ?_
            rintro e w3 ⟨rfl, rfl⟩
            go_wp2
            go_roundw
            case rel =>
              rw [tput_out (isIn_ne.1 HIB.out)] at HN2
              exact ⟨i + 1, met ++ [d0], by omega, by go_num, by simp; omega, HN2, Lib.hid HDS.out⟩
            case measure => simp [intOf]; omega
          | true =>
            cases vb with
            | true =>
              go_wp2_with fail
              refine (HNM.out _).mono ?_
              rintro e w3 ⟨rfl, rfl⟩
              go_wp2_with fail
              go_ret
              have h := HDS.out
              exact ⟨by rw [HRES.out, ← h]; rfl, HBE.out⟩
            | false =>
              go_wp2_with fail
              refine (HNM.out _).mono ?_
              rintro e w3 ⟨rfl, rfl⟩
              go_wp2
              go_roundw
              case rel =>
                rw [tput_out (isIn_ne.1 HIB.out)] at HN2
                exact ⟨i + 1, met ++ [d0], by omega, by go_num, by simp; omega, HN2, Lib.hid HDS.out⟩
              case measure => simp [intOf]; omega
    · obtain rfl : i = l.length := by omega
      have hds := hdd.out
      rw [List.drop_of_length_le (Nat.le_refl _)] at hds
      obtain ⟨S, hT, hS, hB, hnS, a0, a1, a2, a4, a5, a6, hbk⟩ := hrel.out
      have hc23 : wr.cell? ⟨b0, 3, none⟩ = some (.slice A l.length c) := (cell_of_blk hbk 3).trans rfl
      have HDS := Lib.hid hds
      have HB := Lib.hid hB
      clear hds hT hS hB hnS hbk hrel hdd
      go_wp2_with fail
      go_ret
      exact ⟨by rw [HRES.out, ← HDS.out]; simp [depsOk], HB.out⟩
def record_deps.f (a0 : Int) (a1_0 : Int) (a1_1 : ByteArray) (a1_2 : Int) (l1_3 : List S113) (a1_4 : Int) (a1_5 : Int) (a1_6 : ByteArray) : Option Bool :=
  if l1_3.length ≤ 1000 ∧ (∀ d ∈ l1_3, d.f0.size ≤ maxLen) ∧ a1_1.size ≤ maxLen then some (depsB a0 a1_1 l1_3) else none
theorem record_deps.calls (a0 : Int) (a1_0 : Int) (a1_1 : ByteArray) (a1_2 : Int) (A1_3 : Option Addr) (c1_3 : Nat) (l1_3 : List S113) (a1_4 : Int) (a1_5 : Int) (a1_6 : ByteArray) (r : Bool) (w : World) (hr1_3 : Kd.C k113 w A1_3 l1_3.length l1_3) (hc1_3 : l1_3.length ≤ c1_3) (h : record_deps.f a0 a1_0 a1_1 a1_2 l1_3 a1_4 a1_5 a1_6 = some r) :
    Calls Try.prog 90 #[.int .i64 a0, .agg #[.int .i64 a1_0, .string a1_1, .int .u64 a1_2, .slice A1_3 l1_3.length c1_3, .int .u64 a1_4, .int .u64 a1_5, .string a1_6]] w fun e w' => e = .returned (.bool r) ∧ Below w.heap.size w w' := by
  unfold record_deps.f at h
  split at h
  · rename_i hh
    cases h; exact deps_any a0 a1_0 a1_1 a1_2 A1_3 c1_3 l1_3 a1_4 a1_5 a1_6 w hr1_3 hc1_3 hh.1 hh.2.1 hh.2.2
  · cases h
end Go.Proofs.Ytfflenbfapgilaa
/- What record.Names makes. -/
namespace Go.Proofs.Ytfflenbfapgilaa
open Go.RowKit Go.Proofs.YtfflenbfapgilaaW.PrintWords Go.Proofs.Ytfflenbfapgilaa.GRR

/-- A block of the call's own that holds just these texts is an own row. -/
theorem R_block_str (W : World) (base b : Nat) (e : TypeId) (xs : List ByteArray) (ok : Nat → Prop) (h : W.heap[b]? = some (.cells (xs.map Value.string).toArray e (0, 0))) (hb : base ≤ b) (hx : xs.length ≤ maxLen) (hok : ok b) :
    Kd.R Kd.string e W base ok (.slice (some ⟨b, 0, none⟩) xs.length xs.length) xs := by
  refine ⟨fun k hk => ?_, xs.map Value.string, ⟨by simp [Kd.string, Kd.scalar], .inr ⟨b, xs.length, _, rfl, hb, h, Nat.le_refl _, hx, by simp [Kd.string, Kd.scalar], ?_⟩⟩, ?_⟩
  · simp only [Value.ownBlock, Option.some.injEq] at hk; exact hk ▸ hok
  · show List.take (xs.length * 1) _ = _
    rw [Nat.mul_one]; exact List.take_of_length_le (by simp)
  · refine ⟨by simp [Kd.string, Kd.scalar], fun j p hj => ?_⟩
    show _ = [Value.string p]
    rw [show Kd.string.sz = 1 from rfl, Nat.mul_one]
    apply List.ext_getElem?
    intro i
    rw [List.getElem?_take, List.getElem?_drop, List.getElem?_map]
    match i with
    | 0 => simp [hj]
    | i + 1 => simp
/-- A row of texts of one's own, beside a record's box. -/
structure NamesRel (w wr : World) (b0 : Nat) (vs : Array Value) (v : Value) (xs : List ByteArray) : Prop where
  row : Kd.R Kd.string 9 wr w.heap.size (fun k => k ≠ b0) v xs
  below : Below w.heap.size w wr
  box : wr.heap[b0]? = some (.cells vs 62 (0, 0))
def namesL (x1 : ByteArray) (l : List S113) (x6 : ByteArray) : List ByteArray := x1 :: l.map (·.f0) ++ (if x6.toList = [] then [] else [x6])
set_option maxHeartbeats 1500000 in
set_option maxRecDepth 100000 in
theorem names_any (x0 : Int) (x1 : ByteArray) (x2 : Int) (A : Option Addr) (c : Nat) (l : List S113) (x4 x5 : Int) (x6 : ByteArray) (w : World) (hr : Kd.C k113 w A l.length l) (hc : l.length ≤ c) (hl : l.length ≤ 1000) (hz : ∀ d ∈ l, d.f0.size ≤ maxLen) (hx : x1.size ≤ maxLen) (hx6 : x6.size ≤ maxLen) :
    Calls Try.prog 63 #[.agg #[.int .i64 x0, .string x1, .int .u64 x2, .slice A l.length c, .int .u64 x4, .int .u64 x5, .string x6]] w fun e w' => ∃ v : Value, e = .returned v ∧ Kd.R Kd.string 9 w' w.heap.size (fun _ => True) v (tnew (namesL x1 l x6)) ∧ Below w.heap.size w w' := by
  have HR := Lib.hid hr
  have HZ := Lib.hid hz
  have HX := Lib.hid hx
  have HX6 := Lib.hid hx6
  clear hr hz hx hx6
  obtain ⟨w0, hw0⟩ : ∃ w0, (w.alloc (.cells #[.int .i64 x0, .string x1, .int .u64 x2, .slice A l.length c, .int .u64 x4, .int .u64 x5, .string x6] 62)).alloc (.cells #[.string x1] 9) = w0 := ⟨_, rfl⟩
  have h0 : NamesRel w w0 w.heap.size #[.int .i64 x0, .string x1, .int .u64 x2, .slice A l.length c, .int .u64 x4, .int .u64 x5, .string x6] (.slice (some ⟨w.heap.size + 1, 0, none⟩) 1 1) [x1] := by
    rw [← hw0]
    refine ⟨R_block_str _ _ _ _ [x1] _ (by have := heap_new (w.alloc (.cells #[.int .i64 x0, .string x1, .int .u64 x2, .slice A l.length c, .int .u64 x4, .int .u64 x5, .string x6] 62)) (.cells #[.string x1] 9); rwa [heap_size_alloc] at this) (by omega) (by simp [maxLen]) (by omega), ((Below.refl _ _).alloc (Nat.le_refl _) _).alloc (by simp) _, blk_alloc (heap_new w _) _⟩
  have H0 := Lib.hid h0
  have HW0 := Lib.hid hw0
  clear h0 hw0
  obtain ⟨b0, hb0⟩ : ∃ b0, b0 = w.heap.size := ⟨_, rfl⟩
  rw [← hb0] at H0
  have HB0 := Lib.hid hb0
  clear hb0
  go_enter Try.func63, Try.ntmps63
  go_wp2_with fail
  rw [HW0.out, ← HB0.out]
  obtain ⟨vs, hvs⟩ : ∃ vs : Array Value, #[.int .i64 x0, .string x1, .int .u64 x2, .slice A l.length c, .int .u64 x4, .int .u64 x5, .string x6] = vs := ⟨_, rfl⟩
  rw [hvs] at H0
  have HVS := Lib.hid hvs
  clear HW0 hvs
  go_loopw [3, 17] (fun u3 u17 wr => ∃ (i : Nat), i ≤ l.length ∧ u17 = .int .i64 i ∧ Hid (NamesRel w wr b0 vs u3 (x1 :: (l.take i).map (·.f0)))) (fun _ u _ => l.length - (intOf u).toNat)
  case atStart => exact ⟨0, by omega, rfl, H0⟩
  case round =>
    clear H0
    obtain ⟨i, hi, rfl, hrel⟩ := hrel
    by_cases hlt : i < l.length
    · obtain ⟨hrow, hB, hbox⟩ := hrel.out
      obtain ⟨ad, had, hcl0, hcl1, hcl2⟩ := at_T113 (Kd.C_below HR.out hB) (i : Int) (by omega) (by omega)
      subst had
      rw [Int.toNat_natCast, rd_dep l i hlt] at hcl0 hcl1 hcl2
      have hst : x1 :: (l.take (i + 1)).map (·.f0) = (x1 :: (l.take i).map (·.f0)) ++ [l[i].f0] := by
        rw [List.take_succ_eq_append_getElem hlt, List.map_append]; rfl
      have hln : (x1 :: (l.take i).map (·.f0)).length ≤ 1 + i := by simp; omega
      generalize l[i] = d at hcl0 hcl1 hcl2 hst
      obtain ⟨d0, d1, d2⟩ := d
      simp only at hcl0 hcl1 hcl2 hst
      obtain ⟨A3, c3, rfl⟩ := Kd.R_slice hrow
      generalize (x1 :: (l.take i).map (·.f0)) = xs at *
      have hb1 := (Below.refl wr.heap.size wr).alloc (Nat.le_refl _) (.cells #[.string d0, .int .u64 d1, .bool d2] 113)
      have hbs := (Array.getElem?_eq_some_iff.1 hbox).1
      have HROW := Lib.hid (Kd.R_below hrow hb1)
      have HBOX := Lib.hid (blk_below hbox hb1)
      have HBL := Lib.hid (hB.trans (hb1.mono hB.size))
      have HST := Lib.hid hst
      clear hrow hB hbox hst hrel hb1
      have hws := HBL.out.size
      have hwr := heap_size_alloc wr (.cells #[.string d0, .int .u64 d1, .bool d2] 113)
      have HWR := Lib.hid hwr
      clear hwr
      go_wp2_with (at_builtin; refine Halt.mk ?_)
      refine Halt.of ?_
      rw [← HWR.out]
      have hwr2 : wr.heap.size ≤ (wr.alloc (.cells #[.string d0, .int .u64 d1, .bool d2] 113)).heap.size := by rw [HWR.out]; omega
      clear HWR
      generalize wr.alloc (.cells #[.string d0, .int .u64 d1, .bool d2] 113) = W at *
      refine Kd.R_append Kd.string (w0 := w) w.heap.size rfl (.tmp 21) (.tmp 24) 45 9 (.string ⟨#[]⟩) 16 rfl Try.underlying45 info_str rfl (by decide) (by decide) _ xs d0 [.string d0] _ (fun _ => False) rfl rfl rfl (fun _ h => h.elim) (fun k hk => by omega) HROW.out HBL.out hws (by omega) ?_
      intro v1 w1 hr1 hb2 hg1 _
      have hb3 : w1.heap[b0]? = _ := (hg1.block b0 (by omega) (fun e => HROW.out.1 b0 e.symm rfl)).trans HBOX.out
      have HN := Lib.hid (show NamesRel w w1 b0 vs v1 (xs ++ [d0]) from ⟨hr1, hb2, hb3⟩)
      clear hr1 hb2 hg1 hb3 HROW HBOX HBL
      go_wp2
      go_roundw
      case rel => exact ⟨i + 1, by omega, by go_num, by rw [HST.out]; exact HN⟩
      case measure => simp [intOf]; omega
    · obtain rfl : i = l.length := by omega
      rw [List.take_of_length_le (Nat.le_refl _)] at hrel
      obtain ⟨hrow, hB, hbox⟩ := hrel.out
      have hbs := (Array.getElem?_eq_some_iff.1 hbox).1
      obtain ⟨A3, c3, hv3⟩ := Kd.R_slice hrow
      subst hv3
      rw [← HVS.out] at hbox
      have hcb : wr.cell? ⟨b0, 6, none⟩ = some (.string x6) := (cell_of_blk hbox 6).trans rfl
      have hln : (x1 :: l.map (·.f0)).length ≤ 1 + l.length := by simp; omega
      have hwide : ∀ s ∈ namesL x1 l x6, s.size ≤ maxLen := by
        intro s hs
        simp only [namesL, List.cons_append, List.mem_cons, List.mem_append, List.mem_map] at hs
        rcases hs with rfl | ⟨d, hd, rfl⟩ | hs
        · exact HX.out
        · exact HZ.out d hd
        · split at hs
          · simp at hs
          · simp at hs; rw [hs]; exact HX6.out
      have hlen : (namesL x1 l x6).length ≤ 2 + l.length := by
        unfold namesL
        split <;> simp <;> omega
      have HWIDE := Lib.hid hwide
      have HLEN := Lib.hid hlen
      by_cases h6 : x6.toList = []
      · have b6 : x6.toList.isEmpty = true := by rw [h6]; rfl
        have hnm : namesL x1 l x6 = x1 :: l.map (·.f0) := by unfold namesL; rw [if_pos h6]; simp
        rw [← hnm] at hrow hln hrel
        have hrd := Kd.R_reads' hrow
        have HNEW := Lib.hid (new_any A3 c3 (namesL x1 l x6) wr hrd.2.2 hrd.2.1 hwide (by omega))
        have HB := Lib.hid hB
        rw [← hnm]
        clear hrow hB hbox hrel hwide hlen hrd hnm
        generalize hNM : namesL x1 l x6 = nm at *
        have HNMM := Lib.hid hNM
        clear hNM
        go_wp2_with fail
        refine HNEW.out.mono ?_
        rintro e w2 ⟨rfl, hd⟩
        obtain ⟨S, hT, hS, hB2⟩ := hd
        have hB3 := HB.out.trans (hB2.mono HB.out.size)
        have hS' : ∀ k, S k → w.heap.size ≤ k := fun k hk => Nat.le_trans HB.out.size (hS k hk)
        clear hS hB2 HB HNEW
        generalize wr.heap.size = g at *
        have htl := tnew_len nm
        have hlen2 := HLEN.out
        have hT0 := hT.len
        have HLN := Lib.hid (len_any hT)
        have HS := Lib.hid hS'
        have HPL := Lib.hid (And.intro hT hB3)
        clear hT hS' hB3 HWIDE
        generalize hLL : tnew nm = L at *
        have HLL := Lib.hid hLL
        clear hLL
        go_wp2_with fail
        refine HLN.out.mono ?_
        rintro e w3 ⟨rfl, rfl⟩
        clear HLN
        go_wp2_with fail
        go_loopw [7, 39] (fun u7 u39 wq => ∃ (i : Nat), i ≤ L.length ∧ u39 = .int .i64 i ∧ Hid (Tab wq S g L ∧ Below w.heap.size w wq) ∧ Hid (Kd.R Kd.string 9 wq w.heap.size (fun k => ¬ S k) u7 (L.take i))) (fun _ u _ => L.length - (intOf u).toNat)
        case atStart => exact ⟨0, by omega, rfl, HPL, Lib.hid (by rw [List.take_zero]; exact Kd.R_nil _ _ _ _ _)⟩
        case round =>
          clear HPL
          obtain ⟨j, hj, rfl, hpl, hrow⟩ := hrel
          by_cases hjt : j < L.length
          · have HTX := Lib.hid (text_in hpl.out.1 j hjt)
            have HST := Lib.hid (show L.take (j + 1) = L.take j ++ [L[j]] from List.take_succ_eq_append_getElem hjt)
            have hjl : (L.take j).length ≤ j := by rw [List.length_take]; omega
            have hr0 := hrow.out
            obtain ⟨A7, c7, hv7⟩ := Kd.R_slice hr0
            subst hv7
            have HROW := Lib.hid hr0
            have HLT := Lib.hid hpl.out.1.lt
            have HBL := Lib.hid hpl.out.2
            have HTT := Lib.hid hpl.out.1
            clear hr0 hrow hpl
            generalize L[j] = s at *
            generalize L.take j = xs at *
            go_wp2_with fail
            refine HTX.out.mono ?_
            rintro e w4 ⟨rfl, rfl⟩
            clear HTX
            go_wp2_with (at_builtin; refine Halt.mk ?_)
            refine Halt.of ?_
            refine Kd.R_append Kd.string (w0 := w) w.heap.size rfl (.tmp 49) (.tmp 51) 45 9 (.string ⟨#[]⟩) 16 rfl Try.underlying45 info_str rfl (by decide) (by decide) _ xs s [.string s] _ (fun _ => False) rfl rfl rfl (fun _ h => h.elim) (fun k hk hs => by have := HLT.out k hs; omega) HROW.out HBL.out HBL.out.size (by omega) ?_
            intro v1 w1 hr1 hb2 hg1 _
            have hT2 := HTT.out.keep (S2 := fun k => ¬ S k) ⟨hg1.os, hg1.tape, hg1.output, hg1.size, fun k hk hn => hg1.block k hk (fun e => hn (HROW.out.1 k e.symm))⟩ (fun k h h' => h' h)
            have HP := Lib.hid (And.intro hT2 hb2)
            have HR1 := Lib.hid hr1
            clear hr1 hb2 hg1 hT2 HROW HBL HTT
            go_wp2
            go_roundw
            case rel => exact ⟨j + 1, by omega, by go_num, HP, by rw [HST.out]; exact HR1⟩
            case measure => simp [intOf]; omega
          · obtain rfl : j = L.length := by omega
            rw [List.take_of_length_le (Nat.le_refl _)] at hrow
            go_wp2_with fail
            go_ret
            exact ⟨u7, rfl, by rw [HNMM.out, HLL.out]; exact Kd.R_mono hrow.out (fun _ _ => trivial), hpl.out.2⟩
      · have b6 : x6.toList.isEmpty = false := by
          cases hh : x6.toList with
          | nil => exact absurd hh h6
          | cons a b => rfl
        have hnm : namesL x1 l x6 = (x1 :: l.map (·.f0)) ++ [x6] := by unfold namesL; rw [if_neg h6]
        generalize (x1 :: l.map (·.f0)) = xs at *
        have HROW := Lib.hid hrow
        have HBL := Lib.hid hB
        have HNM := Lib.hid hnm
        clear hrow hB hbox hrel hwide hlen hnm
        go_wp2_with (at_builtin; refine Halt.mk ?_)
        refine Halt.of ?_
        refine Kd.R_append Kd.string (w0 := w) w.heap.size rfl (.tmp 30) (.tmp 33) 45 9 (.string ⟨#[]⟩) 16 rfl Try.underlying45 info_str rfl (by decide) (by decide) _ xs x6 [.string x6] _ (fun _ => False) rfl rfl rfl (fun _ h => h.elim) (fun k hk => by omega) HROW.out HBL.out HBL.out.size (by omega) ?_
        clear HROW HBL
        intro v1 wr hr1 hb2 _ _
        rw [← HNM.out] at hr1
        obtain ⟨A4, c4, hv4⟩ := Kd.R_slice hr1
        subst hv4
        have hrd := Kd.R_reads' hr1
        have hlen3 := HLEN.out
        have HNEW := Lib.hid (new_any A4 c4 (namesL x1 l x6) wr hrd.2.2 hrd.2.1 HWIDE.out (by omega))
        have HB := Lib.hid hb2
        clear hr1 hb2 hrd HNM
        generalize hNM : namesL x1 l x6 = nm at *
        have HNMM := Lib.hid hNM
        clear hNM
        go_wp2_with fail
        refine HNEW.out.mono ?_
        rintro e w2 ⟨rfl, hd⟩
        obtain ⟨S, hT, hS, hB2⟩ := hd
        have hB3 := HB.out.trans (hB2.mono HB.out.size)
        have hS' : ∀ k, S k → w.heap.size ≤ k := fun k hk => Nat.le_trans HB.out.size (hS k hk)
        clear hS hB2 HB HNEW
        generalize wr.heap.size = g at *
        have htl := tnew_len nm
        have hlen2 := HLEN.out
        have hT0 := hT.len
        have HLN := Lib.hid (len_any hT)
        have HS := Lib.hid hS'
        have HPL := Lib.hid (And.intro hT hB3)
        clear hT hS' hB3 HWIDE
        generalize hLL : tnew nm = L at *
        have HLL := Lib.hid hLL
        clear hLL
        go_wp2_with fail
        refine HLN.out.mono ?_
        rintro e w3 ⟨rfl, rfl⟩
        clear HLN
        go_wp2_with fail
        go_loopw [7, 39] (fun u7 u39 wq => ∃ (i : Nat), i ≤ L.length ∧ u39 = .int .i64 i ∧ Hid (Tab wq S g L ∧ Below w.heap.size w wq) ∧ Hid (Kd.R Kd.string 9 wq w.heap.size (fun k => ¬ S k) u7 (L.take i))) (fun _ u _ => L.length - (intOf u).toNat)
        case atStart => exact ⟨0, by omega, rfl, HPL, Lib.hid (by rw [List.take_zero]; exact Kd.R_nil _ _ _ _ _)⟩
        case round =>
          clear HPL
          obtain ⟨j, hj, rfl, hpl, hrow⟩ := hrel
          by_cases hjt : j < L.length
          · have HTX := Lib.hid (text_in hpl.out.1 j hjt)
            have HST := Lib.hid (show L.take (j + 1) = L.take j ++ [L[j]] from List.take_succ_eq_append_getElem hjt)
            have hjl : (L.take j).length ≤ j := by rw [List.length_take]; omega
            have hr0 := hrow.out
            obtain ⟨A7, c7, hv7⟩ := Kd.R_slice hr0
            subst hv7
            have HROW := Lib.hid hr0
            have HLT := Lib.hid hpl.out.1.lt
            have HBL := Lib.hid hpl.out.2
            have HTT := Lib.hid hpl.out.1
            clear hr0 hrow hpl
            generalize L[j] = s at *
            generalize L.take j = xs at *
            go_wp2_with fail
            refine HTX.out.mono ?_
            rintro e w4 ⟨rfl, rfl⟩
            clear HTX
            go_wp2_with (at_builtin; refine Halt.mk ?_)
            refine Halt.of ?_
            refine Kd.R_append Kd.string (w0 := w) w.heap.size rfl (.tmp 49) (.tmp 51) 45 9 (.string ⟨#[]⟩) 16 rfl Try.underlying45 info_str rfl (by decide) (by decide) _ xs s [.string s] _ (fun _ => False) rfl rfl rfl (fun _ h => h.elim) (fun k hk hs => by have := HLT.out k hs; omega) HROW.out HBL.out HBL.out.size (by omega) ?_
            intro v1 w1 hr1 hb2 hg1 _
            have hT2 := HTT.out.keep (S2 := fun k => ¬ S k) ⟨hg1.os, hg1.tape, hg1.output, hg1.size, fun k hk hn => hg1.block k hk (fun e => hn (HROW.out.1 k e.symm))⟩ (fun k h h' => h' h)
            have HP := Lib.hid (And.intro hT2 hb2)
            have HR1 := Lib.hid hr1
            clear hr1 hb2 hg1 hT2 HROW HBL HTT
            go_wp2
            go_roundw
            case rel => exact ⟨j + 1, by omega, by go_num, HP, by rw [HST.out]; exact HR1⟩
            case measure => simp [intOf]; omega
          · obtain rfl : j = L.length := by omega
            rw [List.take_of_length_le (Nat.le_refl _)] at hrow
            go_wp2_with fail
            go_ret
            exact ⟨u7, rfl, by rw [HNMM.out, HLL.out]; exact Kd.R_mono hrow.out (fun _ _ => trivial), hpl.out.2⟩
def record_Names.f (a0_0 : Int) (a0_1 : ByteArray) (a0_2 : Int) (l0_3 : List S113) (a0_4 : Int) (a0_5 : Int) (a0_6 : ByteArray) : Option (List ByteArray) :=
  if l0_3.length ≤ 1000 ∧ (∀ d ∈ l0_3, d.f0.size ≤ maxLen) ∧ a0_1.size ≤ maxLen ∧ a0_6.size ≤ maxLen then some (tnew (namesL a0_1 l0_3 a0_6)) else none
theorem record_Names.calls (a0_0 : Int) (a0_1 : ByteArray) (a0_2 : Int) (A0_3 : Option Addr) (c0_3 : Nat) (l0_3 : List S113) (a0_4 : Int) (a0_5 : Int) (a0_6 : ByteArray) (r : List ByteArray) (w : World) (hr0_3 : Kd.C k113 w A0_3 l0_3.length l0_3) (hc0_3 : l0_3.length ≤ c0_3) (h : record_Names.f a0_0 a0_1 a0_2 l0_3 a0_4 a0_5 a0_6 = some r) :
    Calls Try.prog 63 #[.agg #[.int .i64 a0_0, .string a0_1, .int .u64 a0_2, .slice A0_3 l0_3.length c0_3, .int .u64 a0_4, .int .u64 a0_5, .string a0_6]] w fun e w' => ∃ v0_ : Value, e = .returned (v0_) ∧ Kd.R Kd.string 9 w' w.heap.size (fun _ => True) v0_ r ∧ Below w.heap.size w w' := by
  unfold record_Names.f at h
  split at h
  · rename_i hh
    cases h; exact names_any a0_0 a0_1 a0_2 A0_3 c0_3 l0_3 a0_4 a0_5 a0_6 w hr0_3 hc0_3 hh.1 hh.2.1 hh.2.2.1 hh.2.2.2
  · cases h
end Go.Proofs.Ytfflenbfapgilaa
/- What record.May and the document's May answer: one function of numbers and lists. -/
namespace Go.Proofs.Ytfflenbfapgilaa
open Go.RowKit Go.Proofs.YtfflenbfapgilaaW.PrintWords Go.Proofs.Ytfflenbfapgilaa.GRR

theorem tl_eq {s t : ByteArray} : s.toList = t.toList ↔ s = t := by
  rw [Lib.toList_data, Lib.toList_data]
  exact ⟨fun h => ByteArray.ext (Array.ext' h), fun h => by rw [h]⟩
theorem tl_nil {s : ByteArray} : s.toList = ([] : List UInt8) ↔ s.size = 0 := by
  rw [Lib.toList_data]
  constructor
  · intro h
    have := congrArg List.length h
    rw [Array.length_toList] at this
    exact this
  · intro h
    exact List.eq_nil_of_length_eq_zero (by rw [Array.length_toList]; exact h)
theorem rname_is (s : ByteArray) : tephraref08_Name.f s = some (nameB s) := by
  unfold tephraref08_Name.f nameB
  split
  · rename_i h
    rw [tl_nil] at h
    congr 1; symm; rw [decide_eq_false_iff_not]; omega
  · rename_i h
    rw [tl_nil] at h
    congr 1; rw [Bool.eq_iff_iff, decide_eq_true_eq, decide_eq_true_eq]; omega
/-- may a record be at a version -/
def mayB (v k : Int) (t : ByteArray) (rule : Int) (deps : List S113) (out when : Int) (tag : ByteArray) : Bool :=
  decide (1 ≤ v ∧ v ≤ 3) && nameB t &&
    (if k = 1 then !(decide (v < 2) && decide (when ≠ 0) || decide (v < 3) && decide (tag.size ≠ 0)) && decide (tag.size ≤ 64) && depsB v t deps
     else decide (k = 2) && decide (rule = 0) && decide (deps.length = 0) && decide (out = 0) && decide (when = 0) && decide (tag.size = 0))
/-- These are no greater than what is gone through. -/
structure RecOk (t : ByteArray) (deps : List S113) (tag : ByteArray) : Prop where
  n : deps.length ≤ 1000
  t : t.size ≤ maxLen
  tag : tag.size ≤ maxLen
  d : ∀ d ∈ deps, d.f0.size ≤ maxLen
theorem deps_f {v k : Int} {t : ByteArray} {rule : Int} {deps : List S113} {out when : Int} {tag : ByteArray} (h : RecOk t deps tag) : record_deps.f v k t rule deps out when tag = some (depsB v t deps) := by
  unfold record_deps.f
  rw [if_pos ⟨h.n, h.d, h.t⟩]
theorem wr1 (i n : Nat) (h : i < n) (hn : n ≤ 9223372036854775807) : wrap64 ((i : Int) + 1) = ((i + 1 : Nat) : Int) := by unfold wrap64; omega
theorem names_take {l : List S113} {i : Nat} (h : i < l.length) : (l.take (i + 1)).map (·.f0) = (l.take i).map (·.f0) ++ [l[i].f0] := by
  rw [List.take_succ_eq_append_getElem h, List.map_append]; rfl
section
variable (v k0 : Int) (t : ByteArray) (rule : Int) (l : List S113) (out when : Int) (tag : ByteArray)
/-- the inner loop: has any dep ahead this name? -/
theorem rmay_l1 (hl : l.length ≤ 1000) (i : Nat) (hi : i < l.length) (d0 : ByteArray) (d1 : Int) (d2 : Bool) : ∀ (e j k : Nat), i = j + e → e < k →
    ∃ k', k ≤ k' + e + 1 ∧ tephraref08_May.l1 k v (i : Int) (j : Int) k0 t rule l out when tag d0 d1 d2 = if isIn (((l.take i).drop j).map (·.f0)) d0 then some false else tephraref08_May.l0 k' v ((i + 1 : Nat) : Int) k0 t rule l out when tag := by
  intro e
  induction e with
  | zero =>
    intro j k hij hk
    obtain ⟨k, rfl⟩ : ∃ m, k = m + 1 := ⟨k - 1, by omega⟩
    refine ⟨k, by omega, ?_⟩
    simp only [tephraref08_May.l1]
    rw [if_neg (by omega), wr1 i l.length hi (by omega), List.drop_of_length_le (by rw [List.length_take]; omega)]
    rfl
  | succ e ih =>
    intro j k hij hk
    obtain ⟨k, rfl⟩ : ∃ m, k = m + 1 := ⟨k - 1, by omega⟩
    have hj : j < l.length := by omega
    have hcut : ((l.take i).drop j).map (·.f0) = l[j].f0 :: ((l.take i).drop (j + 1)).map (·.f0) := by
      rw [List.drop_eq_getElem_cons (by rw [List.length_take]; omega), List.map_cons]
      simp
    rw [hcut]
    simp only [tephraref08_May.l1]
    rw [if_pos (by omega), if_pos (by omega), if_pos (by omega), rd_dep l j hj, wr1 j l.length hj (by omega)]
    by_cases heq : l[j].f0 = d0
    · refine ⟨k, by omega, ?_⟩
      rw [if_pos (tl_eq.2 heq), heq, if_pos (isIn_iff.2 (by simp))]
    · rw [if_neg (fun h => heq (tl_eq.1 h))]
      obtain ⟨k', h1, h2⟩ := ih (j + 1) k (by omega) (by omega)
      refine ⟨k', by omega, ?_⟩
      rw [h2]
      have e1 : isIn (l[j].f0 :: ((l.take i).drop (j + 1)).map (·.f0)) d0 = isIn (((l.take i).drop (j + 1)).map (·.f0)) d0 := by
        rw [Bool.eq_iff_iff, isIn_iff, isIn_iff, List.mem_cons]
        exact ⟨fun h => h.elim (fun h => absurd h.symm heq) id, .inr⟩
      rw [e1]
theorem rmay_l0 (hl : l.length ≤ 1000) : ∀ (d i k : Nat), l.length = i + d → (d + 1) * (l.length + 5) ≤ k →
    tephraref08_May.l0 k v (i : Int) k0 t rule l out when tag = some (depsOk v (t :: (l.take i).map (·.f0)) (l.drop i)) := by
  intro d
  induction d with
  | zero =>
    intro i k hi hk
    obtain ⟨k, rfl⟩ : ∃ m, k = m + 1 := ⟨k - 1, by omega⟩
    simp only [tephraref08_May.l0]
    rw [if_neg (by omega), List.drop_of_length_le (by omega)]
    rfl
  | succ d ih =>
    intro i k hi hk
    have hk2 : (d + 1) * (l.length + 5) + (l.length + 5) ≤ k := by rw [← Nat.succ_mul]; exact hk
    obtain ⟨k, rfl⟩ : ∃ m, k = m + 1 := ⟨k - 1, by omega⟩
    obtain ⟨k, rfl⟩ : ∃ m, k = m + 1 := ⟨k - 1, by omega⟩
    have hlt : i < l.length := by omega
    rw [List.drop_eq_getElem_cons hlt]
    have ih' := fun kk hkk => ih (i + 1) kk (by omega) hkk
    rw [names_take hlt] at ih'
    generalize hx : l[i] = x at *
    obtain ⟨d0, d1, d2⟩ := x
    have hrd : rd_T113 l (i : Int) = ⟨d0, d1, d2⟩ := by rw [rd_dep l i hlt, hx]
    simp only [tephraref08_May.l0, tephraref08_May.j4, depsOk]
    rw [if_pos (by omega), if_pos (by omega), hrd]
    simp only [rname_is, Option.bind_some]
    by_cases hn : nameB d0 = true
    · rw [if_pos hn, hn]
      by_cases ht : d0 = t
      · rw [if_pos (tl_eq.2 ht), ht]
        have : isIn (t :: (l.take i).map (·.f0)) t = true := isIn_iff.2 (by simp)
        rw [this]
        simp
      · rw [if_neg (fun h => ht (tl_eq.1 h))]
        have hin : isIn (t :: (l.take i).map (·.f0)) d0 = isIn ((l.take i).map (·.f0)) d0 := by
          rw [Bool.eq_iff_iff, isIn_iff, isIn_iff, List.mem_cons]
          exact ⟨fun h => h.elim (fun h => absurd h ht) id, .inr⟩
        rw [hin]
        have hcont : ∀ (b : Bool), b = false → (if b = true then some false else tephraref08_May.l1 k v (i : Int) 0 k0 t rule l out when tag d0 d1 d2) = some (true && !isIn ((l.take i).map (·.f0)) d0 && !b && depsOk v (t :: (l.take i).map (·.f0) ++ [d0]) (l.drop (i + 1))) := by
          intro b hb
          subst hb
          obtain ⟨k', h1, h2⟩ := rmay_l1 v k0 t rule l out when tag hl i hlt d0 d1 d2 i 0 k (by omega) (by omega)
          rw [if_neg (by simp)]
          have h2' := h2
          rw [show ((0 : Nat) : Int) = 0 from rfl, List.drop_zero] at h2'
          rw [h2']
          cases hi2 : isIn ((l.take i).map (·.f0)) d0 with
          | true => simp
          | false =>
            rw [if_neg (by simp), ih' k' (by omega)]
            simp
        cases d2 with
        | true =>
          rw [if_pos rfl]
          cases hv : decide (v < 3) with
          | true => simp
          | false => have := hcont false rfl; simpa using this
        | false => rw [if_neg (by simp)]; have := hcont false rfl; simpa using this
    · rw [if_neg hn]
      simp [Bool.eq_false_iff.2 hn]
theorem ref_May_is (hr : RecOk t l tag) (k : Nat) (hk : 1100000 ≤ k) : tephraref08_May.f k v k0 t rule l out when tag = some (mayB v k0 t rule l out when tag) := by
  have hl := hr.n
  obtain ⟨k, rfl⟩ : ∃ m, k = m + 3 := ⟨k - 3, by omega⟩
  have hmul : (l.length + 1) * (l.length + 5) ≤ 1001 * 1005 := Nat.mul_le_mul (by omega) (by omega)
  have hl0 := rmay_l0 v k0 t rule l out when tag hl l.length 0 k (by omega) (by omega)
  rw [show ((0 : Nat) : Int) = 0 from rfl, List.take_zero, List.drop_zero, List.map_nil] at hl0
  unfold tephraref08_May.f mayB
  simp only [tephraref08_May.j0, tephraref08_May.j1, tephraref08_May.j2, rname_is, Option.bind_some]
  rw [hl0]
  have hdb : depsB v t l = (depsOk v [t] l && decide ((l.length : Int) ≤ 16)) := rfl
  rw [hdb]
  have htg : (tag.toList != ([] : List UInt8)) = decide (tag.size ≠ 0) := by rw [Bool.eq_iff_iff, bne_iff_ne, decide_eq_true_eq, ne_eq, tl_nil]
  have htg2 : (tag.toList == ([] : List UInt8)) = decide (tag.size = 0) := by rw [Bool.eq_iff_iff, beq_iff_eq, decide_eq_true_eq, tl_nil]
  rw [htg, htg2]
  generalize depsOk v [t] l = D
  generalize nameB t = nb
  generalize l.length = n at *
  generalize tag.size = z at *
  clear hl0 hdb htg htg2 hmul
  by_cases hv : 1 ≤ v ∧ v ≤ 3
  · rw [if_neg (by omega), if_neg (by omega)]
    have hdv : decide (1 ≤ v ∧ v ≤ 3) = true := decide_eq_true hv
    rw [hdv]
    cases nb with
    | false => simp
    | true =>
      rw [if_neg (by simp)]
      by_cases h1 : k0 = 1
      · subst h1
        rw [if_neg (by decide), if_pos rfl, if_pos rfl]
        by_cases hn : (n : Int) > 16
        · rw [if_pos hn]
          have : decide ((n : Int) ≤ 16) = false := decide_eq_false (by omega)
          simp [this]
        · have hn2 : decide ((n : Int) ≤ 16) = true := decide_eq_true (by omega)
          rw [if_neg hn, hn2]
          by_cases hz : (z : Int) > 64
          · have e1 : decide ((z : Int) > 64) = true := decide_eq_true hz
            have e2 : decide (z ≤ 64) = false := decide_eq_false (by omega)
            rw [e1, e2]; simp
          · have e1 : decide ((z : Int) > 64) = false := decide_eq_false hz
            have e2 : decide (z ≤ 64) = true := decide_eq_true (by omega)
            rw [e1, e2, if_neg (by simp)]
            have h3 : v = 1 ∨ v = 2 ∨ v = 3 := by omega
            by_cases hw : when = 0 <;> by_cases hz0 : z = 0 <;> rcases h3 with rfl | rfl | rfl <;> simp [hw, hz0]
      · rw [if_neg h1]
        by_cases h2 : k0 = 2
        · subst h2
          rw [if_pos rfl]
          by_cases e1 : rule = 0 <;> by_cases e2 : n = 0 <;> by_cases e3 : out = 0 <;> by_cases e4 : when = 0 <;> simp [e1, e2, e3, e4]
        · rw [if_neg h2, if_neg h1]
          simp [h2]
  · have hdv : decide (1 ≤ v ∧ v ≤ 3) = false := decide_eq_false hv
    rw [hdv]
    by_cases h1 : v < 1
    · rw [if_pos h1]; simp
    · rw [if_neg h1, if_pos (by omega)]; simp
end
/-- two lists of deps, gone through from a place on -/
theorem deq_l0 (l r : List S113) (hlen : l.length = r.length) (hl : l.length ≤ 1000000) : ∀ (d i k : Nat), l.length = i + d → d < k →
    ∃ b, api_Dep_114.l0 k l r (l.length : Int) (i : Int) = some b ∧ (b = true ↔ l.drop i = r.drop i) := by
  intro d
  induction d with
  | zero =>
    intro i k hi hk
    obtain ⟨k, rfl⟩ : ∃ m, k = m + 1 := ⟨k - 1, by omega⟩
    refine ⟨true, ?_, ?_⟩
    · simp only [api_Dep_114.l0]; rw [if_neg (by omega)]
    · rw [List.drop_of_length_le (by omega), List.drop_of_length_le (by omega)]; simp
  | succ d ih =>
    intro i k hi hk
    obtain ⟨k, rfl⟩ : ∃ m, k = m + 1 := ⟨k - 1, by omega⟩
    have h1 : i < l.length := by omega
    have h2 : i < r.length := by omega
    simp only [api_Dep_114.l0]
    rw [if_pos (by omega), if_pos (by omega), if_pos (by omega), if_pos (by omega), rd_dep l i h1, rd_dep r i h2, wr1 i l.length h1 (by omega), List.drop_eq_getElem_cons h1, List.drop_eq_getElem_cons h2]
    obtain ⟨b, hb, hb2⟩ := ih (i + 1) k (by omega) (by omega)
    generalize hx : l[i] = x
    generalize hy : r[i] = y
    obtain ⟨x0, x1, x2⟩ := x
    obtain ⟨y0, y1, y2⟩ := y
    by_cases he : x0 = y0 ∧ x1 = y1 ∧ x2 = y2
    · obtain ⟨rfl, rfl, rfl⟩ := he
      refine ⟨b, ?_, ?_⟩
      · rw [if_neg (by simp)]; exact hb
      · rw [hb2]; simp
    · refine ⟨false, ?_, ?_⟩
      · rw [if_pos]
        have e0 : (x0.toList == y0.toList) = decide (x0 = y0) := by rw [Bool.eq_iff_iff, beq_iff_eq, decide_eq_true_eq, tl_eq]
        rw [e0]
        simp only [Bool.or_eq_true, Bool.not_eq_true', decide_eq_false_iff_not, beq_eq_false_iff_ne]
        by_cases a : x0 = y0
        · by_cases b : x1 = y1
          · exact .inr (.inr (fun c => he ⟨a, b, c⟩))
          · exact .inr (.inl b)
        · exact .inl a
      · simp only [Bool.false_eq_true, false_iff]
        intro h
        injection h with h _
        injection h with h0 h1 h2
        exact he ⟨h0, h1, h2⟩
theorem deq_is (l r : List S113) (hl : l.length ≤ 1000000) (k : Nat) (hk : l.length < k) : ∃ b, api_Dep_114.f k l r = some b ∧ (b = true ↔ l = r) := by
  unfold api_Dep_114.f
  by_cases h : l.length = r.length
  · rw [if_pos (by omega)]
    have := deq_l0 l r h hl l.length 0 k (by omega) hk
    simpa using this
  · rw [if_neg (by omega)]
    exact ⟨false, rfl, by simp; intro e; exact h (by rw [e])⟩
theorem record_Same_is (a0 b0 : Int) (a1 b1 : ByteArray) (a2 b2 : Int) (a3 b3 : List S113) (a4 b4 a5 b5 : Int) (a6 b6 : ByteArray) (hl : a3.length ≤ 1000000) (k : Nat) (hk : a3.length < k) :
    ∃ b, record_Same.f k a0 a1 a2 a3 a4 a5 a6 b0 b1 b2 b3 b4 b5 b6 = some b ∧ (b = true ↔ a0 = b0 ∧ a1 = b1 ∧ a2 = b2 ∧ a3 = b3 ∧ a4 = b4 ∧ a5 = b5 ∧ a6 = b6) := by
  obtain ⟨b, hb, hb2⟩ := deq_is a3 b3 hl k hk
  unfold record_Same.f record_of.f
  simp only [Option.bind_some]
  rw [hb]
  have e1 : (a1.toList == b1.toList) = decide (a1 = b1) := by rw [Bool.eq_iff_iff, beq_iff_eq, decide_eq_true_eq, tl_eq]
  have e6 : (a6.toList == b6.toList) = decide (a6 = b6) := by rw [Bool.eq_iff_iff, beq_iff_eq, decide_eq_true_eq, tl_eq]
  rw [e1, e6]
  split
  · rename_i h
    simp only [Bool.and_eq_true, beq_iff_eq, decide_eq_true_eq] at h
    refine ⟨b, rfl, ?_⟩
    rw [hb2]
    exact ⟨fun h3 => ⟨h.1, h.2.1, h.2.2.2.1, h3, h.2.2.2.2.1, h.2.2.2.2.2, h.2.2.1⟩, fun h3 => h3.2.2.2.1⟩
  · rename_i h
    simp only [Bool.and_eq_true, beq_iff_eq, decide_eq_true_eq] at h
    refine ⟨false, rfl, ?_⟩
    simp only [Bool.false_eq_true, false_iff]
    rintro ⟨h0, h1, h2, h3, h4, h5, h6⟩
    exact h ⟨h0, h1, h6, h2, h4, h5⟩
/-- a record that is gone through -/
structure RecFew (t : ByteArray) (deps : List S113) (tag : ByteArray) : Prop where
  n : deps.length ≤ 60
  t : t.size ≤ 300
  tag : tag.size ≤ 300
  d : ∀ d ∈ deps, d.f0.size ≤ 300
theorem RecFew.ok {t : ByteArray} {deps : List S113} {tag : ByteArray} (h : RecFew t deps tag) : RecOk t deps tag :=
  ⟨by have := h.n; omega, by have := h.t; simp only [maxLen]; omega, by have := h.tag; simp only [maxLen]; omega, fun d hd => by have := h.d d hd; simp only [maxLen]; omega⟩
theorem great_l0 (a0 : Int) (t : ByteArray) (a2 : Int) (l : List S113) (a4 a5 : Int) (tag : ByteArray) (hl : l.length ≤ 9223372036854775807) : ∀ (d i k : Nat), l.length = i + d → d < k → (∀ x ∈ l.take i, x.f0.size ≤ 300) →
    ∃ b, tephralaw08_Great.l0 k l (l.length : Int) (i : Int) a0 t a2 l a4 a5 tag = some b ∧ (b = false → RecFew t l tag) := by
  intro d
  induction d with
  | zero =>
    intro i k hi hk hs
    obtain ⟨k, rfl⟩ : ∃ m, k = m + 1 := ⟨k - 1, by omega⟩
    rw [List.take_of_length_le (by omega)] at hs
    simp only [tephralaw08_Great.l0]
    rw [if_neg (by omega)]
    split
    · exact ⟨true, rfl, by simp⟩
    · split
      · exact ⟨true, rfl, by simp⟩
      · refine ⟨_, rfl, fun h => ?_⟩
        rw [decide_eq_false_iff_not] at h
        exact ⟨by omega, by omega, by omega, hs⟩
  | succ d ih =>
    intro i k hi hk hs
    obtain ⟨k, rfl⟩ : ∃ m, k = m + 1 := ⟨k - 1, by omega⟩
    have hlt : i < l.length := by omega
    simp only [tephralaw08_Great.l0]
    rw [if_pos (by omega), if_pos (by omega), if_pos (by omega), rd_dep l i hlt, wr1 i l.length hlt hl]
    split
    · exact ⟨true, rfl, by simp⟩
    · rename_i hn
      refine ih (i + 1) k (by omega) (by omega) ?_
      rw [List.take_succ_eq_append_getElem hlt]
      intro x hx
      rcases List.mem_append.1 hx with hx | hx
      · exact hs x hx
      · simp at hx; subst hx; omega
theorem great_is (a0 : Int) (t : ByteArray) (a2 : Int) (l : List S113) (a4 a5 : Int) (tag : ByteArray) (hl : l.length ≤ 9223372036854775807) (k : Nat) (hk : l.length < k) :
    ∃ b, tephralaw08_Great.f k a0 t a2 l a4 a5 tag = some b ∧ (b = false → RecFew t l tag) :=
  great_l0 a0 t a2 l a4 a5 tag hl l.length 0 k (by omega) hk (by simp)
end Go.Proofs.Ytfflenbfapgilaa
/- What record.May answers. -/
namespace Go.Proofs.Ytfflenbfapgilaa
open Go.RowKit Go.Proofs.YtfflenbfapgilaaW.PrintWords Go.Proofs.Ytfflenbfapgilaa.GRR

section
variable (v k0 : Int) (t : ByteArray) (rule : Int) (A : Option Addr) (c : Nat) (l : List S113) (out when : Int) (tag : ByteArray) (w : World)
set_option maxHeartbeats 2000000 in
set_option maxRecDepth 100000 in
theorem may_any (hr : Kd.C k113 w A l.length l) (hc : l.length ≤ c) (hok : RecOk t l tag) :
    Calls Try.prog 62 #[.int .i64 v, .agg #[.int .i64 k0, .string t, .int .u64 rule, .slice A l.length c, .int .u64 out, .int .u64 when, .string tag]] w fun e w' => e = .returned (.bool (mayB v k0 t rule l out when tag)) ∧ Below w.heap.size w w' := by
  have hb0 := (Below.refl w.heap.size w).alloc (Nat.le_refl _) (.cells #[.int .i64 k0, .string t, .int .u64 rule, .slice A l.length c, .int .u64 out, .int .u64 when, .string tag] 62)
  have HB0 := Lib.hid hb0
  have hC1 := Kd.C_below hr hb0
  have hszt : t.size ≤ 9223372036854775807 := by have := hok.t; simp only [maxLen] at this; omega
  have HNM := Lib.hid (fun W => name_any t W hszt)
  have HDP := Lib.hid (deps_any v k0 t rule A c l out when tag _ hC1 hc hok.n hok.d hok.t)
  obtain ⟨sb, hs, hs2⟩ := record_Same_is k0 2 t t rule 0 l [] out 0 when 0 tag ⟨#[]⟩ (by have := hok.n; omega) 2000 (by have := hok.n; omega)
  have HSM := Lib.hid (record_Same.calls 2000 k0 t rule A c l out when tag 2 t 0 none 0 [] 0 0 ⟨#[]⟩ sb _ hC1 hc (Kd.C_nil _ _) (Nat.le_refl _) hs)
  have htag : tag = ⟨#[]⟩ ↔ tag.size = 0 := by
    constructor
    · intro h; rw [h]; rfl
    · intro h; exact tl_eq.1 ((tl_nil.2 h).trans (tl_nil.2 rfl).symm)
  rw [htag, show l = [] ↔ l.length = 0 by simp] at hs2
  have HS2 := Lib.hid hs2
  have hres : mayB v k0 t rule l out when tag = mayB v k0 t rule l out when tag := rfl
  obtain ⟨M, hM⟩ : ∃ M, mayB v k0 t rule l out when tag = M := ⟨_, rfl⟩
  rw [hM]
  unfold mayB at hM
  obtain ⟨nb, hnb⟩ : ∃ nb, nameB t = nb := ⟨_, rfl⟩
  obtain ⟨D, hD⟩ : ∃ D, depsB v t l = D := ⟨_, rfl⟩
  rw [hnb] at HNM hM
  rw [hD] at HDP hM
  have HM := Lib.hid hM
  have htsz : tag.size ≤ 9223372036854775807 := by have := hok.tag; simp only [maxLen] at this; omega
  clear hr hok hb0 hC1 hs hs2 htag hres hM hnb hD
  by_cases h1 : v < 1
  · have b1 : decide (v < 1) = true := decide_eq_true h1
    go_enter Try.func62, Try.ntmps62
    go_wp2_with fail
    go_ret
    refine ⟨?_, HB0.out⟩
    rw [← HM.out, show decide (1 ≤ v ∧ v ≤ 3) = false from decide_eq_false (by omega)]; rfl
  · by_cases h3 : 3 < v
    · have b1 : decide (v < 1) = false := decide_eq_false h1
      have b3 : decide (3 < v) = true := decide_eq_true h3
      go_enter Try.func62, Try.ntmps62
      go_wp2_with fail
      go_ret
      refine ⟨?_, HB0.out⟩
      rw [← HM.out, show decide (1 ≤ v ∧ v ≤ 3) = false from decide_eq_false (by omega)]; rfl
    · have b1 : decide (v < 1) = false := decide_eq_false h1
      have b3 : decide (3 < v) = false := decide_eq_false h3
      have hm := HM.out
      rw [show decide (1 ≤ v ∧ v ≤ 3) = true from decide_eq_true (by omega)] at hm
      cases nb with
      | false =>
        go_enter Try.func62, Try.ntmps62
        go_wp2_with fail
        refine (HNM.out _).mono ?_
        rintro e w1 ⟨rfl, rfl⟩
        go_wp2_with fail
        go_ret
        exact ⟨by rw [← HM.out]; simp, HB0.out⟩
      | true =>
        by_cases k1 : k0 = 1
        · subst k1
          obtain ⟨v2, hv2⟩ : ∃ x, decide (v < 2) = x := ⟨_, rfl⟩
          obtain ⟨v3, hv3⟩ : ∃ x, decide (v < 3) = x := ⟨_, rfl⟩
          obtain ⟨bw, hbw⟩ : ∃ x, (when != 0) = x := ⟨_, rfl⟩
          obtain ⟨bt, hbt⟩ : ∃ x, tag.toList.isEmpty = x := ⟨_, rfl⟩
          obtain ⟨bl, hbl⟩ : ∃ x, decide ((tag.size : Int) ≤ 64) = x := ⟨_, rfl⟩
          have hm1 : (!(v2 && bw || v3 && !bt) && bl && D) = M := by
            rw [← hm, if_pos rfl, ← hv2, ← hv3, ← hbw, ← hbt, ← hbl]
            have e1 : (when != 0) = decide (when ≠ 0) := by by_cases h : when = 0 <;> simp [h]
            have e2 : (!tag.toList.isEmpty) = decide (tag.size ≠ 0) := by
              by_cases h : tag.size = 0
              · rw [(tl_nil.2 h)]; simp [h]
              · have : tag.toList ≠ [] := fun hh => h (tl_nil.1 hh)
                simp [h, this]
            have e3 : decide ((tag.size : Int) ≤ 64) = decide (tag.size ≤ 64) := by congr 1; apply propext; omega
            rw [e1, e2, e3]; simp
          have HM1 := Lib.hid hm1
          clear hm hm1 HM
          go_enter Try.func62, Try.ntmps62
          go_wp2_with fail
          refine (HNM.out _).mono ?_
          rintro e w1 ⟨rfl, rfl⟩
          cases v2 <;> cases v3 <;> cases bw <;> cases bt <;> cases bl
          all_goals go_wp2_with fail
          all_goals first
            | (refine HDP.out.mono ?_
               rintro e w1 ⟨rfl, hd⟩
               go_wp2_with fail
               go_ret
               exact ⟨by rw [← HM1.out]; rfl, HB0.out.trans (hd.mono HB0.out.size)⟩)
            | (go_ret
               exact ⟨by rw [← HM1.out]; rfl, HB0.out⟩)
        · by_cases k2 : k0 = 2
          · subst k2
            go_enter Try.func62, Try.ntmps62
            go_wp2_with fail
            refine (HNM.out _).mono ?_
            rintro e w1 ⟨rfl, rfl⟩
            go_wp2_with fail
            refine HSM.out.mono ?_
            rintro e w1 ⟨rfl, hd⟩
            go_wp2_with fail
            go_ret
            refine ⟨?_, HB0.out.trans (hd.mono HB0.out.size)⟩
            rw [← HM.out, if_neg (by decide : ¬ (2 : Int) = 1)]
            have h2 := HS2.out
            simp only [true_and] at h2
            congr 1
            refine Eq.trans (show _ = Value.bool sb from rfl) (congrArg Value.bool (Bool.eq_iff_iff.2 ?_))
            rw [h2, show decide (1 ≤ v ∧ v ≤ 3) = true from decide_eq_true (by omega)]
            simp only [Bool.true_and, Bool.and_eq_true, decide_eq_true_eq, if_true, eq_self_iff_true]
            simp [and_assoc]
          · have b4 : ((k0 : Int) == 1) = false := by simp [k1]
            have b5 : ((k0 : Int) == 2) = false := by simp [k2]
            clear hm
            go_enter Try.func62, Try.ntmps62
            go_wp2_with fail
            refine (HNM.out _).mono ?_
            rintro e w1 ⟨rfl, rfl⟩
            go_wp2_with fail
            go_ret
            exact ⟨by rw [← HM.out, if_neg k1]; simp [k2], HB0.out⟩
end
def record_May.f (a0 : Int) (a1_0 : Int) (a1_1 : ByteArray) (a1_2 : Int) (l1_3 : List S113) (a1_4 : Int) (a1_5 : Int) (a1_6 : ByteArray) : Option Bool :=
  if l1_3.length ≤ 1000 ∧ (∀ d ∈ l1_3, d.f0.size ≤ maxLen) ∧ a1_1.size ≤ maxLen ∧ a1_6.size ≤ maxLen then some (mayB a0 a1_0 a1_1 a1_2 l1_3 a1_4 a1_5 a1_6) else none
theorem record_May.calls (a0 : Int) (a1_0 : Int) (a1_1 : ByteArray) (a1_2 : Int) (A1_3 : Option Addr) (c1_3 : Nat) (l1_3 : List S113) (a1_4 : Int) (a1_5 : Int) (a1_6 : ByteArray) (r : Bool) (w : World) (hr1_3 : Kd.C k113 w A1_3 l1_3.length l1_3) (hc1_3 : l1_3.length ≤ c1_3) (h : record_May.f a0 a1_0 a1_1 a1_2 l1_3 a1_4 a1_5 a1_6 = some r) :
    Calls Try.prog 62 #[.int .i64 a0, .agg #[.int .i64 a1_0, .string a1_1, .int .u64 a1_2, .slice A1_3 l1_3.length c1_3, .int .u64 a1_4, .int .u64 a1_5, .string a1_6]] w fun e w' => e = .returned (.bool r) ∧ Below w.heap.size w w' := by
  unfold record_May.f at h
  split at h
  · rename_i hh
    cases h; exact may_any a0 a1_0 a1_1 a1_2 A1_3 c1_3 l1_3 a1_4 a1_5 a1_6 w hr1_3 hc1_3 ⟨hh.1, hh.2.2.1, hh.2.2.2, hh.2.1⟩
  · cases h
theorem record_May_is {v k0 : Int} {t : ByteArray} {rule : Int} {l : List S113} {out when : Int} {tag : ByteArray} (hr : RecOk t l tag) : record_May.f v k0 t rule l out when tag = some (mayB v k0 t rule l out when tag) := by
  unfold record_May.f
  rw [if_pos ⟨hr.n, hr.d, hr.t, hr.tag⟩]
end Go.Proofs.Ytfflenbfapgilaa
/- Records as arguments: what they read as. -/
namespace Go.Proofs.Ytfflenbfapgilaa
open Go.RowKit Go.Proofs.YtfflenbfapgilaaW.PrintWords Go.Proofs.Ytfflenbfapgilaa.GRR

def kdRec : Kd (Int × ByteArray × Int × List S113 × Int × Int × ByteArray) :=
  Kd.pair (Kd.int .i64) (Kd.pair Kd.string (Kd.pair (Kd.int .u64) (Kd.pair (Kd.slice 113 k113) (Kd.pair (Kd.int .u64) (Kd.pair (Kd.int .u64) Kd.string)))))
def okRec (x : Int × ByteArray × Int × List S113 × Int × Int × ByteArray) : Prop :=
  (Lit.int .i64 x.1).wf = true ∧ x.2.1.size ≤ maxLen ∧ (Lit.int .u64 x.2.2.1).wf = true ∧ (x.2.2.2.1.length ≤ maxLen ∧ ∀ d ∈ x.2.2.2.1, d.f0.size ≤ maxLen ∧ (Lit.int .u64 d.f1).wf = true ∧ True) ∧ (Lit.int .u64 x.2.2.2.2.1).wf = true ∧ (Lit.int .u64 x.2.2.2.2.2.1).wf = true ∧ x.2.2.2.2.2.2.size ≤ maxLen
theorem cellsOf_int8 : Try.prog.cellsOf 3 = 1 := by kernel_rfl
theorem cellsOf_u648 : Try.prog.cellsOf 59 = 1 := by kernel_rfl
theorem cellsOf_str8 : Try.prog.cellsOf 9 = 1 := by kernel_rfl
theorem cellsOf_bool8 : Try.prog.cellsOf 4 = 1 := by kernel_rfl
theorem cellsOf_dep8 : Try.prog.cellsOf 113 = 3 := by kernel_rfl
theorem cellsOf_deps8 : Try.prog.cellsOf 60 = 1 := by kernel_rfl
theorem cellsOf_rec8 : Try.prog.cellsOf 62 = 7 := by kernel_rfl
theorem opens_int8 : Opens Try.prog 3 (Kd.int .i64) (fun n => (Lit.int .i64 n).wf = true) := opens_int Try.underlying3 cellsOf_int8
theorem opens_u648 : Opens Try.prog 59 (Kd.int .u64) (fun n => (Lit.int .u64 n).wf = true) := opens_int Try.underlying59 cellsOf_u648
theorem opens_str8 : Opens Try.prog 9 Kd.string (fun s => s.size ≤ maxLen) := opens_string Try.underlying9 cellsOf_str8
theorem opens_bool8 : Opens Try.prog 4 Kd.bool (fun _ => True) := opens_bool Try.underlying4 cellsOf_bool8
theorem opens_dep8 : Opens Try.prog 113 k113 (fun d => d.f0.size ≤ maxLen ∧ (Lit.int .u64 d.f1).wf = true ∧ True) :=
  opens_iso (fun x : S113 => (x.f0, x.f1, x.f2)) (fun p => ⟨p.1, p.2.1, p.2.2⟩) (fun _ => rfl) (opens_struct3 Try.underlying113 rfl rfl rfl opens_str8 opens_u648 opens_bool8 cellsOf_dep8)
theorem opens_deps8 : Opens Try.prog 60 (Kd.slice 113 k113) (fun xs => xs.length ≤ maxLen ∧ ∀ y ∈ xs, y.f0.size ≤ maxLen ∧ (Lit.int .u64 y.f1).wf = true ∧ True) :=
  opens_slice Try.underlying60 cellsOf_deps8 opens_dep8
theorem opens_rec8 : Opens Try.prog 62 kdRec okRec :=
  opens_struct7 Try.underlying62 rfl rfl rfl rfl rfl rfl rfl opens_int8 opens_str8 opens_u648 opens_deps8 opens_u648 opens_u648 opens_str8 cellsOf_rec8
/-- A record that came in. -/
structure IsRec (W : World) (v : Value) (x : (Int × ByteArray × Int × List S113 × Int × Int × ByteArray) × Option Addr × Nat) : Prop where
  v : v = .agg #[.int .i64 x.1.1, .string x.1.2.1, .int .u64 x.1.2.2.1, .slice x.2.1 x.1.2.2.2.1.length x.2.2, .int .u64 x.1.2.2.2.2.1, .int .u64 x.1.2.2.2.2.2.1, .string x.1.2.2.2.2.2.2]
  c : x.1.2.2.2.1.length ≤ x.2.2
  row : Kd.C k113 W x.2.1 x.1.2.2.2.1.length x.1.2.2.2.1
  len : x.1.2.2.2.1.length ≤ maxLen
  kind : (Lit.int .i64 x.1.1).wf = true
set_option maxRecDepth 100000 in
theorem open_t62 {H : Type} {enc : TypeId × Value → H} {W : World} {base : Nat} {held : Bool} {v : Value} {d : DataW H} {ps : List MemPlace} {r : Reach} {b0 : Nat} (hval : Value.okWide Try.prog W r b0 62 v) (h : DataW.Trod enc Try.prog W base (fun _ => true) held 62 v d ps) :
    ∃ x, IsRec W v x := by
  obtain ⟨x, cs, hv, hk, ho⟩ := open_agg Try.underlying62 opens_rec8 hval h
  obtain ⟨x0, x1, x2, x3, x4, x5, x6⟩ := x
  obtain ⟨c0, r0, rfl, h0, c1, r1, rfl, h1, c2, r2, rfl, h2, c3, r3, rfl, ⟨A, c, hc3, hle, hC⟩, c4, r4, rfl, h4, c5, r5, rfl, h5, h6⟩ := hk
  have g0 : c0 = [.int .i64 x0] := h0
  have g1 : c1 = [.string x1] := h1
  have g2 : c2 = [.int .u64 x2] := h2
  have g4 : c4 = [.int .u64 x4] := h4
  have g5 : c5 = [.int .u64 x5] := h5
  have g6 : r5 = [.string x6] := h6
  subst g0 g1 g2 g4 g5 g6 hc3
  exact ⟨((x0, x1, x2, x3, x4, x5, x6), A, c), by rw [hv]; rfl, hle, hC, ho.2.2.2.1.1, ho.1⟩
end Go.Proofs.Ytfflenbfapgilaa
/- When the document calls records the same. -/
namespace Go.Proofs.Ytfflenbfapgilaa
open Go.RowKit Go.Proofs.YtfflenbfapgilaaW.PrintWords Go.Proofs.Ytfflenbfapgilaa.GRR

section
variable (a0 b0 : Int) (a1 b1 : ByteArray) (a2 b2 : Int) (a3 b3 : List S113) (a4 b4 a5 b5 : Int) (a6 b6 : ByteArray)
theorem rsame_l0 (hlen : a3.length = b3.length) (hl : a3.length ≤ 1000000) : ∀ (d i k : Nat), a3.length = i + d → d < k →
    ∃ b, tephraref08_Same.l0 k (i : Int) a0 a1 a2 a3 a4 a5 a6 b0 b1 b2 b3 b4 b5 b6 = some b ∧ (b = true ↔ a3.drop i = b3.drop i) := by
  intro d
  induction d with
  | zero =>
    intro i k hi hk
    obtain ⟨k, rfl⟩ : ∃ m, k = m + 1 := ⟨k - 1, by omega⟩
    refine ⟨true, ?_, ?_⟩
    · simp only [tephraref08_Same.l0]; rw [if_neg (by omega)]
    · rw [List.drop_of_length_le (by omega), List.drop_of_length_le (by omega)]; simp
  | succ d ih =>
    intro i k hi hk
    obtain ⟨k, rfl⟩ : ∃ m, k = m + 1 := ⟨k - 1, by omega⟩
    have h1 : i < a3.length := by omega
    have h2 : i < b3.length := by omega
    simp only [tephraref08_Same.l0]
    rw [if_pos (by omega), if_pos (by omega), if_pos (by omega), rd_dep a3 i h1, rd_dep b3 i h2, wr1 i a3.length h1 (by omega), List.drop_eq_getElem_cons h1, List.drop_eq_getElem_cons h2]
    obtain ⟨b, hb, hb2⟩ := ih (i + 1) k (by omega) (by omega)
    generalize hx : a3[i] = x
    generalize hy : b3[i] = y
    obtain ⟨x0, x1, x2⟩ := x
    obtain ⟨y0, y1, y2⟩ := y
    by_cases e0 : x0 = y0
    · by_cases e1 : x1 = y1
      · by_cases e2 : x2 = y2
        · subst e0 e1 e2
          rw [if_pos rfl, if_pos rfl, if_neg (by simp)]
          exact ⟨b, hb, by rw [hb2]; simp⟩
        · subst e0 e1
          rw [if_pos rfl, if_pos rfl, if_pos (by simpa using e2)]
          exact ⟨false, rfl, by simp [e2]⟩
      · subst e0
        rw [if_pos rfl, if_neg e1]
        exact ⟨false, rfl, by simp [e1]⟩
    · rw [if_neg (fun h => e0 (tl_eq.1 h))]
      exact ⟨false, rfl, by simp [e0]⟩
theorem rsame_is (hl : a3.length ≤ 1000000) (k : Nat) (hk : a3.length + 1 < k) :
    ∃ b, tephraref08_Same.f k a0 a1 a2 a3 a4 a5 a6 b0 b1 b2 b3 b4 b5 b6 = some b ∧ (b = true ↔ a0 = b0 ∧ a1 = b1 ∧ a2 = b2 ∧ a3 = b3 ∧ a4 = b4 ∧ a5 = b5 ∧ a6 = b6) := by
  obtain ⟨k, rfl⟩ : ∃ m, k = m + 1 := ⟨k - 1, by omega⟩
  have hno : tephraref08_Same.j0 (k + 1) true a0 a1 a2 a3 a4 a5 a6 b0 b1 b2 b3 b4 b5 b6 = some false := by
    simp only [tephraref08_Same.j0]; rw [if_pos trivial]
  unfold tephraref08_Same.f
  rw [hno]
  by_cases c0 : a0 = b0
  · by_cases c1 : a1 = b1
    · by_cases c2 : a2 = b2
      · by_cases c4 : a4 = b4
        · by_cases c5 : a5 = b5
          · by_cases c6 : a6 = b6
            · rw [if_pos c0, if_pos (tl_eq.2 c1), if_pos c2, if_pos c4, if_pos c5, if_pos (tl_eq.2 c6)]
              simp only [tephraref08_Same.j0]
              by_cases hlen : a3.length = b3.length
              · rw [if_neg (by simp; omega)]
                obtain ⟨b, hb, hb2⟩ := rsame_l0 a0 b0 a1 b1 a2 b2 a3 b3 a4 b4 a5 b5 a6 b6 hlen hl a3.length 0 k (by omega) (by omega)
                refine ⟨b, hb, ?_⟩
                rw [hb2]; simp [*]
              · rw [if_pos (by simp; omega)]
                refine ⟨false, rfl, ⟨fun h => (by cases h), fun h => absurd (congrArg List.length h.2.2.2.1) hlen⟩⟩
            · rw [if_pos c0, if_pos (tl_eq.2 c1), if_pos c2, if_pos c4, if_pos c5, if_neg (fun h => c6 (tl_eq.1 h))]; exact ⟨false, rfl, by simp [c6]⟩
          · rw [if_pos c0, if_pos (tl_eq.2 c1), if_pos c2, if_pos c4, if_neg c5]; exact ⟨false, rfl, by simp [c5]⟩
        · rw [if_pos c0, if_pos (tl_eq.2 c1), if_pos c2, if_neg c4]; exact ⟨false, rfl, by simp [c4]⟩
      · rw [if_pos c0, if_pos (tl_eq.2 c1), if_neg c2]; exact ⟨false, rfl, by simp [c2]⟩
    · rw [if_pos c0, if_neg (fun h => c1 (tl_eq.1 h))]; exact ⟨false, rfl, by simp [c1]⟩
  · rw [if_neg c0]; exact ⟨false, rfl, by simp [c0]⟩
end
end Go.Proofs.Ytfflenbfapgilaa
