/- Of frames that are laid one behind the other, and cut off anywhere, all that are whole are there, and none else: the law FrameCuts returns true, and writes nothing that was there (up to 20 payloads of 200 bytes). -/
import Derived.Test.YtfflenbfapgilaaFrK
import Derived.Test.YtfflenbfapgilaaWFrameGets
import Derived.Test.YtfflenbfapgilaaOpen
set_option linter.unusedVariables false
set_option linter.unusedSimpArgs false
namespace Go.Proofs.Ytfflenbfapgilaa
open Go.RowKit Go.Proofs.YtfflenbfapgilaaW.PrintWords Go.Proofs.Ytfflenbfapgilaa.GVB Go.ChangeShapes Go.WideShapes

theorem endsO_ge (ps : List (List Int)) : ∀ (o i : Nat) (z : Int), (endsO o ps)[i]? = some z → (o : Int) ≤ z := by
  induction ps with
  | nil => intro o i z h; simp [endsO] at h
  | cons p ps ih =>
    intro o i z h
    match i with
    | 0 => simp [endsO] at h; omega
    | i + 1 =>
      rw [endsO, List.getElem?_cons_succ] at h
      have := ih _ _ _ h
      omega
theorem cut_split (ps : List (List Int)) : ∀ (o k : Nat), ∃ (m : Nat) (u : List Int), m ≤ ps.length ∧ (frs ps).take k = frs (ps.take m) ++ u ∧ (u = [] ∨ ∃ p ∈ ps, ∃ j, u = (frameL p).take j ∧ j < (frameL p).length) ∧ ∀ (i : Nat) (z : Int), (endsO o ps)[i]? = some z → (z ≤ ((o + k : Nat) : Int) ↔ i < m) := by
  induction ps with
  | nil => intro o k; exact ⟨0, [], by simp, by simp [frs], .inl rfl, fun i z h => by simp [endsO] at h⟩
  | cons p ps ih =>
    intro o k
    by_cases h : (frameL p).length ≤ k
    · obtain ⟨m, u, h1, h2, h3, h4⟩ := ih (o + (frameL p).length) (k - (frameL p).length)
      refine ⟨m + 1, u, by simp; omega, ?_, ?_, fun i z hz => ?_⟩
      · rw [frs_cons, List.take_append, List.take_of_length_le h, h2, List.take_succ_cons, frs_cons, List.append_assoc]
      · rcases h3 with h3 | ⟨q, hq, j, hj⟩
        · exact .inl h3
        · exact .inr ⟨q, by simp [hq], j, hj⟩
      · match i with
        | 0 => simp [endsO] at hz; omega
        | i + 1 =>
          rw [endsO, List.getElem?_cons_succ] at hz
          have := h4 i z hz
          omega
    · refine ⟨0, (frameL p).take k, by simp, ?_, .inr ⟨p, by simp, k, rfl, by omega⟩, fun i z hz => ?_⟩
      · rw [frs_cons, List.take_append_of_le_length (by omega)]; rfl
      · match i with
        | 0 => simp [endsO] at hz; omega
        | i + 1 =>
          rw [endsO, List.getElem?_cons_succ] at hz
          have := endsO_ge _ _ _ _ hz
          omega
theorem runs_frames (ps : List (List Int)) (h : ∀ p ∈ ps, Pay p) (u : List Int) (hu : ∀ x ∈ u, 0 ≤ x ∧ x < 256) (hend : (fgetS (frs ps ++ u) (((frs ps).length : Nat) : Int)).2.2 ≠ 0) : runs (frs ps ++ u) 0 = items 0 ps := by
  have hl := (frs_le ps h).1
  have := frun_frames ps h ((frs ps ++ u).length + 1 - ps.length) [] u (by simp) hu
  rw [show ps.length + ((frs ps ++ u).length + 1 - ps.length) = (frs ps ++ u).length + 1 by rw [List.length_append]; omega] at this
  unfold runs
  rw [List.nil_append, List.length_nil, Nat.zero_add] at this
  rw [show ((0 : Nat) : Int) = 0 from rfl] at this
  rw [this]
  obtain ⟨q, hq⟩ : ∃ q, (frs ps ++ u).length + 1 - ps.length = q + 1 := ⟨(frs ps ++ u).length - ps.length, by rw [List.length_append]; omega⟩
  rw [hq, frunS, if_neg hend, List.append_nil]
theorem smallB_pay {ps : List (List Int)} (h : smallB ps = true) (hb : ∀ p ∈ ps, ∀ x ∈ p, 0 ≤ x ∧ x < 256) : ps.length ≤ 20 ∧ ∀ p ∈ ps, Pay p := by
  unfold smallB at h
  rw [Bool.and_eq_true, decide_eq_true_eq, List.all_eq_true] at h
  refine ⟨h.1, fun p hp => ?_⟩
  have := h.2 p hp
  rw [decide_eq_true_eq] at this
  exact ⟨this.1, this.2, hb p hp⟩
/-- Cut off at k: the first m are read. -/
theorem runs_cut (ps : List (List Int)) (h : ∀ p ∈ ps, Pay p) (k : Nat) : ∃ m, m ≤ ps.length ∧ runs ((frs ps).take k) 0 = items 0 (ps.take m) ∧ ∀ (i : Nat) (z : Int), (endsO 0 ps)[i]? = some z → (z ≤ (k : Int) ↔ i < m) := by
  obtain ⟨m, u, h1, h2, h3, h4⟩ := cut_split ps 0 k
  refine ⟨m, h1, ?_, fun i z hz => by have := h4 i z hz; rwa [Nat.zero_add] at this⟩
  have hm : ∀ p ∈ ps.take m, Pay p := fun p hp => h p (List.mem_of_mem_take hp)
  rw [h2]
  rcases h3 with rfl | ⟨p, hp, j, rfl, hj⟩
  · refine runs_frames _ hm [] (by simp) ?_
    unfold fgetS
    rw [if_pos (by rw [List.append_nil])]; decide
  · exact runs_frames _ hm _ (fun x hx => frameL_bytes p (h p hp) x (List.mem_of_mem_take hx)) (fget_cut _ p j (h p hp) hj)
end Go.Proofs.Ytfflenbfapgilaa
namespace Go.Proofs.Ytfflenbfapgilaa.WFrameCuts
open Go.RowKit Go.Proofs.YtfflenbfapgilaaW.PrintWords Go.Proofs.Ytfflenbfapgilaa.GVB
theorem cuts_great (A : Option Addr) (c : Nat) (ps : List (List Int)) (q : Nat) (w : World) (hC : Kd.C (Kd.slice 5 (Kd.int .u8)) w A ps.length ps) (h : smallB ps = false) :
    Calls Try.prog 6 #[.slice A ps.length c, .int .u16 (q : Int)] w fun e w' => e = .returned (.bool true) ∧ Below w.heap.size w w' := by
  have hS := small_any A c ps w hC
  rw [h] at hS
  have HS := Lib.hid hS
  clear hS hC h
  go_enter Try.func6, Try.ntmps6
  go_wp2_with fail
  refine HS.out.mono ?_
  rintro e w1 ⟨rfl, rfl⟩
  go_wp2_with (go_at_call 14; refine (fixed6_any _).mono ?_; rintro e w1 ⟨rfl, hb⟩)
  go_ret
  exact ⟨rfl, hb⟩
set_option maxRecDepth 100000 in
set_option maxHeartbeats 4000000 in
theorem cuts_a (A : Option Addr) (c : Nat) (ps : List (List Int)) (q : Nat) (w : World) (hq : q < 65536) (hC : Kd.C (Kd.slice 5 (Kd.int .u8)) w A ps.length ps) (hc : ps.length ≤ c) (h : smallB ps = true) (hb : ∀ p ∈ ps, ∀ x ∈ p, 0 ≤ x ∧ x < 256) (hcase : ((frs ps).length : Int) < (q : Int)) :
    Calls Try.prog 6 #[.slice A ps.length c, .int .u16 (q : Int)] w fun e w' => e = .returned (.bool true) ∧ Below w.heap.size w w' := by
  have hS := small_any A c ps w hC
  rw [h] at hS
  obtain ⟨hl, hp⟩ := smallB_pay h hb
  have HS := Lib.hid hS
  have HL := Lib.hid (laid_any A c ps w hC hp hl)
  have hfl := frs_le ps hp
  have HP := Lib.hid hp
  have hfb := frs_bytes ps hp
  have HRC := Lib.hid (fun k => runs_cut ps hp k)
  have hel := endsO_len ps 0
  have HC := Lib.hid (fun (W : World) (h : Below w.heap.size w W) => Kd.C_below hC h)
  obtain ⟨f, HF⟩ : ∃ f, Hid (frs ps = f) := ⟨_, Lib.hid rfl⟩
  obtain ⟨es, HE⟩ : ∃ es, Hid (endsO 0 ps = es) := ⟨_, Lib.hid rfl⟩
  rw [HF.out] at hfl hfb HRC hcase
  rw [HE.out] at HRC hel
  unfold LaidPost at HL
  rw [HF.out, HE.out] at HL
  have HEL := Lib.hid hel
  have HFB := Lib.hid hfb
  have hfl2 : f.length ≤ 4280 := by omega
  obtain ⟨k, hk1, hk2⟩ : ∃ k : Nat, k = f.length ∧ k ≤ f.length := ⟨f.length, rfl, Nat.le_refl _⟩
  obtain ⟨m, hm1, hm2, hm3⟩ := HRC.out k
  have hrun : runs (f.take k) 0 = items 0 (ps.take m) := hm2
  have htl : (f.take k).length = k := by rw [List.length_take]; omega
  have hG := fun (W : World) (A5 : Option Addr) (c5 : Nat) (h1 : Kd.C (Kd.int .u8) W A5 f.length f) (h2 : f.length ≤ c5) => frun_any A5 c5 (f.take k) 0 W (by rw [htl]; have h5 := Kd.C_take h1 hk2; rwa [htl] at h5) (by omega) (fun x hx => HFB.out x (List.mem_of_mem_take hx)) (by omega)
  unfold FRunPost at hG
  rw [htl, hrun] at hG
  have HG := Lib.hid hG
  have HM3 := Lib.hid hm3
  have HK := Lib.hid hk2
  have hilen : (items 0 (ps.take m)).length = m := by rw [items_len, List.length_take]; omega
  have HIL := Lib.hid hilen
  have HIT := Lib.hid (fun (i : Nat) (p : List Int) (z : Int) (him : i < m) (h1 : ps[i]? = some p) (h2 : es[i]? = some z) => (show (items 0 (ps.take m))[i]? = some (strOfNums p, z) from items_get (ps.take m) 0 i p z (by rw [List.getElem?_take_of_lt him]; exact h1) (by
    have e : endsO 0 ps = endsO 0 (ps.take m) ++ endsO (0 + (frs (ps.take m)).length) (ps.drop m) := by rw [← endsO_append, List.take_append_drop]
    rw [HE.out] at e
    rw [e, List.getElem?_append_left (by rw [endsO_len, List.length_take]; omega)] at h2
    exact h2)))
  generalize items 0 (ps.take m) = its at *
  clear hS hC h hb hp hfb hel hfl hm2 hm3 hrun HRC hG htl hk2 hilen
  subst hk1
  go_enter Try.func6, Try.ntmps6
  go_wp2_with fail
  refine HS.out.mono ?_
  rintro e w1 ⟨rfl, rfl⟩
  go_wp2_with fail
  refine HL.out.mono ?_
  rintro e w1 ⟨v1, v2, rfl, hr1, hr2, hb1⟩
  obtain ⟨A5, c5, rfl⟩ := Kd.R_slice hr1
  obtain ⟨A6, c6, rfl⟩ := Kd.R_slice hr2
  have HR1 := Lib.hid (Kd.R_reads' hr1)
  have HR2 := Lib.hid (Kd.R_reads' hr2)
  have HB1 := Lib.hid hb1
  clear hr1 hr2 hb1
  rw [HEL.out]
  go_wp2_with fail
  go_loop [9, 34] (fun u9 u => ∃ (i : Nat), i ≤ ps.length ∧ u = .int .i64 i ∧ u9 = .int .i64 ((min i m : Nat) : Int)) (fun _ v => ps.length - (intOf v).toNat)
  case atStart => exact ⟨0, by omega, rfl, by simp⟩
  case round =>
    obtain ⟨i, hi, rfl, rfl⟩ := hrel
    by_cases hlt : i < ps.length
    · obtain ⟨ad6, he6, hcell6⟩ := Kd.at_int HR2.out.2.2 (i : Int) (by omega) (by have := HEL.out; omega)
      subst he6
      rw [Int.toNat_natCast] at hcell6
      have hz : es[i]? = some (rd es (i : Int)) := by simp [rd, HEL.out, hlt]
      have hiff := HM3.out i _ hz
      generalize rd es (i : Int) = z at hcell6 hiff
      have HI := Lib.hid hiff
      clear hz hiff
      by_cases him : i < m
      · have hzk := HI.out.2 him
        have hmn : ((min i m : Nat) : Int) = (i : Int) := by omega
        rw [hmn]
        clear hmn
        go_wp2
        go_round
        case rel => exact ⟨i + 1, by omega, by go_num, by rw [show min (i + 1) m = i + 1 by omega]; go_num⟩
        case measure => simp [intOf]; omega
      · have hzk := fun h => him (HI.out.1 h)
        have hmn : min i m = m := by omega
        rw [hmn]
        clear hmn
        go_wp2
        go_round
        case rel => exact ⟨i + 1, by omega, by go_num, by rw [show min (i + 1) m = m by omega]⟩
        case measure => simp [intOf]; omega
    · obtain rfl : i = ps.length := by omega
      rw [show min ps.length m = m by omega]
      have hkc := HK.out
      have hcc := HR1.out.2.1
      go_wp2_with fail
      refine (HG.out w1 A5 c5 HR1.out.2.2 HR1.out.2.1).mono ?_
      rintro e w2 ⟨v3, v4, vs, rfl, hr3, hr4, hvl, hfr, hb2⟩
      have hvm : vs.length = m := hvl.trans HIL.out
      obtain ⟨A7, c7, hv3⟩ := Kd.R_slice hr3
      subst hv3
      obtain ⟨A8, c8, hv4⟩ := Kd.R_slice hr4
      subst hv4
      have hlm : (its.map (·.2)).length = m := by rw [List.length_map]; exact HIL.out
      have HB2 := Lib.hid (HB1.out.trans (hb2.mono HB1.out.size))
      have HR2' := Lib.hid (Kd.C_below HR2.out.2.2 hb2)
      have HR3 := Lib.hid (And.intro (Kd.R_reads' hr3) (And.intro (Kd.R_reads' hr4) hfr))
      have HLM := Lib.hid (And.intro hvm hlm)
      rw [hvm, hlm]
      clear hr3 hr4 hvl hfr hb2 hvm hlm
      go_wp2_with fail
      go_loopw [63] (fun u wr => ∃ (i : Nat), i ≤ m ∧ u = .int .i64 i ∧ Below w2.heap.size w2 wr) (fun v _ => m - (intOf v).toNat)
      case atStart => exact ⟨0, by omega, rfl, Below.refl _ _⟩
      case round =>
        obtain ⟨i, hi, rfl, hbl⟩ := hrel
        by_cases hlt : i < m
        · have hip : i < ps.length := by omega
          have hbw := HB2.out.trans (hbl.mono HB2.out.size)
          obtain ⟨ad0, Ai, ci, he0, hcell0, hci, hCi⟩ := rows_at (HC.out wr hbw) i hip
          subst he0
          have hpi : ps[i]? = some ps[i] := List.getElem?_eq_getElem hip
          have hpay := HP.out ps[i] (List.getElem_mem _)
          generalize ps[i] = p at *
          obtain ⟨z, hz⟩ : ∃ z, es[i]? = some z := ⟨es[i]'(by have := HEL.out; omega), List.getElem?_eq_getElem _⟩
          have hit := HIT.out i p z hlt hpi hz
          obtain ⟨ad6, he6, hcell6⟩ := Kd.at_int (Kd.C_below HR2'.out hbl) (i : Int) (by omega) (by have := HEL.out; omega)
          subst he6
          have hz6 : rd es (i : Int) = z := by
            have := (List.getElem?_eq_some_iff.1 hz).2
            simp [rd, hz]
          rw [Int.toNat_natCast, hz6] at hcell6
          obtain ⟨ad2, he2, hcell2⟩ := Kd.at_int (Kd.C_below HR3.out.2.1.2.2 hbl) (i : Int) (by omega) (by have := HLM.out.2; omega)
          subst he2
          have hz2 : rd (its.map (·.2)) (i : Int) = z := by simp [rd, hit]
          rw [Int.toNat_natCast, hz2] at hcell2
          have hvi : i < vs.length := by have := HLM.out.1; omega
          obtain ⟨ad1, he1, hc1⟩ := HR3.out.1.2.2.2.2 (by omega)
          subst he1
          obtain ⟨cs, _, hcs, hcell1⟩ := hc1 i vs[i] (List.getElem?_eq_getElem hvi)
          have hcs' : cs = [vs[i].1] := hcs
          have hcell1 := hcell1 0 _ (by rw [hcs']; rfl)
          rw [show valK.sz = 1 from rfl, Nat.mul_one, Nat.add_zero] at hcell1
          obtain ⟨gb, cg, gC, gfr, hgx, hg2, hg3, hg4, hg5, hg6⟩ := HR3.out.2.2 i vs[i] _ (List.getElem?_eq_getElem hvi) hit
          rw [hgx] at hcell1
          dsimp only at hcell1 hg6 hg2
          rw [bytesOf_str p hpay.2.2] at hcell1 hg6 hg2
          have HC0 := Lib.hid (fun (W : World) (h : Below wr.heap.size wr W) => (cell_keep h hcell0 : W.cell? (ad0.add i) = _))
          have HC1 := Lib.hid (fun (W : World) (h : Below wr.heap.size wr W) => (cell_keep (hbl.trans (h.mono hbl.size)) hcell1 : W.cell? (ad1.add i) = _))
          have HC2 := Lib.hid (fun (W : World) (h : Below wr.heap.size wr W) => (cell_keep h hcell2 : W.cell? (ad2.add i) = _))
          have HC6 := Lib.hid (fun (W : World) (h : Below wr.heap.size wr W) => (cell_keep h hcell6 : W.cell? (ad6.add i) = _))
          have HCi := Lib.hid hCi
          have HCg := Lib.hid (Kd.C_below hg6 hbl)
          obtain ⟨Ag, hAg⟩ : ∃ Ag : Option Addr, some (⟨gb, 0, none⟩ : Addr) = Ag := ⟨_, rfl⟩
          rw [hAg] at HC1 HCg
          have hpl := hpay.2.1
          clear hcell0 hcell1 hcell2 hcell6 hCi hci hpi hpay hz hit hz6 hz2 hc1 hcs hcs' hgx hg2 hg3 hg4 hg5 hg6 hAg
          go_wp2_with fail
          refine region_calm (n := 22) (byList [isV (.slice (some ad1) m c7), isV (.int .i64 (i : Int)), isV (.pointer (some (ad1.add i))), isV (.slice Ag p.length cg), isV (.string (strOfNums p)), isV (.slice (some ad0) ps.length c), isV (.int .i64 (i : Int)), isV (.pointer (some (ad0.add i))), isV (.slice Ai p.length ci), isV (.string (strOfNums p)), isV (.bool false), isV (.bool false), isV (.slice (some ad2) m c8), isV (.int .i64 (i : Int)), isV (.pointer (some (ad2.add i))), isV (.int .i64 z), isV (.slice (some ad6) ps.length c6), isV (.int .i64 (i : Int)), isV (.pointer (some (ad6.add i))), isV (.int .i64 z), isV (.bool false), isV (.bool false)]) (by kernel_rfl) rfl (byList_lasts ?_) (by kernel_rfl) (by kernel_rfl) (by kernel_rfl) (show AllLt 22 _ from ?_) ?_
          · intro p hp
            simp only [List.mem_cons, List.not_mem_nil, or_false] at hp
            rcases hp with rfl | rfl | rfl | rfl | rfl | rfl | rfl | rfl | rfl | rfl | rfl | rfl | rfl | rfl | rfl | rfl | rfl | rfl | rfl | rfl | rfl | rfl <;> first | exact isV_lasts | exact isC_lasts
          · refine allLt_succ (allLt_succ (allLt_succ (allLt_succ (allLt_succ (allLt_succ (allLt_succ (allLt_succ (allLt_succ (allLt_succ (allLt_succ (allLt_succ (allLt_succ (allLt_succ (allLt_succ (allLt_succ (allLt_succ (allLt_succ (allLt_succ (allLt_succ (allLt_succ (allLt_succ (allLt_zero _) ?_) ?_) ?_) ?_) ?_) ?_) ?_) ?_) ?_) ?_) ?_) ?_) ?_) ?_) ?_) ?_) ?_) ?_) ?_) ?_) ?_) ?_
            · refine StepOk.run (o := ?o0) ?ho0 ?hg0 ?h0
              case ho0 => simp only [List.getElem?_toArray, List.getElem?_cons_succ, List.getElem?_cons_zero]; rfl
              case hg0 => rfl
              case h0 =>
              intro a W hS hB hd
              have e12 : a.tmps[12]? = some (.slice (some ad1) m c7) := hS.get rfl rfl
              refine wp_value (c := .slice (some ad1) m c7) ?_ rfl
              go_simp
            · refine StepOk.run (o := ?o1) ?ho1 ?hg1 ?h1
              case ho1 => simp only [List.getElem?_toArray, List.getElem?_cons_succ, List.getElem?_cons_zero]; rfl
              case hg1 => rfl
              case h1 =>
              intro a W hS hB hd
              have e14 : a.tmps[14]? = some (.int .i64 (i : Int)) := hS.get rfl rfl
              refine wp_value (c := .int .i64 (i : Int)) ?_ rfl
              go_simp
            · refine StepOk.run (o := ?o2) ?ho2 ?hg2 ?h2
              case ho2 => simp only [List.getElem?_toArray, List.getElem?_cons_succ, List.getElem?_cons_zero]; rfl
              case hg2 => rfl
              case h2 =>
              intro a W hS hB hd
              have e66 : a.tmps[66]? = some (.slice (some ad1) m c7) := (hd 0 rfl).bool rfl rfl rfl
              have e67 : a.tmps[67]? = some (.int .i64 (i : Int)) := (hd 1 rfl).bool rfl rfl rfl
              refine wp_value (c := .pointer (some (ad1.add i))) ?_ rfl
              go_simp
            · refine StepOk.run (o := ?o3) ?ho3 ?hg3 ?h3
              case ho3 => simp only [List.getElem?_toArray, List.getElem?_cons_succ, List.getElem?_cons_zero]; rfl
              case hg3 => rfl
              case h3 =>
              intro a W hS hB hd
              have e68 : a.tmps[68]? = some (.pointer (some (ad1.add i))) := (hd 2 rfl).bool rfl rfl rfl
              refine wp_value (c := .slice Ag p.length cg) ?_ rfl
              have hcW : W.cell? (ad1.add i) = some (.slice Ag p.length cg) := HC1.out W hB
              go_simp
            · refine StepOk.run (o := ?o4) ?ho4 ?hg4 ?h4
              case ho4 => simp only [List.getElem?_toArray, List.getElem?_cons_succ, List.getElem?_cons_zero]; rfl
              case hg4 => rfl
              case h4 =>
              intro a W hS hB hd
              have e69 : a.tmps[69]? = some (.slice Ag p.length cg) := (hd 3 rfl).bool rfl rfl rfl
              refine wp_value (c := .string (strOfNums p)) ?_ rfl
              have hcv := Kd.C_string (P := Try.prog) (A := Ag) (c := cg) Try.underlying22 Try.underlying5 Try.underlying9 (Kd.C_below HCg.out hB)
              go_simp
            · refine StepOk.run (o := ?o5) ?ho5 ?hg5 ?h5
              case ho5 => simp only [List.getElem?_toArray, List.getElem?_cons_succ, List.getElem?_cons_zero]; rfl
              case hg5 => rfl
              case h5 =>
              intro a W hS hB hd
              have e0 : a.tmps[0]? = some (.slice (some ad0) ps.length c) := hS.get rfl rfl
              refine wp_value (c := .slice (some ad0) ps.length c) ?_ rfl
              go_simp
            · refine StepOk.run (o := ?o6) ?ho6 ?hg6 ?h6
              case ho6 => simp only [List.getElem?_toArray, List.getElem?_cons_succ, List.getElem?_cons_zero]; rfl
              case hg6 => rfl
              case h6 =>
              intro a W hS hB hd
              have e14 : a.tmps[14]? = some (.int .i64 (i : Int)) := hS.get rfl rfl
              refine wp_value (c := .int .i64 (i : Int)) ?_ rfl
              go_simp
            · refine StepOk.run (o := ?o7) ?ho7 ?hg7 ?h7
              case ho7 => simp only [List.getElem?_toArray, List.getElem?_cons_succ, List.getElem?_cons_zero]; rfl
              case hg7 => rfl
              case h7 =>
              intro a W hS hB hd
              have e71 : a.tmps[71]? = some (.slice (some ad0) ps.length c) := (hd 5 rfl).bool rfl rfl rfl
              have e72 : a.tmps[72]? = some (.int .i64 (i : Int)) := (hd 6 rfl).bool rfl rfl rfl
              refine wp_value (c := .pointer (some (ad0.add i))) ?_ rfl
              go_simp
            · refine StepOk.run (o := ?o8) ?ho8 ?hg8 ?h8
              case ho8 => simp only [List.getElem?_toArray, List.getElem?_cons_succ, List.getElem?_cons_zero]; rfl
              case hg8 => rfl
              case h8 =>
              intro a W hS hB hd
              have e73 : a.tmps[73]? = some (.pointer (some (ad0.add i))) := (hd 7 rfl).bool rfl rfl rfl
              refine wp_value (c := .slice Ai p.length ci) ?_ rfl
              have hcW : W.cell? (ad0.add i) = some (.slice Ai p.length ci) := HC0.out W hB
              go_simp
            · refine StepOk.run (o := ?o9) ?ho9 ?hg9 ?h9
              case ho9 => simp only [List.getElem?_toArray, List.getElem?_cons_succ, List.getElem?_cons_zero]; rfl
              case hg9 => rfl
              case h9 =>
              intro a W hS hB hd
              have e74 : a.tmps[74]? = some (.slice Ai p.length ci) := (hd 8 rfl).bool rfl rfl rfl
              refine wp_value (c := .string (strOfNums p)) ?_ rfl
              have hcv := Kd.C_string (P := Try.prog) (A := Ai) (c := ci) Try.underlying22 Try.underlying5 Try.underlying9 (Kd.C_below HCi.out hB)
              go_simp
            · refine StepOk.run (o := ?o10) ?ho10 ?hg10 ?h10
              case ho10 => simp only [List.getElem?_toArray, List.getElem?_cons_succ, List.getElem?_cons_zero]; rfl
              case hg10 => rfl
              case h10 =>
              intro a W hS hB hd
              have e70 : a.tmps[70]? = some (.string (strOfNums p)) := (hd 4 rfl).bool rfl rfl rfl
              have e75 : a.tmps[75]? = some (.string (strOfNums p)) := (hd 9 rfl).bool rfl rfl rfl
              refine wp_value (c := .bool false) ?_ rfl
              go_simp
            · refine StepOk.run (o := ?o11) ?ho11 ?hg11 ?h11
              case ho11 => simp only [List.getElem?_toArray, List.getElem?_cons_succ, List.getElem?_cons_zero]; rfl
              case hg11 => rfl
              case h11 =>
              intro a W hS hB hd
              have e76 : a.tmps[76]? = some (.bool false) := (hd 10 rfl).bool rfl rfl rfl
              refine wp_value (c := .bool false) ?_ rfl
              go_simp
            · refine StepOk.on (o := ?o12) (g := 11) (u := false) ?ho12 ?hg12 rfl rfl ?hw12 rfl ?h12
              case ho12 => simp only [List.getElem?_toArray, List.getElem?_cons_succ, List.getElem?_cons_zero]; rfl
              case hg12 => rfl
              case hw12 => rfl
              case h12 =>
              intro a W hS hB hd
              have e13 : a.tmps[13]? = some (.slice (some ad2) m c8) := hS.get rfl rfl
              refine wp_value (c := .slice (some ad2) m c8) ?_ rfl
              go_simp
            · refine StepOk.on (o := ?o13) (g := 11) (u := false) ?ho13 ?hg13 rfl rfl ?hw13 rfl ?h13
              case ho13 => simp only [List.getElem?_toArray, List.getElem?_cons_succ, List.getElem?_cons_zero]; rfl
              case hg13 => rfl
              case hw13 => rfl
              case h13 =>
              intro a W hS hB hd
              have e14 : a.tmps[14]? = some (.int .i64 (i : Int)) := hS.get rfl rfl
              refine wp_value (c := .int .i64 (i : Int)) ?_ rfl
              go_simp
            · refine StepOk.on (o := ?o14) (g := 11) (u := false) ?ho14 ?hg14 rfl rfl ?hw14 rfl ?h14
              case ho14 => simp only [List.getElem?_toArray, List.getElem?_cons_succ, List.getElem?_cons_zero]; rfl
              case hg14 => rfl
              case hw14 => rfl
              case h14 =>
              intro a W hS hB hd
              have e78 : a.tmps[78]? = some (.slice (some ad2) m c8) := (hd 12 rfl).bool rfl rfl rfl
              have e79 : a.tmps[79]? = some (.int .i64 (i : Int)) := (hd 13 rfl).bool rfl rfl rfl
              refine wp_value (c := .pointer (some (ad2.add i))) ?_ rfl
              go_simp
            · refine StepOk.on (o := ?o15) (g := 11) (u := false) ?ho15 ?hg15 rfl rfl ?hw15 rfl ?h15
              case ho15 => simp only [List.getElem?_toArray, List.getElem?_cons_succ, List.getElem?_cons_zero]; rfl
              case hg15 => rfl
              case hw15 => rfl
              case h15 =>
              intro a W hS hB hd
              have e80 : a.tmps[80]? = some (.pointer (some (ad2.add i))) := (hd 14 rfl).bool rfl rfl rfl
              refine wp_value (c := .int .i64 z) ?_ rfl
              have hcW : W.cell? (ad2.add i) = some (.int .i64 z) := HC2.out W hB
              go_simp
            · refine StepOk.on (o := ?o16) (g := 11) (u := false) ?ho16 ?hg16 rfl rfl ?hw16 rfl ?h16
              case ho16 => simp only [List.getElem?_toArray, List.getElem?_cons_succ, List.getElem?_cons_zero]; rfl
              case hg16 => rfl
              case hw16 => rfl
              case h16 =>
              intro a W hS hB hd
              have e6 : a.tmps[6]? = some (.slice (some ad6) ps.length c6) := hS.get rfl rfl
              refine wp_value (c := .slice (some ad6) ps.length c6) ?_ rfl
              go_simp
            · refine StepOk.on (o := ?o17) (g := 11) (u := false) ?ho17 ?hg17 rfl rfl ?hw17 rfl ?h17
              case ho17 => simp only [List.getElem?_toArray, List.getElem?_cons_succ, List.getElem?_cons_zero]; rfl
              case hg17 => rfl
              case hw17 => rfl
              case h17 =>
              intro a W hS hB hd
              have e14 : a.tmps[14]? = some (.int .i64 (i : Int)) := hS.get rfl rfl
              refine wp_value (c := .int .i64 (i : Int)) ?_ rfl
              go_simp
            · refine StepOk.on (o := ?o18) (g := 11) (u := false) ?ho18 ?hg18 rfl rfl ?hw18 rfl ?h18
              case ho18 => simp only [List.getElem?_toArray, List.getElem?_cons_succ, List.getElem?_cons_zero]; rfl
              case hg18 => rfl
              case hw18 => rfl
              case h18 =>
              intro a W hS hB hd
              have e82 : a.tmps[82]? = some (.slice (some ad6) ps.length c6) := (hd 16 rfl).bool rfl rfl rfl
              have e83 : a.tmps[83]? = some (.int .i64 (i : Int)) := (hd 17 rfl).bool rfl rfl rfl
              refine wp_value (c := .pointer (some (ad6.add i))) ?_ rfl
              go_simp
            · refine StepOk.on (o := ?o19) (g := 11) (u := false) ?ho19 ?hg19 rfl rfl ?hw19 rfl ?h19
              case ho19 => simp only [List.getElem?_toArray, List.getElem?_cons_succ, List.getElem?_cons_zero]; rfl
              case hg19 => rfl
              case hw19 => rfl
              case h19 =>
              intro a W hS hB hd
              have e84 : a.tmps[84]? = some (.pointer (some (ad6.add i))) := (hd 18 rfl).bool rfl rfl rfl
              refine wp_value (c := .int .i64 z) ?_ rfl
              have hcW : W.cell? (ad6.add i) = some (.int .i64 z) := HC6.out W hB
              go_simp
            · refine StepOk.on (o := ?o20) (g := 11) (u := false) ?ho20 ?hg20 rfl rfl ?hw20 rfl ?h20
              case ho20 => simp only [List.getElem?_toArray, List.getElem?_cons_succ, List.getElem?_cons_zero]; rfl
              case hg20 => rfl
              case hw20 => rfl
              case h20 =>
              intro a W hS hB hd
              have e81 : a.tmps[81]? = some (.int .i64 z) := (hd 15 rfl).bool rfl rfl rfl
              have e85 : a.tmps[85]? = some (.int .i64 z) := (hd 19 rfl).bool rfl rfl rfl
              refine wp_value (c := .bool false) ?_ rfl
              go_simp
            · refine StepOk.run (o := ?o21) ?ho21 ?hg21 ?h21
              case ho21 => simp only [List.getElem?_toArray, List.getElem?_cons_succ, List.getElem?_cons_zero]; rfl
              case hg21 => rfl
              case h21 =>
              intro a W hS hB hd
              have e77 : a.tmps[77]? = some (.bool false) := (hd 11 rfl).bool rfl rfl rfl
              have e86 : a.tmps[86]? = some (.bool false) := (hd 20 rfl).bool rfl rfl rfl
              refine wp_value (c := .bool false) ?_ rfl
              go_simp
          · intro a W hS hB hh
            have e87 : a.tmps[87]? = some (.bool false) := (hh 21 (by omega)).bool rfl rfl rfl
            have HBR := Lib.hid hB
            have hlit := same_lit hS
            clear hh hS hB
            simp only [List.filterMap_cons, List.filterMap_nil, List.foldl_cons, List.foldl_nil, List.setIfInBounds_toArray, List.set_cons_zero, List.set_cons_succ] at hlit
            rw [show a.tmps.getD 87 undef = .bool false by simp [Array.getD_eq_getD_getElem?, e87]] at hlit
            generalize a.tmps.getD 66 undef = z66 at hlit
            generalize a.tmps.getD 67 undef = z67 at hlit
            generalize a.tmps.getD 68 undef = z68 at hlit
            generalize a.tmps.getD 69 undef = z69 at hlit
            generalize a.tmps.getD 70 undef = z70 at hlit
            generalize a.tmps.getD 71 undef = z71 at hlit
            generalize a.tmps.getD 72 undef = z72 at hlit
            generalize a.tmps.getD 73 undef = z73 at hlit
            generalize a.tmps.getD 74 undef = z74 at hlit
            generalize a.tmps.getD 75 undef = z75 at hlit
            generalize a.tmps.getD 76 undef = z76 at hlit
            generalize a.tmps.getD 77 undef = z77 at hlit
            generalize a.tmps.getD 78 undef = z78 at hlit
            generalize a.tmps.getD 79 undef = z79 at hlit
            generalize a.tmps.getD 80 undef = z80 at hlit
            generalize a.tmps.getD 81 undef = z81 at hlit
            generalize a.tmps.getD 82 undef = z82 at hlit
            generalize a.tmps.getD 83 undef = z83 at hlit
            generalize a.tmps.getD 84 undef = z84 at hlit
            generalize a.tmps.getD 85 undef = z85 at hlit
            generalize a.tmps.getD 86 undef = z86 at hlit
            clear e87
            subst hlit
            have hbl2 := hbl.trans (HBR.out.mono hbl.size)
            go_wp2
            go_roundw
            case rel => exact ⟨i + 1, by omega, by go_num, hbl2⟩
            case measure => simp [intOf]; omega
        · obtain rfl : m = i := by omega
          have hbw := HB2.out.trans (hbl.mono HB2.out.size)
          go_wp2_with fail
          refine (fixed6_any _).mono ?_
          rintro e w6 ⟨rfl, hb6⟩
          have HB6 := Lib.hid (hbw.trans (hb6.mono hbw.size))
          clear hb6
          go_wp2_with fail
          go_ret
          exact ⟨rfl, HB6.out⟩
set_option maxRecDepth 100000 in
set_option maxHeartbeats 4000000 in
theorem cuts_b (A : Option Addr) (c : Nat) (ps : List (List Int)) (q : Nat) (w : World) (hq : q < 65536) (hC : Kd.C (Kd.slice 5 (Kd.int .u8)) w A ps.length ps) (hc : ps.length ≤ c) (h : smallB ps = true) (hb : ∀ p ∈ ps, ∀ x ∈ p, 0 ≤ x ∧ x < 256) (hcase : ¬ ((frs ps).length : Int) < (q : Int)) :
    Calls Try.prog 6 #[.slice A ps.length c, .int .u16 (q : Int)] w fun e w' => e = .returned (.bool true) ∧ Below w.heap.size w w' := by
  have hS := small_any A c ps w hC
  rw [h] at hS
  obtain ⟨hl, hp⟩ := smallB_pay h hb
  have HS := Lib.hid hS
  have HL := Lib.hid (laid_any A c ps w hC hp hl)
  have hfl := frs_le ps hp
  have HP := Lib.hid hp
  have hfb := frs_bytes ps hp
  have HRC := Lib.hid (fun k => runs_cut ps hp k)
  have hel := endsO_len ps 0
  have HC := Lib.hid (fun (W : World) (h : Below w.heap.size w W) => Kd.C_below hC h)
  obtain ⟨f, HF⟩ : ∃ f, Hid (frs ps = f) := ⟨_, Lib.hid rfl⟩
  obtain ⟨es, HE⟩ : ∃ es, Hid (endsO 0 ps = es) := ⟨_, Lib.hid rfl⟩
  rw [HF.out] at hfl hfb HRC hcase
  rw [HE.out] at HRC hel
  unfold LaidPost at HL
  rw [HF.out, HE.out] at HL
  have HEL := Lib.hid hel
  have HFB := Lib.hid hfb
  have hfl2 : f.length ≤ 4280 := by omega
  obtain ⟨k, hk1, hk2⟩ : ∃ k : Nat, k = q ∧ k ≤ f.length := ⟨q, rfl, by omega⟩
  obtain ⟨m, hm1, hm2, hm3⟩ := HRC.out k
  have hrun : runs (f.take k) 0 = items 0 (ps.take m) := hm2
  have htl : (f.take k).length = k := by rw [List.length_take]; omega
  have hG := fun (W : World) (A5 : Option Addr) (c5 : Nat) (h1 : Kd.C (Kd.int .u8) W A5 f.length f) (h2 : f.length ≤ c5) => frun_any A5 c5 (f.take k) 0 W (by rw [htl]; have h5 := Kd.C_take h1 hk2; rwa [htl] at h5) (by omega) (fun x hx => HFB.out x (List.mem_of_mem_take hx)) (by omega)
  unfold FRunPost at hG
  rw [htl, hrun] at hG
  have HG := Lib.hid hG
  have HM3 := Lib.hid hm3
  have HK := Lib.hid hk2
  have hilen : (items 0 (ps.take m)).length = m := by rw [items_len, List.length_take]; omega
  have HIL := Lib.hid hilen
  have HIT := Lib.hid (fun (i : Nat) (p : List Int) (z : Int) (him : i < m) (h1 : ps[i]? = some p) (h2 : es[i]? = some z) => (show (items 0 (ps.take m))[i]? = some (strOfNums p, z) from items_get (ps.take m) 0 i p z (by rw [List.getElem?_take_of_lt him]; exact h1) (by
    have e : endsO 0 ps = endsO 0 (ps.take m) ++ endsO (0 + (frs (ps.take m)).length) (ps.drop m) := by rw [← endsO_append, List.take_append_drop]
    rw [HE.out] at e
    rw [e, List.getElem?_append_left (by rw [endsO_len, List.length_take]; omega)] at h2
    exact h2)))
  generalize items 0 (ps.take m) = its at *
  clear hS hC h hb hp hfb hel hfl hm2 hm3 hrun HRC hG htl hk2 hilen
  subst hk1
  go_enter Try.func6, Try.ntmps6
  go_wp2_with fail
  refine HS.out.mono ?_
  rintro e w1 ⟨rfl, rfl⟩
  go_wp2_with fail
  refine HL.out.mono ?_
  rintro e w1 ⟨v1, v2, rfl, hr1, hr2, hb1⟩
  obtain ⟨A5, c5, rfl⟩ := Kd.R_slice hr1
  obtain ⟨A6, c6, rfl⟩ := Kd.R_slice hr2
  have HR1 := Lib.hid (Kd.R_reads' hr1)
  have HR2 := Lib.hid (Kd.R_reads' hr2)
  have HB1 := Lib.hid hb1
  clear hr1 hr2 hb1
  rw [HEL.out]
  go_wp2_with fail
  go_loop [9, 34] (fun u9 u => ∃ (i : Nat), i ≤ ps.length ∧ u = .int .i64 i ∧ u9 = .int .i64 ((min i m : Nat) : Int)) (fun _ v => ps.length - (intOf v).toNat)
  case atStart => exact ⟨0, by omega, rfl, by simp⟩
  case round =>
    obtain ⟨i, hi, rfl, rfl⟩ := hrel
    by_cases hlt : i < ps.length
    · obtain ⟨ad6, he6, hcell6⟩ := Kd.at_int HR2.out.2.2 (i : Int) (by omega) (by have := HEL.out; omega)
      subst he6
      rw [Int.toNat_natCast] at hcell6
      have hz : es[i]? = some (rd es (i : Int)) := by simp [rd, HEL.out, hlt]
      have hiff := HM3.out i _ hz
      generalize rd es (i : Int) = z at hcell6 hiff
      have HI := Lib.hid hiff
      clear hz hiff
      by_cases him : i < m
      · have hzk := HI.out.2 him
        have hmn : ((min i m : Nat) : Int) = (i : Int) := by omega
        rw [hmn]
        clear hmn
        go_wp2
        go_round
        case rel => exact ⟨i + 1, by omega, by go_num, by rw [show min (i + 1) m = i + 1 by omega]; go_num⟩
        case measure => simp [intOf]; omega
      · have hzk := fun h => him (HI.out.1 h)
        have hmn : min i m = m := by omega
        rw [hmn]
        clear hmn
        go_wp2
        go_round
        case rel => exact ⟨i + 1, by omega, by go_num, by rw [show min (i + 1) m = m by omega]⟩
        case measure => simp [intOf]; omega
    · obtain rfl : i = ps.length := by omega
      rw [show min ps.length m = m by omega]
      have hkc := HK.out
      have hcc := HR1.out.2.1
      go_wp2_with fail
      refine (HG.out w1 A5 c5 HR1.out.2.2 HR1.out.2.1).mono ?_
      rintro e w2 ⟨v3, v4, vs, rfl, hr3, hr4, hvl, hfr, hb2⟩
      have hvm : vs.length = m := hvl.trans HIL.out
      obtain ⟨A7, c7, hv3⟩ := Kd.R_slice hr3
      subst hv3
      obtain ⟨A8, c8, hv4⟩ := Kd.R_slice hr4
      subst hv4
      have hlm : (its.map (·.2)).length = m := by rw [List.length_map]; exact HIL.out
      have HB2 := Lib.hid (HB1.out.trans (hb2.mono HB1.out.size))
      have HR2' := Lib.hid (Kd.C_below HR2.out.2.2 hb2)
      have HR3 := Lib.hid (And.intro (Kd.R_reads' hr3) (And.intro (Kd.R_reads' hr4) hfr))
      have HLM := Lib.hid (And.intro hvm hlm)
      rw [hvm, hlm]
      clear hr3 hr4 hvl hfr hb2 hvm hlm
      go_wp2_with fail
      go_loopw [63] (fun u wr => ∃ (i : Nat), i ≤ m ∧ u = .int .i64 i ∧ Below w2.heap.size w2 wr) (fun v _ => m - (intOf v).toNat)
      case atStart => exact ⟨0, by omega, rfl, Below.refl _ _⟩
      case round =>
        obtain ⟨i, hi, rfl, hbl⟩ := hrel
        by_cases hlt : i < m
        · have hip : i < ps.length := by omega
          have hbw := HB2.out.trans (hbl.mono HB2.out.size)
          obtain ⟨ad0, Ai, ci, he0, hcell0, hci, hCi⟩ := rows_at (HC.out wr hbw) i hip
          subst he0
          have hpi : ps[i]? = some ps[i] := List.getElem?_eq_getElem hip
          have hpay := HP.out ps[i] (List.getElem_mem _)
          generalize ps[i] = p at *
          obtain ⟨z, hz⟩ : ∃ z, es[i]? = some z := ⟨es[i]'(by have := HEL.out; omega), List.getElem?_eq_getElem _⟩
          have hit := HIT.out i p z hlt hpi hz
          obtain ⟨ad6, he6, hcell6⟩ := Kd.at_int (Kd.C_below HR2'.out hbl) (i : Int) (by omega) (by have := HEL.out; omega)
          subst he6
          have hz6 : rd es (i : Int) = z := by
            have := (List.getElem?_eq_some_iff.1 hz).2
            simp [rd, hz]
          rw [Int.toNat_natCast, hz6] at hcell6
          obtain ⟨ad2, he2, hcell2⟩ := Kd.at_int (Kd.C_below HR3.out.2.1.2.2 hbl) (i : Int) (by omega) (by have := HLM.out.2; omega)
          subst he2
          have hz2 : rd (its.map (·.2)) (i : Int) = z := by simp [rd, hit]
          rw [Int.toNat_natCast, hz2] at hcell2
          have hvi : i < vs.length := by have := HLM.out.1; omega
          obtain ⟨ad1, he1, hc1⟩ := HR3.out.1.2.2.2.2 (by omega)
          subst he1
          obtain ⟨cs, _, hcs, hcell1⟩ := hc1 i vs[i] (List.getElem?_eq_getElem hvi)
          have hcs' : cs = [vs[i].1] := hcs
          have hcell1 := hcell1 0 _ (by rw [hcs']; rfl)
          rw [show valK.sz = 1 from rfl, Nat.mul_one, Nat.add_zero] at hcell1
          obtain ⟨gb, cg, gC, gfr, hgx, hg2, hg3, hg4, hg5, hg6⟩ := HR3.out.2.2 i vs[i] _ (List.getElem?_eq_getElem hvi) hit
          rw [hgx] at hcell1
          dsimp only at hcell1 hg6 hg2
          rw [bytesOf_str p hpay.2.2] at hcell1 hg6 hg2
          have HC0 := Lib.hid (fun (W : World) (h : Below wr.heap.size wr W) => (cell_keep h hcell0 : W.cell? (ad0.add i) = _))
          have HC1 := Lib.hid (fun (W : World) (h : Below wr.heap.size wr W) => (cell_keep (hbl.trans (h.mono hbl.size)) hcell1 : W.cell? (ad1.add i) = _))
          have HC2 := Lib.hid (fun (W : World) (h : Below wr.heap.size wr W) => (cell_keep h hcell2 : W.cell? (ad2.add i) = _))
          have HC6 := Lib.hid (fun (W : World) (h : Below wr.heap.size wr W) => (cell_keep h hcell6 : W.cell? (ad6.add i) = _))
          have HCi := Lib.hid hCi
          have HCg := Lib.hid (Kd.C_below hg6 hbl)
          obtain ⟨Ag, hAg⟩ : ∃ Ag : Option Addr, some (⟨gb, 0, none⟩ : Addr) = Ag := ⟨_, rfl⟩
          rw [hAg] at HC1 HCg
          have hpl := hpay.2.1
          clear hcell0 hcell1 hcell2 hcell6 hCi hci hpi hpay hz hit hz6 hz2 hc1 hcs hcs' hgx hg2 hg3 hg4 hg5 hg6 hAg
          go_wp2_with fail
          refine region_calm (n := 22) (byList [isV (.slice (some ad1) m c7), isV (.int .i64 (i : Int)), isV (.pointer (some (ad1.add i))), isV (.slice Ag p.length cg), isV (.string (strOfNums p)), isV (.slice (some ad0) ps.length c), isV (.int .i64 (i : Int)), isV (.pointer (some (ad0.add i))), isV (.slice Ai p.length ci), isV (.string (strOfNums p)), isV (.bool false), isV (.bool false), isV (.slice (some ad2) m c8), isV (.int .i64 (i : Int)), isV (.pointer (some (ad2.add i))), isV (.int .i64 z), isV (.slice (some ad6) ps.length c6), isV (.int .i64 (i : Int)), isV (.pointer (some (ad6.add i))), isV (.int .i64 z), isV (.bool false), isV (.bool false)]) (by kernel_rfl) rfl (byList_lasts ?_) (by kernel_rfl) (by kernel_rfl) (by kernel_rfl) (show AllLt 22 _ from ?_) ?_
          · intro p hp
            simp only [List.mem_cons, List.not_mem_nil, or_false] at hp
            rcases hp with rfl | rfl | rfl | rfl | rfl | rfl | rfl | rfl | rfl | rfl | rfl | rfl | rfl | rfl | rfl | rfl | rfl | rfl | rfl | rfl | rfl | rfl <;> first | exact isV_lasts | exact isC_lasts
          · refine allLt_succ (allLt_succ (allLt_succ (allLt_succ (allLt_succ (allLt_succ (allLt_succ (allLt_succ (allLt_succ (allLt_succ (allLt_succ (allLt_succ (allLt_succ (allLt_succ (allLt_succ (allLt_succ (allLt_succ (allLt_succ (allLt_succ (allLt_succ (allLt_succ (allLt_succ (allLt_zero _) ?_) ?_) ?_) ?_) ?_) ?_) ?_) ?_) ?_) ?_) ?_) ?_) ?_) ?_) ?_) ?_) ?_) ?_) ?_) ?_) ?_) ?_
            · refine StepOk.run (o := ?o0) ?ho0 ?hg0 ?h0
              case ho0 => simp only [List.getElem?_toArray, List.getElem?_cons_succ, List.getElem?_cons_zero]; rfl
              case hg0 => rfl
              case h0 =>
              intro a W hS hB hd
              have e12 : a.tmps[12]? = some (.slice (some ad1) m c7) := hS.get rfl rfl
              refine wp_value (c := .slice (some ad1) m c7) ?_ rfl
              go_simp
            · refine StepOk.run (o := ?o1) ?ho1 ?hg1 ?h1
              case ho1 => simp only [List.getElem?_toArray, List.getElem?_cons_succ, List.getElem?_cons_zero]; rfl
              case hg1 => rfl
              case h1 =>
              intro a W hS hB hd
              have e14 : a.tmps[14]? = some (.int .i64 (i : Int)) := hS.get rfl rfl
              refine wp_value (c := .int .i64 (i : Int)) ?_ rfl
              go_simp
            · refine StepOk.run (o := ?o2) ?ho2 ?hg2 ?h2
              case ho2 => simp only [List.getElem?_toArray, List.getElem?_cons_succ, List.getElem?_cons_zero]; rfl
              case hg2 => rfl
              case h2 =>
              intro a W hS hB hd
              have e66 : a.tmps[66]? = some (.slice (some ad1) m c7) := (hd 0 rfl).bool rfl rfl rfl
              have e67 : a.tmps[67]? = some (.int .i64 (i : Int)) := (hd 1 rfl).bool rfl rfl rfl
              refine wp_value (c := .pointer (some (ad1.add i))) ?_ rfl
              go_simp
            · refine StepOk.run (o := ?o3) ?ho3 ?hg3 ?h3
              case ho3 => simp only [List.getElem?_toArray, List.getElem?_cons_succ, List.getElem?_cons_zero]; rfl
              case hg3 => rfl
              case h3 =>
              intro a W hS hB hd
              have e68 : a.tmps[68]? = some (.pointer (some (ad1.add i))) := (hd 2 rfl).bool rfl rfl rfl
              refine wp_value (c := .slice Ag p.length cg) ?_ rfl
              have hcW : W.cell? (ad1.add i) = some (.slice Ag p.length cg) := HC1.out W hB
              go_simp
            · refine StepOk.run (o := ?o4) ?ho4 ?hg4 ?h4
              case ho4 => simp only [List.getElem?_toArray, List.getElem?_cons_succ, List.getElem?_cons_zero]; rfl
              case hg4 => rfl
              case h4 =>
              intro a W hS hB hd
              have e69 : a.tmps[69]? = some (.slice Ag p.length cg) := (hd 3 rfl).bool rfl rfl rfl
              refine wp_value (c := .string (strOfNums p)) ?_ rfl
              have hcv := Kd.C_string (P := Try.prog) (A := Ag) (c := cg) Try.underlying22 Try.underlying5 Try.underlying9 (Kd.C_below HCg.out hB)
              go_simp
            · refine StepOk.run (o := ?o5) ?ho5 ?hg5 ?h5
              case ho5 => simp only [List.getElem?_toArray, List.getElem?_cons_succ, List.getElem?_cons_zero]; rfl
              case hg5 => rfl
              case h5 =>
              intro a W hS hB hd
              have e0 : a.tmps[0]? = some (.slice (some ad0) ps.length c) := hS.get rfl rfl
              refine wp_value (c := .slice (some ad0) ps.length c) ?_ rfl
              go_simp
            · refine StepOk.run (o := ?o6) ?ho6 ?hg6 ?h6
              case ho6 => simp only [List.getElem?_toArray, List.getElem?_cons_succ, List.getElem?_cons_zero]; rfl
              case hg6 => rfl
              case h6 =>
              intro a W hS hB hd
              have e14 : a.tmps[14]? = some (.int .i64 (i : Int)) := hS.get rfl rfl
              refine wp_value (c := .int .i64 (i : Int)) ?_ rfl
              go_simp
            · refine StepOk.run (o := ?o7) ?ho7 ?hg7 ?h7
              case ho7 => simp only [List.getElem?_toArray, List.getElem?_cons_succ, List.getElem?_cons_zero]; rfl
              case hg7 => rfl
              case h7 =>
              intro a W hS hB hd
              have e71 : a.tmps[71]? = some (.slice (some ad0) ps.length c) := (hd 5 rfl).bool rfl rfl rfl
              have e72 : a.tmps[72]? = some (.int .i64 (i : Int)) := (hd 6 rfl).bool rfl rfl rfl
              refine wp_value (c := .pointer (some (ad0.add i))) ?_ rfl
              go_simp
            · refine StepOk.run (o := ?o8) ?ho8 ?hg8 ?h8
              case ho8 => simp only [List.getElem?_toArray, List.getElem?_cons_succ, List.getElem?_cons_zero]; rfl
              case hg8 => rfl
              case h8 =>
              intro a W hS hB hd
              have e73 : a.tmps[73]? = some (.pointer (some (ad0.add i))) := (hd 7 rfl).bool rfl rfl rfl
              refine wp_value (c := .slice Ai p.length ci) ?_ rfl
              have hcW : W.cell? (ad0.add i) = some (.slice Ai p.length ci) := HC0.out W hB
              go_simp
            · refine StepOk.run (o := ?o9) ?ho9 ?hg9 ?h9
              case ho9 => simp only [List.getElem?_toArray, List.getElem?_cons_succ, List.getElem?_cons_zero]; rfl
              case hg9 => rfl
              case h9 =>
              intro a W hS hB hd
              have e74 : a.tmps[74]? = some (.slice Ai p.length ci) := (hd 8 rfl).bool rfl rfl rfl
              refine wp_value (c := .string (strOfNums p)) ?_ rfl
              have hcv := Kd.C_string (P := Try.prog) (A := Ai) (c := ci) Try.underlying22 Try.underlying5 Try.underlying9 (Kd.C_below HCi.out hB)
              go_simp
            · refine StepOk.run (o := ?o10) ?ho10 ?hg10 ?h10
              case ho10 => simp only [List.getElem?_toArray, List.getElem?_cons_succ, List.getElem?_cons_zero]; rfl
              case hg10 => rfl
              case h10 =>
              intro a W hS hB hd
              have e70 : a.tmps[70]? = some (.string (strOfNums p)) := (hd 4 rfl).bool rfl rfl rfl
              have e75 : a.tmps[75]? = some (.string (strOfNums p)) := (hd 9 rfl).bool rfl rfl rfl
              refine wp_value (c := .bool false) ?_ rfl
              go_simp
            · refine StepOk.run (o := ?o11) ?ho11 ?hg11 ?h11
              case ho11 => simp only [List.getElem?_toArray, List.getElem?_cons_succ, List.getElem?_cons_zero]; rfl
              case hg11 => rfl
              case h11 =>
              intro a W hS hB hd
              have e76 : a.tmps[76]? = some (.bool false) := (hd 10 rfl).bool rfl rfl rfl
              refine wp_value (c := .bool false) ?_ rfl
              go_simp
            · refine StepOk.on (o := ?o12) (g := 11) (u := false) ?ho12 ?hg12 rfl rfl ?hw12 rfl ?h12
              case ho12 => simp only [List.getElem?_toArray, List.getElem?_cons_succ, List.getElem?_cons_zero]; rfl
              case hg12 => rfl
              case hw12 => rfl
              case h12 =>
              intro a W hS hB hd
              have e13 : a.tmps[13]? = some (.slice (some ad2) m c8) := hS.get rfl rfl
              refine wp_value (c := .slice (some ad2) m c8) ?_ rfl
              go_simp
            · refine StepOk.on (o := ?o13) (g := 11) (u := false) ?ho13 ?hg13 rfl rfl ?hw13 rfl ?h13
              case ho13 => simp only [List.getElem?_toArray, List.getElem?_cons_succ, List.getElem?_cons_zero]; rfl
              case hg13 => rfl
              case hw13 => rfl
              case h13 =>
              intro a W hS hB hd
              have e14 : a.tmps[14]? = some (.int .i64 (i : Int)) := hS.get rfl rfl
              refine wp_value (c := .int .i64 (i : Int)) ?_ rfl
              go_simp
            · refine StepOk.on (o := ?o14) (g := 11) (u := false) ?ho14 ?hg14 rfl rfl ?hw14 rfl ?h14
              case ho14 => simp only [List.getElem?_toArray, List.getElem?_cons_succ, List.getElem?_cons_zero]; rfl
              case hg14 => rfl
              case hw14 => rfl
              case h14 =>
              intro a W hS hB hd
              have e78 : a.tmps[78]? = some (.slice (some ad2) m c8) := (hd 12 rfl).bool rfl rfl rfl
              have e79 : a.tmps[79]? = some (.int .i64 (i : Int)) := (hd 13 rfl).bool rfl rfl rfl
              refine wp_value (c := .pointer (some (ad2.add i))) ?_ rfl
              go_simp
            · refine StepOk.on (o := ?o15) (g := 11) (u := false) ?ho15 ?hg15 rfl rfl ?hw15 rfl ?h15
              case ho15 => simp only [List.getElem?_toArray, List.getElem?_cons_succ, List.getElem?_cons_zero]; rfl
              case hg15 => rfl
              case hw15 => rfl
              case h15 =>
              intro a W hS hB hd
              have e80 : a.tmps[80]? = some (.pointer (some (ad2.add i))) := (hd 14 rfl).bool rfl rfl rfl
              refine wp_value (c := .int .i64 z) ?_ rfl
              have hcW : W.cell? (ad2.add i) = some (.int .i64 z) := HC2.out W hB
              go_simp
            · refine StepOk.on (o := ?o16) (g := 11) (u := false) ?ho16 ?hg16 rfl rfl ?hw16 rfl ?h16
              case ho16 => simp only [List.getElem?_toArray, List.getElem?_cons_succ, List.getElem?_cons_zero]; rfl
              case hg16 => rfl
              case hw16 => rfl
              case h16 =>
              intro a W hS hB hd
              have e6 : a.tmps[6]? = some (.slice (some ad6) ps.length c6) := hS.get rfl rfl
              refine wp_value (c := .slice (some ad6) ps.length c6) ?_ rfl
              go_simp
            · refine StepOk.on (o := ?o17) (g := 11) (u := false) ?ho17 ?hg17 rfl rfl ?hw17 rfl ?h17
              case ho17 => simp only [List.getElem?_toArray, List.getElem?_cons_succ, List.getElem?_cons_zero]; rfl
              case hg17 => rfl
              case hw17 => rfl
              case h17 =>
              intro a W hS hB hd
              have e14 : a.tmps[14]? = some (.int .i64 (i : Int)) := hS.get rfl rfl
              refine wp_value (c := .int .i64 (i : Int)) ?_ rfl
              go_simp
            · refine StepOk.on (o := ?o18) (g := 11) (u := false) ?ho18 ?hg18 rfl rfl ?hw18 rfl ?h18
              case ho18 => simp only [List.getElem?_toArray, List.getElem?_cons_succ, List.getElem?_cons_zero]; rfl
              case hg18 => rfl
              case hw18 => rfl
              case h18 =>
              intro a W hS hB hd
              have e82 : a.tmps[82]? = some (.slice (some ad6) ps.length c6) := (hd 16 rfl).bool rfl rfl rfl
              have e83 : a.tmps[83]? = some (.int .i64 (i : Int)) := (hd 17 rfl).bool rfl rfl rfl
              refine wp_value (c := .pointer (some (ad6.add i))) ?_ rfl
              go_simp
            · refine StepOk.on (o := ?o19) (g := 11) (u := false) ?ho19 ?hg19 rfl rfl ?hw19 rfl ?h19
              case ho19 => simp only [List.getElem?_toArray, List.getElem?_cons_succ, List.getElem?_cons_zero]; rfl
              case hg19 => rfl
              case hw19 => rfl
              case h19 =>
              intro a W hS hB hd
              have e84 : a.tmps[84]? = some (.pointer (some (ad6.add i))) := (hd 18 rfl).bool rfl rfl rfl
              refine wp_value (c := .int .i64 z) ?_ rfl
              have hcW : W.cell? (ad6.add i) = some (.int .i64 z) := HC6.out W hB
              go_simp
            · refine StepOk.on (o := ?o20) (g := 11) (u := false) ?ho20 ?hg20 rfl rfl ?hw20 rfl ?h20
              case ho20 => simp only [List.getElem?_toArray, List.getElem?_cons_succ, List.getElem?_cons_zero]; rfl
              case hg20 => rfl
              case hw20 => rfl
              case h20 =>
              intro a W hS hB hd
              have e81 : a.tmps[81]? = some (.int .i64 z) := (hd 15 rfl).bool rfl rfl rfl
              have e85 : a.tmps[85]? = some (.int .i64 z) := (hd 19 rfl).bool rfl rfl rfl
              refine wp_value (c := .bool false) ?_ rfl
              go_simp
            · refine StepOk.run (o := ?o21) ?ho21 ?hg21 ?h21
              case ho21 => simp only [List.getElem?_toArray, List.getElem?_cons_succ, List.getElem?_cons_zero]; rfl
              case hg21 => rfl
              case h21 =>
              intro a W hS hB hd
              have e77 : a.tmps[77]? = some (.bool false) := (hd 11 rfl).bool rfl rfl rfl
              have e86 : a.tmps[86]? = some (.bool false) := (hd 20 rfl).bool rfl rfl rfl
              refine wp_value (c := .bool false) ?_ rfl
              go_simp
          · intro a W hS hB hh
            have e87 : a.tmps[87]? = some (.bool false) := (hh 21 (by omega)).bool rfl rfl rfl
            have HBR := Lib.hid hB
            have hlit := same_lit hS
            clear hh hS hB
            simp only [List.filterMap_cons, List.filterMap_nil, List.foldl_cons, List.foldl_nil, List.setIfInBounds_toArray, List.set_cons_zero, List.set_cons_succ] at hlit
            rw [show a.tmps.getD 87 undef = .bool false by simp [Array.getD_eq_getD_getElem?, e87]] at hlit
            generalize a.tmps.getD 66 undef = z66 at hlit
            generalize a.tmps.getD 67 undef = z67 at hlit
            generalize a.tmps.getD 68 undef = z68 at hlit
            generalize a.tmps.getD 69 undef = z69 at hlit
            generalize a.tmps.getD 70 undef = z70 at hlit
            generalize a.tmps.getD 71 undef = z71 at hlit
            generalize a.tmps.getD 72 undef = z72 at hlit
            generalize a.tmps.getD 73 undef = z73 at hlit
            generalize a.tmps.getD 74 undef = z74 at hlit
            generalize a.tmps.getD 75 undef = z75 at hlit
            generalize a.tmps.getD 76 undef = z76 at hlit
            generalize a.tmps.getD 77 undef = z77 at hlit
            generalize a.tmps.getD 78 undef = z78 at hlit
            generalize a.tmps.getD 79 undef = z79 at hlit
            generalize a.tmps.getD 80 undef = z80 at hlit
            generalize a.tmps.getD 81 undef = z81 at hlit
            generalize a.tmps.getD 82 undef = z82 at hlit
            generalize a.tmps.getD 83 undef = z83 at hlit
            generalize a.tmps.getD 84 undef = z84 at hlit
            generalize a.tmps.getD 85 undef = z85 at hlit
            generalize a.tmps.getD 86 undef = z86 at hlit
            clear e87
            subst hlit
            have hbl2 := hbl.trans (HBR.out.mono hbl.size)
            go_wp2
            go_roundw
            case rel => exact ⟨i + 1, by omega, by go_num, hbl2⟩
            case measure => simp [intOf]; omega
        · obtain rfl : m = i := by omega
          have hbw := HB2.out.trans (hbl.mono HB2.out.size)
          go_wp2_with fail
          refine (fixed6_any _).mono ?_
          rintro e w6 ⟨rfl, hb6⟩
          have HB6 := Lib.hid (hbw.trans (hb6.mono hbw.size))
          clear hb6
          go_wp2_with fail
          go_ret
          exact ⟨rfl, HB6.out⟩
theorem walk (v0 : Value) (x0 : Option Addr × Nat × List (List Int)) (a1 : Int) (w : World) (w0 : IsRows (Kd.slice 5 (Kd.int .u8)) (fun xs => xs.length ≤ maxLen ∧ ∀ y ∈ xs, (Lit.int .u8 y).wf = true) w v0 x0) (w1 : (Lit.int .u16 a1).wf = true) :
    Calls Try.prog 6 #[v0, .int .u16 a1] w fun e w' => e = .returned (.bool true) ∧ Below w.heap.size w w' := by
  obtain ⟨A, c, ls⟩ := x0
  obtain ⟨rfl, hc, hC, hm, ho⟩ := w0
  have ha : 0 ≤ a1 ∧ a1 < 65536 := by simp [Lit.wf, IntKind.min, IntKind.max, IntKind.signed, IntKind.bits] at w1; omega
  have e : a1 = (a1.toNat : Int) := (Int.toNat_of_nonneg ha.1).symm
  rw [e]
  cases h : smallB ls with
  | false => exact cuts_great A c ls a1.toNat w hC h
  | true =>
    have hb : ∀ l ∈ ls, ∀ x ∈ l, 0 ≤ x ∧ x < 256 := fun l hl x hx => by
      have := (ho l hl).2 x hx
      simp [Lit.wf, IntKind.min, IntKind.max, IntKind.signed, IntKind.bits] at this; omega
    by_cases hcase : ((frs ls).length : Int) < (a1.toNat : Int)
    · exact cuts_a A c ls a1.toNat w (by omega) hC hc h hb hcase
    · exact cuts_b A c ls a1.toNat w (by omega) hC hc h hb hcase
end Go.Proofs.Ytfflenbfapgilaa.WFrameCuts
