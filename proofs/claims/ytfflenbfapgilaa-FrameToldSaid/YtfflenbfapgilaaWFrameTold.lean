/- Of frames one of which has bits within 32 in a row turned, behind its length, one at least, just those ahead of it are there: the law FrameTold returns true, and writes nothing that was there (up to 20 payloads of 200 bytes). -/
import Derived.Test.YtfflenbfapgilaaFrTl
set_option linter.unusedVariables false
set_option linter.unusedSimpArgs false
namespace Go.Proofs.Ytfflenbfapgilaa
open Go.RowKit Go.Proofs.YtfflenbfapgilaaW.PrintWords Go.Proofs.Ytfflenbfapgilaa.GVB Go.ChangeShapes Go.WideShapes

theorem add0 (b k : Nat) : (⟨b, 0, none⟩ : Addr).add k = ⟨b, k, none⟩ := by unfold Addr.add; split <;> simp_all
theorem frs_split (ps : List (List Int)) (k : Nat) (hk : k < ps.length) : frs ps = frs (ps.take k) ++ (frameL ps[k] ++ frs (ps.drop (k + 1))) := by
  conv => lhs; rw [← List.take_append_drop k ps]
  rw [frs_append, List.drop_eq_getElem_cons hk, frs_cons]
/-- Turned in frame k: the k ahead of it are read; all, if nothing is turned. -/
theorem runs_turned (ps : List (List Int)) (h : ∀ p ∈ ps, Pay p) (k : Nat) (hk : k < ps.length) (cs : List Int) (f W : Nat) (hb : ∀ x ∈ cs, 0 ≤ x ∧ x < 256) (hlen : cs.length = (frameL ps[k]).length) (hf : f < 8 * cs.length) (hW : W < 4294967296) (h0 : W = 0 → cs = frameL ps[k])
    (hle : Crc.le (nats cs) = Crc.le (nats (frameL ps[k])) ^^^ (2 ^ f * W)) (hh : cs.take (hdr ps[k]) = ints (vb ps[k].length)) :
    (runs (frs (ps.take k) ++ (cs ++ frs (ps.drop (k + 1)))) 0).length = if W = 0 then ps.length else k := by
  by_cases hz : W = 0
  · rw [if_pos hz, h0 hz, ← frs_split ps k hk]
    have := runs_frames ps h [] (by simp) (by unfold fgetS; rw [if_pos (by rw [List.append_nil])]; decide)
    rw [List.append_nil] at this
    rw [this, items_len]
  · rw [if_neg hz]
    have hu : ∀ x ∈ cs ++ frs (ps.drop (k + 1)), 0 ≤ x ∧ x < 256 := by
      intro x hx
      rcases List.mem_append.1 hx with hx | hx
      · exact hb x hx
      · exact frs_bytes _ (fun p hp => h p (List.mem_of_mem_drop hp)) x hx
    have hm : ∀ p ∈ ps.take k, Pay p := fun p hp => h p (List.mem_of_mem_take hp)
    rw [runs_frames (ps.take k) hm _ hu (fget_turned _ cs _ ps[k] f W (h _ (List.getElem_mem _)) (frs_bytes _ hm) hb (frs_bytes _ (fun p hp => h p (List.mem_of_mem_drop hp))) hlen hf hW hz hle hh), items_len, List.length_take]
    omega
end Go.Proofs.Ytfflenbfapgilaa
namespace Go.Proofs.Ytfflenbfapgilaa.WFrameTold
open Go.RowKit Go.Proofs.YtfflenbfapgilaaW.PrintWords Go.Proofs.Ytfflenbfapgilaa.GVB
set_option maxRecDepth 100000 in
set_option maxHeartbeats 400000 in
theorem told_great (A : Option Addr) (c : Nat) (ps : List (List Int)) (a b y : Int) (w : World) (hC : Kd.C (Kd.slice 5 (Kd.int .u8)) w A ps.length ps) (h : smallB ps = false ∨ smallB ps = true ∧ ps.length = 0) :
    Calls Try.prog 7 #[.slice A ps.length c, .agg #[.int .u16 a, .int .u16 b], .int .u32 y] w fun e w' => e = .returned (.bool true) ∧ Below w.heap.size w w' := by
  have HS := Lib.hid (fun (W : World) (h : Below w.heap.size w W) => small_any A c ps W (Kd.C_below hC h))
  have hm := hC.2.1
  clear hC
  rcases h with h | ⟨h, h0⟩
  · rw [h] at HS
    go_enter Try.func7, Try.ntmps7
    go_wp2_with fail
    have hB := (Below.refl w.heap.size w).alloc (Nat.le_refl _) (.cells #[.int .u16 a, .int .u16 b] 55)
    refine (HS.out _ hB).mono ?_
    rintro e w1 ⟨rfl, rfl⟩
    have HB := Lib.hid hB
    clear hB
    go_wp2_with fail
    refine (fixed6_any _).mono ?_
    rintro e w6 ⟨rfl, hb6⟩
    have HB6 := Lib.hid (HB.out.trans (hb6.mono HB.out.size))
    clear hb6
    go_wp2_with fail
    go_ret
    exact ⟨rfl, HB6.out⟩
  · rw [h] at HS
    obtain rfl : ps = [] := List.eq_nil_of_length_eq_zero h0
    clear h h0
    go_enter Try.func7, Try.ntmps7
    go_wp2_with fail
    have hB := (Below.refl w.heap.size w).alloc (Nat.le_refl _) (.cells #[.int .u16 a, .int .u16 b] 55)
    refine (HS.out _ hB).mono ?_
    rintro e w1 ⟨rfl, rfl⟩
    have HB := Lib.hid hB
    clear hB
    go_wp2_with fail
    refine (fixed6_any _).mono ?_
    rintro e w6 ⟨rfl, hb6⟩
    have HB6 := Lib.hid (HB.out.trans (hb6.mono HB.out.size))
    clear hb6
    go_wp2_with fail
    go_ret
    exact ⟨rfl, HB6.out⟩
set_option maxRecDepth 100000 in
set_option maxHeartbeats 4000000 in
theorem told_a (A : Option Addr) (c : Nat) (ps : List (List Int)) (k q : Nat) (a y : Int) (w : World) (ha : 0 ≤ a ∧ a < 65536) (hq : q < 65536) (hy : 0 ≤ y ∧ y < 4294967296) (hC : Kd.C (Kd.slice 5 (Kd.int .u8)) w A ps.length ps) (hc : ps.length ≤ c) (h : smallB ps = true) (hb : ∀ p ∈ ps, ∀ x ∈ p, 0 ≤ x ∧ x < 256) (hk : k < ps.length) (hka : a % (ps.length : Int) = (k : Int)) (hc1 : ¬ 128 ≤ ps[k].length) (hc2 : k = 0) :
    Calls Try.prog 7 #[.slice A ps.length c, .agg #[.int .u16 a, .int .u16 (q : Int)], .int .u32 y] w fun e w' => e = .returned (.bool true) ∧ Below w.heap.size w w' := by
  obtain ⟨hl, hp⟩ := smallB_pay h hb
  have hS := fun (W : World) (h : Below w.heap.size w W) => small_any A c ps W (Kd.C_below hC h)
  rw [h] at hS
  have HS := Lib.hid hS
  have hL := fun (W : World) (h : Below w.heap.size w W) => laid_any A c ps W (Kd.C_below hC h) hp hl
  have hC' := fun (W : World) (h : Below w.heap.size w W) => Kd.C_below hC h
  have hfl := frs_le ps hp
  have hsp := frs_split ps k hk
  have hrt := runs_turned ps hp k hk
  have hel := endsO_len ps 0
  have hpay := hp ps[k] (List.getElem_mem _)
  have hek : (endsO 0 ps)[k]? = some (((frs (ps.take k)).length + (frameL ps[k]).length : Nat) : Int) := by
    rw [endsO_get ps k hk 0, List.take_succ_eq_append_getElem hk, frs_append, List.length_append, Nat.zero_add]
    show some (((_ + (frameL ps[k] ++ []).length : Nat)) : Int) = _
    rw [List.append_nil]
  have hek1 : 0 < k → (endsO 0 ps)[k - 1]? = some (((frs (ps.take k)).length : Nat) : Int) := by
    intro h0
    rw [endsO_get ps (k - 1) (by omega) 0, show k - 1 + 1 = k by omega, Nat.zero_add]
  have hk0 : k = 0 → (frs (ps.take k)).length = 0 := by rintro rfl; rfl
  obtain ⟨p, hpk⟩ : ∃ p, ps[k] = p := ⟨_, rfl⟩
  have hr0 := fun (W : World) (h : Below w.heap.size w W) => rows_at (hC' W h) k hk
  have HS := Lib.hid hS
  simp only [hpk] at hsp hrt hpay hek hr0
  have hfb := frs_bytes ps hp
  have hprb := frs_bytes (ps.take k) (fun p hp' => hp p (List.mem_of_mem_take hp'))
  have hrsb := frs_bytes (ps.drop (k + 1)) (fun p hp' => hp p (List.mem_of_mem_drop hp'))
  have hFb := frameL_bytes p hpay
  have hFl := frameL_length p hpay
  have hdi := hdr_is p hpay
  have hF0 : (frameL p).take (hdr p) = ints (vb p.length) := by
    rw [frameL_parts p hpay, List.append_assoc, List.take_append_of_le_length (by simp [ints, hdr]), List.take_of_length_le (by simp [ints, hdr])]
  obtain ⟨es, hes⟩ : ∃ es, endsO 0 ps = es := ⟨_, rfl⟩
  obtain ⟨pre, hpre⟩ : ∃ pre, frs (ps.take k) = pre := ⟨_, rfl⟩
  obtain ⟨rest, hrest⟩ : ∃ rest, frs (ps.drop (k + 1)) = rest := ⟨_, rfl⟩
  obtain ⟨F, hF⟩ : ∃ F, frameL p = F := ⟨_, rfl⟩
  unfold LaidPost at hL
  simp only [hes, hpre, hrest, hF] at hL hsp hrt hek hek1 hk0 hel hprb hrsb hFb hFl hF0 hel
  have hfll : (frs ps).length = pre.length + (F.length + rest.length) := by rw [hsp, List.length_append, List.length_append]
  rw [hsp] at hL
  obtain ⟨L, hLL⟩ : ∃ L, pre.length + (F.length + rest.length) = L := ⟨_, rfl⟩
  have hlen0 : (pre ++ (F ++ rest)).length = L := by rw [List.length_append, List.length_append, hLL]
  have hdr1 : hdr p = 1 := by rw [hdi]; rw [if_neg (by rw [← hpk]; exact hc1)]
  have hp1 := hpay.1
  have hp2 := hpay.2.1
  have HL := Lib.hid hL
  have HC := Lib.hid hC'
  have HRT := Lib.hid hrt
  have HE := Lib.hid (And.intro hek (And.intro hek1 hel))
  have HB := Lib.hid (And.intro hprb (And.intro hrsb (And.intro hFb (And.intro hF0 hlen0))))
  have HR0 := Lib.hid hr0
  have hzl : ((ps.length : Int) == 0) = false := beq_false_of_ne (by omega)
  have hL2 : L ≤ 4280 := by omega
  have hz0 := hk0 hc2
  have hzz : True := trivial
  rw [hpk] at hc1
  clear hS hC hC' h hb hp hfl hsp hrt hel hpay hek hek1 hr0 hfb hprb hrsb hFb hdi hF0 hes hpre hrest hF hL hfll hlen0 hpk hk0 hzz
  obtain ⟨pl, hpl⟩ : ∃ pl, pre.length = pl := ⟨_, rfl⟩
  obtain ⟨fl, hFL⟩ : ∃ fl, F.length = fl := ⟨_, rfl⟩
  rw [hpl, hFL] at HE
  rw [hFL] at hFl
  rw [hpl, hFL] at hLL
  have HPL := Lib.hid (And.intro hpl (And.intro hFL (And.intro hFl hdr1)))
  have hfl1 : fl = 1 + p.length + 4 := by rw [hFl, hdr1]
  obtain ⟨ek, hekk⟩ : ∃ ek, pl + fl = ek := ⟨_, rfl⟩
  rw [hekk] at HE
  have b128 : decide (128 ≤ (p.length : Int)) = false := by exact decide_eq_false (by omega)
  have bk : decide (0 < (k : Int)) = false := by exact decide_eq_false (by omega)
  rw [hpl] at hz0
  have hz1 : pl ≤ 0 := by omega
  have hk0' : k ≤ 0 := by omega
  clear hc2 hz0
  have b3 : decide ((ek : Int) ≤ 1) = false := decide_eq_false (by omega)
  have b4 : decide ((L : Int) < (ek : Int)) = false := decide_eq_false (by omega)
  clear hpl hFL hFl hdr1
  have HFL1 := Lib.hid (And.intro hfl1 hekk)
  have hel1 : pl + 1 + p.length + 4 ≤ ek := by omega
  have hel2 : ek ≤ pl + 1 + p.length + 4 := by omega
  have hel3 : ek ≤ L := by omega
  clear hfl1 hekk hLL
  go_enter Try.func7, Try.ntmps7
  go_wp2_with fail
  have hB := (Below.refl w.heap.size w).alloc (Nat.le_refl _) (.cells #[.int .u16 a, .int .u16 (q : Int)] 55)
  refine (HS.out _ hB).mono ?_
  rintro e w1 ⟨rfl, rfl⟩
  have HB0 := Lib.hid hB
  clear hB
  go_wp2_with fail
  refine (HL.out _ HB0.out).mono ?_
  rintro e w1 ⟨v1, v2, rfl, hr1, hr2, hb1⟩
  obtain ⟨A5, c5, hv1⟩ := Kd.R_slice hr1
  subst hv1
  obtain ⟨A6, c6, hv2⟩ := Kd.R_slice hr2
  subst hv2
  obtain ⟨g, cp, hA5, hbase, hglt, C5, hC5⟩ := Kd.R_form (Kd.R_lower hr1 HB0.out.size) (by rw [HB.out.2.2.2.2]; omega)
  obtain ⟨g6, cp6, hA6, _, _, C6, hC6⟩ := Kd.R_form hr2 (by rw [HE.out.2.2]; omega)
  have h6g : g6 ≠ g := by rintro rfl; rw [hC5] at hC6; cases hC6
  cases hA5
  cases hA6
  have HB1 := Lib.hid (HB0.out.trans (hb1.mono HB0.out.size))
  have HR1 := Lib.hid (Kd.R_lower hr1 HB0.out.size)
  have HR2 := Lib.hid (Kd.R_reads' hr2)
  have hpc0 : w1.cell? ⟨w.heap.size, 0, none⟩ = some (.int .u16 a) := cell_keep hb1 (by simp)
  have hpc1 : w1.cell? ⟨w.heap.size, 1, none⟩ = some (.int .u16 (q : Int)) := cell_keep hb1 (by simp)
  obtain ⟨ad, Ak, ck, he0, hcellk, _, _⟩ := HR0.out w1 HB1.out
  subst he0
  obtain ⟨ad6, he6, hcell6⟩ := Kd.at_int HR2.out.2.2 (k : Int) (by omega) (by have := HE.out.2.2; omega)
  cases he6
  have hz6 : rd es (k : Int) = (ek : Int) := by simp [rd, HE.out.1]
  rw [Int.toNat_natCast, hz6, add0] at hcell6
  skip
  rw [HE.out.2.2, HB.out.2.2.2.2]
  clear hr1 hr2 hb1 hz6 hC5 hC6 hglt
  go_wp2_with fail
  obtain ⟨fr, hfr⟩ : ∃ fr : Nat, 1 = (fr : Int) := ⟨pl + 1, by omega⟩
  have hfr1 : fr = pl + 1 := by omega
  obtain ⟨n8, hn8⟩ : ∃ n8, 8 * fr = n8 := ⟨_, rfl⟩
  obtain ⟨d, hd⟩ : ∃ d, ek - fr = d := ⟨_, rfl⟩
  obtain ⟨d8, hd8⟩ : ∃ d8, 8 * d = d8 := ⟨_, rfl⟩
  obtain ⟨r, hr⟩ : ∃ r, q % d8 = r := ⟨_, rfl⟩
  obtain ⟨F0, hF0⟩ : ∃ F0, n8 + r = F0 := ⟨_, rfl⟩
  have hrd : r < d8 := by rw [← hr]; exact Nat.mod_lt _ (by omega)
  have hF0l : F0 < 8 * ek := by omega
  have hF0g : 8 * fr ≤ F0 := by omega
  have HFR := Lib.hid (And.intro hfr1 (And.intro hF0l hF0g))
  skip
  have e2 : IntKind.i64.wrap ((ek : Int) - 1) = (d : Int) := by rw [IntWalk.i64_in _ (by omega)]; omega
  have e3 : IntKind.i64.wrap (8 * (d : Int)) = (d8 : Int) := by rw [IntWalk.i64_in _ (by omega)]; omega
  have e4 : Int.tmod (q : Int) (d8 : Int) = (r : Int) := by rw [Int.tmod_eq_emod_of_nonneg (by omega), ← hr]; omega
  have e5 : IntKind.i64.wrap (8 + (r : Int)) = (F0 : Int) := by rw [IntWalk.i64_in _ (by omega)]; omega
  have e6 : ((d8 : Int) == 0) = false := beq_false_of_ne (by omega)
  have e7 : ¬ d8 = 0 := by omega
  skip
  clear hn8 hd hd8 hr hF0 hrd hfr1 hfr
  go_quiet (fail)
  clear e2 e3 e4 e5 e6 e7 hcellk hpc0 hpc1 b3 b4
  have HR3 := Lib.hid (Kd.R_drewN (HB.out.2.2.2.2 ▸ HR1.out : Kd.R (Kd.int .u8) 5 w1 w.heap.size (fun _ => True) (.slice (some ⟨g, 0, none⟩) L c5) (pre ++ (F ++ rest))) nq)
  have HB3 := Lib.hid (pw_below_drewN HB1.out nq)
  have hcell6' : (w1.drewN nq).cell? ⟨g6, k, none⟩ = some (.int .i64 (ek : Int)) := by simpa using hcell6
  obtain ⟨W1, hW1⟩ : ∃ W1, w1.drewN nq = W1 := ⟨_, rfl⟩
  rw [hW1] at HR3 HB3 hcell6' ⊢
  have HC6 := Lib.hid hcell6'
  clear hcell6 hW1 hcell6'
  have hL1 : 1 ≤ L := by omega
  obtain ⟨f, hf⟩ : ∃ f, F0 = 8 * pl + f := ⟨F0 - 8 * pl, by have := HFR.out; omega⟩
  have HFF2 := Lib.hid hf
  have hf8 : 8 * hdr p ≤ f ∧ f < 8 * F.length := by have := HFR.out; have := HPL.out; have := HFL1.out; omega
  have HF8 := Lib.hid hf8
  clear hf hf8
  go_wp2_with fail
  go_loopw [13, 85] (fun u13 u wr => ∃ (j W : Nat) (cs : List Int), j ≤ 32 ∧ u = .int .i64 j ∧ u13 = .bool (!decide (W = 0)) ∧ W < 2 ^ j ∧ Hid (Crc.le (nats cs) = Crc.le (nats F) ^^^ (2 ^ f * W)) ∧ Hid (∀ b ∈ cs, 0 ≤ b ∧ b < 256) ∧ Hid (cs.length = F.length) ∧ Hid (cs.take (hdr p) = ints (vb p.length)) ∧ Hid (W = 0 → cs = F) ∧ Hid (Kd.R (Kd.int .u8) 5 wr w.heap.size (fun _ => True) (.slice (some ⟨g, 0, none⟩) L c5) (pre ++ (cs ++ rest))) ∧ Hid (wr.cell? ⟨g6, k, none⟩ = some (.int .i64 (ek : Int))) ∧ Hid (Below w.heap.size w wr)) (fun _ v _ => 32 - (intOf v).toNat)
  case atStart => exact ⟨0, 0, F, by omega, rfl, rfl, by decide, by simp [Hid], HB.out.2.2.1, rfl, HB.out.2.2.2.1, fun _ => rfl, HR3.out, HC6.out, HB3.out⟩
  case round =>
    obtain ⟨j, W, cs, hj, rfl, rfl, hW, HLE, HBY, HLN, HHD, HW0, HR, HC6', HBL⟩ := hrel
    have hc6 := HC6'.out
    by_cases hlt : j < 32
    · by_cases hbit : y / 2 ^ j % 2 = 1
      · have e1 := bit_one y j hy hbit
        clear hbit
        by_cases hat : F0 + j < 8 * ek
        · have hjl : (f + j) / 8 < cs.length := by have := HLN.out; have := HPL.out; have := HFL1.out; have := HFF2.out; omega
          have hjh : hdr p ≤ (f + j) / 8 := by have := HF8.out; omega
          have hix : (F0 + j) / 8 = pre.length + (f + j) / 8 := by have := HPL.out; have := HFF2.out; omega
          have hmx : (F0 + j) % 8 = (f + j) % 8 := by have := HFF2.out; omega
          have hxl : (F0 + j) / 8 < L := by omega
          obtain ⟨b, HBV⟩ : ∃ b, Hid (cs.getD ((f + j) / 8) 0 = b) := ⟨_, Lib.hid rfl⟩
          have hlen : (pre ++ (cs ++ rest)).length = L := by
            have h1 := HB.out.2.2.2.2
            rw [List.length_append, List.length_append] at h1 ⊢
            rw [HLN.out]; exact h1
          have hcell : wr.cell? ⟨g, (F0 + j) / 8, none⟩ = some (.int .u8 b) := by
            have hR' : Kd.R (Kd.int .u8) 5 wr w.heap.size (fun _ => True) (.slice (some ⟨g, 0, none⟩) (pre ++ (cs ++ rest)).length c5) (pre ++ (cs ++ rest)) := by rw [hlen]; exact HR.out
            have := (Kd.R_cell (0 : Int) hR' (((F0 + j) / 8 : Nat) : Int) (by omega) (by omega)).1
            rw [Int.toNat_natCast] at this
            rw [this]
            congr 1
            show Value.int .u8 (rdOf 0 _ _) = _
            congr 1
            unfold rdOf
            rw [Int.toNat_natCast, hix, getD_mid _ _ _ _ hjl]
            exact HBV.out
          have hfz : wr.frozen? ⟨g, (F0 + j) / 8, none⟩ = false := by
            obtain ⟨g', c', cur', he, _, hh, _, _⟩ := R_open HR.out (by omega)
            injection he with he
            cases he
            exact unfrozen_of hh _
          have hfl := flip cs HBY.out (f + j) hjl
          rw [HBV.out] at hfl
          have HFL := Lib.hid hfl
          have hset := set_mid pre cs rest ((f + j) / 8) (Go.bits .xor .u8 b (2 ^ ((f + j) % 8) % 256)) hjl
          rw [← hix, ← hmx] at hset
          have HSET := Lib.hid hset
          have HJ := Lib.hid (And.intro hjl (And.intro hjh hmx))
          clear hfl hset hjl hjh hix hmx hlen
          go_wp2
          go_roundw
          case rel =>
            refine ⟨j + 1, W + 2 ^ j, cs.set ((f + j) / 8) (Go.bits .xor .u8 b (2 ^ ((f + j) % 8) % 256)), by omega, by go_num, ?_, ?_, ?_, HFL.out.1, ?_, ?_, ?_, ?_, ?_, HBL.out.setCell hbase _⟩
            · have : 0 < 2 ^ j := Nat.two_pow_pos j
              rw [decide_eq_false (by omega)]; rfl
            · rw [Nat.pow_succ]; omega
            · show _ = _
              rw [HFL.out.2, HLE.out, ← xor_two_pow W j hW, pow_mul_xor, ← Nat.pow_add, Nat.xor_assoc]
            · show _ = _
              rw [List.length_set]; exact HLN.out
            · show _ = _
              rw [List.take_set_of_le HJ.out.2.1]; exact HHD.out
            · intro h
              have : 0 < 2 ^ j := Nat.two_pow_pos j
              omega
            · have := Kd.R_putn HR.out (((F0 + j) / 8 : Nat) : Int) (Go.bits .xor .u8 b (2 ^ ((F0 + j) % 8) % 256))
              rw [Int.toNat_natCast, HSET.out] at this
              rw [HJ.out.2.2] at this ⊢
              exact this
            · show _ = _
              rw [World.cell?_setCell_other _ _ _ _ (by intro e; injection e with e; exact h6g e.symm)]
              exact HC6'.out
          case measure => simp [intOf]; omega
        · go_wp2
          go_roundw
          case rel => exact ⟨j + 1, W, cs, by omega, by go_num, rfl, by rw [Nat.pow_succ]; omega, HLE, HBY, HLN, HHD, HW0, HR, HC6', HBL⟩
          case measure => simp [intOf]; omega
      · have e1 := bit_zero y j hy hbit
        clear hbit
        go_wp2
        go_roundw
        case rel => exact ⟨j + 1, W, cs, by omega, by go_num, rfl, by rw [Nat.pow_succ]; omega, HLE, HBY, HLN, HHD, HW0, HR, HC6', HBL⟩
        case measure => simp [intOf]; omega
    · obtain rfl : j = 32 := by omega
      have hLn := HLN.out
      have hcsl : (pre ++ (cs ++ rest)).length = L := by
        have h1 := HB.out.2.2.2.2
        rw [List.length_append, List.length_append] at h1 ⊢
        rw [HLN.out]; exact h1
      have hbb : ∀ x ∈ pre ++ (cs ++ rest), 0 ≤ x ∧ x < 256 := by
        intro x hx
        rcases List.mem_append.1 hx with hx | hx
        · exact HB.out.1 x hx
        · rcases List.mem_append.1 hx with hx | hx
          · exact HBY.out x hx
          · exact HB.out.2.1 x hx
      have hR' : Kd.R (Kd.int .u8) 5 wr w.heap.size (fun _ => True) (.slice (some ⟨g, 0, none⟩) (pre ++ (cs ++ rest)).length c5) (pre ++ (cs ++ rest)) := by rw [hcsl]; exact HR.out
      have hrun := frun_any (some ⟨g, 0, none⟩) c5 (pre ++ (cs ++ rest)) 0 wr (Kd.R_reads' hR').2.2 (Kd.R_reads' hR').2.1 hbb (by omega)
      rw [hcsl] at hrun
      have hnum := HRT.out cs f W HBY.out HLN.out (by rw [HLN.out]; exact HF8.out.2) hW HW0.out HLE.out HHD.out
      unfold FRunPost at hrun
      obtain ⟨its, hits⟩ : ∃ its, runs (pre ++ (cs ++ rest)) 0 = its := ⟨_, rfl⟩
      rw [hits] at hrun hnum
      have HRN := Lib.hid hrun
      have HNUM := Lib.hid hnum
      clear hrun hnum hR' hbb hcsl hLn hits
      go_wp2_with fail
      refine HRN.out.mono ?_
      rintro e w2 ⟨v3, v4, vs, rfl, hr3, hr4, hvl, _, hb2⟩
      obtain ⟨A7, c7, hv3⟩ := Kd.R_slice hr3
      subst hv3
      have HB2 := Lib.hid (HBL.out.trans (hb2.mono HBL.out.size))
      have hvn := hvl.trans HNUM.out
      clear hr3 hr4 hvl hb2
      by_cases hz : W = 0
      · rw [if_pos hz] at hvn
        rw [hvn, decide_eq_true hz]
        clear hvn hz hW
        go_wp2_with fail
        refine (fixed6_any _).mono ?_
        rintro e w6 ⟨rfl, hb6⟩
        have HB6 := Lib.hid (HB2.out.trans (hb6.mono HB2.out.size))
        clear hb6
        go_wp2_with fail
        go_ret
        exact ⟨rfl, HB6.out⟩
      · rw [if_neg hz] at hvn
        rw [hvn, decide_eq_false hz]
        clear hvn hz hW
        go_wp2_with fail
        refine (fixed6_any _).mono ?_
        rintro e w6 ⟨rfl, hb6⟩
        have HB6 := Lib.hid (HB2.out.trans (hb6.mono HB2.out.size))
        clear hb6
        go_wp2_with fail
        go_ret
        exact ⟨rfl, HB6.out⟩
set_option maxRecDepth 100000 in
set_option maxHeartbeats 4000000 in
theorem told_b (A : Option Addr) (c : Nat) (ps : List (List Int)) (k q : Nat) (a y : Int) (w : World) (ha : 0 ≤ a ∧ a < 65536) (hq : q < 65536) (hy : 0 ≤ y ∧ y < 4294967296) (hC : Kd.C (Kd.slice 5 (Kd.int .u8)) w A ps.length ps) (hc : ps.length ≤ c) (h : smallB ps = true) (hb : ∀ p ∈ ps, ∀ x ∈ p, 0 ≤ x ∧ x < 256) (hk : k < ps.length) (hka : a % (ps.length : Int) = (k : Int)) (hc1 : 128 ≤ ps[k].length) (hc2 : k = 0) :
    Calls Try.prog 7 #[.slice A ps.length c, .agg #[.int .u16 a, .int .u16 (q : Int)], .int .u32 y] w fun e w' => e = .returned (.bool true) ∧ Below w.heap.size w w' := by
  obtain ⟨hl, hp⟩ := smallB_pay h hb
  have hS := fun (W : World) (h : Below w.heap.size w W) => small_any A c ps W (Kd.C_below hC h)
  rw [h] at hS
  have HS := Lib.hid hS
  have hL := fun (W : World) (h : Below w.heap.size w W) => laid_any A c ps W (Kd.C_below hC h) hp hl
  have hC' := fun (W : World) (h : Below w.heap.size w W) => Kd.C_below hC h
  have hfl := frs_le ps hp
  have hsp := frs_split ps k hk
  have hrt := runs_turned ps hp k hk
  have hel := endsO_len ps 0
  have hpay := hp ps[k] (List.getElem_mem _)
  have hek : (endsO 0 ps)[k]? = some (((frs (ps.take k)).length + (frameL ps[k]).length : Nat) : Int) := by
    rw [endsO_get ps k hk 0, List.take_succ_eq_append_getElem hk, frs_append, List.length_append, Nat.zero_add]
    show some (((_ + (frameL ps[k] ++ []).length : Nat)) : Int) = _
    rw [List.append_nil]
  have hek1 : 0 < k → (endsO 0 ps)[k - 1]? = some (((frs (ps.take k)).length : Nat) : Int) := by
    intro h0
    rw [endsO_get ps (k - 1) (by omega) 0, show k - 1 + 1 = k by omega, Nat.zero_add]
  have hk0 : k = 0 → (frs (ps.take k)).length = 0 := by rintro rfl; rfl
  obtain ⟨p, hpk⟩ : ∃ p, ps[k] = p := ⟨_, rfl⟩
  have hr0 := fun (W : World) (h : Below w.heap.size w W) => rows_at (hC' W h) k hk
  have HS := Lib.hid hS
  simp only [hpk] at hsp hrt hpay hek hr0
  have hfb := frs_bytes ps hp
  have hprb := frs_bytes (ps.take k) (fun p hp' => hp p (List.mem_of_mem_take hp'))
  have hrsb := frs_bytes (ps.drop (k + 1)) (fun p hp' => hp p (List.mem_of_mem_drop hp'))
  have hFb := frameL_bytes p hpay
  have hFl := frameL_length p hpay
  have hdi := hdr_is p hpay
  have hF0 : (frameL p).take (hdr p) = ints (vb p.length) := by
    rw [frameL_parts p hpay, List.append_assoc, List.take_append_of_le_length (by simp [ints, hdr]), List.take_of_length_le (by simp [ints, hdr])]
  obtain ⟨es, hes⟩ : ∃ es, endsO 0 ps = es := ⟨_, rfl⟩
  obtain ⟨pre, hpre⟩ : ∃ pre, frs (ps.take k) = pre := ⟨_, rfl⟩
  obtain ⟨rest, hrest⟩ : ∃ rest, frs (ps.drop (k + 1)) = rest := ⟨_, rfl⟩
  obtain ⟨F, hF⟩ : ∃ F, frameL p = F := ⟨_, rfl⟩
  unfold LaidPost at hL
  simp only [hes, hpre, hrest, hF] at hL hsp hrt hek hek1 hk0 hel hprb hrsb hFb hFl hF0 hel
  have hfll : (frs ps).length = pre.length + (F.length + rest.length) := by rw [hsp, List.length_append, List.length_append]
  rw [hsp] at hL
  obtain ⟨L, hLL⟩ : ∃ L, pre.length + (F.length + rest.length) = L := ⟨_, rfl⟩
  have hlen0 : (pre ++ (F ++ rest)).length = L := by rw [List.length_append, List.length_append, hLL]
  have hdr1 : hdr p = 2 := by rw [hdi]; rw [if_pos (by rw [← hpk]; exact hc1)]
  have hp1 := hpay.1
  have hp2 := hpay.2.1
  have HL := Lib.hid hL
  have HC := Lib.hid hC'
  have HRT := Lib.hid hrt
  have HE := Lib.hid (And.intro hek (And.intro hek1 hel))
  have HB := Lib.hid (And.intro hprb (And.intro hrsb (And.intro hFb (And.intro hF0 hlen0))))
  have HR0 := Lib.hid hr0
  have hzl : ((ps.length : Int) == 0) = false := beq_false_of_ne (by omega)
  have hL2 : L ≤ 4280 := by omega
  have hz0 := hk0 hc2
  have hzz : True := trivial
  rw [hpk] at hc1
  clear hS hC hC' h hb hp hfl hsp hrt hel hpay hek hek1 hr0 hfb hprb hrsb hFb hdi hF0 hes hpre hrest hF hL hfll hlen0 hpk hk0 hzz
  obtain ⟨pl, hpl⟩ : ∃ pl, pre.length = pl := ⟨_, rfl⟩
  obtain ⟨fl, hFL⟩ : ∃ fl, F.length = fl := ⟨_, rfl⟩
  rw [hpl, hFL] at HE
  rw [hFL] at hFl
  rw [hpl, hFL] at hLL
  have HPL := Lib.hid (And.intro hpl (And.intro hFL (And.intro hFl hdr1)))
  have hfl1 : fl = 2 + p.length + 4 := by rw [hFl, hdr1]
  obtain ⟨ek, hekk⟩ : ∃ ek, pl + fl = ek := ⟨_, rfl⟩
  rw [hekk] at HE
  have b128 : decide (128 ≤ (p.length : Int)) = true := by exact decide_eq_true (by omega)
  have bk : decide (0 < (k : Int)) = false := by exact decide_eq_false (by omega)
  rw [hpl] at hz0
  have hz1 : pl ≤ 0 := by omega
  have hk0' : k ≤ 0 := by omega
  clear hc2 hz0
  have b3 : decide ((ek : Int) ≤ 2) = false := decide_eq_false (by omega)
  have b4 : decide ((L : Int) < (ek : Int)) = false := decide_eq_false (by omega)
  clear hpl hFL hFl hdr1
  have HFL1 := Lib.hid (And.intro hfl1 hekk)
  have hel1 : pl + 2 + p.length + 4 ≤ ek := by omega
  have hel2 : ek ≤ pl + 2 + p.length + 4 := by omega
  have hel3 : ek ≤ L := by omega
  clear hfl1 hekk hLL
  go_enter Try.func7, Try.ntmps7
  go_wp2_with fail
  have hB := (Below.refl w.heap.size w).alloc (Nat.le_refl _) (.cells #[.int .u16 a, .int .u16 (q : Int)] 55)
  refine (HS.out _ hB).mono ?_
  rintro e w1 ⟨rfl, rfl⟩
  have HB0 := Lib.hid hB
  clear hB
  go_wp2_with fail
  refine (HL.out _ HB0.out).mono ?_
  rintro e w1 ⟨v1, v2, rfl, hr1, hr2, hb1⟩
  obtain ⟨A5, c5, hv1⟩ := Kd.R_slice hr1
  subst hv1
  obtain ⟨A6, c6, hv2⟩ := Kd.R_slice hr2
  subst hv2
  obtain ⟨g, cp, hA5, hbase, hglt, C5, hC5⟩ := Kd.R_form (Kd.R_lower hr1 HB0.out.size) (by rw [HB.out.2.2.2.2]; omega)
  obtain ⟨g6, cp6, hA6, _, _, C6, hC6⟩ := Kd.R_form hr2 (by rw [HE.out.2.2]; omega)
  have h6g : g6 ≠ g := by rintro rfl; rw [hC5] at hC6; cases hC6
  cases hA5
  cases hA6
  have HB1 := Lib.hid (HB0.out.trans (hb1.mono HB0.out.size))
  have HR1 := Lib.hid (Kd.R_lower hr1 HB0.out.size)
  have HR2 := Lib.hid (Kd.R_reads' hr2)
  have hpc0 : w1.cell? ⟨w.heap.size, 0, none⟩ = some (.int .u16 a) := cell_keep hb1 (by simp)
  have hpc1 : w1.cell? ⟨w.heap.size, 1, none⟩ = some (.int .u16 (q : Int)) := cell_keep hb1 (by simp)
  obtain ⟨ad, Ak, ck, he0, hcellk, _, _⟩ := HR0.out w1 HB1.out
  subst he0
  obtain ⟨ad6, he6, hcell6⟩ := Kd.at_int HR2.out.2.2 (k : Int) (by omega) (by have := HE.out.2.2; omega)
  cases he6
  have hz6 : rd es (k : Int) = (ek : Int) := by simp [rd, HE.out.1]
  rw [Int.toNat_natCast, hz6, add0] at hcell6
  skip
  rw [HE.out.2.2, HB.out.2.2.2.2]
  clear hr1 hr2 hb1 hz6 hC5 hC6 hglt
  go_wp2_with fail
  obtain ⟨fr, hfr⟩ : ∃ fr : Nat, 2 = (fr : Int) := ⟨pl + 2, by omega⟩
  have hfr1 : fr = pl + 2 := by omega
  obtain ⟨n8, hn8⟩ : ∃ n8, 8 * fr = n8 := ⟨_, rfl⟩
  obtain ⟨d, hd⟩ : ∃ d, ek - fr = d := ⟨_, rfl⟩
  obtain ⟨d8, hd8⟩ : ∃ d8, 8 * d = d8 := ⟨_, rfl⟩
  obtain ⟨r, hr⟩ : ∃ r, q % d8 = r := ⟨_, rfl⟩
  obtain ⟨F0, hF0⟩ : ∃ F0, n8 + r = F0 := ⟨_, rfl⟩
  have hrd : r < d8 := by rw [← hr]; exact Nat.mod_lt _ (by omega)
  have hF0l : F0 < 8 * ek := by omega
  have hF0g : 8 * fr ≤ F0 := by omega
  have HFR := Lib.hid (And.intro hfr1 (And.intro hF0l hF0g))
  skip
  have e2 : IntKind.i64.wrap ((ek : Int) - 2) = (d : Int) := by rw [IntWalk.i64_in _ (by omega)]; omega
  have e3 : IntKind.i64.wrap (8 * (d : Int)) = (d8 : Int) := by rw [IntWalk.i64_in _ (by omega)]; omega
  have e4 : Int.tmod (q : Int) (d8 : Int) = (r : Int) := by rw [Int.tmod_eq_emod_of_nonneg (by omega), ← hr]; omega
  have e5 : IntKind.i64.wrap (16 + (r : Int)) = (F0 : Int) := by rw [IntWalk.i64_in _ (by omega)]; omega
  have e6 : ((d8 : Int) == 0) = false := beq_false_of_ne (by omega)
  have e7 : ¬ d8 = 0 := by omega
  skip
  clear hn8 hd hd8 hr hF0 hrd hfr1 hfr
  go_quiet (fail)
  clear e2 e3 e4 e5 e6 e7 hcellk hpc0 hpc1 b3 b4
  have HR3 := Lib.hid (Kd.R_drewN (HB.out.2.2.2.2 ▸ HR1.out : Kd.R (Kd.int .u8) 5 w1 w.heap.size (fun _ => True) (.slice (some ⟨g, 0, none⟩) L c5) (pre ++ (F ++ rest))) nq)
  have HB3 := Lib.hid (pw_below_drewN HB1.out nq)
  have hcell6' : (w1.drewN nq).cell? ⟨g6, k, none⟩ = some (.int .i64 (ek : Int)) := by simpa using hcell6
  obtain ⟨W1, hW1⟩ : ∃ W1, w1.drewN nq = W1 := ⟨_, rfl⟩
  rw [hW1] at HR3 HB3 hcell6' ⊢
  have HC6 := Lib.hid hcell6'
  clear hcell6 hW1 hcell6'
  have hL1 : 1 ≤ L := by omega
  obtain ⟨f, hf⟩ : ∃ f, F0 = 8 * pl + f := ⟨F0 - 8 * pl, by have := HFR.out; omega⟩
  have HFF2 := Lib.hid hf
  have hf8 : 8 * hdr p ≤ f ∧ f < 8 * F.length := by have := HFR.out; have := HPL.out; have := HFL1.out; omega
  have HF8 := Lib.hid hf8
  clear hf hf8
  go_wp2_with fail
  go_loopw [13, 85] (fun u13 u wr => ∃ (j W : Nat) (cs : List Int), j ≤ 32 ∧ u = .int .i64 j ∧ u13 = .bool (!decide (W = 0)) ∧ W < 2 ^ j ∧ Hid (Crc.le (nats cs) = Crc.le (nats F) ^^^ (2 ^ f * W)) ∧ Hid (∀ b ∈ cs, 0 ≤ b ∧ b < 256) ∧ Hid (cs.length = F.length) ∧ Hid (cs.take (hdr p) = ints (vb p.length)) ∧ Hid (W = 0 → cs = F) ∧ Hid (Kd.R (Kd.int .u8) 5 wr w.heap.size (fun _ => True) (.slice (some ⟨g, 0, none⟩) L c5) (pre ++ (cs ++ rest))) ∧ Hid (wr.cell? ⟨g6, k, none⟩ = some (.int .i64 (ek : Int))) ∧ Hid (Below w.heap.size w wr)) (fun _ v _ => 32 - (intOf v).toNat)
  case atStart => exact ⟨0, 0, F, by omega, rfl, rfl, by decide, by simp [Hid], HB.out.2.2.1, rfl, HB.out.2.2.2.1, fun _ => rfl, HR3.out, HC6.out, HB3.out⟩
  case round =>
    obtain ⟨j, W, cs, hj, rfl, rfl, hW, HLE, HBY, HLN, HHD, HW0, HR, HC6', HBL⟩ := hrel
    have hc6 := HC6'.out
    by_cases hlt : j < 32
    · by_cases hbit : y / 2 ^ j % 2 = 1
      · have e1 := bit_one y j hy hbit
        clear hbit
        by_cases hat : F0 + j < 8 * ek
        · have hjl : (f + j) / 8 < cs.length := by have := HLN.out; have := HPL.out; have := HFL1.out; have := HFF2.out; omega
          have hjh : hdr p ≤ (f + j) / 8 := by have := HF8.out; omega
          have hix : (F0 + j) / 8 = pre.length + (f + j) / 8 := by have := HPL.out; have := HFF2.out; omega
          have hmx : (F0 + j) % 8 = (f + j) % 8 := by have := HFF2.out; omega
          have hxl : (F0 + j) / 8 < L := by omega
          obtain ⟨b, HBV⟩ : ∃ b, Hid (cs.getD ((f + j) / 8) 0 = b) := ⟨_, Lib.hid rfl⟩
          have hlen : (pre ++ (cs ++ rest)).length = L := by
            have h1 := HB.out.2.2.2.2
            rw [List.length_append, List.length_append] at h1 ⊢
            rw [HLN.out]; exact h1
          have hcell : wr.cell? ⟨g, (F0 + j) / 8, none⟩ = some (.int .u8 b) := by
            have hR' : Kd.R (Kd.int .u8) 5 wr w.heap.size (fun _ => True) (.slice (some ⟨g, 0, none⟩) (pre ++ (cs ++ rest)).length c5) (pre ++ (cs ++ rest)) := by rw [hlen]; exact HR.out
            have := (Kd.R_cell (0 : Int) hR' (((F0 + j) / 8 : Nat) : Int) (by omega) (by omega)).1
            rw [Int.toNat_natCast] at this
            rw [this]
            congr 1
            show Value.int .u8 (rdOf 0 _ _) = _
            congr 1
            unfold rdOf
            rw [Int.toNat_natCast, hix, getD_mid _ _ _ _ hjl]
            exact HBV.out
          have hfz : wr.frozen? ⟨g, (F0 + j) / 8, none⟩ = false := by
            obtain ⟨g', c', cur', he, _, hh, _, _⟩ := R_open HR.out (by omega)
            injection he with he
            cases he
            exact unfrozen_of hh _
          have hfl := flip cs HBY.out (f + j) hjl
          rw [HBV.out] at hfl
          have HFL := Lib.hid hfl
          have hset := set_mid pre cs rest ((f + j) / 8) (Go.bits .xor .u8 b (2 ^ ((f + j) % 8) % 256)) hjl
          rw [← hix, ← hmx] at hset
          have HSET := Lib.hid hset
          have HJ := Lib.hid (And.intro hjl (And.intro hjh hmx))
          clear hfl hset hjl hjh hix hmx hlen
          go_wp2
          go_roundw
          case rel =>
            refine ⟨j + 1, W + 2 ^ j, cs.set ((f + j) / 8) (Go.bits .xor .u8 b (2 ^ ((f + j) % 8) % 256)), by omega, by go_num, ?_, ?_, ?_, HFL.out.1, ?_, ?_, ?_, ?_, ?_, HBL.out.setCell hbase _⟩
            · have : 0 < 2 ^ j := Nat.two_pow_pos j
              rw [decide_eq_false (by omega)]; rfl
            · rw [Nat.pow_succ]; omega
            · show _ = _
              rw [HFL.out.2, HLE.out, ← xor_two_pow W j hW, pow_mul_xor, ← Nat.pow_add, Nat.xor_assoc]
            · show _ = _
              rw [List.length_set]; exact HLN.out
            · show _ = _
              rw [List.take_set_of_le HJ.out.2.1]; exact HHD.out
            · intro h
              have : 0 < 2 ^ j := Nat.two_pow_pos j
              omega
            · have := Kd.R_putn HR.out (((F0 + j) / 8 : Nat) : Int) (Go.bits .xor .u8 b (2 ^ ((F0 + j) % 8) % 256))
              rw [Int.toNat_natCast, HSET.out] at this
              rw [HJ.out.2.2] at this ⊢
              exact this
            · show _ = _
              rw [World.cell?_setCell_other _ _ _ _ (by intro e; injection e with e; exact h6g e.symm)]
              exact HC6'.out
          case measure => simp [intOf]; omega
        · go_wp2
          go_roundw
          case rel => exact ⟨j + 1, W, cs, by omega, by go_num, rfl, by rw [Nat.pow_succ]; omega, HLE, HBY, HLN, HHD, HW0, HR, HC6', HBL⟩
          case measure => simp [intOf]; omega
      · have e1 := bit_zero y j hy hbit
        clear hbit
        go_wp2
        go_roundw
        case rel => exact ⟨j + 1, W, cs, by omega, by go_num, rfl, by rw [Nat.pow_succ]; omega, HLE, HBY, HLN, HHD, HW0, HR, HC6', HBL⟩
        case measure => simp [intOf]; omega
    · obtain rfl : j = 32 := by omega
      have hLn := HLN.out
      have hcsl : (pre ++ (cs ++ rest)).length = L := by
        have h1 := HB.out.2.2.2.2
        rw [List.length_append, List.length_append] at h1 ⊢
        rw [HLN.out]; exact h1
      have hbb : ∀ x ∈ pre ++ (cs ++ rest), 0 ≤ x ∧ x < 256 := by
        intro x hx
        rcases List.mem_append.1 hx with hx | hx
        · exact HB.out.1 x hx
        · rcases List.mem_append.1 hx with hx | hx
          · exact HBY.out x hx
          · exact HB.out.2.1 x hx
      have hR' : Kd.R (Kd.int .u8) 5 wr w.heap.size (fun _ => True) (.slice (some ⟨g, 0, none⟩) (pre ++ (cs ++ rest)).length c5) (pre ++ (cs ++ rest)) := by rw [hcsl]; exact HR.out
      have hrun := frun_any (some ⟨g, 0, none⟩) c5 (pre ++ (cs ++ rest)) 0 wr (Kd.R_reads' hR').2.2 (Kd.R_reads' hR').2.1 hbb (by omega)
      rw [hcsl] at hrun
      have hnum := HRT.out cs f W HBY.out HLN.out (by rw [HLN.out]; exact HF8.out.2) hW HW0.out HLE.out HHD.out
      unfold FRunPost at hrun
      obtain ⟨its, hits⟩ : ∃ its, runs (pre ++ (cs ++ rest)) 0 = its := ⟨_, rfl⟩
      rw [hits] at hrun hnum
      have HRN := Lib.hid hrun
      have HNUM := Lib.hid hnum
      clear hrun hnum hR' hbb hcsl hLn hits
      go_wp2_with fail
      refine HRN.out.mono ?_
      rintro e w2 ⟨v3, v4, vs, rfl, hr3, hr4, hvl, _, hb2⟩
      obtain ⟨A7, c7, hv3⟩ := Kd.R_slice hr3
      subst hv3
      have HB2 := Lib.hid (HBL.out.trans (hb2.mono HBL.out.size))
      have hvn := hvl.trans HNUM.out
      clear hr3 hr4 hvl hb2
      by_cases hz : W = 0
      · rw [if_pos hz] at hvn
        rw [hvn, decide_eq_true hz]
        clear hvn hz hW
        go_wp2_with fail
        refine (fixed6_any _).mono ?_
        rintro e w6 ⟨rfl, hb6⟩
        have HB6 := Lib.hid (HB2.out.trans (hb6.mono HB2.out.size))
        clear hb6
        go_wp2_with fail
        go_ret
        exact ⟨rfl, HB6.out⟩
      · rw [if_neg hz] at hvn
        rw [hvn, decide_eq_false hz]
        clear hvn hz hW
        go_wp2_with fail
        refine (fixed6_any _).mono ?_
        rintro e w6 ⟨rfl, hb6⟩
        have HB6 := Lib.hid (HB2.out.trans (hb6.mono HB2.out.size))
        clear hb6
        go_wp2_with fail
        go_ret
        exact ⟨rfl, HB6.out⟩
set_option maxRecDepth 100000 in
set_option maxHeartbeats 4000000 in
theorem told_c (A : Option Addr) (c : Nat) (ps : List (List Int)) (k q : Nat) (a y : Int) (w : World) (ha : 0 ≤ a ∧ a < 65536) (hq : q < 65536) (hy : 0 ≤ y ∧ y < 4294967296) (hC : Kd.C (Kd.slice 5 (Kd.int .u8)) w A ps.length ps) (hc : ps.length ≤ c) (h : smallB ps = true) (hb : ∀ p ∈ ps, ∀ x ∈ p, 0 ≤ x ∧ x < 256) (hk : k < ps.length) (hka : a % (ps.length : Int) = (k : Int)) (hc1 : ¬ 128 ≤ ps[k].length) (hc2 : 0 < k) :
    Calls Try.prog 7 #[.slice A ps.length c, .agg #[.int .u16 a, .int .u16 (q : Int)], .int .u32 y] w fun e w' => e = .returned (.bool true) ∧ Below w.heap.size w w' := by
  obtain ⟨hl, hp⟩ := smallB_pay h hb
  have hS := fun (W : World) (h : Below w.heap.size w W) => small_any A c ps W (Kd.C_below hC h)
  rw [h] at hS
  have HS := Lib.hid hS
  have hL := fun (W : World) (h : Below w.heap.size w W) => laid_any A c ps W (Kd.C_below hC h) hp hl
  have hC' := fun (W : World) (h : Below w.heap.size w W) => Kd.C_below hC h
  have hfl := frs_le ps hp
  have hsp := frs_split ps k hk
  have hrt := runs_turned ps hp k hk
  have hel := endsO_len ps 0
  have hpay := hp ps[k] (List.getElem_mem _)
  have hek : (endsO 0 ps)[k]? = some (((frs (ps.take k)).length + (frameL ps[k]).length : Nat) : Int) := by
    rw [endsO_get ps k hk 0, List.take_succ_eq_append_getElem hk, frs_append, List.length_append, Nat.zero_add]
    show some (((_ + (frameL ps[k] ++ []).length : Nat)) : Int) = _
    rw [List.append_nil]
  have hek1 : 0 < k → (endsO 0 ps)[k - 1]? = some (((frs (ps.take k)).length : Nat) : Int) := by
    intro h0
    rw [endsO_get ps (k - 1) (by omega) 0, show k - 1 + 1 = k by omega, Nat.zero_add]
  have hk0 : k = 0 → (frs (ps.take k)).length = 0 := by rintro rfl; rfl
  obtain ⟨p, hpk⟩ : ∃ p, ps[k] = p := ⟨_, rfl⟩
  have hr0 := fun (W : World) (h : Below w.heap.size w W) => rows_at (hC' W h) k hk
  have HS := Lib.hid hS
  simp only [hpk] at hsp hrt hpay hek hr0
  have hfb := frs_bytes ps hp
  have hprb := frs_bytes (ps.take k) (fun p hp' => hp p (List.mem_of_mem_take hp'))
  have hrsb := frs_bytes (ps.drop (k + 1)) (fun p hp' => hp p (List.mem_of_mem_drop hp'))
  have hFb := frameL_bytes p hpay
  have hFl := frameL_length p hpay
  have hdi := hdr_is p hpay
  have hF0 : (frameL p).take (hdr p) = ints (vb p.length) := by
    rw [frameL_parts p hpay, List.append_assoc, List.take_append_of_le_length (by simp [ints, hdr]), List.take_of_length_le (by simp [ints, hdr])]
  obtain ⟨es, hes⟩ : ∃ es, endsO 0 ps = es := ⟨_, rfl⟩
  obtain ⟨pre, hpre⟩ : ∃ pre, frs (ps.take k) = pre := ⟨_, rfl⟩
  obtain ⟨rest, hrest⟩ : ∃ rest, frs (ps.drop (k + 1)) = rest := ⟨_, rfl⟩
  obtain ⟨F, hF⟩ : ∃ F, frameL p = F := ⟨_, rfl⟩
  unfold LaidPost at hL
  simp only [hes, hpre, hrest, hF] at hL hsp hrt hek hek1 hk0 hel hprb hrsb hFb hFl hF0 hel
  have hfll : (frs ps).length = pre.length + (F.length + rest.length) := by rw [hsp, List.length_append, List.length_append]
  rw [hsp] at hL
  obtain ⟨L, hLL⟩ : ∃ L, pre.length + (F.length + rest.length) = L := ⟨_, rfl⟩
  have hlen0 : (pre ++ (F ++ rest)).length = L := by rw [List.length_append, List.length_append, hLL]
  have hdr1 : hdr p = 1 := by rw [hdi]; rw [if_neg (by rw [← hpk]; exact hc1)]
  have hp1 := hpay.1
  have hp2 := hpay.2.1
  have HL := Lib.hid hL
  have HC := Lib.hid hC'
  have HRT := Lib.hid hrt
  have HE := Lib.hid (And.intro hek (And.intro hek1 hel))
  have HB := Lib.hid (And.intro hprb (And.intro hrsb (And.intro hFb (And.intro hF0 hlen0))))
  have HR0 := Lib.hid hr0
  have hzl : ((ps.length : Int) == 0) = false := beq_false_of_ne (by omega)
  have hL2 : L ≤ 4280 := by omega
  have hzz : True := trivial
  rw [hpk] at hc1
  clear hS hC hC' h hb hp hfl hsp hrt hel hpay hek hek1 hr0 hfb hprb hrsb hFb hdi hF0 hes hpre hrest hF hL hfll hlen0 hpk hk0 hzz
  obtain ⟨pl, hpl⟩ : ∃ pl, pre.length = pl := ⟨_, rfl⟩
  obtain ⟨fl, hFL⟩ : ∃ fl, F.length = fl := ⟨_, rfl⟩
  rw [hpl, hFL] at HE
  rw [hFL] at hFl
  rw [hpl, hFL] at hLL
  have HPL := Lib.hid (And.intro hpl (And.intro hFL (And.intro hFl hdr1)))
  have hfl1 : fl = 1 + p.length + 4 := by rw [hFl, hdr1]
  obtain ⟨ek, hekk⟩ : ∃ ek, pl + fl = ek := ⟨_, rfl⟩
  rw [hekk] at HE
  have b128 : decide (128 ≤ (p.length : Int)) = false := by exact decide_eq_false (by omega)
  have bk : decide (0 < (k : Int)) = true := by exact decide_eq_true (by omega)
  skip
  skip
  have b3 : decide ((ek : Int) ≤ 1 + (pl : Int)) = false := decide_eq_false (by omega)
  have b4 : decide ((L : Int) < (ek : Int)) = false := decide_eq_false (by omega)
  clear hpl hFL hFl hdr1
  have HFL1 := Lib.hid (And.intro hfl1 hekk)
  have hel1 : pl + 1 + p.length + 4 ≤ ek := by omega
  have hel2 : ek ≤ pl + 1 + p.length + 4 := by omega
  have hel3 : ek ≤ L := by omega
  clear hfl1 hekk hLL
  go_enter Try.func7, Try.ntmps7
  go_wp2_with fail
  have hB := (Below.refl w.heap.size w).alloc (Nat.le_refl _) (.cells #[.int .u16 a, .int .u16 (q : Int)] 55)
  refine (HS.out _ hB).mono ?_
  rintro e w1 ⟨rfl, rfl⟩
  have HB0 := Lib.hid hB
  clear hB
  go_wp2_with fail
  refine (HL.out _ HB0.out).mono ?_
  rintro e w1 ⟨v1, v2, rfl, hr1, hr2, hb1⟩
  obtain ⟨A5, c5, hv1⟩ := Kd.R_slice hr1
  subst hv1
  obtain ⟨A6, c6, hv2⟩ := Kd.R_slice hr2
  subst hv2
  obtain ⟨g, cp, hA5, hbase, hglt, C5, hC5⟩ := Kd.R_form (Kd.R_lower hr1 HB0.out.size) (by rw [HB.out.2.2.2.2]; omega)
  obtain ⟨g6, cp6, hA6, _, _, C6, hC6⟩ := Kd.R_form hr2 (by rw [HE.out.2.2]; omega)
  have h6g : g6 ≠ g := by rintro rfl; rw [hC5] at hC6; cases hC6
  cases hA5
  cases hA6
  have HB1 := Lib.hid (HB0.out.trans (hb1.mono HB0.out.size))
  have HR1 := Lib.hid (Kd.R_lower hr1 HB0.out.size)
  have HR2 := Lib.hid (Kd.R_reads' hr2)
  have hpc0 : w1.cell? ⟨w.heap.size, 0, none⟩ = some (.int .u16 a) := cell_keep hb1 (by simp)
  have hpc1 : w1.cell? ⟨w.heap.size, 1, none⟩ = some (.int .u16 (q : Int)) := cell_keep hb1 (by simp)
  obtain ⟨ad, Ak, ck, he0, hcellk, _, _⟩ := HR0.out w1 HB1.out
  subst he0
  obtain ⟨ad6, he6, hcell6⟩ := Kd.at_int HR2.out.2.2 (k : Int) (by omega) (by have := HE.out.2.2; omega)
  cases he6
  have hz6 : rd es (k : Int) = (ek : Int) := by simp [rd, HE.out.1]
  rw [Int.toNat_natCast, hz6, add0] at hcell6
  have hk1 : ((k : Int) - 1) = ((k - 1 : Nat) : Int) := by omega
  obtain ⟨ad6', he6', hcell61⟩ := Kd.at_int HR2.out.2.2 ((k - 1 : Nat) : Int) (by omega) (by have := HE.out.2.2; omega)
  cases he6'
  have hz61 : rd es ((k - 1 : Nat) : Int) = (pl : Int) := by simp [rd, HE.out.2.1 hc2]
  rw [Int.toNat_natCast, hz61, add0] at hcell61
  rw [HE.out.2.2, HB.out.2.2.2.2]
  clear hr1 hr2 hb1 hz6 hC5 hC6 hglt
  go_wp2_with fail
  obtain ⟨fr, hfr⟩ : ∃ fr : Nat, 1 + (pl : Int) = (fr : Int) := ⟨pl + 1, by omega⟩
  have hfr1 : fr = pl + 1 := by omega
  obtain ⟨n8, hn8⟩ : ∃ n8, 8 * fr = n8 := ⟨_, rfl⟩
  obtain ⟨d, hd⟩ : ∃ d, ek - fr = d := ⟨_, rfl⟩
  obtain ⟨d8, hd8⟩ : ∃ d8, 8 * d = d8 := ⟨_, rfl⟩
  obtain ⟨r, hr⟩ : ∃ r, q % d8 = r := ⟨_, rfl⟩
  obtain ⟨F0, hF0⟩ : ∃ F0, n8 + r = F0 := ⟨_, rfl⟩
  have hrd : r < d8 := by rw [← hr]; exact Nat.mod_lt _ (by omega)
  have hF0l : F0 < 8 * ek := by omega
  have hF0g : 8 * fr ≤ F0 := by omega
  have HFR := Lib.hid (And.intro hfr1 (And.intro hF0l hF0g))
  have e1 : IntKind.i64.wrap (8 * (fr : Int)) = (n8 : Int) := by rw [IntWalk.i64_in _ (by omega)]; omega
  have e2 : IntKind.i64.wrap ((ek : Int) - (fr : Int)) = (d : Int) := by rw [IntWalk.i64_in _ (by omega)]; omega
  have e3 : IntKind.i64.wrap (8 * (d : Int)) = (d8 : Int) := by rw [IntWalk.i64_in _ (by omega)]; omega
  have e4 : Int.tmod (q : Int) (d8 : Int) = (r : Int) := by rw [Int.tmod_eq_emod_of_nonneg (by omega), ← hr]; omega
  have e5 : IntKind.i64.wrap ((n8 : Int) + (r : Int)) = (F0 : Int) := by rw [IntWalk.i64_in _ (by omega)]; omega
  have e6 : ((d8 : Int) == 0) = false := beq_false_of_ne (by omega)
  have e7 : ¬ d8 = 0 := by omega
  rw [hfr]
  clear hn8 hd hd8 hr hF0 hrd hfr1 hfr
  go_quiet (fail)
  clear e1 e2 e3 e4 e5 e6 e7 hcellk hpc0 hpc1 hcell61 b3 b4
  have HR3 := Lib.hid (Kd.R_drewN (HB.out.2.2.2.2 ▸ HR1.out : Kd.R (Kd.int .u8) 5 w1 w.heap.size (fun _ => True) (.slice (some ⟨g, 0, none⟩) L c5) (pre ++ (F ++ rest))) nq)
  have HB3 := Lib.hid (pw_below_drewN HB1.out nq)
  have hcell6' : (w1.drewN nq).cell? ⟨g6, k, none⟩ = some (.int .i64 (ek : Int)) := by simpa using hcell6
  obtain ⟨W1, hW1⟩ : ∃ W1, w1.drewN nq = W1 := ⟨_, rfl⟩
  rw [hW1] at HR3 HB3 hcell6' ⊢
  have HC6 := Lib.hid hcell6'
  clear hcell6 hW1 hcell6'
  have hL1 : 1 ≤ L := by omega
  obtain ⟨f, hf⟩ : ∃ f, F0 = 8 * pl + f := ⟨F0 - 8 * pl, by have := HFR.out; omega⟩
  have HFF2 := Lib.hid hf
  have hf8 : 8 * hdr p ≤ f ∧ f < 8 * F.length := by have := HFR.out; have := HPL.out; have := HFL1.out; omega
  have HF8 := Lib.hid hf8
  clear hf hf8
  go_wp2_with fail
  go_loopw [13, 85] (fun u13 u wr => ∃ (j W : Nat) (cs : List Int), j ≤ 32 ∧ u = .int .i64 j ∧ u13 = .bool (!decide (W = 0)) ∧ W < 2 ^ j ∧ Hid (Crc.le (nats cs) = Crc.le (nats F) ^^^ (2 ^ f * W)) ∧ Hid (∀ b ∈ cs, 0 ≤ b ∧ b < 256) ∧ Hid (cs.length = F.length) ∧ Hid (cs.take (hdr p) = ints (vb p.length)) ∧ Hid (W = 0 → cs = F) ∧ Hid (Kd.R (Kd.int .u8) 5 wr w.heap.size (fun _ => True) (.slice (some ⟨g, 0, none⟩) L c5) (pre ++ (cs ++ rest))) ∧ Hid (wr.cell? ⟨g6, k, none⟩ = some (.int .i64 (ek : Int))) ∧ Hid (Below w.heap.size w wr)) (fun _ v _ => 32 - (intOf v).toNat)
  case atStart => exact ⟨0, 0, F, by omega, rfl, rfl, by decide, by simp [Hid], HB.out.2.2.1, rfl, HB.out.2.2.2.1, fun _ => rfl, HR3.out, HC6.out, HB3.out⟩
  case round =>
    obtain ⟨j, W, cs, hj, rfl, rfl, hW, HLE, HBY, HLN, HHD, HW0, HR, HC6', HBL⟩ := hrel
    have hc6 := HC6'.out
    by_cases hlt : j < 32
    · by_cases hbit : y / 2 ^ j % 2 = 1
      · have e1 := bit_one y j hy hbit
        clear hbit
        by_cases hat : F0 + j < 8 * ek
        · have hjl : (f + j) / 8 < cs.length := by have := HLN.out; have := HPL.out; have := HFL1.out; have := HFF2.out; omega
          have hjh : hdr p ≤ (f + j) / 8 := by have := HF8.out; omega
          have hix : (F0 + j) / 8 = pre.length + (f + j) / 8 := by have := HPL.out; have := HFF2.out; omega
          have hmx : (F0 + j) % 8 = (f + j) % 8 := by have := HFF2.out; omega
          have hxl : (F0 + j) / 8 < L := by omega
          obtain ⟨b, HBV⟩ : ∃ b, Hid (cs.getD ((f + j) / 8) 0 = b) := ⟨_, Lib.hid rfl⟩
          have hlen : (pre ++ (cs ++ rest)).length = L := by
            have h1 := HB.out.2.2.2.2
            rw [List.length_append, List.length_append] at h1 ⊢
            rw [HLN.out]; exact h1
          have hcell : wr.cell? ⟨g, (F0 + j) / 8, none⟩ = some (.int .u8 b) := by
            have hR' : Kd.R (Kd.int .u8) 5 wr w.heap.size (fun _ => True) (.slice (some ⟨g, 0, none⟩) (pre ++ (cs ++ rest)).length c5) (pre ++ (cs ++ rest)) := by rw [hlen]; exact HR.out
            have := (Kd.R_cell (0 : Int) hR' (((F0 + j) / 8 : Nat) : Int) (by omega) (by omega)).1
            rw [Int.toNat_natCast] at this
            rw [this]
            congr 1
            show Value.int .u8 (rdOf 0 _ _) = _
            congr 1
            unfold rdOf
            rw [Int.toNat_natCast, hix, getD_mid _ _ _ _ hjl]
            exact HBV.out
          have hfz : wr.frozen? ⟨g, (F0 + j) / 8, none⟩ = false := by
            obtain ⟨g', c', cur', he, _, hh, _, _⟩ := R_open HR.out (by omega)
            injection he with he
            cases he
            exact unfrozen_of hh _
          have hfl := flip cs HBY.out (f + j) hjl
          rw [HBV.out] at hfl
          have HFL := Lib.hid hfl
          have hset := set_mid pre cs rest ((f + j) / 8) (Go.bits .xor .u8 b (2 ^ ((f + j) % 8) % 256)) hjl
          rw [← hix, ← hmx] at hset
          have HSET := Lib.hid hset
          have HJ := Lib.hid (And.intro hjl (And.intro hjh hmx))
          clear hfl hset hjl hjh hix hmx hlen
          go_wp2
          go_roundw
          case rel =>
            refine ⟨j + 1, W + 2 ^ j, cs.set ((f + j) / 8) (Go.bits .xor .u8 b (2 ^ ((f + j) % 8) % 256)), by omega, by go_num, ?_, ?_, ?_, HFL.out.1, ?_, ?_, ?_, ?_, ?_, HBL.out.setCell hbase _⟩
            · have : 0 < 2 ^ j := Nat.two_pow_pos j
              rw [decide_eq_false (by omega)]; rfl
            · rw [Nat.pow_succ]; omega
            · show _ = _
              rw [HFL.out.2, HLE.out, ← xor_two_pow W j hW, pow_mul_xor, ← Nat.pow_add, Nat.xor_assoc]
            · show _ = _
              rw [List.length_set]; exact HLN.out
            · show _ = _
              rw [List.take_set_of_le HJ.out.2.1]; exact HHD.out
            · intro h
              have : 0 < 2 ^ j := Nat.two_pow_pos j
              omega
            · have := Kd.R_putn HR.out (((F0 + j) / 8 : Nat) : Int) (Go.bits .xor .u8 b (2 ^ ((F0 + j) % 8) % 256))
              rw [Int.toNat_natCast, HSET.out] at this
              rw [HJ.out.2.2] at this ⊢
              exact this
            · show _ = _
              rw [World.cell?_setCell_other _ _ _ _ (by intro e; injection e with e; exact h6g e.symm)]
              exact HC6'.out
          case measure => simp [intOf]; omega
        · go_wp2
          go_roundw
          case rel => exact ⟨j + 1, W, cs, by omega, by go_num, rfl, by rw [Nat.pow_succ]; omega, HLE, HBY, HLN, HHD, HW0, HR, HC6', HBL⟩
          case measure => simp [intOf]; omega
      · have e1 := bit_zero y j hy hbit
        clear hbit
        go_wp2
        go_roundw
        case rel => exact ⟨j + 1, W, cs, by omega, by go_num, rfl, by rw [Nat.pow_succ]; omega, HLE, HBY, HLN, HHD, HW0, HR, HC6', HBL⟩
        case measure => simp [intOf]; omega
    · obtain rfl : j = 32 := by omega
      have hLn := HLN.out
      have hcsl : (pre ++ (cs ++ rest)).length = L := by
        have h1 := HB.out.2.2.2.2
        rw [List.length_append, List.length_append] at h1 ⊢
        rw [HLN.out]; exact h1
      have hbb : ∀ x ∈ pre ++ (cs ++ rest), 0 ≤ x ∧ x < 256 := by
        intro x hx
        rcases List.mem_append.1 hx with hx | hx
        · exact HB.out.1 x hx
        · rcases List.mem_append.1 hx with hx | hx
          · exact HBY.out x hx
          · exact HB.out.2.1 x hx
      have hR' : Kd.R (Kd.int .u8) 5 wr w.heap.size (fun _ => True) (.slice (some ⟨g, 0, none⟩) (pre ++ (cs ++ rest)).length c5) (pre ++ (cs ++ rest)) := by rw [hcsl]; exact HR.out
      have hrun := frun_any (some ⟨g, 0, none⟩) c5 (pre ++ (cs ++ rest)) 0 wr (Kd.R_reads' hR').2.2 (Kd.R_reads' hR').2.1 hbb (by omega)
      rw [hcsl] at hrun
      have hnum := HRT.out cs f W HBY.out HLN.out (by rw [HLN.out]; exact HF8.out.2) hW HW0.out HLE.out HHD.out
      unfold FRunPost at hrun
      obtain ⟨its, hits⟩ : ∃ its, runs (pre ++ (cs ++ rest)) 0 = its := ⟨_, rfl⟩
      rw [hits] at hrun hnum
      have HRN := Lib.hid hrun
      have HNUM := Lib.hid hnum
      clear hrun hnum hR' hbb hcsl hLn hits
      go_wp2_with fail
      refine HRN.out.mono ?_
      rintro e w2 ⟨v3, v4, vs, rfl, hr3, hr4, hvl, _, hb2⟩
      obtain ⟨A7, c7, hv3⟩ := Kd.R_slice hr3
      subst hv3
      have HB2 := Lib.hid (HBL.out.trans (hb2.mono HBL.out.size))
      have hvn := hvl.trans HNUM.out
      clear hr3 hr4 hvl hb2
      by_cases hz : W = 0
      · rw [if_pos hz] at hvn
        rw [hvn, decide_eq_true hz]
        clear hvn hz hW
        go_wp2_with fail
        refine (fixed6_any _).mono ?_
        rintro e w6 ⟨rfl, hb6⟩
        have HB6 := Lib.hid (HB2.out.trans (hb6.mono HB2.out.size))
        clear hb6
        go_wp2_with fail
        go_ret
        exact ⟨rfl, HB6.out⟩
      · rw [if_neg hz] at hvn
        rw [hvn, decide_eq_false hz]
        clear hvn hz hW
        go_wp2_with fail
        refine (fixed6_any _).mono ?_
        rintro e w6 ⟨rfl, hb6⟩
        have HB6 := Lib.hid (HB2.out.trans (hb6.mono HB2.out.size))
        clear hb6
        go_wp2_with fail
        go_ret
        exact ⟨rfl, HB6.out⟩
set_option maxRecDepth 100000 in
set_option maxHeartbeats 4000000 in
theorem told_d (A : Option Addr) (c : Nat) (ps : List (List Int)) (k q : Nat) (a y : Int) (w : World) (ha : 0 ≤ a ∧ a < 65536) (hq : q < 65536) (hy : 0 ≤ y ∧ y < 4294967296) (hC : Kd.C (Kd.slice 5 (Kd.int .u8)) w A ps.length ps) (hc : ps.length ≤ c) (h : smallB ps = true) (hb : ∀ p ∈ ps, ∀ x ∈ p, 0 ≤ x ∧ x < 256) (hk : k < ps.length) (hka : a % (ps.length : Int) = (k : Int)) (hc1 : 128 ≤ ps[k].length) (hc2 : 0 < k) :
    Calls Try.prog 7 #[.slice A ps.length c, .agg #[.int .u16 a, .int .u16 (q : Int)], .int .u32 y] w fun e w' => e = .returned (.bool true) ∧ Below w.heap.size w w' := by
  obtain ⟨hl, hp⟩ := smallB_pay h hb
  have hS := fun (W : World) (h : Below w.heap.size w W) => small_any A c ps W (Kd.C_below hC h)
  rw [h] at hS
  have HS := Lib.hid hS
  have hL := fun (W : World) (h : Below w.heap.size w W) => laid_any A c ps W (Kd.C_below hC h) hp hl
  have hC' := fun (W : World) (h : Below w.heap.size w W) => Kd.C_below hC h
  have hfl := frs_le ps hp
  have hsp := frs_split ps k hk
  have hrt := runs_turned ps hp k hk
  have hel := endsO_len ps 0
  have hpay := hp ps[k] (List.getElem_mem _)
  have hek : (endsO 0 ps)[k]? = some (((frs (ps.take k)).length + (frameL ps[k]).length : Nat) : Int) := by
    rw [endsO_get ps k hk 0, List.take_succ_eq_append_getElem hk, frs_append, List.length_append, Nat.zero_add]
    show some (((_ + (frameL ps[k] ++ []).length : Nat)) : Int) = _
    rw [List.append_nil]
  have hek1 : 0 < k → (endsO 0 ps)[k - 1]? = some (((frs (ps.take k)).length : Nat) : Int) := by
    intro h0
    rw [endsO_get ps (k - 1) (by omega) 0, show k - 1 + 1 = k by omega, Nat.zero_add]
  have hk0 : k = 0 → (frs (ps.take k)).length = 0 := by rintro rfl; rfl
  obtain ⟨p, hpk⟩ : ∃ p, ps[k] = p := ⟨_, rfl⟩
  have hr0 := fun (W : World) (h : Below w.heap.size w W) => rows_at (hC' W h) k hk
  have HS := Lib.hid hS
  simp only [hpk] at hsp hrt hpay hek hr0
  have hfb := frs_bytes ps hp
  have hprb := frs_bytes (ps.take k) (fun p hp' => hp p (List.mem_of_mem_take hp'))
  have hrsb := frs_bytes (ps.drop (k + 1)) (fun p hp' => hp p (List.mem_of_mem_drop hp'))
  have hFb := frameL_bytes p hpay
  have hFl := frameL_length p hpay
  have hdi := hdr_is p hpay
  have hF0 : (frameL p).take (hdr p) = ints (vb p.length) := by
    rw [frameL_parts p hpay, List.append_assoc, List.take_append_of_le_length (by simp [ints, hdr]), List.take_of_length_le (by simp [ints, hdr])]
  obtain ⟨es, hes⟩ : ∃ es, endsO 0 ps = es := ⟨_, rfl⟩
  obtain ⟨pre, hpre⟩ : ∃ pre, frs (ps.take k) = pre := ⟨_, rfl⟩
  obtain ⟨rest, hrest⟩ : ∃ rest, frs (ps.drop (k + 1)) = rest := ⟨_, rfl⟩
  obtain ⟨F, hF⟩ : ∃ F, frameL p = F := ⟨_, rfl⟩
  unfold LaidPost at hL
  simp only [hes, hpre, hrest, hF] at hL hsp hrt hek hek1 hk0 hel hprb hrsb hFb hFl hF0 hel
  have hfll : (frs ps).length = pre.length + (F.length + rest.length) := by rw [hsp, List.length_append, List.length_append]
  rw [hsp] at hL
  obtain ⟨L, hLL⟩ : ∃ L, pre.length + (F.length + rest.length) = L := ⟨_, rfl⟩
  have hlen0 : (pre ++ (F ++ rest)).length = L := by rw [List.length_append, List.length_append, hLL]
  have hdr1 : hdr p = 2 := by rw [hdi]; rw [if_pos (by rw [← hpk]; exact hc1)]
  have hp1 := hpay.1
  have hp2 := hpay.2.1
  have HL := Lib.hid hL
  have HC := Lib.hid hC'
  have HRT := Lib.hid hrt
  have HE := Lib.hid (And.intro hek (And.intro hek1 hel))
  have HB := Lib.hid (And.intro hprb (And.intro hrsb (And.intro hFb (And.intro hF0 hlen0))))
  have HR0 := Lib.hid hr0
  have hzl : ((ps.length : Int) == 0) = false := beq_false_of_ne (by omega)
  have hL2 : L ≤ 4280 := by omega
  have hzz : True := trivial
  rw [hpk] at hc1
  clear hS hC hC' h hb hp hfl hsp hrt hel hpay hek hek1 hr0 hfb hprb hrsb hFb hdi hF0 hes hpre hrest hF hL hfll hlen0 hpk hk0 hzz
  obtain ⟨pl, hpl⟩ : ∃ pl, pre.length = pl := ⟨_, rfl⟩
  obtain ⟨fl, hFL⟩ : ∃ fl, F.length = fl := ⟨_, rfl⟩
  rw [hpl, hFL] at HE
  rw [hFL] at hFl
  rw [hpl, hFL] at hLL
  have HPL := Lib.hid (And.intro hpl (And.intro hFL (And.intro hFl hdr1)))
  have hfl1 : fl = 2 + p.length + 4 := by rw [hFl, hdr1]
  obtain ⟨ek, hekk⟩ : ∃ ek, pl + fl = ek := ⟨_, rfl⟩
  rw [hekk] at HE
  have b128 : decide (128 ≤ (p.length : Int)) = true := by exact decide_eq_true (by omega)
  have bk : decide (0 < (k : Int)) = true := by exact decide_eq_true (by omega)
  skip
  skip
  have b3 : decide ((ek : Int) ≤ 2 + (pl : Int)) = false := decide_eq_false (by omega)
  have b4 : decide ((L : Int) < (ek : Int)) = false := decide_eq_false (by omega)
  clear hpl hFL hFl hdr1
  have HFL1 := Lib.hid (And.intro hfl1 hekk)
  have hel1 : pl + 2 + p.length + 4 ≤ ek := by omega
  have hel2 : ek ≤ pl + 2 + p.length + 4 := by omega
  have hel3 : ek ≤ L := by omega
  clear hfl1 hekk hLL
  go_enter Try.func7, Try.ntmps7
  go_wp2_with fail
  have hB := (Below.refl w.heap.size w).alloc (Nat.le_refl _) (.cells #[.int .u16 a, .int .u16 (q : Int)] 55)
  refine (HS.out _ hB).mono ?_
  rintro e w1 ⟨rfl, rfl⟩
  have HB0 := Lib.hid hB
  clear hB
  go_wp2_with fail
  refine (HL.out _ HB0.out).mono ?_
  rintro e w1 ⟨v1, v2, rfl, hr1, hr2, hb1⟩
  obtain ⟨A5, c5, hv1⟩ := Kd.R_slice hr1
  subst hv1
  obtain ⟨A6, c6, hv2⟩ := Kd.R_slice hr2
  subst hv2
  obtain ⟨g, cp, hA5, hbase, hglt, C5, hC5⟩ := Kd.R_form (Kd.R_lower hr1 HB0.out.size) (by rw [HB.out.2.2.2.2]; omega)
  obtain ⟨g6, cp6, hA6, _, _, C6, hC6⟩ := Kd.R_form hr2 (by rw [HE.out.2.2]; omega)
  have h6g : g6 ≠ g := by rintro rfl; rw [hC5] at hC6; cases hC6
  cases hA5
  cases hA6
  have HB1 := Lib.hid (HB0.out.trans (hb1.mono HB0.out.size))
  have HR1 := Lib.hid (Kd.R_lower hr1 HB0.out.size)
  have HR2 := Lib.hid (Kd.R_reads' hr2)
  have hpc0 : w1.cell? ⟨w.heap.size, 0, none⟩ = some (.int .u16 a) := cell_keep hb1 (by simp)
  have hpc1 : w1.cell? ⟨w.heap.size, 1, none⟩ = some (.int .u16 (q : Int)) := cell_keep hb1 (by simp)
  obtain ⟨ad, Ak, ck, he0, hcellk, _, _⟩ := HR0.out w1 HB1.out
  subst he0
  obtain ⟨ad6, he6, hcell6⟩ := Kd.at_int HR2.out.2.2 (k : Int) (by omega) (by have := HE.out.2.2; omega)
  cases he6
  have hz6 : rd es (k : Int) = (ek : Int) := by simp [rd, HE.out.1]
  rw [Int.toNat_natCast, hz6, add0] at hcell6
  have hk1 : ((k : Int) - 1) = ((k - 1 : Nat) : Int) := by omega
  obtain ⟨ad6', he6', hcell61⟩ := Kd.at_int HR2.out.2.2 ((k - 1 : Nat) : Int) (by omega) (by have := HE.out.2.2; omega)
  cases he6'
  have hz61 : rd es ((k - 1 : Nat) : Int) = (pl : Int) := by simp [rd, HE.out.2.1 hc2]
  rw [Int.toNat_natCast, hz61, add0] at hcell61
  rw [HE.out.2.2, HB.out.2.2.2.2]
  clear hr1 hr2 hb1 hz6 hC5 hC6 hglt
  go_wp2_with fail
  obtain ⟨fr, hfr⟩ : ∃ fr : Nat, 2 + (pl : Int) = (fr : Int) := ⟨pl + 2, by omega⟩
  have hfr1 : fr = pl + 2 := by omega
  obtain ⟨n8, hn8⟩ : ∃ n8, 8 * fr = n8 := ⟨_, rfl⟩
  obtain ⟨d, hd⟩ : ∃ d, ek - fr = d := ⟨_, rfl⟩
  obtain ⟨d8, hd8⟩ : ∃ d8, 8 * d = d8 := ⟨_, rfl⟩
  obtain ⟨r, hr⟩ : ∃ r, q % d8 = r := ⟨_, rfl⟩
  obtain ⟨F0, hF0⟩ : ∃ F0, n8 + r = F0 := ⟨_, rfl⟩
  have hrd : r < d8 := by rw [← hr]; exact Nat.mod_lt _ (by omega)
  have hF0l : F0 < 8 * ek := by omega
  have hF0g : 8 * fr ≤ F0 := by omega
  have HFR := Lib.hid (And.intro hfr1 (And.intro hF0l hF0g))
  have e1 : IntKind.i64.wrap (8 * (fr : Int)) = (n8 : Int) := by rw [IntWalk.i64_in _ (by omega)]; omega
  have e2 : IntKind.i64.wrap ((ek : Int) - (fr : Int)) = (d : Int) := by rw [IntWalk.i64_in _ (by omega)]; omega
  have e3 : IntKind.i64.wrap (8 * (d : Int)) = (d8 : Int) := by rw [IntWalk.i64_in _ (by omega)]; omega
  have e4 : Int.tmod (q : Int) (d8 : Int) = (r : Int) := by rw [Int.tmod_eq_emod_of_nonneg (by omega), ← hr]; omega
  have e5 : IntKind.i64.wrap ((n8 : Int) + (r : Int)) = (F0 : Int) := by rw [IntWalk.i64_in _ (by omega)]; omega
  have e6 : ((d8 : Int) == 0) = false := beq_false_of_ne (by omega)
  have e7 : ¬ d8 = 0 := by omega
  rw [hfr]
  clear hn8 hd hd8 hr hF0 hrd hfr1 hfr
  go_quiet (fail)
  clear e1 e2 e3 e4 e5 e6 e7 hcellk hpc0 hpc1 hcell61 b3 b4
  have HR3 := Lib.hid (Kd.R_drewN (HB.out.2.2.2.2 ▸ HR1.out : Kd.R (Kd.int .u8) 5 w1 w.heap.size (fun _ => True) (.slice (some ⟨g, 0, none⟩) L c5) (pre ++ (F ++ rest))) nq)
  have HB3 := Lib.hid (pw_below_drewN HB1.out nq)
  have hcell6' : (w1.drewN nq).cell? ⟨g6, k, none⟩ = some (.int .i64 (ek : Int)) := by simpa using hcell6
  obtain ⟨W1, hW1⟩ : ∃ W1, w1.drewN nq = W1 := ⟨_, rfl⟩
  rw [hW1] at HR3 HB3 hcell6' ⊢
  have HC6 := Lib.hid hcell6'
  clear hcell6 hW1 hcell6'
  have hL1 : 1 ≤ L := by omega
  obtain ⟨f, hf⟩ : ∃ f, F0 = 8 * pl + f := ⟨F0 - 8 * pl, by have := HFR.out; omega⟩
  have HFF2 := Lib.hid hf
  have hf8 : 8 * hdr p ≤ f ∧ f < 8 * F.length := by have := HFR.out; have := HPL.out; have := HFL1.out; omega
  have HF8 := Lib.hid hf8
  clear hf hf8
  go_wp2_with fail
  go_loopw [13, 85] (fun u13 u wr => ∃ (j W : Nat) (cs : List Int), j ≤ 32 ∧ u = .int .i64 j ∧ u13 = .bool (!decide (W = 0)) ∧ W < 2 ^ j ∧ Hid (Crc.le (nats cs) = Crc.le (nats F) ^^^ (2 ^ f * W)) ∧ Hid (∀ b ∈ cs, 0 ≤ b ∧ b < 256) ∧ Hid (cs.length = F.length) ∧ Hid (cs.take (hdr p) = ints (vb p.length)) ∧ Hid (W = 0 → cs = F) ∧ Hid (Kd.R (Kd.int .u8) 5 wr w.heap.size (fun _ => True) (.slice (some ⟨g, 0, none⟩) L c5) (pre ++ (cs ++ rest))) ∧ Hid (wr.cell? ⟨g6, k, none⟩ = some (.int .i64 (ek : Int))) ∧ Hid (Below w.heap.size w wr)) (fun _ v _ => 32 - (intOf v).toNat)
  case atStart => exact ⟨0, 0, F, by omega, rfl, rfl, by decide, by simp [Hid], HB.out.2.2.1, rfl, HB.out.2.2.2.1, fun _ => rfl, HR3.out, HC6.out, HB3.out⟩
  case round =>
    obtain ⟨j, W, cs, hj, rfl, rfl, hW, HLE, HBY, HLN, HHD, HW0, HR, HC6', HBL⟩ := hrel
    have hc6 := HC6'.out
    by_cases hlt : j < 32
    · by_cases hbit : y / 2 ^ j % 2 = 1
      · have e1 := bit_one y j hy hbit
        clear hbit
        by_cases hat : F0 + j < 8 * ek
        · have hjl : (f + j) / 8 < cs.length := by have := HLN.out; have := HPL.out; have := HFL1.out; have := HFF2.out; omega
          have hjh : hdr p ≤ (f + j) / 8 := by have := HF8.out; omega
          have hix : (F0 + j) / 8 = pre.length + (f + j) / 8 := by have := HPL.out; have := HFF2.out; omega
          have hmx : (F0 + j) % 8 = (f + j) % 8 := by have := HFF2.out; omega
          have hxl : (F0 + j) / 8 < L := by omega
          obtain ⟨b, HBV⟩ : ∃ b, Hid (cs.getD ((f + j) / 8) 0 = b) := ⟨_, Lib.hid rfl⟩
          have hlen : (pre ++ (cs ++ rest)).length = L := by
            have h1 := HB.out.2.2.2.2
            rw [List.length_append, List.length_append] at h1 ⊢
            rw [HLN.out]; exact h1
          have hcell : wr.cell? ⟨g, (F0 + j) / 8, none⟩ = some (.int .u8 b) := by
            have hR' : Kd.R (Kd.int .u8) 5 wr w.heap.size (fun _ => True) (.slice (some ⟨g, 0, none⟩) (pre ++ (cs ++ rest)).length c5) (pre ++ (cs ++ rest)) := by rw [hlen]; exact HR.out
            have := (Kd.R_cell (0 : Int) hR' (((F0 + j) / 8 : Nat) : Int) (by omega) (by omega)).1
            rw [Int.toNat_natCast] at this
            rw [this]
            congr 1
            show Value.int .u8 (rdOf 0 _ _) = _
            congr 1
            unfold rdOf
            rw [Int.toNat_natCast, hix, getD_mid _ _ _ _ hjl]
            exact HBV.out
          have hfz : wr.frozen? ⟨g, (F0 + j) / 8, none⟩ = false := by
            obtain ⟨g', c', cur', he, _, hh, _, _⟩ := R_open HR.out (by omega)
            injection he with he
            cases he
            exact unfrozen_of hh _
          have hfl := flip cs HBY.out (f + j) hjl
          rw [HBV.out] at hfl
          have HFL := Lib.hid hfl
          have hset := set_mid pre cs rest ((f + j) / 8) (Go.bits .xor .u8 b (2 ^ ((f + j) % 8) % 256)) hjl
          rw [← hix, ← hmx] at hset
          have HSET := Lib.hid hset
          have HJ := Lib.hid (And.intro hjl (And.intro hjh hmx))
          clear hfl hset hjl hjh hix hmx hlen
          go_wp2
          go_roundw
          case rel =>
            refine ⟨j + 1, W + 2 ^ j, cs.set ((f + j) / 8) (Go.bits .xor .u8 b (2 ^ ((f + j) % 8) % 256)), by omega, by go_num, ?_, ?_, ?_, HFL.out.1, ?_, ?_, ?_, ?_, ?_, HBL.out.setCell hbase _⟩
            · have : 0 < 2 ^ j := Nat.two_pow_pos j
              rw [decide_eq_false (by omega)]; rfl
            · rw [Nat.pow_succ]; omega
            · show _ = _
              rw [HFL.out.2, HLE.out, ← xor_two_pow W j hW, pow_mul_xor, ← Nat.pow_add, Nat.xor_assoc]
            · show _ = _
              rw [List.length_set]; exact HLN.out
            · show _ = _
              rw [List.take_set_of_le HJ.out.2.1]; exact HHD.out
            · intro h
              have : 0 < 2 ^ j := Nat.two_pow_pos j
              omega
            · have := Kd.R_putn HR.out (((F0 + j) / 8 : Nat) : Int) (Go.bits .xor .u8 b (2 ^ ((F0 + j) % 8) % 256))
              rw [Int.toNat_natCast, HSET.out] at this
              rw [HJ.out.2.2] at this ⊢
              exact this
            · show _ = _
              rw [World.cell?_setCell_other _ _ _ _ (by intro e; injection e with e; exact h6g e.symm)]
              exact HC6'.out
          case measure => simp [intOf]; omega
        · go_wp2
          go_roundw
          case rel => exact ⟨j + 1, W, cs, by omega, by go_num, rfl, by rw [Nat.pow_succ]; omega, HLE, HBY, HLN, HHD, HW0, HR, HC6', HBL⟩
          case measure => simp [intOf]; omega
      · have e1 := bit_zero y j hy hbit
        clear hbit
        go_wp2
        go_roundw
        case rel => exact ⟨j + 1, W, cs, by omega, by go_num, rfl, by rw [Nat.pow_succ]; omega, HLE, HBY, HLN, HHD, HW0, HR, HC6', HBL⟩
        case measure => simp [intOf]; omega
    · obtain rfl : j = 32 := by omega
      have hLn := HLN.out
      have hcsl : (pre ++ (cs ++ rest)).length = L := by
        have h1 := HB.out.2.2.2.2
        rw [List.length_append, List.length_append] at h1 ⊢
        rw [HLN.out]; exact h1
      have hbb : ∀ x ∈ pre ++ (cs ++ rest), 0 ≤ x ∧ x < 256 := by
        intro x hx
        rcases List.mem_append.1 hx with hx | hx
        · exact HB.out.1 x hx
        · rcases List.mem_append.1 hx with hx | hx
          · exact HBY.out x hx
          · exact HB.out.2.1 x hx
      have hR' : Kd.R (Kd.int .u8) 5 wr w.heap.size (fun _ => True) (.slice (some ⟨g, 0, none⟩) (pre ++ (cs ++ rest)).length c5) (pre ++ (cs ++ rest)) := by rw [hcsl]; exact HR.out
      have hrun := frun_any (some ⟨g, 0, none⟩) c5 (pre ++ (cs ++ rest)) 0 wr (Kd.R_reads' hR').2.2 (Kd.R_reads' hR').2.1 hbb (by omega)
      rw [hcsl] at hrun
      have hnum := HRT.out cs f W HBY.out HLN.out (by rw [HLN.out]; exact HF8.out.2) hW HW0.out HLE.out HHD.out
      unfold FRunPost at hrun
      obtain ⟨its, hits⟩ : ∃ its, runs (pre ++ (cs ++ rest)) 0 = its := ⟨_, rfl⟩
      rw [hits] at hrun hnum
      have HRN := Lib.hid hrun
      have HNUM := Lib.hid hnum
      clear hrun hnum hR' hbb hcsl hLn hits
      go_wp2_with fail
      refine HRN.out.mono ?_
      rintro e w2 ⟨v3, v4, vs, rfl, hr3, hr4, hvl, _, hb2⟩
      obtain ⟨A7, c7, hv3⟩ := Kd.R_slice hr3
      subst hv3
      have HB2 := Lib.hid (HBL.out.trans (hb2.mono HBL.out.size))
      have hvn := hvl.trans HNUM.out
      clear hr3 hr4 hvl hb2
      by_cases hz : W = 0
      · rw [if_pos hz] at hvn
        rw [hvn, decide_eq_true hz]
        clear hvn hz hW
        go_wp2_with fail
        refine (fixed6_any _).mono ?_
        rintro e w6 ⟨rfl, hb6⟩
        have HB6 := Lib.hid (HB2.out.trans (hb6.mono HB2.out.size))
        clear hb6
        go_wp2_with fail
        go_ret
        exact ⟨rfl, HB6.out⟩
      · rw [if_neg hz] at hvn
        rw [hvn, decide_eq_false hz]
        clear hvn hz hW
        go_wp2_with fail
        refine (fixed6_any _).mono ?_
        rintro e w6 ⟨rfl, hb6⟩
        have HB6 := Lib.hid (HB2.out.trans (hb6.mono HB2.out.size))
        clear hb6
        go_wp2_with fail
        go_ret
        exact ⟨rfl, HB6.out⟩
structure IsAt2 (W : World) (v : Value) (x : Int × Int) : Prop where
  val : v = .agg #[.int .u16 x.1, .int .u16 x.2]
  r1 : 0 ≤ x.1 ∧ x.1 < 65536
  r2 : 0 ≤ x.2 ∧ x.2 < 65536
theorem walk (v0 : Value) (x0 : Option Addr × Nat × List (List Int)) (v1 : Value) (x1 : Int × Int) (a2 : Int) (w : World) (w0 : IsRows (Kd.slice 5 (Kd.int .u8)) (fun xs => xs.length ≤ maxLen ∧ ∀ y ∈ xs, (Lit.int .u8 y).wf = true) w v0 x0) (w1 : IsAt2 w v1 x1) (w2 : (Lit.int .u32 a2).wf = true) :
    Calls Try.prog 7 #[v0, v1, .int .u32 a2] w fun e w' => e = .returned (.bool true) ∧ Below w.heap.size w w' := by
  obtain ⟨A, c, ps⟩ := x0
  obtain ⟨rfl, hc, hC, hm, ho⟩ := w0
  obtain ⟨a, b⟩ := x1
  obtain ⟨rfl, hr1, hr2⟩ := w1
  dsimp only at hr1 hr2 ⊢
  have hy : 0 ≤ a2 ∧ a2 < 4294967296 := by simp [Lit.wf, IntKind.min, IntKind.max, IntKind.signed, IntKind.bits] at w2; omega
  have hb : ∀ l ∈ ps, ∀ x ∈ l, 0 ≤ x ∧ x < 256 := fun l hl x hx => by
    have := (ho l hl).2 x hx
    simp [Lit.wf, IntKind.min, IntKind.max, IntKind.signed, IntKind.bits] at this; omega
  by_cases h : smallB ps = true
  · by_cases h0 : ps.length = 0
    · exact told_great A c ps a b a2 w hC (.inr ⟨h, h0⟩)
    · obtain ⟨q, rfl⟩ := Int.eq_ofNat_of_zero_le hr2.1
      obtain ⟨k, hk⟩ : ∃ k : Nat, a % (ps.length : Int) = (k : Int) := ⟨(a % (ps.length : Int)).toNat, (Int.toNat_of_nonneg (Int.emod_nonneg _ (by omega))).symm⟩
      have hkl : k < ps.length := by have := Int.emod_lt_of_pos a (show 0 < (ps.length : Int) by omega); omega
      by_cases h1 : 128 ≤ ps[k].length
      · by_cases h2 : k = 0
        · exact told_b A c ps k q a a2 w hr1 (by omega) hy hC hc h hb hkl hk h1 h2
        · exact told_d A c ps k q a a2 w hr1 (by omega) hy hC hc h hb hkl hk h1 (by omega)
      · by_cases h2 : k = 0
        · exact told_a A c ps k q a a2 w hr1 (by omega) hy hC hc h hb hkl hk h1 h2
        · exact told_c A c ps k q a a2 w hr1 (by omega) hy hC hc h hb hkl hk h1 (by omega)
  · exact told_great A c ps a b a2 w hC (.inl (by simpa using h))
end Go.Proofs.Ytfflenbfapgilaa.WFrameTold
namespace Go.Proofs.Ytfflenbfapgilaa
open Go.RowKit Go.Proofs.YtfflenbfapgilaaW.PrintWords Go.ChangeShapes Go.WideShapes
theorem cellsOf_u16a : Try.prog.cellsOf 50 = 1 := by kernel_rfl
theorem cellsOf_at2 : Try.prog.cellsOf 55 = 2 := by kernel_rfl
theorem okWide_arr {P : Program} {W : World} {r : Reach} {b0 : Nat} {t e : TypeId} {n : Nat} {v : Value} (ht : P.underlying t = some (.array n e)) (h : Value.okWide P W r b0 t v) : ∃ cs, v = .agg cs ∧ cs.size = P.cellsOf t := by
  simp only [Value.okWide, ht] at h
  obtain ⟨cs, h1, h2, _⟩ := h
  exact ⟨cs, h1, h2⟩
theorem u16_of {n : Int} (h : (Lit.int .u16 n).wf = true) : 0 ≤ n ∧ n < 65536 := by
  simp [Lit.wf, IntKind.min, IntKind.max, IntKind.signed, IntKind.bits] at h; omega
/-- An array of two, as the reader reads it. -/
theorem trod_two {H : Type} {enc : TypeId × Value → H} {P : Program} {W : World} {base : Nat} {held : Bool} {t e : TypeId} {fuel : Nat} {c0 c1 : Value} {x : DataW H × List MemPlace} (ht : P.underlying t = some (.array 2 e)) (hce : P.cellsOf e = 1)
    (h : DataW.trod enc P W base (fun _ => true) held fuel t [c0, c1] = some x) : ∃ y0 y1 n, DataW.trod enc P W base (fun _ => true) held n e [c0] = some y0 ∧ DataW.trod enc P W base (fun _ => true) held n e [c1] = some y1 := by
  match fuel, h with
  | 0, h => simp [DataW.trod] at h
  | n + 1, h =>
    simp only [DataW.trod, ht, show List.range 2 = [0, 1] from rfl] at h
    have h0 : ∃ y0, DataW.trod enc P W base (fun _ => true) held n e [c0] = some y0 := by
      cases hh : DataW.trod enc P W base (fun _ => true) held n e [c0] with
      | none => simp [hce, hh] at h
      | some y => exact ⟨y, rfl⟩
    have h1 : ∃ y1, DataW.trod enc P W base (fun _ => true) held n e [c1] = some y1 := by
      obtain ⟨y0, h0⟩ := h0
      cases hh : DataW.trod enc P W base (fun _ => true) held n e [c1] with
      | none => simp [hce, h0, hh] at h
      | some y => exact ⟨y, rfl⟩
    obtain ⟨y0, h0⟩ := h0
    obtain ⟨y1, h1⟩ := h1
    exact ⟨y0, y1, n, h0, h1⟩
set_option maxRecDepth 100000 in
theorem open_t55 {H : Type} {enc : TypeId × Value → H} {W : World} {base : Nat} {held : Bool} {v : Value} {d : DataW H} {ps : List MemPlace} {r : Reach} {b0 : Nat} (hval : Value.okWide Try.prog W r b0 55 v) (h : DataW.Trod enc Try.prog W base (fun _ => true) held 55 v d ps) :
    ∃ x, WFrameTold.IsAt2 W v x := by
  obtain ⟨cs, rfl, hs⟩ := okWide_arr Try.underlying55 hval
  rw [cellsOf_at2] at hs
  obtain ⟨c0, c1, rfl⟩ : ∃ c0 c1, cs = #[c0, c1] := by
    obtain ⟨l⟩ := cs
    match l, hs with
    | [a, b], _ => exact ⟨a, b, rfl⟩
  obtain ⟨fuel, hf⟩ := h
  have hf' : DataW.trod enc Try.prog W base (fun _ => true) held fuel 55 [c0, c1] = some (d, ps) := hf
  obtain ⟨y0, y1, n, h0, h1⟩ := trod_two Try.underlying55 cellsOf_u16a hf'
  obtain ⟨m0, e0, _, g0⟩ := DataW.trod_int Try.underlying50 h0
  obtain ⟨m1, e1, _, g1⟩ := DataW.trod_int Try.underlying50 h1
  simp only [List.cons.injEq, and_true] at e0 e1
  subst e0 e1
  exact ⟨(m0, m1), rfl, u16_of g0, u16_of g1⟩
end Go.Proofs.Ytfflenbfapgilaa
