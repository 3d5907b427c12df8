/- Texts laid as one by shake.py, cut to what the claim needs: SchF, SchG, SchH. (Names that begin with W and the print's groups (G..x, G..z): laid by the kit's print, cut.) -/
import Derived.Test.YtfflenbfapgilaaZNr
import Derived.Test.YtfflenbfapgilaaZNg
import Derived.Laws.IdiomStrings
set_option linter.unusedVariables false
set_option linter.unusedSimpArgs false
namespace Go.Proofs.Ytfflenbfapgilaa
open Go.RowKit Go.Proofs.YtfflenbfapgilaaW.PrintWords Go.Proofs.Ytfflenbfapgilaa.GRR
theorem strs_l0 (l : List (List Int)) (hl : l.length ≤ 1000000) : ∀ (d i k : Nat), l.length = i + d → d < k → tephralaw09_strings.l0 k ((l.take i).map strOfNums) l (l.length : Int) (i : Int) = some (l.map strOfNums) := by
 intro d
 induction d with
 | zero =>
  intro i k hi hk
  obtain ⟨k, rfl⟩ : ∃ m, k = m + 1 := ⟨k - 1, by omega⟩
  rw [List.take_of_length_le (by omega)]
  simp only [tephralaw09_strings.l0]
  rw [if_neg (by omega)]
 | succ d ih =>
  intro i k hi hk
  obtain ⟨k, rfl⟩ : ∃ m, k = m + 1 := ⟨k - 1, by omega⟩
  have hlt : i < l.length := by omega
  have hrd : rd_L5 l (i : Int) = l[i] := by simp [rd_L5, hlt]
  have hlen : ((l.take i).map strOfNums).length < 8796093022208 := by rw [List.length_map, List.length_take]; omega
  simp only [tephralaw09_strings.l0]
  rw [if_pos (by omega), if_pos (by omega), if_pos (by omega), if_pos hlen, hrd, wr1 i l.length hlt (by omega)]
  have htk : (l.take i).map strOfNums ++ [strOfNums l[i]] = (l.take (i + 1)).map strOfNums := by rw [List.take_succ_eq_append_getElem hlt, List.map_append, List.map_singleton]
  rw [htk]
  exact ih (i + 1) k (by omega) (by omega)
theorem strs_is (l : List (List Int)) (hl : l.length ≤ 1000000) : tephralaw09_strings.f (l.length + 1) l = some (l.map strOfNums) := strs_l0 l hl l.length 0 _ (by omega) (by omega)
theorem same_l0 (l : List ByteArray) (hl : l.length ≤ 1000000) : ∀ (d i k : Nat), l.length = i + d → d < k → tephraref04_Same.l0 k l l (i : Int) = some true := by
 intro d
 induction d with
 | zero =>
  intro i k hi hk
  obtain ⟨k, rfl⟩ : ∃ m, k = m + 1 := ⟨k - 1, by omega⟩
  simp only [tephraref04_Same.l0]
  rw [if_neg (by omega)]
 | succ d ih =>
  intro i k hi hk
  obtain ⟨k, rfl⟩ : ∃ m, k = m + 1 := ⟨k - 1, by omega⟩
  simp only [tephraref04_Same.l0]
  rw [if_pos (by omega), if_pos (by omega), if_pos (by omega), if_pos trivial, wr1 i l.length (by omega) (by omega)]
  exact ih (i + 1) k (by omega) (by omega)
theorem same4_is (l : List ByteArray) (hl : l.length ≤ 1000000) : tephraref04_Same.f (l.length + 1) l l = some true := by
 unfold tephraref04_Same.f
 rw [if_pos rfl]
 exact same_l0 l hl l.length 0 _ (by omega) (by omega)
def fewB (l : List ByteArray) : Bool := l.all (fun s => decide (s.size ≤ 3000)) && decide (l.length ≤ 40)
theorem few_l0 (l : List ByteArray) (hl : l.length ≤ 9223372036854775807) : ∀ (d i k : Nat), l.length = i + d → d < k → (∀ s ∈ l.take i, s.size ≤ 3000) → tephralaw09_few.l0 k l l (l.length : Int) (i : Int) = some (fewB l) := by
 intro d
 induction d with
 | zero =>
  intro i k hi hk hs
  obtain ⟨k, rfl⟩ : ∃ m, k = m + 1 := ⟨k - 1, by omega⟩
  rw [List.take_of_length_le (by omega)] at hs
  have ha : l.all (fun s => decide (s.size ≤ 3000)) = true := List.all_eq_true.2 (fun s h => decide_eq_true (hs s h))
  simp only [tephralaw09_few.l0]
  rw [if_neg (by omega)]
  unfold fewB
  rw [ha, Bool.true_and]
  congr 1
  rw [Bool.eq_iff_iff, decide_eq_true_eq, decide_eq_true_eq]; omega
 | succ d ih =>
  intro i k hi hk hs
  obtain ⟨k, rfl⟩ : ∃ m, k = m + 1 := ⟨k - 1, by omega⟩
  have hlt : i < l.length := by omega
  have hrd : rdOf ByteArray.empty l (i : Int) = l[i] := by simp [rdOf, hlt]
  simp only [tephralaw09_few.l0]
  rw [if_pos (by omega), if_pos (by omega), if_pos (by omega), hrd, wr1 i l.length hlt hl]
  split
  ·rename_i hg
   unfold fewB
   have : l.all (fun s => decide (s.size ≤ 3000)) = false := by
    rw [List.all_eq_false]
    exact ⟨l[i], List.getElem_mem _, by simp; omega⟩
   rw [this]; rfl
  ·refine ih (i + 1) k (by omega) (by omega) ?_
   rw [List.take_succ_eq_append_getElem hlt]
   intro x hx
   rcases List.mem_append.1 hx with hx | hx
   ·exact hs x hx
   ·simp at hx; subst hx; omega
theorem few_is (l : List ByteArray) (hl : l.length ≤ 9223372036854775807) : tephralaw09_few.f (l.length + 1) l = some (fewB l) := few_l0 l hl l.length 0 _ (by omega) (by omega) (by simp)
end Go.Proofs.Ytfflenbfapgilaa
namespace Go.Proofs.Ytfflenbfapgilaa
open Go.RowKit Go.Proofs.YtfflenbfapgilaaW.PrintWords Go.Proofs.Ytfflenbfapgilaa.GRR
theorem below_kp {w W W' : World} {S : Nat → Prop} (h : Below w.heap.size w W) (hk : Kp W W' S) (hs : ∀ k, S k → w.heap.size ≤ k) : Below w.heap.size w W' :=
 ((Kp.of_below h (fun _ => False)).trans hk (fun k h => .inr (hs k h))).to_below (fun _ h => h.elim)
def aB : ByteArray := ⟨#[97]⟩
theorem vb0 : vb 0 = [0] := vb_small 0 (by omega)
theorem vb1 : vb 1 = [1] := vb_small 1 (by omega)
theorem fx9_1 : putF 1 [] 2 aB 0 [] 0 0 ⟨#[]⟩ = ([[2, 1, 97]], [], 0) := by
 have hm : mayB 1 2 aB 0 [] 0 0 ⟨#[]⟩ = true := by decide
 have hb : blob aB = [1, 97] := by
  unfold blob
  rw [show aB.size = 1 from rfl, vb1]; rfl
 have h1 : lastE 1 [] 2 aB 0 [] 0 0 ⟨#[]⟩ = [2, 1, 97] := by
  unfold lastE textE
  rw [if_pos rfl, if_pos rfl, hb]; rfl
 unfold putF
 rw [if_pos (by omega), if_pos hm]
 simp only [show ¬ ((1 : Int) < 1) from by omega, if_false, h1, moreE_self]
 rfl
theorem fx9_2 : putF 2 [] 2 aB 0 [] 0 0 ⟨#[]⟩ = ([[0, 97], [2, 0]], [aB], 0) := by
 have hm : mayB 2 2 aB 0 [] 0 0 ⟨#[]⟩ = true := by decide
 have hn0 : namesL aB [] ⟨#[]⟩ = [aB] := by
  unfold namesL
  rw [if_pos (tl_nil.2 rfl)]; rfl
 have hn : tnewOn [] (tnew (namesL aB [] ⟨#[]⟩)) = [aB] := by rw [hn0]; decide
 have hb : numE [aB] aB = [0] := by
  unfold numE
  rw [show (atI [aB] aB).toNat = 0 by decide, vb0]; rfl
 have h1 : lastE 2 [aB] 2 aB 0 [] 0 0 ⟨#[]⟩ = [2, 0] := by
  unfold lastE textE
  rw [if_pos rfl, if_neg (by omega), hb]; rfl
 unfold putF
 rw [if_pos (by omega), if_pos hm]
 simp only [show (1 : Int) < 2 from by omega, if_true, hn, h1]
 rw [show moreE [] [aB] = [[0, 97]] by decide]
 rfl
theorem fx9_s1 : ([[2, 1, 97]] : List (List Int)).map strOfNums = [⟨#[2, 1, 97]⟩] := by decide
theorem fx9_s2 : ([[0, 97], [2, 0]] : List (List Int)).map strOfNums = [⟨#[0, 97]⟩, ⟨#[2, 0]⟩] := by decide
set_option maxHeartbeats 4000000 in
set_option maxRecDepth 100000 in
theorem fixed9_any (w : World) : Calls Try.prog 30 #[] w fun e w' => e = .returned (.bool true) ∧ Below w.heap.size w w' := by
 have hok : RecOk aB [] ⟨#[]⟩ := ⟨by simp, by decide, by decide, by simp⟩
 have HPU := Lib.hid (fun (v : Int) (W : World) (S : Nat → Prop) (t : Nat) (T : List ByteArray) (h : Tab W S t T) (hT : T.length ≤ 100000) => sput_any v h 2 aB 0 none 0 [] 0 0 ⟨#[]⟩ (fun W' _ => Kd.C_nil _ _) (Nat.le_refl _) hok (by omega) (by omega) (by omega) (by simp) hT)
 rw [show ([] : List S113).length = 0 from rfl] at HPU
 clear hok
 obtain ⟨w1, hw1⟩ : ∃ w1, w.alloc (.cells #[.int .i64 2, .string aB, .int .u64 0, .slice none 0 0, .int .u64 0, .int .u64 0, .string ⟨#[]⟩] 62) = w1 := ⟨_, rfl⟩
 have hb1 : Below w.heap.size w w1 := by rw [← hw1]; exact (Below.refl _ _).alloc (Nat.le_refl _) _
 have hz1 : w1.heap.size = w.heap.size + 1 := by rw [← hw1, heap_size_alloc]
 have hk1 : w1.heap[w.heap.size]? = some (.cells #[.int .i64 2, .string aB, .int .u64 0, .slice none 0 0, .int .u64 0, .int .u64 0, .string ⟨#[]⟩] 62 (0, 0)) := by rw [← hw1]; exact heap_new _ _
 have HW1 := Lib.hid (show w.alloc (.cells #[.int .i64 2, .string ⟨#[97]⟩, .int .u64 0, .slice none 0 0, .int .u64 0, .int .u64 0, .string ⟨#[]⟩] 62) = w1 from hw1)
 have HN := Lib.hid (new_any none 0 [] w1 (Kd.C_nil _ _) (Nat.le_refl _) (by simp) (by simp))
 rw [show ([] : List ByteArray).length = 0 from rfl, show tnew ([] : List ByteArray) = [] from rfl] at HN
 obtain ⟨b1, hbb⟩ : ∃ b, w.heap.size = b := ⟨_, rfl⟩
 rw [hbb] at hk1 hz1
 have HB1 := Lib.hid hb1
 have HK1 := Lib.hid hk1
 have HZ1 := Lib.hid hz1
 have HBB := Lib.hid hbb
 clear hb1 hk1 hz1 hw1 hbb
 go_enter Try.func30, Try.ntmps30
 go_wp2_with fail
 rw [HW1.out, HBB.out]
 refine HN.out.mono ?_
 rintro e w2 ⟨rfl, hd⟩
 obtain ⟨g, hg⟩ : ∃ g, w1.heap.size = g := ⟨_, rfl⟩
 rw [hg] at hd ⊢
 obtain ⟨S, hT, hS, hB⟩ := hd.out
 have hz1 := HZ1.out
 have hnb : ¬ S b1 := fun h => by have := hS _ h; omega
 have hB2 := HB1.out.trans (hB.mono HB1.out.size)
 have hSb : ∀ k, S k → w.heap.size ≤ k := fun k hk => by have := hS k hk; have := HB1.out.size; omega
 have hk2 := blk_below HK1.out hB
 have HT := Lib.hid hT
 have HS := Lib.hid hSb
 have HNB := Lib.hid hnb
 have HB2 := Lib.hid hB2
 have HK2 := Lib.hid hk2
 clear hd hT hS hB hB2 hSb hk2 hz1 hnb hg HN HK1 HZ1
 obtain ⟨c0, c1, c2, c3, c4, c5, c6⟩ := facts7 HK2.out
 go_wp2_with fail
 clear c0 c1 c2 c3 c4 c5 c6
 refine (HPU.out 1 w2 S g [] HT.out (by simp)).mono ?_
 rintro e w3 ⟨v3, S3, rfl, hT3, hS3, hk3, hR3⟩
 rw [fx9_1] at hT3 hR3
 rw [fx9_1]
 dsimp only at hT3 hR3 ⊢
 obtain ⟨A3, c3', rfl⟩ := Kd.R_slice hR3
 have HT3 := Lib.hid hT3
 have HR3 := Lib.hid hR3
 have HS3 := Lib.hid (fun k (h : S3 k) => show w.heap.size ≤ k from (hS3 k h).elim (HS.out k) (fun h => Nat.le_trans HB2.out.size h))
 have HB3 := Lib.hid (below_kp HB2.out hk3 HS.out)
 have HK3 := Lib.hid (hk3.heap HK2.out HNB.out)
 clear hT3 hR3 hS3 hk3 HK2 HNB HT
 obtain ⟨c0, c1, c2, c3, c4, c5, c6⟩ := facts7 HK3.out
 go_wp2_with fail
 clear c0 c1 c2 c3 c4 c5 c6
 refine (HPU.out 2 w3 S3 g [] HT3.out (by simp)).mono ?_
 rintro e w4 ⟨v4, S4, rfl, hT4, hS4, hk4, hR4⟩
 rw [fx9_2] at hT4 hR4
 rw [fx9_2]
 dsimp only at hT4 hR4 ⊢
 obtain ⟨A4, c4', rfl⟩ := Kd.R_slice hR4
 have hR3 := R_wrote HR3.out hk4 hS4
 have HB4 := Lib.hid (below_kp HB3.out hk4 HS3.out)
 have HA := Lib.hid (fun (W : World) (h : Below w4.heap.size w4 W) => tephralaw09_strings.calls 2 A3 c3' [[2, 1, 97]] [⟨#[2, 1, 97]⟩] W (Kd.C_below (Kd.R_reads' hR3).2.2 h) (Kd.R_reads' hR3).2.1 ((strs_is _ (by simp)).trans (congrArg some fx9_s1)))
 have HC := Lib.hid (fun (W : World) (h : Below w4.heap.size w4 W) => tephralaw09_strings.calls 3 A4 c4' [[0, 97], [2, 0]] [⟨#[0, 97]⟩, ⟨#[2, 0]⟩] W (Kd.C_below (Kd.R_reads' hR4).2.2 h) (Kd.R_reads' hR4).2.1 ((strs_is _ (by simp)).trans (congrArg some fx9_s2)))
 clear hT4 hR4 hS4 hk4 hR3 HR3 HS3 HK3 HT3 HPU
 go_wp2_with fail
 refine (HA.out w4 (Below.refl _ _)).mono ?_
 rintro e w5 ⟨v5, rfl, hR5, hb⟩
 obtain ⟨A5, c5', rfl⟩ := Kd.R_slice hR5
 have HB5 := Lib.hid (And.intro hb (HB4.out.trans (hb.mono HB4.out.size)))
 have h5 := Kd.R_reads' hR5
 have hbm := (Below.refl w5.heap.size w5).alloc (Nat.le_refl _) (.cells #[.string ⟨#[2, 1, 97]⟩] 9)
 have hcm := C_block_str (w5.alloc (.cells #[.string ⟨#[2, 1, 97]⟩] 9)) w5.heap.size 9 (0, 0) [⟨#[2, 1, 97]⟩] (heap_new _ _) (by simp)
 have HSA := Lib.hid (tephraref04_Same.calls 2 A5 c5' [⟨#[2, 1, 97]⟩] (some ⟨w5.heap.size, 0, none⟩) 1 [⟨#[2, 1, 97]⟩] true _ (Kd.C_below h5.2.2 hbm) h5.2.1 hcm (Nat.le_refl _) (same4_is _ (by simp)))
 have HBM := Lib.hid hbm
 clear hR5 hb h5 hcm hbm HA
 go_wp2_with fail
 refine HSA.out.mono ?_
 rintro e w6 ⟨rfl, hdr⟩
 have hb := HBM.out.trans (hdr.below.mono HBM.out.size)
 have HB6 := Lib.hid (And.intro (HB5.out.1.trans (hb.mono HB5.out.1.size)) (HB5.out.2.trans (hb.mono HB5.out.2.size)))
 clear hdr hb HSA HBM HB5
 go_wp2_with fail
 refine (HC.out w6 HB6.out.1).mono ?_
 rintro e w7 ⟨v7, rfl, hR5, hb⟩
 obtain ⟨A5, c5', rfl⟩ := Kd.R_slice hR5
 have HB7 := Lib.hid (HB6.out.2.trans (hb.mono HB6.out.2.size))
 have h5 := Kd.R_reads' hR5
 have hbm := (Below.refl w7.heap.size w7).alloc (Nat.le_refl _) (.cells #[.string ⟨#[0, 97]⟩, .string ⟨#[2, 0]⟩] 9)
 have hcm := C_block_str (w7.alloc (.cells #[.string ⟨#[0, 97]⟩, .string ⟨#[2, 0]⟩] 9)) w7.heap.size 9 (0, 0) [⟨#[0, 97]⟩, ⟨#[2, 0]⟩] (heap_new _ _) (by simp)
 have HSA := Lib.hid (tephraref04_Same.calls 3 A5 c5' [⟨#[0, 97]⟩, ⟨#[2, 0]⟩] (some ⟨w7.heap.size, 0, none⟩) 2 [⟨#[0, 97]⟩, ⟨#[2, 0]⟩] true _ (Kd.C_below h5.2.2 hbm) h5.2.1 hcm (Nat.le_refl _) (same4_is _ (by simp)))
 have HBM := Lib.hid hbm
 clear hR5 hb h5 hcm hbm HC
 go_wp2_with fail
 refine HSA.out.mono ?_
 rintro e w8 ⟨rfl, hdr⟩
 have hb := HBM.out.trans (hdr.below.mono HBM.out.size)
 have HB8 := Lib.hid (HB7.out.trans (hb.mono HB7.out.size))
 clear hdr hb HSA HBM HB7
 go_wp2_with fail
 go_ret
 exact ⟨rfl, HB8.out⟩
end Go.Proofs.Ytfflenbfapgilaa
namespace Go.Proofs.Ytfflenbfapgilaa
open Go.RowKit Go.Proofs.YtfflenbfapgilaaW.PrintWords Go.Proofs.Ytfflenbfapgilaa.GRR
def wantE (v : Int) : Int := if 1 ≤ v ∧ v ≤ 3 then 1 else 11
theorem sput_nil (v : Int) (r : Value) (k0 : Int) (x1 : ByteArray) (x2 : Int) (a3 : Value) (x4 x5 : Int) (x6 : ByteArray) (hr : r = .agg #[.int .i64 k0, .string x1, .int .u64 x2, a3, .int .u64 x4, .int .u64 x5, .string x6]) (w : World) :
  Calls Try.prog 32 #[.int .i64 v, .pointer none, r] w fun e w' => e = .returned (.tuple #[.slice none 0 0, .int .i64 (wantE v)]) ∧ Below w.heap.size w w' := by
 subst hr
 have HKN := Lib.hid (fun W' => known9_any v W')
 have HB := Lib.hid ((Below.refl w.heap.size w).alloc (Nat.le_refl _) (.cells #[.int .i64 k0, .string x1, .int .u64 x2, a3, .int .u64 x4, .int .u64 x5, .string x6] 62))
 unfold wantE
 by_cases hv : 1 ≤ v ∧ v ≤ 3
 ·rw [if_pos hv]
  rw [show decide (1 ≤ v ∧ v ≤ 3) = true from decide_eq_true hv] at HKN
  clear hv
  go_enter Try.func32, Try.ntmps32
  go_wp2_with fail
  refine (HKN.out _).mono ?_
  rintro e w9 ⟨rfl, rfl⟩
  go_wp2_with fail
  go_ret2
  exact ⟨rfl, HB.out⟩
 ·rw [if_neg hv]
  rw [show decide (1 ≤ v ∧ v ≤ 3) = false from decide_eq_false hv] at HKN
  clear hv
  go_enter Try.func32, Try.ntmps32
  go_wp2_with fail
  refine (HKN.out _).mono ?_
  rintro e w9 ⟨rfl, rfl⟩
  go_wp2_with fail
  go_ret2
  exact ⟨rfl, HB.out⟩
theorem sget_nil (v : Int) (pv : Value) (w : World) :
  Calls Try.prog 38 #[.int .i64 v, .pointer none, pv, .int .i64 0] w fun e w' => e = .returned (.tuple #[.agg #[.int .i64 0, .string ⟨#[]⟩, .int .u64 0, .slice none 0 0, .int .u64 0, .int .u64 0, .string ⟨#[]⟩], .int .i64 0, .int .i64 (wantE v)]) ∧ Below w.heap.size w w' := by
 have HKN := Lib.hid (fun W' => known9_any v W')
 have HU := Lib.hid Try.underlying62
 unfold wantE
 by_cases hv : 1 ≤ v ∧ v ≤ 3
 ·rw [if_pos hv]
  rw [show decide (1 ≤ v ∧ v ≤ 3) = true from decide_eq_true hv] at HKN
  clear hv
  go_enter Try.func38, Try.ntmps38
  go_wp2_with fail
  refine (HKN.out _).mono ?_
  rintro e w9 ⟨rfl, rfl⟩
  go_wp2_with fail
  refine bodyPost_ret (results_ctt rfl _ _ w.heap.size 62 #[_, _, _, _, _, _, _] (0, 0) _ rfl (heap_new _ _) HU.out rfl (by kernel_rfl)) rfl ?_
  exact ⟨rfl, (Below.refl _ _).alloc (Nat.le_refl _) _⟩
 ·rw [if_neg hv]
  rw [show decide (1 ≤ v ∧ v ≤ 3) = false from decide_eq_false hv] at HKN
  clear hv
  go_enter Try.func38, Try.ntmps38
  go_wp2_with fail
  refine (HKN.out _).mono ?_
  rintro e w9 ⟨rfl, rfl⟩
  go_wp2_with fail
  refine bodyPost_ret (results_ctt rfl _ _ w.heap.size 62 #[_, _, _, _, _, _, _] (0, 0) _ rfl (heap_new _ _) HU.out rfl (by kernel_rfl)) rfl ?_
  exact ⟨rfl, (Below.refl _ _).alloc (Nat.le_refl _) _⟩
def RdB (B : Nat) (W : World) (v : Value) (s : ByteArray) : Prop := ∃ b c cap fr, v = .slice (some ⟨b, 0, none⟩) s.size c ∧ B ≤ b ∧ s.size ≤ c ∧ W.heap[b]? = some (.cells (Go.bytesRow s cap) 5 fr)
theorem RdB.below {B : Nat} {W W' : World} {v : Value} {s : ByteArray} (h : RdB B W v s) (hb : Below W.heap.size W W') : RdB B W' v s := by
 obtain ⟨b, c, cap, fr, h1, h2, h3, h4⟩ := h
 exact ⟨b, c, cap, fr, h1, h2, h3, (hb.block b (Array.getElem?_eq_some_iff.1 h4).1).trans h4⟩
theorem RdB.grown {B : Nat} {W W' : World} {v : Value} {s : ByteArray} {row : Option Nat} (h : RdB B W v s) (hg : W.grownBy W' row) (ht : ∀ k, row = some k → ∃ C fr, W.heap[k]? = some (.cells C 22 fr)) : RdB B W' v s := by
 obtain ⟨b, c, cap, fr, h1, h2, h3, h4⟩ := h
 refine ⟨b, c, cap, fr, h1, h2, h3, (hg.block b (Array.getElem?_eq_some_iff.1 h4).1 (fun e => ?_)).trans h4⟩
 obtain ⟨C, fr2, h5⟩ := ht b e.symm
 rw [h4] at h5
 injection h5 with h5
 injection h5 with _ h5
 exact absurd h5 (by decide)
theorem heap_new2 (w : World) (o p : Obj) : ((w.alloc o).alloc p).heap[w.heap.size + 1]? = some p := by
 have := heap_new (w.alloc o) p
 rwa [heap_size_alloc] at this
set_option maxRecDepth 100000 in
set_option maxHeartbeats 1000000 in
theorem bytes9_any (A : Option Addr) (c : Nat) (l : List ByteArray) (w : World) (hC : Kd.C Kd.string w A l.length l) (hc : l.length ≤ c) (hl : l.length ≤ 1000000) :
  Calls Try.prog 40 #[.slice A l.length c] w fun e w' => ∃ v vs, e = .returned v ∧ Kd.R valK 22 w' w.heap.size (fun _ => True) v vs ∧ vs.length = l.length ∧ (∀ (k : Nat) (x : {v : Value // v.oneCell' = true}) s, vs[k]? = some x → l[k]? = some s → RdB w.heap.size w' x.1 s) ∧ Below w.heap.size w w' := by
 have HC := Lib.hid hC
 clear hC
 go_enter Try.func40, Try.ntmps40
 go_wp2_with fail
 go_loopw [3, 8] (fun u3 u8 wr => ∃ (i : Nat) (vs : List {v : Value // v.oneCell' = true}), i ≤ l.length ∧ u8 = .int .i64 i ∧ Hid (Kd.R valK 22 wr w.heap.size (fun _ => True) u3 vs) ∧ vs.length = i ∧ Hid (∀ (k : Nat) (x : {v : Value // v.oneCell' = true}) s, vs[k]? = some x → l[k]? = some s → RdB w.heap.size wr x.1 s) ∧ Hid (Below w.heap.size w wr)) (fun _ v _ => l.length - (intOf v).toNat)
 case atStart => exact ⟨0, [], by omega, rfl, Lib.hid (Kd.R_nil _ _ _ _ _), rfl, Lib.hid (by simp), Lib.hid (Below.refl _ _)⟩
 case round =>
  obtain ⟨i, vs, hi, rfl, HR, hvl, HE, HB⟩ := hrel
  by_cases hlt : i < l.length
  ·obtain ⟨ad, hA, hcell⟩ := Kd.at_string (Kd.C_below HC.out HB.out) (i : Int) (by omega) (by omega)
   subst hA
   rw [Int.toNat_natCast] at hcell
   obtain ⟨s, hs⟩ : ∃ s, l[i] = s := ⟨_, rfl⟩
   have hrd : rdOf ByteArray.empty l (i : Int) = s := by simp [rdOf, hlt, hs]
   rw [hrd] at hcell
   have kb := fun (W : World) => run_bytes_of_string (P := Try.prog) W 9 22 5 s Try.underlying9 Try.underlying22 Try.underlying5
   have HS := Lib.hid hs
   clear hs hrd
   go_wp2_with (at_builtin; refine Halt.mk ?_)
   refine Halt.of ?_
   obtain ⟨cap, hcap⟩ : ∃ cap, grownCap wr s.size 0 5 = cap := ⟨_, rfl⟩
   have hge : s.size ≤ cap := by rw [← hcap]; exact grownCap_ge _ _ _ _
   rw [hcap]
   have hb6 : Below wr.heap.size wr (((wr.alloc (.cells (Go.bytesRow s cap) 5 ((Go.bytesRow s cap).size, (Go.bytesRow s cap).size + 1))).alloc (.cells #[.slice (some ⟨wr.heap.size, 0, none⟩) s.size cap] 22)).drew) :=
    (((Below.refl _ _).alloc (Nat.le_refl _) _).alloc (by rw [heap_size_alloc]; omega) _).drew
   have hk6 : (((wr.alloc (.cells (Go.bytesRow s cap) 5 ((Go.bytesRow s cap).size, (Go.bytesRow s cap).size + 1))).alloc (.cells #[.slice (some ⟨wr.heap.size, 0, none⟩) s.size cap] 22)).drew).heap[wr.heap.size]? = some (.cells (Go.bytesRow s cap) 5 ((Go.bytesRow s cap).size, (Go.bytesRow s cap).size + 1)) :=
    (heap_new_old _ _ _ (by rw [heap_size_alloc]; omega)).trans (heap_new _ _)
   have hk7 : (((wr.alloc (.cells (Go.bytesRow s cap) 5 ((Go.bytesRow s cap).size, (Go.bytesRow s cap).size + 1))).alloc (.cells #[.slice (some ⟨wr.heap.size, 0, none⟩) s.size cap] 22)).drew).heap[wr.heap.size + 1]? = some (.cells #[.slice (some ⟨wr.heap.size, 0, none⟩) s.size cap] 22 (0, 0)) := heap_new2 _ _ _
   have hBS := HB.out.size
   have hB6 := HB.out.trans (hb6.mono hBS)
   have hn : RdB w.heap.size _ (.slice (some ⟨wr.heap.size, 0, none⟩) s.size cap) s := ⟨wr.heap.size, cap, cap, _, rfl, hBS, hge, hk6⟩
   have hE6 := fun k x s h h' => (HE.out k x s h h').below hb6
   have hR6 := Kd.R_below HR.out hb6
   generalize (((wr.alloc (.cells (Go.bytesRow s cap) 5 ((Go.bytesRow s cap).size, (Go.bytesRow s cap).size + 1))).alloc (.cells #[.slice (some ⟨wr.heap.size, 0, none⟩) s.size cap] 22)).drew) = w6 at *
   have hty : ∀ k, u3.ownBlock = some k → ∃ C fr, w6.heap[k]? = some (.cells C 22 fr) := fun k hk => by
    obtain ⟨inner, how⟩ := Kd.R_own hR6
    obtain ⟨C, h⟩ := own_typed how k hk
    exact ⟨C, _, h⟩
   refine Kd.R_append_rows valK (w0 := w) w.heap.size rfl (.tmp 12) (.tmp 15) 41 22 (.slice none 0 0) 24 rfl Try.underlying41 info_bs9 rfl (by decide) (by omega) _ vs [⟨.slice (some ⟨wr.heap.size, 0, none⟩) s.size cap, rfl⟩] _ _ _ (fun _ => True) (fun _ => False) rfl rfl hR6 (row_val _ hk7) ?_ (fun _ h => h.elim) (fun _ _ => trivial) hB6 hB6.size (by rw [hvl]; omega) ?_
   ·rintro _ _ ⟨rfl, rfl⟩; rfl
   intro v7 w8 hO8 hB8 hg8 _
   have hE8 : ∀ (k : Nat) (x : {v : Value // v.oneCell' = true}) s', (vs ++ [⟨.slice (some ⟨wr.heap.size, 0, none⟩) s.size cap, rfl⟩])[k]? = some x → l[k]? = some s' → RdB w.heap.size w8 x.1 s' := by
    intro k x s' hx hs'
    rcases Nat.lt_or_ge k vs.length with hk | hk
    ·rw [List.getElem?_append_left hk] at hx
     exact (hE6 k x s' hx hs').grown hg8 hty
    ·rw [List.getElem?_append_right hk] at hx
     have hk0 : k = vs.length := by
      rcases Nat.eq_zero_or_pos (k - vs.length) with h | h
      ·omega
      ·rw [List.getElem?_eq_none (by simp; omega)] at hx; cases hx
     subst hk0
     rw [Nat.sub_self] at hx
     obtain rfl : _ = x := Option.some.inj hx
     have h9 := HS.out
     rw [hvl, List.getElem?_eq_getElem hlt, h9] at hs'
     obtain rfl := Option.some.inj hs'
     exact hn.grown hg8 hty
   have HO8 := Lib.hid hO8
   have HB8 := Lib.hid hB8
   have HE8 := Lib.hid hE8
   clear hO8 hB8 hg8 hE8 hty hE6 hR6 hn hB6 hb6 hk6 hk7 kb
   go_wp2_with fail
   go_roundw
   case rel => exact ⟨i + 1, _, by omega, by go_num, HO8, by rw [List.length_append, hvl]; rfl, HE8, HB8⟩
   case measure => simp [intOf]; omega
  ·obtain rfl : i = l.length := by omega
   go_wp2_with fail
   go_ret
   exact ⟨_, vs, rfl, HR.out, hvl, HE.out, HB.out⟩
end Go.Proofs.Ytfflenbfapgilaa
