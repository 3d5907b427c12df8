/- The law MigrateAll: records moved from any version to any other one are the document's. -/
import Derived.Test.YthpbkhagjgggjaaAllR
set_option linter.unusedVariables false
set_option linter.unusedSimpArgs false
namespace Go.Proofs.Ythpbkhagjgggjaa.WMigrateAll
open Go.RowKit Go.Proofs.YthpbkhagjgggjaaW.PrintWords Go.Proofs.Ythpbkhagjgggjaa.GRR

theorem allL_few (u v : Int) : ∀ (l acc : List S70), (∀ x ∈ l, x.f3.length ≤ 1000) → (∀ x ∈ acc, x.f3.length ≤ 1000) → (∀ x ∈ (allL u v l acc).1, x.f3.length ≤ 1000) ∧ (allL u v l acc).1.length ≤ acc.length + l.length := by
  intro l
  induction l with
  | nil => intro acc _ h; exact ⟨h, by simp [allL]⟩
  | cons x xs ih =>
    intro acc hl ha
    rw [allL]
    split
    · have h0 : (recOf (mvR u v x).1).f3.length ≤ 1000 := by
        have hx := hl x (List.mem_cons_self)
        unfold recOf mvR toF
        dsimp only
        split
        · split
          · exact hx
          · simp [zero8]
        · simp [zero8]
      have := ih (acc ++ [recOf (mvR u v x).1]) (fun y hy => hl y (List.mem_cons_of_mem _ hy)) (fun y hy => by
        rcases List.mem_append.1 hy with hy | hy
        · exact ha y hy
        · simp at hy; subst hy; exact h0)
      refine ⟨this.1, ?_⟩
      have h2 := this.2
      simp only [List.length_append, List.length_cons, List.length_nil] at h2 ⊢
      omega
    · exact ⟨by simp, by simp⟩
theorem allF_few (u v : Int) (l : List S70) (h : ∀ x ∈ l, x.f3.length ≤ 1000) : (∀ x ∈ (allF u v l).1, x.f3.length ≤ 1000) ∧ (allF u v l).1.length ≤ l.length := by
  unfold allF
  split
  · have := allL_few u v l [] h (by simp)
    exact ⟨this.1, by simpa using this.2⟩
  · exact ⟨by simp, by simp⟩
set_option maxHeartbeats 4000000 in
set_option maxRecDepth 100000 in
theorem walk (u v : Int) (v2 : Value) (p2 : Option Addr × Nat × List S70) (w : World) (w0 : (Lit.int .i64 u).wf = true) (w1 : (Lit.int .i64 v).wf = true) (w2 : IsRows k70 okRecS w v2 p2) :
    Calls Try.prog 14 #[.int .i64 u, .int .i64 v, v2] w fun e w' => e = .returned (.bool true) ∧ Below w.heap.size w w' := by
  obtain ⟨A, c, l⟩ := p2
  obtain ⟨rfl, hc, hC, hm, ho⟩ := w2
  have hlm : l.length ≤ 9223372036854775807 := hC.2.1
  obtain ⟨k, g, hg, hgf⟩ := great10_is l (fun x hx => by have := (ho x hx).2.2.2.1.1; simp only [maxLen] at this; omega) hlm
  have HG := Lib.hid (tephralaw10_Great.calls k A c l g w hC hc hg)
  clear hg ho
  cases g with
  | true =>
    clear hgf hC
    go_enter Try.func14, Try.ntmps14
    go_wp2_with fail
    refine HG.out.mono ?_
    rintro e w1 ⟨rfl, hb⟩
    go_wp2_with fail
    refine (fixed11_any _).mono ?_
    rintro e w9 ⟨rfl, hb9⟩
    go_wp2_with fail
    go_ret
    exact ⟨rfl, hb.trans (hb9.mono hb.size)⟩
  | false =>
    obtain ⟨hl30, hfew⟩ := hgf rfl
    have hok : ∀ x ∈ l, RecOk x.f1 x.f3 x.f6 := fun x hx => (hfew x hx).ok
    have hfw := allF_few u v l (fun x hx => by have := (hfew x hx).n; omega)
    have hall := all8_is (allF u v l).1 hfw.1 (by have := hfw.2; omega)
    have HM := Lib.hid (fun (W : World) (h : Below w.heap.size w W) => mall_any u v A c l W (Kd.C_below hC h) hc (by omega) hok)
    have HR := Lib.hid (fun (W : World) (h : Below w.heap.size w W) => rall_any u v A c l W (Kd.C_below hC h) hc (by omega) hok)
    have HA := Lib.hid (fun (W : World) (A1 A2 : Option Addr) (c1 c2 : Nat) (h1 : Kd.C k70 W A1 (allF u v l).1.length (allF u v l).1) (g1 : (allF u v l).1.length ≤ c1) (h2 : Kd.C k70 W A2 (allF u v l).1.length (allF u v l).1) (g2 : (allF u v l).1.length ≤ c2) => tephraref08_All.calls _ A1 c1 _ A2 c2 _ true W h1 g1 h2 g2 hall)
    clear hgf hfew hok hfw hall hC w0 w1
    generalize allF u v l = F at *
    obtain ⟨rs, ef⟩ := F
    dsimp only at HM HR HA
    go_enter Try.func14, Try.ntmps14
    go_wp2_with fail
    refine HG.out.mono ?_
    rintro e w1 ⟨rfl, hb⟩
    have HB1 := Lib.hid hb
    clear hb
    go_wp2_with fail
    refine (HM.out w1 HB1.out).mono ?_
    rintro e w2 ⟨v3, rfl, hR1, hb⟩
    obtain ⟨A1, c1, rfl, hl1, hC1⟩ := Kd.R_reads hR1
    have HC1 := Lib.hid hC1
    have HB2 := Lib.hid (HB1.out.trans (hb.mono HB1.out.size))
    clear hR1 hC1 hb
    go_wp2_with fail
    refine (HR.out w2 HB2.out).mono ?_
    rintro e w3 ⟨v4, rfl, hR2, hb⟩
    obtain ⟨A2, c2, rfl, hl2, hC2⟩ := Kd.R_reads hR2
    have hC3 : Kd.C k70 w3 A2 rs.length rs := hC2.imp_ (Below.refl _ _) (fun x cs hp => k70.K_below hb hp)
    have HC2 := Lib.hid hC3
    have HC3 := Lib.hid (Kd.C_below HC1.out hb)
    have HB3 := Lib.hid (HB2.out.trans (hb.mono HB2.out.size))
    clear hR2 hC2 hC3 hb
    go_wp2_with fail
    refine (fixed11_any _).mono ?_
    rintro e w4 ⟨rfl, hb⟩
    have HC4 := Lib.hid (Kd.C_below HC2.out hb)
    have HC5 := Lib.hid (Kd.C_below HC3.out hb)
    have HB4 := Lib.hid (HB3.out.trans (hb.mono HB3.out.size))
    clear hb
    go_wp2_with fail
    refine (HA.out w4 A1 A2 c1 c2 HC5.out hl1 HC4.out hl2).mono ?_
    rintro e w5 ⟨rfl, hb⟩
    have HB5 := Lib.hid (HB4.out.trans (hb.mono HB4.out.size))
    clear hb
    go_wp2_with fail
    go_ret
    exact ⟨rfl, HB5.out⟩
end Go.Proofs.Ythpbkhagjgggjaa.WMigrateAll
