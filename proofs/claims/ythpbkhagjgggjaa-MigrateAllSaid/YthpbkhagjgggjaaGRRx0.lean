-- by a program of this session (gprint.py, over the kit's print): the machine's side of a law
import Derived.Test.YthpbkhagjgggjaaProg
import Derived.Below
import Derived.Deep.Draws
import Derived.Deep.AppendLies
import Derived.Maps.AppendAt
import Derived.OwnWalk
import Derived.Laws.BytesArg
import Derived.Laws.MakeOwn
import Derived.Laws.OwnMore
import Derived.Deep.OwnRows
import Derived.Tactics
import Derived.Lib.ConvBytes
import Derived.Laws.Slices
import Derived.WalkKit
import Derived.KernelRfl
import Derived.RowKit3
import Derived.Deep.LoopGhost
import Derived.Deep.QuietTactic
import Derived.BigQuiet
import Derived.WideLaws
import Derived.Deep.DeepCutAuto
import Derived.Deep.CutBlock
import Derived.Deep.RegionHeld3
import Derived.Laws.Rows
import Derived.Lib.AppendStr
import Derived.ArgAppend
import Derived.Laws.IdiomCopy
import Derived.OrdersHeld
import Derived.Laws.BitsLemmas
import Derived.RowKit
import Derived.Test.YthpbkhagjgggjaaWWords
import Derived.Test.YthpbkhagjgggjaaWLast
import Derived.Test.YthpbkhagjgggjaaWTab
import Derived.Test.YthpbkhagjgggjaaWFour
import Derived.Test.YthpbkhagjgggjaaWQPut
import Derived.Test.YthpbkhagjgggjaaWApart
import Derived.Test.YthpbkhagjgggjaaWArr
import Derived.Test.YthpbkhagjgggjaaWZeros
import Derived.Test.YthpbkhagjgggjaaWFoot
import Derived.Test.YthpbkhagjgggjaaWKept
import Derived.Test.YthpbkhagjgggjaaWShare
import Derived.Test.YthpbkhagjgggjaaWN
import Derived.Test.YthpbkhagjgggjaaWFootNe
import Derived.Test.YthpbkhagjgggjaaWAt
import Derived.Test.YthpbkhagjgggjaaWEqStruct
import Derived.Test.YthpbkhagjgggjaaWRepsOne
import Derived.Test.YthpbkhagjgggjaaWInv
import Derived.Test.YthpbkhagjgggjaaWInvWords
import Derived.Test.YthpbkhagjgggjaaWGuard
import Derived.Test.YthpbkhagjgggjaaWNEv
import Derived.Test.YthpbkhagjgggjaaWMore
namespace Go.Proofs.Ythpbkhagjgggjaa.GRR
open Go.RowKit Go.Proofs.YthpbkhagjgggjaaW.PrintWords Go.Proofs.YthpbkhagjgggjaaW.PrintLast Go.Proofs.YthpbkhagjgggjaaW.PrintMore
attribute [local go_sem] max2_int min2_int max_two min_two max_three min_three max_four min_four   -- for this text's walks alone
set_option linter.unusedVariables false
set_option linter.unusedSimpArgs false



def errW : Option Int → Value
  | none => .nilIface
  | some c => .iface 0 (.int .i64 c)
theorem errW_none : errW none = .nilIface := rfl
theorem errW_some (c : Int) : errW (some c) = .iface 0 (.int .i64 c) := rfl

theorem info9 : (Try.prog.info? 9).map (fun i => (i.zero, i.size, i.bytes)) = some (some (.string ⟨#[]⟩), 1, 16) := by kernel_rfl
theorem info76 : (Try.prog.info? 76).map (fun i => (i.zero, i.size, i.bytes)) = some (some (.agg #[(.string ⟨#[]⟩), (.int .u64 0), (.bool false)]), 3, 32) := by kernel_rfl
-- the values' own types
/-! #### struct type 76 -/
structure S76 where
  f0 : ByteArray
  f1 : Int
  f2 : Bool
def z76 : S76 := ⟨(⟨#[]⟩ : ByteArray), (0 : Int), false⟩
def k76 : Kd S76 := Kd.iso (Kd.pair Kd.string (Kd.pair (Kd.int .u64) Kd.bool)) (fun x : S76 => (x.f0, x.f1, x.f2))
theorem k76_open {w : World} {x : S76} {cs : List Value} (h : k76.K w x cs) : cs = [.string x.f0, .int .u64 x.f1, .bool x.f2] := by
  obtain ⟨_, _, rfl, rfl, ⟨_, _, rfl, rfl, rfl⟩⟩ := h
  exact rfl
theorem k76_openM {w : World} {base : Nat} {ok : Nat → Prop} {x : S76} {cs : List Value} (h : k76.M w base ok x cs) : cs = [.string x.f0, .int .u64 x.f1, .bool x.f2] := by
  obtain ⟨_, _, rfl, rfl, ⟨_, _, rfl, rfl, rfl⟩⟩ := h
  exact rfl
theorem k76_mk (w : World) (x : S76)  : k76.K w x [.string x.f0, .int .u64 x.f1, .bool x.f2] := ⟨[.string x.f0], [.int .u64 x.f1, .bool x.f2], rfl, rfl, ⟨[.int .u64 x.f1], [.bool x.f2], rfl, rfl, rfl⟩⟩
theorem k76_mkM (w : World) (base : Nat) (ok : Nat → Prop) (x : S76)  : k76.M w base ok x [.string x.f0, .int .u64 x.f1, .bool x.f2] := ⟨[.string x.f0], [.int .u64 x.f1, .bool x.f2], rfl, rfl, ⟨[.int .u64 x.f1], [.bool x.f2], rfl, rfl, rfl⟩⟩
theorem k76_mkF (W : World) (ok : Nat → Prop) (x : S76) : Kd.FK k76 W ok x [.string x.f0, .int .u64 x.f1, .bool x.f2] := fun W2 _ => k76_mk W2 x
def rd_T76 (xs : List S76) (i : Int) : S76 := xs.getD i.toNat z76
theorem at_T76 {w : World} {A : Option Addr} {n : Nat} {xs : List S76} (h : Kd.C k76 w A n xs) (i : Int) (h0 : 0 ≤ i) (h1 : i < n) : ∃ ad , A = some ad ∧ w.cell? (ad.add (i.toNat * 3)) = some (.string (rd_T76 xs i).f0) ∧ w.cell? ⟨(ad.add (i.toNat * 3)).block, (ad.add (i.toNat * 3)).off + 1, none⟩ = some (.int .u64 (rd_T76 xs i).f1) ∧ w.cell? ⟨(ad.add (i.toNat * 3)).block, (ad.add (i.toNat * 3)).off + 2, none⟩ = some (.bool (rd_T76 xs i).f2) := by
  obtain ⟨ad, c, e, _, hK, hc0⟩ := Kd.C_get h z76 i h0 h1
  have hc : ∀ j u, c[j]? = some u → w.cell? (ad.add (i.toNat * 3 + j)) = some u := hc0
  obtain rfl := k76_open hK
  exact ⟨ad, e, hc 0 _ rfl, by rw [← add_field _ _ 1 (by omega)]; exact hc 1 _ rfl, by rw [← add_field _ _ 2 (by omega)]; exact hc 2 _ rfl⟩

def rd_L5 (xs : List (List S76)) (i : Int) : (List S76) := xs.getD i.toNat ([] : List S76)
theorem at_L5 {w : World} {A : Option Addr} {n : Nat} {xs : List (List S76)} (h : Kd.C (Kd.slice 76 k76) w A n xs) (i : Int) (h0 : 0 ≤ i) (h1 : i < n) : ∃ ad A0 c0, A = some ad ∧ w.cell? (ad.add i.toNat) = some (.slice A0 (rd_L5 xs i).length c0) ∧ (rd_L5 xs i).length ≤ c0 ∧ k76.C w A0 (rd_L5 xs i).length (rd_L5 xs i) := by
  obtain ⟨ad, c, e, _, hK, hc0⟩ := Kd.C_get h ([] : List S76) i h0 h1
  have hc : ∀ j u, c[j]? = some u → w.cell? (ad.add (i.toNat * 1 + j)) = some u := hc0
  obtain ⟨A0, c0, rfl, l0, g0⟩ := hK
  exact ⟨ad, A0, c0, e, by have hq := hc 0 _ rfl; rwa [Nat.mul_one, Nat.add_zero] at hq, l0, g0⟩

/-! #### struct type 70 -/
structure S70 where
  f0 : Int
  f1 : ByteArray
  f2 : Int
  f3 : (List S76)
  f4 : Int
  f5 : Int
  f6 : ByteArray
def z70 : S70 := ⟨(0 : Int), (⟨#[]⟩ : ByteArray), (0 : Int), ([] : List S76), (0 : Int), (0 : Int), (⟨#[]⟩ : ByteArray)⟩
def k70 : Kd S70 := Kd.iso (Kd.pair (Kd.int .i64) (Kd.pair Kd.string (Kd.pair (Kd.int .u64) (Kd.pair (Kd.slice 76 k76) (Kd.pair (Kd.int .u64) (Kd.pair (Kd.int .u64) Kd.string)))))) (fun x : S70 => (x.f0, x.f1, x.f2, x.f3, x.f4, x.f5, x.f6))
theorem k70_open {w : World} {x : S70} {cs : List Value} (h : k70.K w x cs) : ∃ A3 c3, cs = [.int .i64 x.f0, .string x.f1, .int .u64 x.f2, .slice A3 x.f3.length c3, .int .u64 x.f4, .int .u64 x.f5, .string x.f6] ∧ x.f3.length ≤ c3 ∧ k76.C w A3 x.f3.length x.f3 := by
  obtain ⟨_, _, rfl, rfl, ⟨_, _, rfl, rfl, ⟨_, _, rfl, rfl, ⟨_, _, rfl, ⟨A3, c3, rfl, l3, g3⟩, ⟨_, _, rfl, rfl, ⟨_, _, rfl, rfl, rfl⟩⟩⟩⟩⟩⟩ := h
  exact ⟨A3, c3, rfl, l3, g3⟩
theorem k70_openM {w : World} {base : Nat} {ok : Nat → Prop} {x : S70} {cs : List Value} (h : k70.M w base ok x cs) : ∃ v3, cs = [.int .i64 x.f0, .string x.f1, .int .u64 x.f2, v3, .int .u64 x.f4, .int .u64 x.f5, .string x.f6] ∧ k76.R 76 w base ok v3 x.f3 := by
  obtain ⟨_, _, rfl, rfl, ⟨_, _, rfl, rfl, ⟨_, _, rfl, rfl, ⟨_, _, rfl, ⟨v3, rfl, g3⟩, ⟨_, _, rfl, rfl, ⟨_, _, rfl, rfl, rfl⟩⟩⟩⟩⟩⟩ := h
  exact ⟨v3, rfl, g3⟩
theorem k70_mk (w : World) (x : S70) {A3 : Option Addr} {c3 : Nat} (l3 : x.f3.length ≤ c3) (g3 : k76.C w A3 x.f3.length x.f3) : k70.K w x [.int .i64 x.f0, .string x.f1, .int .u64 x.f2, .slice A3 x.f3.length c3, .int .u64 x.f4, .int .u64 x.f5, .string x.f6] := ⟨[.int .i64 x.f0], [.string x.f1, .int .u64 x.f2, .slice A3 x.f3.length c3, .int .u64 x.f4, .int .u64 x.f5, .string x.f6], rfl, rfl, ⟨[.string x.f1], [.int .u64 x.f2, .slice A3 x.f3.length c3, .int .u64 x.f4, .int .u64 x.f5, .string x.f6], rfl, rfl, ⟨[.int .u64 x.f2], [.slice A3 x.f3.length c3, .int .u64 x.f4, .int .u64 x.f5, .string x.f6], rfl, rfl, ⟨[.slice A3 x.f3.length c3], [.int .u64 x.f4, .int .u64 x.f5, .string x.f6], rfl, ⟨A3, c3, rfl, l3, g3⟩, ⟨[.int .u64 x.f4], [.int .u64 x.f5, .string x.f6], rfl, rfl, ⟨[.int .u64 x.f5], [.string x.f6], rfl, rfl, rfl⟩⟩⟩⟩⟩⟩
theorem k70_mkM (w : World) (base : Nat) (ok : Nat → Prop) (x : S70) {v3 : Value} (g3 : k76.R 76 w base ok v3 x.f3) : k70.M w base ok x [.int .i64 x.f0, .string x.f1, .int .u64 x.f2, v3, .int .u64 x.f4, .int .u64 x.f5, .string x.f6] := ⟨[.int .i64 x.f0], [.string x.f1, .int .u64 x.f2, v3, .int .u64 x.f4, .int .u64 x.f5, .string x.f6], rfl, rfl, ⟨[.string x.f1], [.int .u64 x.f2, v3, .int .u64 x.f4, .int .u64 x.f5, .string x.f6], rfl, rfl, ⟨[.int .u64 x.f2], [v3, .int .u64 x.f4, .int .u64 x.f5, .string x.f6], rfl, rfl, ⟨[v3], [.int .u64 x.f4, .int .u64 x.f5, .string x.f6], rfl, ⟨v3, rfl, g3⟩, ⟨[.int .u64 x.f4], [.int .u64 x.f5, .string x.f6], rfl, rfl, ⟨[.int .u64 x.f5], [.string x.f6], rfl, rfl, rfl⟩⟩⟩⟩⟩⟩
theorem k70_openF {W : World} {ok : Nat → Prop} {x : S70} {cs : List Value} (h : Kd.FK k70 W ok x cs) : ∃ A3 c3, cs = [.int .i64 x.f0, .string x.f1, .int .u64 x.f2, .slice A3 x.f3.length c3, .int .u64 x.f4, .int .u64 x.f5, .string x.f6] ∧ x.f3.length ≤ c3 ∧ Kd.F k76 W ok A3 x.f3.length x.f3 := by
  obtain ⟨A3, c3, rfl, l3, _⟩ := k70_open (Kd.FK_now h)
  exact ⟨A3, c3, rfl, l3, (fun W' hW => by obtain ⟨A3_, c3_, he, l3_, g3_⟩ := k70_open (h W' hW); injection (Option.some.inj (show some (Value.slice A3 x.f3.length c3) = some (Value.slice A3_ x.f3.length c3_) from congrArg (fun l => l[3]?) he)) with ha_ _ _; rw [ha_]; exact g3_)⟩
theorem k70_mkF (W : World) (ok : Nat → Prop) (x : S70) {A3 : Option Addr} {c3 : Nat} (l3 : x.f3.length ≤ c3) (g3 : Kd.F k76 W ok A3 x.f3.length x.f3) : Kd.FK k70 W ok x [.int .i64 x.f0, .string x.f1, .int .u64 x.f2, .slice A3 x.f3.length c3, .int .u64 x.f4, .int .u64 x.f5, .string x.f6] := fun W2 hW => k70_mk W2 x l3 (g3 W2 hW)
def rd_T70 (xs : List S70) (i : Int) : S70 := xs.getD i.toNat z70
theorem at_T70 {w : World} {A : Option Addr} {n : Nat} {xs : List S70} (h : Kd.C k70 w A n xs) (i : Int) (h0 : 0 ≤ i) (h1 : i < n) : ∃ ad A3 c3, A = some ad ∧ w.cell? (ad.add (i.toNat * 7)) = some (.int .i64 (rd_T70 xs i).f0) ∧ w.cell? ⟨(ad.add (i.toNat * 7)).block, (ad.add (i.toNat * 7)).off + 1, none⟩ = some (.string (rd_T70 xs i).f1) ∧ w.cell? ⟨(ad.add (i.toNat * 7)).block, (ad.add (i.toNat * 7)).off + 2, none⟩ = some (.int .u64 (rd_T70 xs i).f2) ∧ w.cell? ⟨(ad.add (i.toNat * 7)).block, (ad.add (i.toNat * 7)).off + 3, none⟩ = some (.slice A3 (rd_T70 xs i).f3.length c3) ∧ w.cell? ⟨(ad.add (i.toNat * 7)).block, (ad.add (i.toNat * 7)).off + 4, none⟩ = some (.int .u64 (rd_T70 xs i).f4) ∧ w.cell? ⟨(ad.add (i.toNat * 7)).block, (ad.add (i.toNat * 7)).off + 5, none⟩ = some (.int .u64 (rd_T70 xs i).f5) ∧ w.cell? ⟨(ad.add (i.toNat * 7)).block, (ad.add (i.toNat * 7)).off + 6, none⟩ = some (.string (rd_T70 xs i).f6) ∧ (rd_T70 xs i).f3.length ≤ c3 ∧ k76.C w A3 (rd_T70 xs i).f3.length (rd_T70 xs i).f3 := by
  obtain ⟨ad, c, e, _, hK, hc0⟩ := Kd.C_get h z70 i h0 h1
  have hc : ∀ j u, c[j]? = some u → w.cell? (ad.add (i.toNat * 7 + j)) = some u := hc0
  obtain ⟨A3, c3, rfl, l3, g3⟩ := k70_open hK
  exact ⟨ad, A3, c3, e, hc 0 _ rfl, by rw [← add_field _ _ 1 (by omega)]; exact hc 1 _ rfl, by rw [← add_field _ _ 2 (by omega)]; exact hc 2 _ rfl, by rw [← add_field _ _ 3 (by omega)]; exact hc 3 _ rfl, by rw [← add_field _ _ 4 (by omega)]; exact hc 4 _ rfl, by rw [← add_field _ _ 5 (by omega)]; exact hc 5 _ rfl, by rw [← add_field _ _ 6 (by omega)]; exact hc 6 _ rfl, l3, g3⟩

end Go.Proofs.Ythpbkhagjgggjaa.GRR
