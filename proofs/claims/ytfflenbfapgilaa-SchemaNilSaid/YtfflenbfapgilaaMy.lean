/- Words of this session's walks: a mark at which the walk stands; blocks that read as rows. -/
import Derived.Test.YtfflenbfapgilaaProg
import Derived.Test.YtfflenbfapgilaaWMore
import Derived.Test.YtfflenbfapgilaaWShare
import Derived.WalkKit
import Derived.WalkSpells
import Derived.WalkLawsBesides
import Derived.Lib.Hide
import Derived.Lib.SlBytesConst
import Derived.Laws.BitsAllLaws
set_option linter.unusedVariables false
namespace Go.Proofs.Ytfflenbfapgilaa
open Go.RowKit Go.Proofs.YtfflenbfapgilaaW.PrintWords

/-- A mark: the walk does not go beyond it. -/
def Halt (p : Prop) : Prop := p
theorem Halt.mk {p : Prop} (h : Halt p) : p := h
theorem Halt.of {p : Prop} (h : p) : Halt p := h

def isByte (x : Int) : Bool := decide (0 ≤ x ∧ x < 256)
def nats (l : List Int) : List Nat := l.map Int.toNat
theorem w64 (x : Int) (h1 : -9223372036854775808 ≤ x) (h2 : x ≤ 9223372036854775807) : wrap64 x = x := by unfold wrap64; omega

/-- A block that holds just these numbers reads as them. -/
theorem C_block (k : IntKind) (W : World) (b : Nat) (e : TypeId) (fr : Nat × Nat) (xs : List Int) (h : W.heap[b]? = some (.cells (xs.map (Value.int k)).toArray e fr)) (hx : xs.length ≤ 9223372036854775807) :
    Kd.C (Kd.int k) W (some ⟨b, 0, none⟩) xs.length xs := by
  refine ⟨rfl, hx, fun _ => ⟨_, rfl, fun j p hj => ⟨[.int k p], rfl, rfl, fun i u hu => ?_⟩⟩⟩
  match i with
  | 0 =>
    have e0 : (⟨b, 0, none⟩ : Addr).add (j * (Kd.int k).sz + 0) = ⟨b, j, none⟩ := by simp [Addr.add, Kd.int, Kd.scalar]; omega
    rw [e0]
    simp only [World.cell?, h, Option.isSome_none, Bool.false_eq_true, if_false]
    simp only [List.getElem?_toArray, List.getElem?_map, hj, Option.map_some]
    simpa using hu
  | i + 1 => simp at hu
theorem reps_nums (k : IntKind) (W : World) (base : Nat) (okp : Nat → Prop) (xs : List Int) : Reps ((Kd.int k).M W base okp) 1 xs (xs.map (Value.int k)) := by
  refine ⟨by simp, fun j p hj => ?_⟩
  show _ = [Value.int k p]
  rw [Nat.mul_one]
  have hj' := (List.getElem?_eq_some_iff.1 hj)
  obtain ⟨h1, h2⟩ := hj'
  apply List.ext_getElem?
  intro i
  rw [List.getElem?_take, List.getElem?_drop, List.getElem?_map]
  match i with
  | 0 => simp [hj]
  | i + 1 => simp
/-- A block of the call's own that holds just these numbers is an own row. -/
theorem R_block (k : IntKind) (W : World) (base b : Nat) (e : TypeId) (xs : List Int) (ok : Nat → Prop) (h : W.heap[b]? = some (.cells (xs.map (Value.int k)).toArray e (0, 0))) (hb : base ≤ b) (hx : xs.length ≤ maxLen) (hok : ok b) :
    Kd.R (Kd.int k) e W base ok (.slice (some ⟨b, 0, none⟩) xs.length xs.length) xs := by
  refine ⟨fun k hk => ?_, xs.map (Value.int k), ⟨by simp [Kd.int, Kd.scalar], .inr ⟨b, xs.length, _, rfl, hb, h, Nat.le_refl _, hx, by simp [Kd.int, Kd.scalar], ?_⟩⟩, reps_nums ..⟩
  · simp only [Value.ownBlock, Option.some.injEq] at hk; exact hk ▸ hok
  · show List.take (xs.length * 1) _ = _
    rw [Nat.mul_one]; exact List.take_of_length_le (by simp)
theorem C_append {α : Type} {d : Kd α} {w : World} {A : Option Addr} {n : Nat} {xs : List α} (h : d.C w A n xs) : xs.length = n := h.1
theorem heap_new (w : World) (o : Obj) : (w.alloc o).heap[w.heap.size]? = some o := by
  show (w.heap.push o)[w.heap.size]? = _
  simp
theorem heap_new_old (w : World) (o : Obj) (k : Nat) (h : k < w.heap.size) : (w.alloc o).heap[k]? = w.heap[k]? := Below.heap_alloc w o k h
theorem heap_size_alloc (w : World) (o : Obj) : (w.alloc o).heap.size = w.heap.size + 1 := by
  show (w.heap.push o).size = _
  simp
/-- An own row of numbers that is not empty, laid open. -/
theorem R_open {k : IntKind} {e base : Nat} {ok : Nat → Prop} {W : World} {v : Value} {xs : List Int} (h : Kd.R (Kd.int k) e W base ok v xs) (hn : 0 < xs.length) :
    ∃ g c cur, v = .slice (some ⟨g, 0, none⟩) xs.length c ∧ base ≤ g ∧ W.heap[g]? = some (.cells cur e (0, 0)) ∧ xs.length ≤ c ∧ g < W.heap.size := by
  obtain ⟨inner, ho⟩ := Kd.R_own h
  rcases ho.2 with ⟨_, h0⟩ | ⟨g, cap, cur, hv, hb, hh, hle, _, _, _⟩
  · omega
  · refine ⟨g, cap, cur, hv, hb, hh, hle, ?_⟩
    exact (Array.getElem?_eq_some_iff.1 hh).1
theorem unfrozen_of {W : World} {g : Nat} {cur : Array Value} {e : TypeId} (h : W.heap[g]? = some (.cells cur e (0, 0))) (i : Nat) : W.frozen? ⟨g, i, none⟩ = false := by
  simp [World.frozen?, h]
theorem info_u8 : (Try.prog.info? 5).map (fun i => (i.zero, i.size, i.bytes)) = some (some (.int .u8 0), 1, 1) := by kernel_rfl
theorem bytes_of_wf {l : List Int} (h : ∀ x ∈ l, (Lit.int .u8 x).wf = true) : ∀ x ∈ l, 0 ≤ x ∧ x < 256 := by
  intro x hx
  have := h x hx
  simp [Lit.wf, IntKind.min, IntKind.max, IntKind.signed, IntKind.bits] at this; omega
end Go.Proofs.Ytfflenbfapgilaa
