/- A region of open order whose operations only read, reckon, or make new memory; some of its edges do not bind. A call of a function value. -/
import Derived.Test.YtfflenbfapgilaaFlow
import Derived.Test.YtfflenbfapgilaaLit
set_option linter.unusedVariables false
set_option linter.unusedSimpArgs false
namespace Go.Proofs.Ytfflenbfapgilaa
open Go.RowKit Go.Proofs.YtfflenbfapgilaaW.PrintWords

def waitsA (o : Oper) (j : Nat) : Bool := o.after.toList.any fun e => Region.binds .any e && e.on == j
def StepOkA (P : Program) (ops : Array Oper) (Q : Exit → Act → World → Prop) (V : Nat → Value → World → Prop) (a0 : Act) (w0 : World) (i : Nat) : Prop :=
  ∀ oi a W, ops[i]? = some oi → Same ops a0 a → Below w0.heap.size w0 W → (∀ j, waitsA oi j = true → Has ops V a W j) →
    if Region.wanted oi (yielded ops a.tmps) = true then oi.wp P a W (fun a' W' => ∃ v, a' = a.put oi.dst v ∧ (oi.dst ≠ none → V i v W') ∧ Below W.heap.size W W') Q else (oi.dst ≠ none → V i undef W)
theorem waits_is {ops : Array Oper} {i j : Nat} {o : Oper} (h : ops[i]? = some o) : waits ops i j = waitsA o j := by unfold waits waitsA; rw [h]
theorem grownBy_none {w w' : World} (h : Below w.heap.size w w') : w.grownBy w' none := ⟨h.os, h.tape, h.output, h.size, fun k hk _ => h.block k hk⟩
theorem below_none {w w' : World} (h : w.grownBy w' none) : Below w.heap.size w w' := ⟨h.os, h.tape, h.output, h.size, fun k hk => h.block k hk (by simp)⟩
theorem calmA_any {P : Program} {n : Nat} {ops : Array Oper} {Q : Exit → Act → World → Prop} {a0 : Act} {w w1 : World} (V : Nat → Value → World → Prop)
    (hn : ops.size = n) (hV : Lasts V) (hd : dstsOk ops a0.tmps.size = true) (hback : backA ops = true) (hw : Below w.heap.size w w1)
    (hs : ∀ i, i < n → StepOkA P ops Q V a0 w i)
    (he : ∀ a W, Same ops a0 a → Below w.heap.size w W → (∀ j, j < n → Has ops V a W j) → Q .normal a W) :
    wpAny P .any ops Q n (Array.replicate n false) a0 w1 := by
  refine flow_any (base := w.heap.size) (w0 := w) V (fun _ _ => True) (fun _ _ => True) (fun _ => none) hn hd hback (fun i j _ _ _ _ v W W' _ hg hv => hV j v W W' hv (below_none hg)) (fun _ _ _ _ _ _ _ _ _ _ _ => trivial) (fun _ _ _ _ _ _ _ _ _ _ _ => trivial) hw (fun _ _ => trivial) ?_ (fun a W hS hB hh => he a W hS hB (fun j hj => (hh j hj).1))
  intro i hi oi a W hoi hS hB hdp _
  have h := hs i hi oi a W hoi hS hB (fun j hj => (hdp j (by rw [waits_is hoi]; exact hj)).1)
  split
  · rename_i hw
    rw [if_pos hw] at h
    exact Oper.wp_mono (fun a' W' ⟨v, h1, h2, h3⟩ => ⟨v, h1, h2, trivial, grownBy_none h3, hB.trans (h3.mono hB.size)⟩) h
  · rename_i hw
    rw [if_neg hw] at h
    exact ⟨h, trivial⟩
theorem region_calmA {P : Program} {id n : Nat} {ops : Array Oper} {Q : Exit → Act → World → Prop} {a0 : Act} {w : World} (V : Nat → Value → World → Prop)
    (hm : P.follows .mixedOrders = true) (hn : ops.size = n) (hV : Lasts V) (hd : dstsOk ops a0.tmps.size = true) (hback : backA ops = true)
    (hs : ∀ i, i < n → StepOkA P ops Q V a0 w i)
    (he : ∀ a W, Same ops a0 a → Below w.heap.size w W → (∀ j, j < n → Has ops V a W j) → Q .normal a W) :
    (Code.region id ops true).wp P Q a0 w := by
  refine wp_region_any hm ?_
  have := calmA_any (P := P) (Q := Q) (w := w) (w1 := { w with drawn := w.drawn + 1 }) V hn hV hd hback ⟨rfl, rfl, rfl, Nat.le_refl _, fun _ _ => rfl⟩ hs he
  rw [hn]; exact this
section
variable {P : Program} {ops : Array Oper} {Q : Exit → Act → World → Prop} {V : Nat → Value → World → Prop} {a0 : Act} {w0 : World} {i : Nat}
theorem StepOkA.run {o : Oper} (ho : ops[i]? = some o) (hg : o.guard = none)
    (h : ∀ a W, Same ops a0 a → Below w0.heap.size w0 W → (∀ j, waitsA o j = true → Has ops V a W j) → o.wp P a W (fun a' W' => ∃ v, a' = a.put o.dst v ∧ V i v W' ∧ Below W.heap.size W W') Q) : StepOkA P ops Q V a0 w0 i := by
  intro oi a W hoi hS hB hd
  obtain rfl : o = oi := by rw [ho] at hoi; exact Option.some.inj hoi
  rw [if_pos (wanted_none hg)]
  exact Oper.wp_mono (fun a' W' ⟨v, h1, h2, h3⟩ => ⟨v, h1, fun _ => h2, h3⟩) (h a W hS hB hd)
theorem StepOkA.on {o og : Oper} {g : Nat} {t : Tmp} {u : Bool} (ho : ops[i]? = some o) (hg : o.guard = some (g, u)) (hog : ops[g]? = some og) (hdt : og.dst = some t) (hw : waitsA o g = true) (hV : V g = isV (.bool u))
    (h : ∀ a W, Same ops a0 a → Below w0.heap.size w0 W → (∀ j, waitsA o j = true → Has ops V a W j) → o.wp P a W (fun a' W' => ∃ v, a' = a.put o.dst v ∧ V i v W' ∧ Below W.heap.size W W') Q) : StepOkA P ops Q V a0 w0 i := by
  intro oi a W hoi hS hB hd
  obtain rfl : o = oi := by rw [ho] at hoi; exact Option.some.inj hoi
  have hv := (hd g hw).bool hog hdt hV
  rw [if_pos (by rw [wanted_get hg hog hdt hv]; simp)]
  exact Oper.wp_mono (fun a' W' ⟨v, h1, h2, h3⟩ => ⟨v, h1, fun _ => h2, h3⟩) (h a W hS hB hd)
theorem StepOkA.off {o og : Oper} {g : Nat} {t : Tmp} {u : Bool} (ho : ops[i]? = some o) (hg : o.guard = some (g, u)) (hog : ops[g]? = some og) (hdt : og.dst = some t) (hw : waitsA o g = true) (hV : V g = isV (.bool (!u))) (hVi : V i = isV undef) : StepOkA P ops Q V a0 w0 i := by
  intro oi a W hoi hS hB hd
  obtain rfl : o = oi := by rw [ho] at hoi; exact Option.some.inj hoi
  have hv := (hd g hw).bool hog hdt hV
  rw [if_neg (by rw [wanted_get hg hog hdt hv]; cases u <;> decide)]
  intro _
  rw [hVi]; rfl
/-- A call of a function value, by the function's contract. -/
theorem wp_called_fn {o : Oper} {a : Act} {W : World} {f : FuncId} {fn : Func} {x : Operand} {xs : Array Operand} {ts : Array TypeId} {pre post : Array Value} (hf : P.funcs[f]? = some fn) (hname : (fn.name == "runtime.NumGoroutine") = false) (hb : fn.body.isSome = true) (args : Array Value)
    (hop : o.op = .call { callee := .value x, args := xs, argTypes := ts }) (hx : a.eval x = .func (.func f) pre post) (hargs : pre ++ xs.map a.eval ++ post = args)
    (h : Calls P f args W fun e w' => ∃ v, e = .returned v ∧ V i v w' ∧ Below W.heap.size W w') : o.wp P a W (fun a' W' => ∃ v, a' = a.put o.dst v ∧ V i v W' ∧ Below W.heap.size W W') Q := by
  have h1 : fn.name ≠ "runtime.NumGoroutine" := by simpa using hname
  obtain ⟨c, hc⟩ := Option.isSome_iff_exists.1 hb
  have he : (callFunc f args).run P W = .ok (.enter f args) W := by simp [callFunc, hf, h1, hc]
  have hrun : (execOp a.eval o).run P W = .ok (.enter f args) W := by
    unfold execOp
    simp [hop, resolve, hx, Deferred.ofValue, invoke, hargs, he]
  unfold Oper.wp
  rw [hrun, Oper.upon_enter]
  refine h.mono fun e w'' hh => ?_
  obtain ⟨v, rfl, hk⟩ := hh
  exact ⟨v, rfl, hk⟩
end
end Go.Proofs.Ytfflenbfapgilaa
