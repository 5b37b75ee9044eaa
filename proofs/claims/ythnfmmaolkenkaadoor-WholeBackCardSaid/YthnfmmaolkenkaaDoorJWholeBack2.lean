/- Joined by wip/tools/shake.py for the claim of WholeBack: HPack. -/
import Derived.Test.YthnfmmaolkenkaaDoorJWholeBack1
/- Short names for what the packed print says often (wip/tools/pack.py). -/
namespace Go.Proofs.YthnfmmaolkenkaaDoor.H
open Go.RowKit Go.Proofs.YthnfmmaolkenkaaDoorW.PrintWords Go.Proofs.YthnfmmaolkenkaaDoorW.PrintLast Go.Proofs.YthnfmmaolkenkaaDoorW.PrintMore
theorem bxLe {w W : World} {g : Nat} (h : Below w.heap.size w W) (hg : g = W.heap.size) : w.heap.size ≤ g := by rw [hg]; exact h.size
theorem neL {W : World} {g g2 : Nat} {o : Obj} (h : W.heap[g]? = some o) (hg : g2 = W.heap.size) : g ≠ g2 := by rw [hg]; exact Nat.ne_of_lt (blk_lt h)
theorem neR {W : World} {g g2 : Nat} {o : Obj} (h : W.heap[g]? = some o) (hg : g2 = W.heap.size) : g2 ≠ g := by rw [hg]; exact Nat.ne_of_gt (blk_lt h)
theorem bc0 {w : World} {g t : Nat} {a : Value} {l : List Value} (h : w.heap[g]? = some (.cells (List.toArray (a :: l)) t (0, 0))) : w.cell? ⟨g, 0, none⟩ = some a := (blk_cell h 0).trans (by simp)
theorem bc1 {w : World} {g t : Nat} {a b : Value} {l : List Value} (h : w.heap[g]? = some (.cells (List.toArray (a :: b :: l)) t (0, 0))) : w.cell? ⟨g, 1, none⟩ = some b := (blk_cell h 1).trans (by simp)
section
variable {P : Program} {ops : Array Oper} {Q : Exit → Act → World → Prop}
/-- A call in a plain region (goesL_), its operands as a list. -/
theorem goL {rest : List Oper} {oi : Oper} {a : Act} {w : World} (N : Option Tmp) {f : FuncId} {fn : Func} {as : List Operand} {ts : Array TypeId} (hf : P.funcs[f]? = some fn) (vs : List Value)
    (h : Calls P f (List.toArray vs) w fun e w' => ∃ v, e = .returned v ∧ wpList P ops Q rest (a.put N v) w') (hd : oi.dst = N := by rfl) (hg : oi.guard = none := by rfl)
    (hop : oi.op = .call { callee := .value (.func f), args := List.toArray as, argTypes := ts } := by rfl) (hargs : as.map a.eval = vs := by first | rfl | (simp only [List.map_cons, List.map_nil, List.length_drop, List.length_take]; rfl))
    (hname : (fn.name == "runtime.NumGoroutine") = false := by kernel_rfl) (hb : fn.body.isSome = true := by rfl) : wpList P ops Q (oi :: rest) a w :=
  goesL_ N hd hg hf hname hb (List.toArray vs) hop (by rw [List.map_toArray, hargs]) h
/-- A call in a region that draws its order (goes_). -/
theorem goR {oi : Oper} {N : Option Tmp} {a : Act} {w : World} {K : Act → World → Prop} {f : FuncId} {fn : Func} {as : List Operand} {ts : Array TypeId} (hf : P.funcs[f]? = some fn) (vs : List Value)
    (h : Calls P f (List.toArray vs) w fun e w' => ∃ v, e = .returned v ∧ K (a.put N v) w') (hw : Region.wanted oi (yielded ops a.tmps) = true := by rfl) (hN : oi.dst = N := by rfl)
    (hop : oi.op = .call { callee := .value (.func f), args := List.toArray as, argTypes := ts } := by rfl) (hargs : as.map a.eval = vs := by first | rfl | (simp only [List.map_cons, List.map_nil, List.length_drop, List.length_take]; rfl))
    (hname : (fn.name == "runtime.NumGoroutine") = false := by kernel_rfl) (hb : fn.body.isSome = true := by rfl) : if Region.wanted oi (yielded ops a.tmps) = true then Oper.wp P oi a w K Q else K (a.put N undef) w :=
  goes_ hf hname hb (List.toArray vs) hw hN hop (by rw [List.map_toArray, hargs]) h
end
theorem bxSet {w W : World} {g j : Nat} {v : Value} (h : Below w.heap.size w W) (hg : Aside0 (w.heap.size ≤ g)) : Below w.heap.size w (W.setCell ⟨g, j, none⟩ v) := below_set h hg.out
end Go.Proofs.YthnfmmaolkenkaaDoor.H
