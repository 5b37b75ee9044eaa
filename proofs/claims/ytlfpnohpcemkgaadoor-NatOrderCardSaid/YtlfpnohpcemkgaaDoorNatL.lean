import Derived.Test.YtlfpnohpcemkgaaDoorNatY
import Derived.Test.YtlfpnohpcemkgaaDoorPAx7
import Derived.Test.YtlfpnohpcemkgaaDoorPAx7
import Derived.OpenShut
import Derived.KernelRfl
/- What the laws of nat have in common. -/
namespace Go.Proofs.YtlfpnohpcemkgaaDoor.S
set_option linter.unusedVariables false
set_option linter.unusedSimpArgs false
open Go.RowKit Go.Proofs.YtlfpnohpcemkgaaDoor.V Go.Proofs.YtlfpnohpcemkgaaDoor.PA Go.Proofs.YtlfpnohpcemkgaaDoor.H Go.Proofs.YtlfpnohpcemkgaaDoorW.PrintWords Go.Proofs.YtlfpnohpcemkgaaDoorW.PrintLast Go.Proofs.YtlfpnohpcemkgaaDoorW.PrintMore

theorem evC {α β : Type} {o : Option α} {f : Nat → α → Option β} {a : α} {r : β} (h : o = some a) (k : Ev (fun n => f n a) r) : Ev (fun n => o.bind (f n)) r := by
  subst h; exact k
theorem evP {α : Type} {c : Prop} [Decidable c] {f g : Nat → Option α} {r : α} (h : c) (k : Ev f r) : Ev (fun n => if c then f n else g n) r := by
  simp only [if_pos h]; exact k
theorem evN {α : Type} {c : Prop} [Decidable c] {f g : Nat → Option α} {r : α} (h : ¬ c) (k : Ev g r) : Ev (fun n => if c then f n else g n) r := by
  simp only [if_neg h]; exact k
theorem evR {α : Type} {a r : α} (h : a = r) : Ev (fun _ => some a) r := by subst h; exact Ev.now _
theorem lim_wf {l : List Int} (h : ∀ x ∈ l, (Lit.int .u32 x).wf = true) : Lim l := fun x hx => by have := bounds_u32 (h x hx); omega
theorem len_add {x y : Int} (hx : 0 ≤ x) (hy : 0 ≤ y) : (dig (x + y)).length ≤ max (dig x).length (dig y).length + 1 := by
  have h1 := lt_of_dig_length hx (Nat.le_max_left (dig x).length (dig y).length)
  have h2 := lt_of_dig_length hy (Nat.le_max_right (dig x).length (dig y).length)
  exact dig_length_le (by omega) (by rw [pw_succ]; omega)
theorem len_mul {x y : Int} (hx : 0 ≤ x) (hy : 0 ≤ y) : (dig (x * y)).length ≤ (dig x).length + (dig y).length := by
  have h1 := lt_of_dig_length hx (Nat.le_refl _)
  have h2 := lt_of_dig_length hy (Nat.le_refl _)
  refine dig_length_le (Int.mul_nonneg hx hy) ?_
  rw [pw_add]
  have a1 : x * y ≤ x * pw (dig y).length := Int.mul_le_mul_of_nonneg_left (by omega) hx
  have a2 : x * pw (dig y).length < pw (dig x).length * pw (dig y).length := Int.mul_lt_mul_of_pos_right h1 (pw_pos _)
  omega
theorem len_le {x y : Int} (hx : 0 ≤ x) (h : x ≤ y) : (dig x).length ≤ (dig y).length := by
  have h1 := lt_of_dig_length (n := y) (by omega) (Nat.le_refl _)
  exact dig_length_le hx (by omega)
theorem digs {l : List Int} (h : Lim l) (hl : ∀ hne : l ≠ [], l.getLast hne ≠ 0) {v : Int} (hv : val l = v) : dig v = l := by rw [← hv]; exact dig_val_of_last h hl
theorem dig_one {x : Int} (h0 : 0 < x) (h1 : x < 4294967296) : dig x = [x] := digs (lim_one (by omega) h1) (by intro _; simp; omega) (val_one x)
theorem lim01 : Lim [0, 1] := Lim.cons (by omega) (by omega) (lim_one (by omega) (by omega))
theorem dig01 : dig 4294967296 = [0, 1] := digs lim01 (by intro _; simp) (by simp [val])
theorem awake_ev : Ev (fun k => gudgeonlaw01_awake.f k) true := Ev.of gudgeonlaw01_awake.mono (k := 40) (by kernel_rfl)
theorem few_ev (a b : List Int) (n : Nat) : gudgeonlaw01_few.f a b (n : Int) = some (decide (a.length ≤ n) && decide (b.length ≤ n)) := by
  unfold gudgeonlaw01_few.f
  by_cases h : a.length ≤ n
  · rw [if_pos (by omega), decide_eq_true h, Bool.true_and]
    congr 1
    rw [Bool.eq_iff_iff]
    simp
  · rw [if_neg (by omega), decide_eq_false h, Bool.false_and]
theorem few_no {a b : List Int} {n : Nat} (h : ¬ (a.length ≤ n ∧ b.length ≤ n)) : (decide (a.length ≤ n) && decide (b.length ≤ n)) = false := by
  rw [Bool.and_eq_false_iff]
  simp only [decide_eq_false_iff_not]
  omega
end Go.Proofs.YtlfpnohpcemkgaaDoor.S
