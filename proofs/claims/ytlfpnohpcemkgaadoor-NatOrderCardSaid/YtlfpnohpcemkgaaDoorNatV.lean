/- Numbers by limbs: what a list of limbs is worth, and its own form. -/
namespace Go.Proofs.YtlfpnohpcemkgaaDoor.V
set_option linter.unusedVariables false
set_option linter.unusedSimpArgs false

def bB : Int := 4294967296
/-- What limbs are worth. -/
def val : List Int → Int
  | [] => 0
  | x :: r => x + 4294967296 * val r
/-- Limbs of 32 bits. -/
def Lim (l : List Int) : Prop := ∀ x ∈ l, 0 ≤ x ∧ x < 4294967296
theorem Lim.nil : Lim [] := fun _ h => by cases h
theorem Lim.cons {x : Int} {l : List Int} (h0 : 0 ≤ x) (h1 : x < 4294967296) (h : Lim l) : Lim (x :: l) := fun y hy => by
  rcases List.mem_cons.1 hy with rfl | hy
  · exact ⟨h0, h1⟩
  · exact h y hy
theorem Lim.head {x : Int} {l : List Int} (h : Lim (x :: l)) : 0 ≤ x ∧ x < 4294967296 := h x List.mem_cons_self
theorem Lim.tail {x : Int} {l : List Int} (h : Lim (x :: l)) : Lim l := fun y hy => h y (List.mem_cons_of_mem _ hy)
theorem Lim.append {a b : List Int} (ha : Lim a) (hb : Lim b) : Lim (a ++ b) := fun y hy => by
  rcases List.mem_append.1 hy with hy | hy
  · exact ha y hy
  · exact hb y hy
theorem Lim.left {a b : List Int} (h : Lim (a ++ b)) : Lim a := fun y hy => h y (List.mem_append_left _ hy)
theorem Lim.right {a b : List Int} (h : Lim (a ++ b)) : Lim b := fun y hy => h y (List.mem_append_right _ hy)
theorem Lim.take {a : List Int} (n : Nat) (h : Lim a) : Lim (a.take n) := fun y hy => h y (List.mem_of_mem_take hy)
theorem Lim.drop {a : List Int} (n : Nat) (h : Lim a) : Lim (a.drop n) := fun y hy => h y (List.mem_of_mem_drop hy)
theorem Lim.get {l : List Int} (h : Lim l) (i : Nat) (hi : i < l.length) : 0 ≤ l[i] ∧ l[i] < 4294967296 := h _ (List.getElem_mem hi)
theorem Lim.set {l : List Int} (h : Lim l) (i : Nat) {x : Int} (h0 : 0 ≤ x) (h1 : x < 4294967296) : Lim (l.set i x) := fun y hy => by
  rcases List.mem_or_eq_of_mem_set hy with hy | rfl
  · exact h y hy
  · exact ⟨h0, h1⟩
theorem Lim.zeros (n : Nat) : Lim (List.replicate n 0) := fun y hy => by
  obtain rfl := List.eq_of_mem_replicate hy
  omega
theorem val_nonneg {l : List Int} (h : Lim l) : 0 ≤ val l := by
  induction l with
  | nil => simp [val]
  | cons x l ih =>
    have := ih h.tail
    have := h.head
    simp only [val]; omega
/-- The weight of the limb at a place. -/
def pw (n : Nat) : Int := 4294967296 ^ n
theorem pw_zero : pw 0 = 1 := rfl
theorem pw_succ (n : Nat) : pw (n + 1) = 4294967296 * pw n := by unfold pw; rw [Int.pow_succ]; omega
theorem pw_pos (n : Nat) : 0 < pw n := by
  induction n with
  | zero => decide
  | succ n ih => rw [pw_succ]; omega
theorem pw_add (m n : Nat) : pw (m + n) = pw m * pw n := by unfold pw; exact Int.pow_add ..
theorem val_lt {l : List Int} (h : Lim l) : val l < pw l.length := by
  induction l with
  | nil => simp [val, pw_zero]
  | cons x l ih =>
    have := ih h.tail
    have := h.head
    simp only [val, List.length_cons, pw_succ]; omega
theorem val_append (a b : List Int) : val (a ++ b) = val a + pw a.length * val b := by
  induction a with
  | nil => simp [val, pw_zero]
  | cons x a ih => simp only [List.cons_append, val, ih, List.length_cons, pw_succ]; grind
theorem val_zeros (n : Nat) : val (List.replicate n 0) = 0 := by
  induction n with
  | zero => rfl
  | succ n ih => simp only [List.replicate_succ, val, ih]; omega
/-- The limbs of a number, without noughts behind. -/
def digN (n : Nat) : List Int := if h : n = 0 then [] else ((n % 4294967296 : Nat) : Int) :: digN (n / 4294967296)
termination_by n
decreasing_by omega
def dig (n : Int) : List Int := digN n.toNat
theorem digN_lim (n : Nat) : Lim (digN n) := by
  induction n using Nat.strongRecOn with
  | _ n ih =>
    rw [digN]
    split
    · exact Lim.nil
    · exact Lim.cons (by omega) (by omega) (ih _ (by omega))
theorem val_digN (n : Nat) : val (digN n) = n := by
  induction n using Nat.strongRecOn with
  | _ n ih =>
    rw [digN]
    split
    · rename_i h; simp [val, h]
    · simp only [val]; rw [ih _ (by omega)]; omega
theorem dig_lim (n : Int) : Lim (dig n) := digN_lim _
theorem val_dig {n : Int} (h : 0 ≤ n) : val (dig n) = n := by unfold dig; rw [val_digN]; omega
theorem dig_zero : dig 0 = [] := by unfold dig; rw [digN]; rfl
theorem dig_eq_nil {n : Int} (h : 0 ≤ n) : dig n = [] ↔ n = 0 := by
  constructor
  · intro e
    have := val_dig h
    rw [e] at this
    exact this.symm
  · rintro rfl; exact dig_zero
theorem dig_cons {x n : Int} (h0 : 0 ≤ x) (h1 : x < 4294967296) (hn : 0 ≤ n) (h : x + 4294967296 * n ≠ 0) : dig (x + 4294967296 * n) = x :: dig n := by
  unfold dig
  rw [digN]
  rw [dif_neg (by omega)]
  have e1 : (((x + 4294967296 * n).toNat % 4294967296 : Nat) : Int) = x := by omega
  have e2 : (x + 4294967296 * n).toNat / 4294967296 = n.toNat := by omega
  rw [e1, e2]
theorem dig_length_le {n : Int} {k : Nat} (h0 : 0 ≤ n) (h : n < pw k) : (dig n).length ≤ k := by
  induction k generalizing n with
  | zero => rw [pw_zero] at h; rw [show n = 0 by omega, dig_zero]; simp
  | succ k ih =>
    rw [pw_succ] at h
    by_cases hn : n = 0
    · rw [hn, dig_zero]; simp
    · have e : n = n % 4294967296 + 4294967296 * (n / 4294967296) := by omega
      rw [e, dig_cons (by omega) (by omega) (by omega) (by omega)]
      have := ih (n := n / 4294967296) (by omega) (by omega)
      simp; omega
theorem lt_of_dig_length {n : Int} {k : Nat} (h0 : 0 ≤ n) (h : (dig n).length ≤ k) : n < pw k := by
  have := val_lt (dig_lim n)
  rw [val_dig h0] at this
  have hp : pw (dig n).length ≤ pw k := by
    obtain ⟨d, hd⟩ := Nat.exists_eq_add_of_le h
    rw [hd, pw_add]
    have := pw_pos (dig n).length
    have := pw_pos d
    calc pw (dig n).length = pw (dig n).length * 1 := by omega
      _ ≤ _ := Int.mul_le_mul_of_nonneg_left (by omega) (by omega)
  omega
/-- Without the noughts behind: as the machine's Norm. -/
theorem dropWhile_zeros (l : List Int) (h : Lim l) : (l.reverse.dropWhile (fun x => x == 0)).reverse = dig (val l) := by
  induction l with
  | nil => simp [val, dig_zero]
  | cons x l ih =>
    have ih := ih h.tail
    have hx := h.head
    have hv := val_nonneg h.tail
    simp only [val, List.reverse_cons]
    rw [List.dropWhile_append]
    by_cases hz : val l = 0
    · rw [hz, dig_zero] at ih
      have e : (List.dropWhile (fun x => x == 0) l.reverse) = [] := by simpa using ih
      rw [e, hz]
      by_cases h0 : x = 0
      · subst h0; simp [dig_zero]
      · have : dig (x + 4294967296 * 0) = x :: dig 0 := dig_cons (by omega) (by omega) (by omega) (by omega)
        rw [this, dig_zero]
        simp [h0]
    · have hne : dig (val l) ≠ [] := by rw [Ne, dig_eq_nil hv]; exact hz
      rw [dig_cons (by omega) (by omega) hv (by omega), ← ih]
      have e : (List.dropWhile (fun x => x == 0) l.reverse).isEmpty = false := by
        rw [← ih] at hne
        cases hd : List.dropWhile (fun x => x == 0) l.reverse with
        | nil => rw [hd] at hne; simp at hne
        | cons _ _ => rfl
      rw [e]; simp
theorem dig_val_of_last {l : List Int} (h : Lim l) (hl : ∀ hne : l ≠ [], l.getLast hne ≠ 0) : dig (val l) = l := by
  rw [← dropWhile_zeros l h]
  cases hr : l.reverse with
  | nil => simp [List.reverse_eq_nil_iff.1 hr]
  | cons x r =>
    obtain rfl : l = r.reverse ++ [x] := by rw [← List.reverse_reverse l, hr]; simp
    have hx : x ≠ 0 := by
      have := hl (by simp)
      simpa using this
    rw [List.dropWhile_cons_of_neg (by simpa using hx), ← hr, List.reverse_reverse]
theorem dig_last {n : Int} (hne : dig n ≠ []) : (dig n).getLast hne ≠ 0 := by
  have key : ∀ (m : Nat) (hne : digN m ≠ []), (digN m).getLast hne ≠ 0 := by
    intro m
    induction m using Nat.strongRecOn with
    | _ m ih =>
      rw [digN]
      split
      · intro h; exact absurd rfl h
      · intro _
        by_cases hd : digN (m / 4294967296) = []
        · have : m / 4294967296 = 0 := by
            have hv := val_digN (m / 4294967296)
            rw [hd] at hv
            simp only [val] at hv
            omega
          simp only [hd, List.getLast_singleton]
          omega
        · rw [List.getLast_cons hd]
          exact ih _ (by omega) hd
  exact key _ hne
theorem dig_inj {a b : Int} (ha : 0 ≤ a) (hb : 0 ≤ b) (h : dig a = dig b) : a = b := by
  rw [← val_dig ha, ← val_dig hb, h]
theorem val_take_getD (l : List Int) (i : Nat) : val (l.take (i + 1)) = val (l.take i) + pw i * l.getD i 0 := by
  by_cases h : i < l.length
  · rw [List.take_succ_eq_append_getElem h, val_append, List.length_take, Nat.min_eq_left (Nat.le_of_lt h)]
    simp [val, h]
  · rw [List.take_of_length_le (by omega), List.take_of_length_le (by omega), List.getD_eq_getElem?_getD, List.getElem?_eq_none (by omega)]
    simp
theorem val_set_take (l : List Int) (i : Nat) (x : Int) (h : i < l.length) : val ((l.set i x).take (i + 1)) = val (l.take i) + pw i * x := by
  rw [val_take_getD, List.take_set_of_le (Nat.le_refl i)]
  simp [List.getD_eq_getElem?_getD, h]
theorem val_set (l : List Int) (i : Nat) (x : Int) (h : i < l.length) : val (l.set i x) = val l + pw i * (x - l[i]) := by
  induction l generalizing i with
  | nil => simp at h
  | cons y l ih =>
    cases i with
    | zero => simp [val, pw_zero]; omega
    | succ i =>
      have := ih i (by simpa using h)
      simp only [List.set_cons_succ, val, this, pw_succ, List.getElem_cons_succ]
      grind
theorem val_take_le {l : List Int} (h : Lim l) (i : Nat) : val (l.take i) ≤ val l := by
  by_cases hi : i ≤ l.length
  · have e : val l = val (l.take i) + pw i * val (l.drop i) := by
      have := val_append (l.take i) (l.drop i)
      rwa [List.take_append_drop, List.length_take, Nat.min_eq_left hi] at this
    have := Int.mul_nonneg (Int.le_of_lt (pw_pos i)) (val_nonneg (h.drop i))
    omega
  · rw [List.take_of_length_le (by omega)]; exact Int.le_refl _
theorem lim_one {x : Int} (h0 : 0 ≤ x) (h1 : x < 4294967296) : Lim [x] := Lim.cons h0 h1 Lim.nil
theorem val_one (x : Int) : val [x] = x := by simp [val]
theorem val_take_drop (l : List Int) (i : Nat) (h : i ≤ l.length) : val l = val (l.take i) + pw i * val (l.drop i) := by
  have := val_append (l.take i) (l.drop i)
  rwa [List.take_append_drop, List.length_take, Nat.min_eq_left h] at this
theorem val_take_succ (l : List Int) (i : Nat) (h : i < l.length) : val (l.take (i + 1)) = val (l.take i) + pw i * l[i] := by
  rw [List.take_succ_eq_append_getElem h, val_append, List.length_take, Nat.min_eq_left (Nat.le_of_lt h)]
  simp [val]
theorem val_drop_cons (l : List Int) (i : Nat) (h : i < l.length) : val (l.drop i) = l[i] + 4294967296 * val (l.drop (i + 1)) := by
  rw [List.drop_eq_getElem_cons h]; rfl
end Go.Proofs.YtlfpnohpcemkgaaDoor.V
