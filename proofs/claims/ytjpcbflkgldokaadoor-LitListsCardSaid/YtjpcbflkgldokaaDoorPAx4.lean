/- Written by a program of this session, wip/tools/patch_print.py, over the kit's print of the loaded functions. -/
import Derived.Test.YtjpcbflkgldokaaDoorPAx0
import Derived.Test.YtjpcbflkgldokaaDoorPAx3
namespace Go.Proofs.YtjpcbflkgldokaaDoor.H
end Go.Proofs.YtjpcbflkgldokaaDoor.H
namespace Go.Proofs.YtjpcbflkgldokaaDoor.PA
open Go.RowKit Go.Proofs.YtjpcbflkgldokaaDoorW.PrintWords Go.Proofs.YtjpcbflkgldokaaDoorW.PrintLast Go.Proofs.YtjpcbflkgldokaaDoorW.PrintMore Go.Proofs.YtjpcbflkgldokaaDoor.H
attribute [local go_sem] max2_int min2_int max_two min_two max_three min_three max_four min_four   -- for this text's walks alone
set_option linter.unusedVariables false
set_option linter.unusedSimpArgs false

/-! ### gudgeonref07_next: function 22 -/
mutual
def gudgeonref07_next.j0 : Nat → ByteArray → Int → Bool → Option (Int × Int)
  | 0, _, _, _ => none
  | k + 1, x0, x1, x33 => if x33 = true then (gudgeonref07_next.l0 k x0 x1 1) else (gudgeonref07_next.j3 k x0 x1)
def gudgeonref07_next.j3 : Nat → ByteArray → Int → Option (Int × Int)
  | 0, _, _ => none
  | k + 1, x0, x1 => if (wrap64 (x1 + 6)) ≤ (x0.size : Int) then (if 0 ≤ x1 then (if x1 < (x0.size : Int) then (if (bt x0 x1) = 92 then (if 0 ≤ (wrap64 (x1 + 1)) then (if (wrap64 (x1 + 1)) < (x0.size : Int) then (gudgeonref07_next.j4 k x0 x1 ((bt x0 (wrap64 (x1 + 1))) == 117)) else (none)) else (none)) else (gudgeonref07_next.j4 k x0 x1 false)) else (none)) else (none)) else (gudgeonref07_next.j4 k x0 x1 false)
def gudgeonref07_next.j4 : Nat → ByteArray → Int → Bool → Option (Int × Int)
  | 0, _, _, _ => none
  | k + 1, x0, x1, x87 => if x87 = true then (if 0 ≤ (wrap64 (x1 + 2)) then (if (wrap64 (x1 + 2)) ≤ (wrap64 (x1 + 6)) then (if (wrap64 (x1 + 6)) ≤ (x0.size : Int) then ((gudgeonref07_digits.f k (x0.extract ((wrap64 (x1 + 2)) : Int).toNat ((wrap64 (x1 + 6)) : Int).toNat)).bind fun t145 => (if t145 ≥ 0 then (some (t145, wrap64 (x1 + 6))) else (if 0 ≤ x1 then (if x1 < (x0.size : Int) then (some (wrap64 (bt x0 x1), wrap64 (x1 + 1))) else (none)) else (none)))) else (none)) else (none)) else (none)) else (if 0 ≤ x1 then (if x1 < (x0.size : Int) then (some (wrap64 (bt x0 x1), wrap64 (x1 + 1))) else (none)) else (none))
def gudgeonref07_next.l0 : Nat → ByteArray → Int → Int → Option (Int × Int)
  | 0, _, _, _ => none
  | k + 1, x0, x1, x6 => if x6 ≤ 5 then (gudgeonref07_next.j2 k x0 x1 x6 (decide ((wrap64 ((wrap64 (x1 + 3)) + x6)) < (x0.size : Int)))) else (gudgeonref07_next.j2 k x0 x1 x6 false)
def gudgeonref07_next.j2 : Nat → ByteArray → Int → Int → Bool → Option (Int × Int)
  | 0, _, _, _, _ => none
  | k + 1, x0, x1, x6, x44 => if x44 = true then (if 0 ≤ (wrap64 ((wrap64 (x1 + 3)) + x6)) then (if (wrap64 ((wrap64 (x1 + 3)) + x6)) < (x0.size : Int) then (if (bt x0 (wrap64 ((wrap64 (x1 + 3)) + x6))) = 125 then (if 0 ≤ (wrap64 (x1 + 3)) then (if (wrap64 (x1 + 3)) ≤ (wrap64 ((wrap64 (x1 + 3)) + x6)) then (if (wrap64 ((wrap64 (x1 + 3)) + x6)) ≤ (x0.size : Int) then ((gudgeonref07_digits.f k (x0.extract ((wrap64 (x1 + 3)) : Int).toNat ((wrap64 ((wrap64 (x1 + 3)) + x6)) : Int).toNat)).bind fun t144 => (if t144 ≥ 0 then (some (t144, wrap64 ((wrap64 (x1 + 4)) + x6))) else (gudgeonref07_next.l0 k x0 x1 (wrap64 (x6 + 1))))) else (none)) else (none)) else (none)) else (gudgeonref07_next.l0 k x0 x1 (wrap64 (x6 + 1)))) else (none)) else (none)) else (gudgeonref07_next.j3 k x0 x1)
end
def gudgeonref07_next.f (k : Nat) (a0 : ByteArray) (a1 : Int) : Option (Int × Int) := if (wrap64 (a1 + 2)) < (a0.size : Int) then (if 0 ≤ a1 then (if a1 < (a0.size : Int) then (if (bt a0 a1) = 92 then (if 0 ≤ (wrap64 (a1 + 1)) then (if (wrap64 (a1 + 1)) < (a0.size : Int) then (if (bt a0 (wrap64 (a1 + 1))) = 117 then (if 0 ≤ (wrap64 (a1 + 2)) then (gudgeonref07_next.j0 k a0 a1 ((bt a0 (wrap64 (a1 + 2))) == 123)) else (none)) else (gudgeonref07_next.j0 k a0 a1 false)) else (none)) else (none)) else (gudgeonref07_next.j0 k a0 a1 false)) else (none)) else (none)) else (gudgeonref07_next.j0 k a0 a1 false)
theorem gudgeonref07_next.mono_l : ∀ k, (∀ y0 y1 y2, LeO (gudgeonref07_next.j0 k y0 y1 y2) (gudgeonref07_next.j0 (k + 1) y0 y1 y2)) ∧ (∀ y0 y1, LeO (gudgeonref07_next.j3 k y0 y1) (gudgeonref07_next.j3 (k + 1) y0 y1)) ∧ (∀ y0 y1 y2, LeO (gudgeonref07_next.j4 k y0 y1 y2) (gudgeonref07_next.j4 (k + 1) y0 y1 y2)) ∧ (∀ y0 y1 y2, LeO (gudgeonref07_next.l0 k y0 y1 y2) (gudgeonref07_next.l0 (k + 1) y0 y1 y2)) ∧ (∀ y0 y1 y2 y3, LeO (gudgeonref07_next.j2 k y0 y1 y2 y3) (gudgeonref07_next.j2 (k + 1) y0 y1 y2 y3))
  | 0 => ⟨fun _ _ _ r h => by simp [gudgeonref07_next.j0] at h, fun _ _ r h => by simp [gudgeonref07_next.j3] at h, fun _ _ _ r h => by simp [gudgeonref07_next.j4] at h, fun _ _ _ r h => by simp [gudgeonref07_next.l0] at h, fun _ _ _ _ r h => by simp [gudgeonref07_next.j2] at h⟩
  | k + 1 => by
    obtain ⟨ih0, ih1, ih2, ih3, ih4⟩ := gudgeonref07_next.mono_l k
    refine ⟨?_, ?_, ?_, ?_, ?_⟩
    · intro y0 y1 y2
      unfold gudgeonref07_next.j0
      repeat' first
      | (with_reducible exact ih0 _ _ _)
      | (with_reducible exact ih1 _ _)
      | (with_reducible exact ih2 _ _ _)
      | (with_reducible exact ih3 _ _ _)
      | (with_reducible exact ih4 _ _ _ _)
      | (with_reducible exact gudgeonref07_digits.mono _ _)
      | (with_reducible exact LeO.refl _)
      | (with_reducible exact LeO.none _)
      | (with_reducible refine LeO.ite ?_ ?_)
      | (with_reducible refine LeO.bind ?_ (fun _ => ?_))
      | exact ih0 _ _ _
      | exact ih1 _ _
      | exact ih2 _ _ _
      | exact ih3 _ _ _
      | exact ih4 _ _ _ _
      | exact gudgeonref07_digits.mono _ _
      | exact LeO.none _
      | refine LeO.ite ?_ ?_
      | refine LeO.bind ?_ (fun _ => ?_)
    · intro y0 y1
      unfold gudgeonref07_next.j3
      repeat' first
      | (with_reducible exact ih0 _ _ _)
      | (with_reducible exact ih1 _ _)
      | (with_reducible exact ih2 _ _ _)
      | (with_reducible exact ih3 _ _ _)
      | (with_reducible exact ih4 _ _ _ _)
      | (with_reducible exact gudgeonref07_digits.mono _ _)
      | (with_reducible exact LeO.refl _)
      | (with_reducible exact LeO.none _)
      | (with_reducible refine LeO.ite ?_ ?_)
      | (with_reducible refine LeO.bind ?_ (fun _ => ?_))
      | exact ih0 _ _ _
      | exact ih1 _ _
      | exact ih2 _ _ _
      | exact ih3 _ _ _
      | exact ih4 _ _ _ _
      | exact gudgeonref07_digits.mono _ _
      | exact LeO.none _
      | refine LeO.ite ?_ ?_
      | refine LeO.bind ?_ (fun _ => ?_)
    · intro y0 y1 y2
      unfold gudgeonref07_next.j4
      repeat' first
      | (with_reducible exact ih0 _ _ _)
      | (with_reducible exact ih1 _ _)
      | (with_reducible exact ih2 _ _ _)
      | (with_reducible exact ih3 _ _ _)
      | (with_reducible exact ih4 _ _ _ _)
      | (with_reducible exact gudgeonref07_digits.mono _ _)
      | (with_reducible exact LeO.refl _)
      | (with_reducible exact LeO.none _)
      | (with_reducible refine LeO.ite ?_ ?_)
      | (with_reducible refine LeO.bind ?_ (fun _ => ?_))
      | exact ih0 _ _ _
      | exact ih1 _ _
      | exact ih2 _ _ _
      | exact ih3 _ _ _
      | exact ih4 _ _ _ _
      | exact gudgeonref07_digits.mono _ _
      | exact LeO.none _
      | refine LeO.ite ?_ ?_
      | refine LeO.bind ?_ (fun _ => ?_)
    · intro y0 y1 y2
      unfold gudgeonref07_next.l0
      repeat' first
      | (with_reducible exact ih0 _ _ _)
      | (with_reducible exact ih1 _ _)
      | (with_reducible exact ih2 _ _ _)
      | (with_reducible exact ih3 _ _ _)
      | (with_reducible exact ih4 _ _ _ _)
      | (with_reducible exact gudgeonref07_digits.mono _ _)
      | (with_reducible exact LeO.refl _)
      | (with_reducible exact LeO.none _)
      | (with_reducible refine LeO.ite ?_ ?_)
      | (with_reducible refine LeO.bind ?_ (fun _ => ?_))
      | exact ih0 _ _ _
      | exact ih1 _ _
      | exact ih2 _ _ _
      | exact ih3 _ _ _
      | exact ih4 _ _ _ _
      | exact gudgeonref07_digits.mono _ _
      | exact LeO.none _
      | refine LeO.ite ?_ ?_
      | refine LeO.bind ?_ (fun _ => ?_)
    · intro y0 y1 y2 y3
      unfold gudgeonref07_next.j2
      repeat' first
      | (with_reducible exact ih0 _ _ _)
      | (with_reducible exact ih1 _ _)
      | (with_reducible exact ih2 _ _ _)
      | (with_reducible exact ih3 _ _ _)
      | (with_reducible exact ih4 _ _ _ _)
      | (with_reducible exact gudgeonref07_digits.mono _ _)
      | (with_reducible exact LeO.refl _)
      | (with_reducible exact LeO.none _)
      | (with_reducible refine LeO.ite ?_ ?_)
      | (with_reducible refine LeO.bind ?_ (fun _ => ?_))
      | exact ih0 _ _ _
      | exact ih1 _ _
      | exact ih2 _ _ _
      | exact ih3 _ _ _
      | exact ih4 _ _ _ _
      | exact gudgeonref07_digits.mono _ _
      | exact LeO.none _
      | refine LeO.ite ?_ ?_
      | refine LeO.bind ?_ (fun _ => ?_)
theorem gudgeonref07_next.mono : ∀ a0 a1 k, LeO (gudgeonref07_next.f k a0 a1) (gudgeonref07_next.f (k + 1) a0 a1) := by
  intro a0 a1 k
  obtain ⟨ih0, ih1, ih2, ih3, ih4⟩ := gudgeonref07_next.mono_l k
  unfold gudgeonref07_next.f
  repeat' first
      | (with_reducible exact ih0 _ _ _)
      | (with_reducible exact ih1 _ _)
      | (with_reducible exact ih2 _ _ _)
      | (with_reducible exact ih3 _ _ _)
      | (with_reducible exact ih4 _ _ _ _)
      | (with_reducible exact gudgeonref07_digits.mono _ _)
      | (with_reducible exact LeO.refl _)
      | (with_reducible exact LeO.none _)
      | (with_reducible refine LeO.ite ?_ ?_)
      | (with_reducible refine LeO.bind ?_ (fun _ => ?_))
      | exact ih0 _ _ _
      | exact ih1 _ _
      | exact ih2 _ _ _
      | exact ih3 _ _ _
      | exact ih4 _ _ _ _
      | exact gudgeonref07_digits.mono _ _
      | exact LeO.none _
      | refine LeO.ite ?_ ?_
      | refine LeO.bind ?_ (fun _ => ?_)
set_option maxHeartbeats 8000000 in
set_option maxRecDepth 100000 in
theorem gudgeonref07_next.calls (k : Nat) (a0 : ByteArray) (a1 : Int) (r1 : Int) (r2 : Int) (w : World) (h : gudgeonref07_next.f k a0 a1 = some (r1, r2)) :
    Calls Tryd.prog 22 #[.string a0, .int .i64 a1] w fun e w' => e = .returned (.tuple #[.int .i64 r1, .int .i64 r2]) ∧ Drawn0 w w' := by
  have H : (if (wrap64 (a1 + 2)) < (a0.size : Int) then (if 0 ≤ a1 then (if a1 < (a0.size : Int) then (if (bt a0 a1) = 92 then (if 0 ≤ (wrap64 (a1 + 1)) then (if (wrap64 (a1 + 1)) < (a0.size : Int) then (if (bt a0 (wrap64 (a1 + 1))) = 117 then (if 0 ≤ (wrap64 (a1 + 2)) then (gudgeonref07_next.j0 k a0 a1 ((bt a0 (wrap64 (a1 + 2))) == 123)) else (none)) else (gudgeonref07_next.j0 k a0 a1 false)) else (none)) else (none)) else (gudgeonref07_next.j0 k a0 a1 false)) else (none)) else (none)) else (gudgeonref07_next.j0 k a0 a1 false)) = some (r1, r2) := h
  clear h
  have HC3 := Aside0.mk H
  clear H
  go_enter Tryd.func22, Tryd.ntmps22
  go_upto_region 1 with (fail)
  go_cut [33] (fun v33 wc => ∃ (kq : Nat) (x33_2 : Bool), v33 = .bool x33_2 ∧ Aside0 (gudgeonref07_next.j0 kq a0 a1 x33_2 = some (r1, r2)) ∧ Aside0 (kq ≤ k) ∧ Drawn0 w wc)
  case first =>
    have H := HC3.out
    clear HC3
    by_cases c4 : (wrap64 (a1 + 2)) < (a0.size : Int)
    · rw [if_pos c4] at H
      have c4b0 : decide ((wrap64 (a1 + 2)) < (a0.size : Int)) = true := decide_eq_true c4
      clear c4
      (first | rw [c4b0] | (simp only [i64_w, i32_w]; rw [c4b0]) | skip)
      by_cases c5 : 0 ≤ a1
      · rw [if_pos c5] at H
        have c5b0 : decide (0 ≤ a1) = true := decide_eq_true c5
        clear c5
        by_cases c6 : a1 < (a0.size : Int)
        · rw [if_pos c6] at H
          have c6b0 : decide (a1 < (a0.size : Int)) = true := decide_eq_true c6
          clear c6
          by_cases c8 : (bt a0 a1) = 92
          · rw [if_pos c8] at H
            have c8b0 : ((bt a0 a1) == 92) = true := beq_iff_eq.mpr c8
            have c8b1 : ((bt a0 a1) != 92) = false := bne_eq_false_iff_eq.mpr c8
            clear c8
            obtain ⟨ji9, hji9⟩ : ∃ j_ : Int, (wrap64 (a1 + 1)) = j_ := ⟨_, rfl⟩
            replace H : (if 0 ≤ (ji9) then (if (ji9) < (a0.size : Int) then (if (bt a0 (ji9)) = 117 then (if 0 ≤ (wrap64 (a1 + 2)) then (gudgeonref07_next.j0 k a0 a1 ((bt a0 (wrap64 (a1 + 2))) == 123)) else (none)) else (gudgeonref07_next.j0 k a0 a1 false)) else (none)) else (none)) = some (r1, r2) := by first | (rw [hji9] at H; exact H) | (simp only [hji9] at H ⊢; exact H)
            have hji9w : (IntKind.i64.wrap (a1 + 1)) = ji9 := (i64_w _).trans hji9
            by_cases c10 : 0 ≤ (ji9)
            · rw [if_pos c10] at H
              have c10b0 : decide (0 ≤ (ji9)) = true := decide_eq_true c10
              clear c10
              by_cases c11 : (ji9) < (a0.size : Int)
              · rw [if_pos c11] at H
                have c11b0 : decide ((ji9) < (a0.size : Int)) = true := decide_eq_true c11
                clear c11
                by_cases c13 : (bt a0 (ji9)) = 117
                · rw [if_pos c13] at H
                  have c13b0 : ((bt a0 (ji9)) == 117) = true := beq_iff_eq.mpr c13
                  have c13b1 : ((bt a0 (ji9)) != 117) = false := bne_eq_false_iff_eq.mpr c13
                  clear c13
                  obtain ⟨ji14, hji14⟩ : ∃ j_ : Int, (wrap64 (a1 + 2)) = j_ := ⟨_, rfl⟩
                  replace H : (if 0 ≤ (ji14) then (gudgeonref07_next.j0 k a0 a1 ((bt a0 (ji14)) == 123)) else (none)) = some (r1, r2) := by first | (rw [hji14] at H; exact H) | (simp only [hji14] at H ⊢; exact H)
                  (try rw [hji14] at c4b0)
                  have hji14w : (IntKind.i64.wrap (a1 + 2)) = ji14 := (i64_w _).trans hji14
                  by_cases c15 : 0 ≤ (ji14)
                  · rw [if_pos c15] at H
                    have c15b0 : decide (0 ≤ (ji14)) = true := decide_eq_true c15
                    clear c15
                    have H' := Aside0.mk H
                    clear H
                    have p7 : 0 ≤ (a1 : Int) := of_decide_eq_true (by first | (with_reducible assumption) | assumption)
                    have q7 : a1 < (a0.size : Int) := of_decide_eq_true (by first | (with_reducible assumption) | assumption)
                    have hx7 := bt_at a0 a1
                    replace p7 := eq_true p7
                    replace q7 := eq_true q7
                    have p12 : 0 ≤ ((ji9) : Int) := of_decide_eq_true (by first | (with_reducible assumption) | assumption)
                    have q12 : (ji9) < (a0.size : Int) := of_decide_eq_true (by first | (with_reducible assumption) | assumption)
                    have hx12 := bt_at a0 (ji9)
                    replace p12 := eq_true p12
                    replace q12 := eq_true q12
                    have p16 : 0 ≤ ((ji14) : Int) := of_decide_eq_true (by first | (with_reducible assumption) | assumption)
                    have q16 : (ji14) < (a0.size : Int) := of_decide_eq_true (by first | (with_reducible assumption) | assumption)
                    have hx16 := bt_at a0 (ji14)
                    replace p16 := eq_true p16
                    replace q16 := eq_true q16
                    go_wp2
                    go_meet
                    case rel => exact ⟨_, (((bt a0 (ji14)) == 123)), (by first | rfl | (simp; done) | (simp only [← hji14] <;> (first | rfl | simp)) | (simp [*]; done)), H', ⟨by first | omega | exact Nat.le_refl _⟩, by repeat (first | exact Drawn0.refl _ | apply Drawn0.step)⟩
                  · rw [if_neg c15] at H
                    exact absurd H (by simp)
                · rw [if_neg c13] at H
                  have c13b0 : ((bt a0 (ji9)) == 117) = false := beq_eq_false_iff_ne.mpr c13
                  have c13b1 : ((bt a0 (ji9)) != 117) = true := bne_iff_ne.mpr c13
                  have H' := Aside0.mk H
                  clear H
                  have p7 : 0 ≤ (a1 : Int) := of_decide_eq_true (by first | (with_reducible assumption) | assumption)
                  have q7 : a1 < (a0.size : Int) := of_decide_eq_true (by first | (with_reducible assumption) | assumption)
                  have hx7 := bt_at a0 a1
                  replace p7 := eq_true p7
                  replace q7 := eq_true q7
                  have p12 : 0 ≤ ((ji9) : Int) := of_decide_eq_true (by first | (with_reducible assumption) | assumption)
                  have q12 : (ji9) < (a0.size : Int) := of_decide_eq_true (by first | (with_reducible assumption) | assumption)
                  have hx12 := bt_at a0 (ji9)
                  replace p12 := eq_true p12
                  replace q12 := eq_true q12
                  go_wp2
                  go_meet
                  case rel => exact ⟨_, (false), (by first | rfl | (simp; done) | (simp [*]; done) | (refine congrArg Value.bool ?_; generalize ByteArray.toList _ = z_; cases z_ <;> rfl)), H', ⟨by first | omega | exact Nat.le_refl _⟩, by repeat (first | exact Drawn0.refl _ | apply Drawn0.step)⟩
              · rw [if_neg c11] at H
                exact absurd H (by simp)
            · rw [if_neg c10] at H
              exact absurd H (by simp)
          · rw [if_neg c8] at H
            have c8b0 : ((bt a0 a1) == 92) = false := beq_eq_false_iff_ne.mpr c8
            have c8b1 : ((bt a0 a1) != 92) = true := bne_iff_ne.mpr c8
            have H' := Aside0.mk H
            clear H
            have p7 : 0 ≤ (a1 : Int) := of_decide_eq_true (by first | (with_reducible assumption) | assumption)
            have q7 : a1 < (a0.size : Int) := of_decide_eq_true (by first | (with_reducible assumption) | assumption)
            have hx7 := bt_at a0 a1
            replace p7 := eq_true p7
            replace q7 := eq_true q7
            go_wp2
            go_meet
            case rel => exact ⟨_, (false), (by first | rfl | (simp; done) | (simp [*]; done) | (refine congrArg Value.bool ?_; generalize ByteArray.toList _ = z_; cases z_ <;> rfl)), H', ⟨by first | omega | exact Nat.le_refl _⟩, by repeat (first | exact Drawn0.refl _ | apply Drawn0.step)⟩
        · rw [if_neg c6] at H
          exact absurd H (by simp)
      · rw [if_neg c5] at H
        exact absurd H (by simp)
    · rw [if_neg c4] at H
      have c4b0 : decide ((wrap64 (a1 + 2)) < (a0.size : Int)) = false := decide_eq_false c4
      clear c4
      (first | rw [c4b0] | (simp only [i64_w, i32_w]; rw [c4b0]) | skip)
      have H' := Aside0.mk H
      clear H
      go_wp2
      go_meet
      case rel => exact ⟨_, (false), (by first | rfl | (simp; done) | (simp [*]; done) | (refine congrArg Value.bool ?_; generalize ByteArray.toList _ = z_; cases z_ <;> rfl)), H', ⟨by first | omega | exact Nat.le_refl _⟩, by repeat (first | exact Drawn0.refl _ | apply Drawn0.step)⟩
  case rest =>
    clear HC3
    try clear c1
    try clear p1
    try clear q1
    try clear hx1
    try clear c2
    try clear p2
    try clear c4
    try clear c4b0
    try clear c5
    try clear c5b0
    try clear c6
    try clear c6b0
    try clear p6
    try clear p7
    try clear q7
    try clear hx7
    try clear c8
    try clear c8b0
    try clear c8b1
    try clear c10
    try clear c10b0
    try clear c11
    try clear c11b0
    try clear p12
    try clear q12
    try clear hx12
    try clear c13
    try clear c13b0
    try clear c13b1
    try clear c15
    try clear c15b0
    try clear p16
    try clear q16
    try clear hx16
    try clear p12
    try clear p16
    try clear p7
    try clear q12
    try clear q16
    try clear q7
    obtain ⟨kq, x33_2, rfl, HA, HJ2, ⟨mc2, rfl⟩⟩ := hcut
    cases kq with
    | zero => exact absurd HA.out (by simp [gudgeonref07_next.j0])
    | succ kj2 =>
      have H := HA.out
      clear HA
      simp only [gudgeonref07_next.j0] at H
      have HC17 := Aside0.mk H
      clear H
      go_upto_if 33 with (fail)
      go_cut [] (fun wc => ∃ (kq : Nat), Aside0 (gudgeonref07_next.j3 kq a0 a1 = some (r1, r2)) ∧ Aside0 (kq ≤ kj2) ∧ Drawn0 w wc)
      case first =>
        have H := HC17.out
        clear HC17
        by_cases c18 : x33_2 = true
        · subst c18
          have H1 : (gudgeonref07_next.l0 kj2 a0 a1 1) = some (r1, r2) := by rw [if_pos rfl] at H; exact H
          clear H
          have H := H1
          clear H1
          have H' := Aside0.mk H
          clear H
          go_wp2
          go_loopg [6] kj2 (fun kq v6 w' => ∃ (x6_2 : Int), v6 = .int .i64 x6_2 ∧ Aside0 (gudgeonref07_next.l0 kq a0 a1 x6_2 = some (r1, r2)) ∧ Aside0 (kq ≤ kj2) ∧ Drawn0 w w')
          case atStart => exact ⟨(1), (by first | rfl | (simp; done) | (simp [*]; done) | (refine congrArg Value.bool ?_; generalize ByteArray.toList _ = z_; cases z_ <;> rfl)), H', ⟨Nat.le_refl _⟩, by repeat (first | exact Drawn0.refl _ | apply Drawn0.step)⟩
          case round =>
            clear H'
            try clear c1
            try clear p1
            try clear q1
            try clear hx1
            try clear c2
            try clear p2
            try clear c4
            try clear c4b0
            try clear c5
            try clear c5b0
            try clear c6
            try clear c6b0
            try clear p6
            try clear p7
            try clear q7
            try clear hx7
            try clear c8
            try clear c8b0
            try clear c8b1
            try clear c10
            try clear c10b0
            try clear c11
            try clear c11b0
            try clear p12
            try clear q12
            try clear hx12
            try clear c13
            try clear c13b0
            try clear c13b1
            try clear c15
            try clear c15b0
            try clear p16
            try clear q16
            try clear hx16
            try clear c18
            try clear p1
            try clear p12
            try clear p16
            try clear p2
            try clear p6
            try clear p7
            try clear q1
            try clear q12
            try clear q16
            try clear q7
            obtain ⟨x6_2, rfl, HA, HK2, ⟨m2, rfl⟩⟩ := hrel
            cases gk with
            | zero => exact absurd HA.out (by simp [gudgeonref07_next.l0])
            | succ k2 =>
              have H := HA.out
              clear HA
              simp only [gudgeonref07_next.l0] at H
              have HC19 := Aside0.mk H
              clear H
              go_upto_region 3 with (fail)
              go_cut [44] (fun v44 wc => ∃ (kq : Nat) (x44_18 : Bool), v44 = .bool x44_18 ∧ Aside0 (gudgeonref07_next.j2 kq a0 a1 x6_2 x44_18 = some (r1, r2)) ∧ Aside0 (kq ≤ k2) ∧ Drawn0 w wc)
              case first =>
                have H := HC19.out
                clear HC19
                by_cases c20 : x6_2 ≤ 5
                · rw [if_pos c20] at H
                  have c20b0 : decide (x6_2 ≤ 5) = true := decide_eq_true c20
                  clear c20
                  (first | rw [c20b0] | (simp only [i64_w, i32_w]; rw [c20b0]) | skip)
                  have H' := Aside0.mk H
                  clear H
                  go_wp2
                  go_meet
                  case rel => exact ⟨_, (decide ((wrap64 ((wrap64 (a1 + 3)) + x6_2)) < (a0.size : Int))), (by first | rfl | (simp; done) | (simp [*]; done) | (refine congrArg Value.bool ?_; generalize ByteArray.toList _ = z_; cases z_ <;> rfl)), H', ⟨by have := HJ2.out; have := HK2.out; first | omega | exact Nat.le_refl _⟩, by repeat (first | exact Drawn0.refl _ | apply Drawn0.step)⟩
                · rw [if_neg c20] at H
                  have c20b0 : decide (x6_2 ≤ 5) = false := decide_eq_false c20
                  clear c20
                  (first | rw [c20b0] | (simp only [i64_w, i32_w]; rw [c20b0]) | skip)
                  have H' := Aside0.mk H
                  clear H
                  go_wp2
                  go_meet
                  case rel => exact ⟨_, (false), (by first | rfl | (simp; done) | (simp [*]; done) | (refine congrArg Value.bool ?_; generalize ByteArray.toList _ = z_; cases z_ <;> rfl)), H', ⟨by have := HJ2.out; have := HK2.out; first | omega | exact Nat.le_refl _⟩, by repeat (first | exact Drawn0.refl _ | apply Drawn0.step)⟩
              case rest =>
                clear HC19
                try clear c1
                try clear p1
                try clear q1
                try clear hx1
                try clear c2
                try clear p2
                try clear c4
                try clear c4b0
                try clear c5
                try clear c5b0
                try clear c6
                try clear c6b0
                try clear p6
                try clear p7
                try clear q7
                try clear hx7
                try clear c8
                try clear c8b0
                try clear c8b1
                try clear c10
                try clear c10b0
                try clear c11
                try clear c11b0
                try clear p12
                try clear q12
                try clear hx12
                try clear c13
                try clear c13b0
                try clear c13b1
                try clear c15
                try clear c15b0
                try clear p16
                try clear q16
                try clear hx16
                try clear c18
                try clear c20
                try clear c20b0
                try clear p1
                try clear p12
                try clear p16
                try clear p2
                try clear p6
                try clear p7
                try clear q1
                try clear q12
                try clear q16
                try clear q7
                obtain ⟨kq, x44_18, rfl, HA, HJ18, ⟨mc18, rfl⟩⟩ := hcut
                cases kq with
                | zero => exact absurd HA.out (by simp [gudgeonref07_next.j2])
                | succ kj18 =>
                  have H := HA.out
                  clear HA
                  simp only [gudgeonref07_next.j2] at H
                  by_cases c21 : x44_18 = true
                  · subst c21
                    have H1 : (if 0 ≤ (wrap64 ((wrap64 (a1 + 3)) + x6_2)) then (if (wrap64 ((wrap64 (a1 + 3)) + x6_2)) < (a0.size : Int) then (if (bt a0 (wrap64 ((wrap64 (a1 + 3)) + x6_2))) = 125 then (if 0 ≤ (wrap64 (a1 + 3)) then (if (wrap64 (a1 + 3)) ≤ (wrap64 ((wrap64 (a1 + 3)) + x6_2)) then (if (wrap64 ((wrap64 (a1 + 3)) + x6_2)) ≤ (a0.size : Int) then ((gudgeonref07_digits.f kj18 (a0.extract ((wrap64 (a1 + 3)) : Int).toNat ((wrap64 ((wrap64 (a1 + 3)) + x6_2)) : Int).toNat)).bind fun t144 => (if t144 ≥ 0 then (some (t144, wrap64 ((wrap64 (a1 + 4)) + x6_2))) else (gudgeonref07_next.l0 kj18 a0 a1 (wrap64 (x6_2 + 1))))) else (none)) else (none)) else (none)) else (gudgeonref07_next.l0 kj18 a0 a1 (wrap64 (x6_2 + 1)))) else (none)) else (none)) = some (r1, r2) := by rw [if_pos rfl] at H; exact H
                    clear H
                    have H := H1
                    clear H1
                    obtain ⟨ji22, hji22⟩ : ∃ j_ : Int, (wrap64 ((wrap64 (a1 + 3)) + x6_2)) = j_ := ⟨_, rfl⟩
                    replace H : (if 0 ≤ (ji22) then (if (ji22) < (a0.size : Int) then (if (bt a0 (ji22)) = 125 then (if 0 ≤ (wrap64 (a1 + 3)) then (if (wrap64 (a1 + 3)) ≤ (ji22) then (if (ji22) ≤ (a0.size : Int) then ((gudgeonref07_digits.f kj18 (a0.extract ((wrap64 (a1 + 3)) : Int).toNat ((ji22) : Int).toNat)).bind fun t144 => (if t144 ≥ 0 then (some (t144, wrap64 ((wrap64 (a1 + 4)) + x6_2))) else (gudgeonref07_next.l0 kj18 a0 a1 (wrap64 (x6_2 + 1))))) else (none)) else (none)) else (none)) else (gudgeonref07_next.l0 kj18 a0 a1 (wrap64 (x6_2 + 1)))) else (none)) else (none)) = some (r1, r2) := by first | (rw [hji22] at H; exact H) | (simp only [hji22] at H ⊢; exact H)
                    have hji22w : (IntKind.i64.wrap ((wrap64 (a1 + 3)) + x6_2)) = ji22 := (i64_w _).trans hji22
                    by_cases c23 : 0 ≤ (ji22)
                    · rw [if_pos c23] at H
                      have c23b0 : decide (0 ≤ (ji22)) = true := decide_eq_true c23
                      clear c23
                      by_cases c24 : (ji22) < (a0.size : Int)
                      · rw [if_pos c24] at H
                        have c24b0 : decide ((ji22) < (a0.size : Int)) = true := decide_eq_true c24
                        clear c24
                        by_cases c26 : (bt a0 (ji22)) = 125
                        · rw [if_pos c26] at H
                          have c26b0 : ((bt a0 (ji22)) == 125) = true := beq_iff_eq.mpr c26
                          have c26b1 : ((bt a0 (ji22)) != 125) = false := bne_eq_false_iff_eq.mpr c26
                          clear c26
                          obtain ⟨ji27, hji27⟩ : ∃ j_ : Int, (wrap64 (a1 + 3)) = j_ := ⟨_, rfl⟩
                          replace H : (if 0 ≤ (ji27) then (if (ji27) ≤ (ji22) then (if (ji22) ≤ (a0.size : Int) then ((gudgeonref07_digits.f kj18 (a0.extract ((ji27) : Int).toNat ((ji22) : Int).toNat)).bind fun t144 => (if t144 ≥ 0 then (some (t144, wrap64 ((wrap64 (a1 + 4)) + x6_2))) else (gudgeonref07_next.l0 kj18 a0 a1 (wrap64 (x6_2 + 1))))) else (none)) else (none)) else (none)) = some (r1, r2) := by first | (rw [hji27] at H; exact H) | (simp only [hji27] at H ⊢; exact H)
                          (try rw [hji27] at hji22)
                          (try rw [hji27] at hji22w)
                          have hji27w : (IntKind.i64.wrap (a1 + 3)) = ji27 := (i64_w _).trans hji27
                          by_cases c28 : 0 ≤ (ji27)
                          · rw [if_pos c28] at H
                            have c28b0 := eq_true c28
                            have c28b1 : decide (0 ≤ (ji27)) = true := decide_eq_true c28
                            clear c28
                            by_cases c29 : (ji27) ≤ (ji22)
                            · rw [if_pos c29] at H
                              have c29b0 := eq_true c29
                              have c29b1 : decide ((ji27) ≤ (ji22)) = true := decide_eq_true c29
                              clear c29
                              by_cases c30 : (ji22) ≤ (a0.size : Int)
                              · rw [if_pos c30] at H
                                have c30b0 := eq_true c30
                                have c30b1 : decide ((ji22) ≤ (a0.size : Int)) = true := decide_eq_true c30
                                clear c30
                                replace H := Option.bind_eq_some_iff.mp H
                                obtain ⟨t144, A310, H⟩ := H
                                replace H : (if t144 ≥ 0 then (some (t144, wrap64 ((wrap64 (a1 + 4)) + x6_2))) else (gudgeonref07_next.l0 kj18 a0 a1 (wrap64 (x6_2 + 1)))) = some (r1, r2) := H
                                have A31 := Aside0.mk A310
                                clear A310
                                by_cases c32 : t144 ≥ 0
                                · rw [if_pos c32] at H
                                  have c32b0 : decide (0 ≤ t144) = true := decide_eq_true c32
                                  clear c32
                                  simp only [Option.some.injEq, Prod.mk.injEq] at H
                                  obtain ⟨rfl, rfl⟩ := H
                                  have p25 : 0 ≤ ((ji22) : Int) := of_decide_eq_true (by first | (with_reducible assumption) | assumption)
                                  have q25 : (ji22) < (a0.size : Int) := of_decide_eq_true (by first | (with_reducible assumption) | assumption)
                                  have hx25 := bt_at a0 (ji22)
                                  replace p25 := eq_true p25
                                  replace q25 := eq_true q25
                                  go_wp2_with (first | ((with_reducible refine gate_callee (f := 33) rfl ?_); refine goesL_ (some 62) rfl rfl Tryd.func33 (by kernel_rfl) rfl #[.string (a0.extract ((ji27) : Int).toNat ((ji22) : Int).toNat)] rfl (by (try simp only [List.map_toArray, List.map_cons, List.map_nil]); first | done | (simp only [hji22, hji27]; rfl) | rfl | (simp only [List.length_drop, List.length_take]; rfl)) ?_; (with_reducible refine (gudgeonref07_digits.calls kj18 (a0.extract ((ji27) : Int).toNat ((ji22) : Int).toNat) t144 _ A31.out).mono ?_); rintro e w' ⟨rfl, ⟨nd, rfl⟩⟩; refine ⟨_, rfl, ?_⟩))
                                  go_ret2
                                  exact ⟨by first | rfl | (simp; done) | (simp only [← hji22, ← hji27] <;> (first | rfl | simp)) | (simp [*]; done), by repeat (first | exact Drawn0.refl _ | apply Drawn0.step)⟩
                                · rw [if_neg c32] at H
                                  have c32b0 : decide (0 ≤ t144) = false := decide_eq_false c32
                                  clear c32
                                  have H' := Aside0.mk H
                                  clear H
                                  have p25 : 0 ≤ ((ji22) : Int) := of_decide_eq_true (by first | (with_reducible assumption) | assumption)
                                  have q25 : (ji22) < (a0.size : Int) := of_decide_eq_true (by first | (with_reducible assumption) | assumption)
                                  have hx25 := bt_at a0 (ji22)
                                  replace p25 := eq_true p25
                                  replace q25 := eq_true q25
                                  go_wp2_with (first | ((with_reducible refine gate_callee (f := 33) rfl ?_); refine goesL_ (some 62) rfl rfl Tryd.func33 (by kernel_rfl) rfl #[.string (a0.extract ((ji27) : Int).toNat ((ji22) : Int).toNat)] rfl (by (try simp only [List.map_toArray, List.map_cons, List.map_nil]); first | done | (simp only [hji22, hji27]; rfl) | rfl | (simp only [List.length_drop, List.length_take]; rfl)) ?_; (with_reducible refine (gudgeonref07_digits.calls kj18 (a0.extract ((ji27) : Int).toNat ((ji22) : Int).toNat) t144 _ A31.out).mono ?_); rintro e w' ⟨rfl, ⟨nd, rfl⟩⟩; refine ⟨_, rfl, ?_⟩))
                                  go_roundg kj18
                                  case measure => have := HJ2.out; have := HK2.out; have := HJ18.out; omega
                                  case rel => exact ⟨(wrap64 (x6_2 + 1)), (by first | rfl | (simp; done) | (simp [*]; done) | (refine congrArg Value.bool ?_; generalize ByteArray.toList _ = z_; cases z_ <;> rfl)), H', ⟨by have := HJ2.out; have := HK2.out; have := HJ18.out; omega⟩, by repeat (first | exact Drawn0.refl _ | apply Drawn0.step)⟩
                              · rw [if_neg c30] at H
                                exact absurd H (by simp)
                            · rw [if_neg c29] at H
                              exact absurd H (by simp)
                          · rw [if_neg c28] at H
                            exact absurd H (by simp)
                        · rw [if_neg c26] at H
                          have c26b0 : ((bt a0 (ji22)) == 125) = false := beq_eq_false_iff_ne.mpr c26
                          have c26b1 : ((bt a0 (ji22)) != 125) = true := bne_iff_ne.mpr c26
                          have H' := Aside0.mk H
                          clear H
                          have p25 : 0 ≤ ((ji22) : Int) := of_decide_eq_true (by first | (with_reducible assumption) | assumption)
                          have q25 : (ji22) < (a0.size : Int) := of_decide_eq_true (by first | (with_reducible assumption) | assumption)
                          have hx25 := bt_at a0 (ji22)
                          replace p25 := eq_true p25
                          replace q25 := eq_true q25
                          go_wp2
                          go_roundg kj18
                          case measure => have := HJ2.out; have := HK2.out; have := HJ18.out; omega
                          case rel => exact ⟨(wrap64 (x6_2 + 1)), (by first | rfl | (simp; done) | (simp [*]; done) | (refine congrArg Value.bool ?_; generalize ByteArray.toList _ = z_; cases z_ <;> rfl)), H', ⟨by have := HJ2.out; have := HK2.out; have := HJ18.out; omega⟩, by repeat (first | exact Drawn0.refl _ | apply Drawn0.step)⟩
                      · rw [if_neg c24] at H
                        exact absurd H (by simp)
                    · rw [if_neg c23] at H
                      exact absurd H (by simp)
                  · replace c21 := Bool.eq_false_iff.mpr c21
                    subst c21
                    have H1 : (gudgeonref07_next.j3 kj18 a0 a1) = some (r1, r2) := by rw [if_neg (show ¬ (false = true) by decide)] at H; exact H
                    clear H
                    have H := H1
                    clear H1
                    have H' := Aside0.mk H
                    clear H
                    go_wp2
                    go_meet
                    case rel => exact ⟨_, H', ⟨by have := HJ2.out; have := HK2.out; have := HJ18.out; first | omega | exact Nat.le_refl _⟩, by repeat (first | exact Drawn0.refl _ | apply Drawn0.step)⟩
        · replace c18 := Bool.eq_false_iff.mpr c18
          subst c18
          have H1 : (gudgeonref07_next.j3 kj2 a0 a1) = some (r1, r2) := by rw [if_neg (show ¬ (false = true) by decide)] at H; exact H
          clear H
          have H := H1
          clear H1
          have H' := Aside0.mk H
          clear H
          go_wp2
          go_meet
          case rel => exact ⟨_, H', ⟨by have := HJ2.out; first | omega | exact Nat.le_refl _⟩, by repeat (first | exact Drawn0.refl _ | apply Drawn0.step)⟩
      case rest =>
        clear HC17
        try clear c1
        try clear p1
        try clear q1
        try clear hx1
        try clear c2
        try clear p2
        try clear q2
        try clear hx2
        try clear c3
        try clear c4
        try clear c4b0
        try clear c5
        try clear c5b0
        try clear c6
        try clear c6b0
        try clear p6
        try clear p7
        try clear q7
        try clear hx7
        try clear c8
        try clear c8b0
        try clear c8b1
        try clear c10
        try clear c10b0
        try clear c11
        try clear c11b0
        try clear p12
        try clear q12
        try clear hx12
        try clear c13
        try clear c13b0
        try clear c13b1
        try clear c15
        try clear c15b0
        try clear p16
        try clear q16
        try clear hx16
        try clear c18
        try clear c20
        try clear c20b0
        try clear c21
        try clear c22
        try clear c23
        try clear c23b0
        try clear c24
        try clear c24b0
        try clear p25
        try clear q25
        try clear hx25
        try clear c26
        try clear c26b0
        try clear c26b1
        try clear c28
        try clear c28b0
        try clear c28b1
        try clear c29
        try clear c29b0
        try clear c29b1
        try clear c30
        try clear c30b0
        try clear c30b1
        try clear c32
        try clear c32b0
        try clear p1
        try clear p12
        try clear p16
        try clear p2
        try clear p25
        try clear p6
        try clear p7
        try clear q1
        try clear q12
        try clear q16
        try clear q25
        try clear q7
        obtain ⟨kq, HA, HJ16, ⟨mc16, rfl⟩⟩ := hcut
        cases kq with
        | zero => exact absurd HA.out (by simp [gudgeonref07_next.j3])
        | succ kj16 =>
          have H := HA.out
          clear HA
          simp only [gudgeonref07_next.j3] at H
          have HC33 := Aside0.mk H
          clear H
          go_upto_region 9 with (fail)
          go_cut [87] (fun v87 wc => ∃ (kq : Nat) (x87_32 : Bool), v87 = .bool x87_32 ∧ Aside0 (gudgeonref07_next.j4 kq a0 a1 x87_32 = some (r1, r2)) ∧ Aside0 (kq ≤ kj16) ∧ Drawn0 w wc)
          case first =>
            have H := HC33.out
            clear HC33
            by_cases c34 : (wrap64 (a1 + 6)) ≤ (a0.size : Int)
            · rw [if_pos c34] at H
              have c34b0 : decide ((wrap64 (a1 + 6)) ≤ (a0.size : Int)) = true := decide_eq_true c34
              clear c34
              (first | rw [c34b0] | (simp only [i64_w, i32_w]; rw [c34b0]) | skip)
              by_cases c35 : 0 ≤ a1
              · rw [if_pos c35] at H
                have c35b0 : decide (0 ≤ a1) = true := decide_eq_true c35
                clear c35
                by_cases c36 : a1 < (a0.size : Int)
                · rw [if_pos c36] at H
                  have c36b0 : decide (a1 < (a0.size : Int)) = true := decide_eq_true c36
                  clear c36
                  by_cases c38 : (bt a0 a1) = 92
                  · rw [if_pos c38] at H
                    have c38b0 : ((bt a0 a1) == 92) = true := beq_iff_eq.mpr c38
                    have c38b1 : ((bt a0 a1) != 92) = false := bne_eq_false_iff_eq.mpr c38
                    clear c38
                    obtain ⟨ji39, hji39⟩ : ∃ j_ : Int, (wrap64 (a1 + 1)) = j_ := ⟨_, rfl⟩
                    replace H : (if 0 ≤ (ji39) then (if (ji39) < (a0.size : Int) then (gudgeonref07_next.j4 kj16 a0 a1 ((bt a0 (ji39)) == 117)) else (none)) else (none)) = some (r1, r2) := by first | (rw [hji39] at H; exact H) | (simp only [hji39] at H ⊢; exact H)
                    (try rw [hji39] at hji9)
                    (try rw [hji39] at hji9w)
                    have hji39w : (IntKind.i64.wrap (a1 + 1)) = ji39 := (i64_w _).trans hji39
                    by_cases c40 : 0 ≤ (ji39)
                    · rw [if_pos c40] at H
                      have c40b0 : decide (0 ≤ (ji39)) = true := decide_eq_true c40
                      clear c40
                      by_cases c41 : (ji39) < (a0.size : Int)
                      · rw [if_pos c41] at H
                        have c41b0 : decide ((ji39) < (a0.size : Int)) = true := decide_eq_true c41
                        clear c41
                        have H' := Aside0.mk H
                        clear H
                        have p37 : 0 ≤ (a1 : Int) := of_decide_eq_true (by first | (with_reducible assumption) | assumption)
                        have q37 : a1 < (a0.size : Int) := of_decide_eq_true (by first | (with_reducible assumption) | assumption)
                        have hx37 := bt_at a0 a1
                        replace p37 := eq_true p37
                        replace q37 := eq_true q37
                        have p42 : 0 ≤ ((ji39) : Int) := of_decide_eq_true (by first | (with_reducible assumption) | assumption)
                        have q42 : (ji39) < (a0.size : Int) := of_decide_eq_true (by first | (with_reducible assumption) | assumption)
                        have hx42 := bt_at a0 (ji39)
                        replace p42 := eq_true p42
                        replace q42 := eq_true q42
                        go_wp2
                        go_meet
                        case rel => exact ⟨_, (((bt a0 (ji39)) == 117)), (by first | rfl | (simp; done) | (simp only [← hji39] <;> (first | rfl | simp)) | (simp [*]; done)), H', ⟨by have := HJ2.out; have := HJ16.out; first | omega | exact Nat.le_refl _⟩, by repeat (first | exact Drawn0.refl _ | apply Drawn0.step)⟩
                      · rw [if_neg c41] at H
                        exact absurd H (by simp)
                    · rw [if_neg c40] at H
                      exact absurd H (by simp)
                  · rw [if_neg c38] at H
                    have c38b0 : ((bt a0 a1) == 92) = false := beq_eq_false_iff_ne.mpr c38
                    have c38b1 : ((bt a0 a1) != 92) = true := bne_iff_ne.mpr c38
                    have H' := Aside0.mk H
                    clear H
                    have p37 : 0 ≤ (a1 : Int) := of_decide_eq_true (by first | (with_reducible assumption) | assumption)
                    have q37 : a1 < (a0.size : Int) := of_decide_eq_true (by first | (with_reducible assumption) | assumption)
                    have hx37 := bt_at a0 a1
                    replace p37 := eq_true p37
                    replace q37 := eq_true q37
                    go_wp2
                    go_meet
                    case rel => exact ⟨_, (false), (by first | rfl | (simp; done) | (simp [*]; done) | (refine congrArg Value.bool ?_; generalize ByteArray.toList _ = z_; cases z_ <;> rfl)), H', ⟨by have := HJ2.out; have := HJ16.out; first | omega | exact Nat.le_refl _⟩, by repeat (first | exact Drawn0.refl _ | apply Drawn0.step)⟩
                · rw [if_neg c36] at H
                  exact absurd H (by simp)
              · rw [if_neg c35] at H
                exact absurd H (by simp)
            · rw [if_neg c34] at H
              have c34b0 : decide ((wrap64 (a1 + 6)) ≤ (a0.size : Int)) = false := decide_eq_false c34
              clear c34
              (first | rw [c34b0] | (simp only [i64_w, i32_w]; rw [c34b0]) | skip)
              have H' := Aside0.mk H
              clear H
              go_wp2
              go_meet
              case rel => exact ⟨_, (false), (by first | rfl | (simp; done) | (simp [*]; done) | (refine congrArg Value.bool ?_; generalize ByteArray.toList _ = z_; cases z_ <;> rfl)), H', ⟨by have := HJ2.out; have := HJ16.out; first | omega | exact Nat.le_refl _⟩, by repeat (first | exact Drawn0.refl _ | apply Drawn0.step)⟩
          case rest =>
            clear HC33
            try clear c1
            try clear p1
            try clear q1
            try clear hx1
            try clear c2
            try clear p2
            try clear q2
            try clear hx2
            try clear c3
            try clear p3
            try clear q3
            try clear hx3
            try clear c4
            try clear c4b0
            try clear p4
            try clear q4
            try clear hx4
            try clear c5
            try clear c5b0
            try clear c6
            try clear c6b0
            try clear p6
            try clear p7
            try clear q7
            try clear hx7
            try clear c8
            try clear c8b0
            try clear c8b1
            try clear c10
            try clear c10b0
            try clear c11
            try clear c11b0
            try clear p12
            try clear q12
            try clear hx12
            try clear c13
            try clear c13b0
            try clear c13b1
            try clear c15
            try clear c15b0
            try clear c16
            try clear p16
            try clear q16
            try clear hx16
            try clear c18
            try clear c20
            try clear c20b0
            try clear c21
            try clear c22
            try clear c23
            try clear c23b0
            try clear c24
            try clear c24b0
            try clear p25
            try clear q25
            try clear hx25
            try clear c26
            try clear c26b0
            try clear c26b1
            try clear c28
            try clear c28b0
            try clear c28b1
            try clear c29
            try clear c29b0
            try clear c29b1
            try clear c30
            try clear c30b0
            try clear c30b1
            try clear c32
            try clear c32b0
            try clear c33
            try clear c34
            try clear c34b0
            try clear c35
            try clear c35b0
            try clear c36
            try clear c36b0
            try clear p37
            try clear q37
            try clear hx37
            try clear c38
            try clear c38b0
            try clear c38b1
            try clear c40
            try clear c40b0
            try clear c41
            try clear c41b0
            try clear p42
            try clear q42
            try clear hx42
            try clear p1
            try clear p12
            try clear p16
            try clear p2
            try clear p25
            try clear p37
            try clear p42
            try clear p6
            try clear p7
            try clear q1
            try clear q12
            try clear q16
            try clear q2
            try clear q25
            try clear q37
            try clear q42
            try clear q7
            obtain ⟨kq, x87_32, rfl, HA, HJ32, ⟨mc32, rfl⟩⟩ := hcut
            cases kq with
            | zero => exact absurd HA.out (by simp [gudgeonref07_next.j4])
            | succ kj32 =>
              have H := HA.out
              clear HA
              simp only [gudgeonref07_next.j4] at H
              by_cases c43 : x87_32 = true
              · subst c43
                have H1 : (if 0 ≤ (wrap64 (a1 + 2)) then (if (wrap64 (a1 + 2)) ≤ (wrap64 (a1 + 6)) then (if (wrap64 (a1 + 6)) ≤ (a0.size : Int) then ((gudgeonref07_digits.f kj32 (a0.extract ((wrap64 (a1 + 2)) : Int).toNat ((wrap64 (a1 + 6)) : Int).toNat)).bind fun t145 => (if t145 ≥ 0 then (some (t145, wrap64 (a1 + 6))) else (if 0 ≤ a1 then (if a1 < (a0.size : Int) then (some (wrap64 (bt a0 a1), wrap64 (a1 + 1))) else (none)) else (none)))) else (none)) else (none)) else (none)) = some (r1, r2) := by rw [if_pos rfl] at H; exact H
                clear H
                have H := H1
                clear H1
                obtain ⟨ji44, hji44⟩ : ∃ j_ : Int, (wrap64 (a1 + 2)) = j_ := ⟨_, rfl⟩
                replace H : (if 0 ≤ (ji44) then (if (ji44) ≤ (wrap64 (a1 + 6)) then (if (wrap64 (a1 + 6)) ≤ (a0.size : Int) then ((gudgeonref07_digits.f kj32 (a0.extract ((ji44) : Int).toNat ((wrap64 (a1 + 6)) : Int).toNat)).bind fun t145 => (if t145 ≥ 0 then (some (t145, wrap64 (a1 + 6))) else (if 0 ≤ a1 then (if a1 < (a0.size : Int) then (some (wrap64 (bt a0 a1), wrap64 (a1 + 1))) else (none)) else (none)))) else (none)) else (none)) else (none)) = some (r1, r2) := by first | (rw [hji44] at H; exact H) | (simp only [hji44] at H ⊢; exact H)
                (try rw [hji44] at hji14)
                (try rw [hji44] at hji14w)
                have hji44w : (IntKind.i64.wrap (a1 + 2)) = ji44 := (i64_w _).trans hji44
                by_cases c45 : 0 ≤ (ji44)
                · rw [if_pos c45] at H
                  have c45b0 := eq_true c45
                  have c45b1 : decide (0 ≤ (ji44)) = true := decide_eq_true c45
                  clear c45
                  by_cases c46 : (ji44) ≤ (wrap64 (a1 + 6))
                  · rw [if_pos c46] at H
                    have c46b0 := eq_true c46
                    have c46b1 : decide ((ji44) ≤ (wrap64 (a1 + 6))) = true := decide_eq_true c46
                    by_cases c47 : (wrap64 (a1 + 6)) ≤ (a0.size : Int)
                    · rw [if_pos c47] at H
                      have c47b0 := eq_true c47
                      have c47b1 : decide ((wrap64 (a1 + 6)) ≤ (a0.size : Int)) = true := decide_eq_true c47
                      replace H := Option.bind_eq_some_iff.mp H
                      obtain ⟨t145, A480, H⟩ := H
                      replace H : (if t145 ≥ 0 then (some (t145, wrap64 (a1 + 6))) else (if 0 ≤ a1 then (if a1 < (a0.size : Int) then (some (wrap64 (bt a0 a1), wrap64 (a1 + 1))) else (none)) else (none))) = some (r1, r2) := H
                      have A48 := Aside0.mk A480
                      clear A480
                      by_cases c49 : t145 ≥ 0
                      · rw [if_pos c49] at H
                        have c49b0 : decide (0 ≤ t145) = true := decide_eq_true c49
                        clear c49
                        simp only [Option.some.injEq, Prod.mk.injEq] at H
                        obtain ⟨rfl, rfl⟩ := H
                        go_wp2_with (first | ((with_reducible refine gate_callee (f := 33) rfl ?_); refine goesL_ (some 94) rfl rfl Tryd.func33 (by kernel_rfl) rfl #[.string (a0.extract ((ji44) : Int).toNat ((wrap64 (a1 + 6)) : Int).toNat)] rfl (by (try simp only [List.map_toArray, List.map_cons, List.map_nil]); first | done | (simp only [hji44]; rfl) | rfl | (simp only [List.length_drop, List.length_take]; rfl)) ?_; (with_reducible refine (gudgeonref07_digits.calls kj32 (a0.extract ((ji44) : Int).toNat ((wrap64 (a1 + 6)) : Int).toNat) t145 _ A48.out).mono ?_); rintro e w' ⟨rfl, ⟨nd, rfl⟩⟩; refine ⟨_, rfl, ?_⟩))
                        go_ret2
                        exact ⟨by first | rfl | (simp; done) | (simp only [← hji44] <;> (first | rfl | simp)) | (simp [*]; done), by repeat (first | exact Drawn0.refl _ | apply Drawn0.step)⟩
                      · rw [if_neg c49] at H
                        have c49b0 : decide (0 ≤ t145) = false := decide_eq_false c49
                        clear c49
                        by_cases c50 : 0 ≤ a1
                        · rw [if_pos c50] at H
                          have c50b0 : decide (0 ≤ a1) = true := decide_eq_true c50
                          clear c50
                          by_cases c51 : a1 < (a0.size : Int)
                          · rw [if_pos c51] at H
                            have c51b0 : decide (a1 < (a0.size : Int)) = true := decide_eq_true c51
                            clear c51
                            simp only [Option.some.injEq, Prod.mk.injEq] at H
                            obtain ⟨rfl, rfl⟩ := H
                            go_wp2_with (first | ((with_reducible refine gate_callee (f := 33) rfl ?_); refine goesL_ (some 94) rfl rfl Tryd.func33 (by kernel_rfl) rfl #[.string (a0.extract ((ji44) : Int).toNat ((wrap64 (a1 + 6)) : Int).toNat)] rfl (by (try simp only [List.map_toArray, List.map_cons, List.map_nil]); first | done | (simp only [hji44]; rfl) | rfl | (simp only [List.length_drop, List.length_take]; rfl)) ?_; (with_reducible refine (gudgeonref07_digits.calls kj32 (a0.extract ((ji44) : Int).toNat ((wrap64 (a1 + 6)) : Int).toNat) t145 _ A48.out).mono ?_); rintro e w' ⟨rfl, ⟨nd, rfl⟩⟩; refine ⟨_, rfl, ?_⟩; have p52 : 0 ≤ (a1 : Int) := of_decide_eq_true (by first | (with_reducible assumption) | assumption); have q52 : a1 < (a0.size : Int) := of_decide_eq_true (by first | (with_reducible assumption) | assumption); have hx52 := bt_at a0 a1; replace p52 := eq_true p52; replace q52 := eq_true q52))
                            go_ret2
                            exact ⟨by first | rfl | (simp; done) | (simp only [← hji44] <;> (first | rfl | simp)) | (simp [*]; done), by repeat (first | exact Drawn0.refl _ | apply Drawn0.step)⟩
                          · rw [if_neg c51] at H
                            exact absurd H (by simp)
                        · rw [if_neg c50] at H
                          exact absurd H (by simp)
                    · rw [if_neg c47] at H
                      exact absurd H (by simp)
                  · rw [if_neg c46] at H
                    exact absurd H (by simp)
                · rw [if_neg c45] at H
                  exact absurd H (by simp)
              · replace c43 := Bool.eq_false_iff.mpr c43
                subst c43
                have H1 : (if 0 ≤ a1 then (if a1 < (a0.size : Int) then (some (wrap64 (bt a0 a1), wrap64 (a1 + 1))) else (none)) else (none)) = some (r1, r2) := by rw [if_neg (show ¬ (false = true) by decide)] at H; exact H
                clear H
                have H := H1
                clear H1
                by_cases c53 : 0 ≤ a1
                · rw [if_pos c53] at H
                  have c53b0 : decide (0 ≤ a1) = true := decide_eq_true c53
                  clear c53
                  by_cases c54 : a1 < (a0.size : Int)
                  · rw [if_pos c54] at H
                    have c54b0 : decide (a1 < (a0.size : Int)) = true := decide_eq_true c54
                    clear c54
                    simp only [Option.some.injEq, Prod.mk.injEq] at H
                    obtain ⟨rfl, rfl⟩ := H
                    have p55 : 0 ≤ (a1 : Int) := of_decide_eq_true (by first | (with_reducible assumption) | assumption)
                    have q55 : a1 < (a0.size : Int) := of_decide_eq_true (by first | (with_reducible assumption) | assumption)
                    have hx55 := bt_at a0 a1
                    replace p55 := eq_true p55
                    replace q55 := eq_true q55
                    go_wp2
                    go_ret2
                    exact ⟨by first | rfl | (simp; done) | (simp [*]; done) | (refine congrArg Value.bool ?_; generalize ByteArray.toList _ = z_; cases z_ <;> rfl), by repeat (first | exact Drawn0.refl _ | apply Drawn0.step)⟩
                  · rw [if_neg c54] at H
                    exact absurd H (by simp)
                · rw [if_neg c53] at H
                  exact absurd H (by simp)

end Go.Proofs.YtjpcbflkgldokaaDoor.PA
