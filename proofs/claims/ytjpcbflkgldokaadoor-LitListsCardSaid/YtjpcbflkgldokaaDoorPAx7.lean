/- Written by a program of this session, wip/tools/patch_print.py, over the kit's print of the loaded functions. -/
import Derived.Test.YtjpcbflkgldokaaDoorPAx0
import Derived.Test.YtjpcbflkgldokaaDoorPAx2
import Derived.Test.YtjpcbflkgldokaaDoorPAx3
namespace Go.Proofs.YtjpcbflkgldokaaDoor.H
end Go.Proofs.YtjpcbflkgldokaaDoor.H
namespace Go.Proofs.YtjpcbflkgldokaaDoor.PA
open Go.RowKit Go.Proofs.YtjpcbflkgldokaaDoorW.PrintWords Go.Proofs.YtjpcbflkgldokaaDoorW.PrintLast Go.Proofs.YtjpcbflkgldokaaDoorW.PrintMore Go.Proofs.YtjpcbflkgldokaaDoor.H
attribute [local go_sem] max2_int min2_int max_two min_two max_three min_three max_four min_four   -- for this text's walks alone
set_option linter.unusedVariables false
set_option linter.unusedSimpArgs false

/-! ### gudgeonlaw07_LitHex: function 6 -/
mutual
def gudgeonlaw07_LitHex.j0 : Nat → Int → Bool → Int → Bool → Bool → Option (Bool)
  | 0, _, _, _, _, _ => none
  | k + 1, x0, x1, x2, x7, x31 => if x31 = true then (some x7) else (if x1 = true then (gudgeonlaw07_LitHex.j1 k x0 x2 (⟨#[48, 49, 50, 51, 52, 53, 54, 55, 56, 57, 65, 66, 67, 68, 69, 70]⟩ : ByteArray)) else (gudgeonlaw07_LitHex.j1 k x0 x2 (⟨#[48, 49, 50, 51, 52, 53, 54, 55, 56, 57, 97, 98, 99, 100, 101, 102]⟩ : ByteArray)))
def gudgeonlaw07_LitHex.j1 : Nat → Int → Int → ByteArray → Option (Bool)
  | 0, _, _, _ => none
  | k + 1, x0, x2, x8 => gudgeonlaw07_LitHex.l0 k x0 x2 x8 (⟨#[]⟩ : ByteArray) x0
def gudgeonlaw07_LitHex.l0 : Nat → Int → Int → ByteArray → ByteArray → Int → Option (Bool)
  | 0, _, _, _, _, _ => none
  | k + 1, x0, x2, x8, x9, x10 => if x10 > 0 then (if 0 ≤ (Int.tmod x10 16) then (if (Int.tmod x10 16) ≤ (wrap64 ((Int.tmod x10 16) + 1)) then (if (wrap64 ((Int.tmod x10 16) + 1)) ≤ (x8.size : Int) then (if (((wrap64 ((Int.tmod x10 16) + 1)) : Int).toNat - ((Int.tmod x10 16) : Int).toNat) + x9.size ≤ 9223372036854775807 then (gudgeonlaw07_LitHex.l0 k x0 x2 x8 ((x8.extract ((Int.tmod x10 16) : Int).toNat ((wrap64 ((Int.tmod x10 16) + 1)) : Int).toNat) ++ x9) (wrap64 (Int.tdiv x10 16))) else (none)) else (none)) else (none)) else (none)) else (if x9.toList = ([] : List UInt8) then (if 0 ≤ (Int.tmod x10 16) then (if (Int.tmod x10 16) ≤ (wrap64 ((Int.tmod x10 16) + 1)) then (if (wrap64 ((Int.tmod x10 16) + 1)) ≤ (x8.size : Int) then (if (((wrap64 ((Int.tmod x10 16) + 1)) : Int).toNat - ((Int.tmod x10 16) : Int).toNat) + x9.size ≤ 9223372036854775807 then (gudgeonlaw07_LitHex.l0 k x0 x2 x8 ((x8.extract ((Int.tmod x10 16) : Int).toNat ((wrap64 ((Int.tmod x10 16) + 1)) : Int).toNat) ++ x9) (wrap64 (Int.tdiv x10 16))) else (none)) else (none)) else (none)) else (none)) else (gudgeonlaw07_LitHex.l1 k x0 x2 x9))
def gudgeonlaw07_LitHex.l1 : Nat → Int → Int → ByteArray → Option (Bool)
  | 0, _, _, _ => none
  | k + 1, x0, x2, x9 => if (x9.size : Int) < x2 then (if 1 + x9.size ≤ 9223372036854775807 then (gudgeonlaw07_LitHex.l1 k x0 x2 ((⟨#[48]⟩ : ByteArray) ++ x9)) else (none)) else (if 3 + x9.size ≤ 9223372036854775807 then (if 3 + x9.size + 1 ≤ 9223372036854775807 then ((lit_Points.f k (((⟨#[92, 117, 123]⟩ : ByteArray) ++ x9) ++ (⟨#[125]⟩ : ByteArray))).bind fun t191 => ((gudgeonref07_Ints.f k t191 (([x0] : List Int))).bind fun t197 => (gudgeonlaw07_LitHex.l2 k x0 x9 t197))) else (none)) else (none))
def gudgeonlaw07_LitHex.l2 : Nat → Int → ByteArray → Bool → Option (Bool)
  | 0, _, _, _ => none
  | k + 1, x0, x9, x11 => if (x9.size : Int) < 4 then (if 1 + x9.size ≤ 9223372036854775807 then (gudgeonlaw07_LitHex.l2 k x0 ((⟨#[48]⟩ : ByteArray) ++ x9) x11) else (none)) else (if ((x9.size : Int) > 4) then (if x11 = true then (some (decide ((x9.size : Int) > 4))) else (some false)) else (if 2 + x9.size ≤ 9223372036854775807 then ((lit_Points.f k ((⟨#[92, 117]⟩ : ByteArray) ++ x9)).bind fun t198 => ((gudgeonref07_Ints.f k t198 (([x0] : List Int))).bind fun t204 => (if x11 = true then (some t204) else (some false)))) else (none)))
end
def gudgeonlaw07_LitHex.f (k : Nat) (a0 : Int) (a1 : Bool) (a2 : Int) : Option (Bool) := (gudgeonlaw07_awake.f k).bind fun t190 => (if t190 = true then (if a0 < 0 then (gudgeonlaw07_LitHex.j0 k a0 a1 a2 t190 true) else (if a0 > 196607 then (gudgeonlaw07_LitHex.j0 k a0 a1 a2 t190 true) else (if a2 < 0 then (gudgeonlaw07_LitHex.j0 k a0 a1 a2 t190 true) else (gudgeonlaw07_LitHex.j0 k a0 a1 a2 t190 (decide (a2 > 5)))))) else (gudgeonlaw07_LitHex.j0 k a0 a1 a2 t190 true))
theorem gudgeonlaw07_LitHex.mono_l : ∀ k, (∀ y0 y1 y2 y3 y4, LeO (gudgeonlaw07_LitHex.j0 k y0 y1 y2 y3 y4) (gudgeonlaw07_LitHex.j0 (k + 1) y0 y1 y2 y3 y4)) ∧ (∀ y0 y1 y2, LeO (gudgeonlaw07_LitHex.j1 k y0 y1 y2) (gudgeonlaw07_LitHex.j1 (k + 1) y0 y1 y2)) ∧ (∀ y0 y1 y2 y3 y4, LeO (gudgeonlaw07_LitHex.l0 k y0 y1 y2 y3 y4) (gudgeonlaw07_LitHex.l0 (k + 1) y0 y1 y2 y3 y4)) ∧ (∀ y0 y1 y2, LeO (gudgeonlaw07_LitHex.l1 k y0 y1 y2) (gudgeonlaw07_LitHex.l1 (k + 1) y0 y1 y2)) ∧ (∀ y0 y1 y2, LeO (gudgeonlaw07_LitHex.l2 k y0 y1 y2) (gudgeonlaw07_LitHex.l2 (k + 1) y0 y1 y2))
  | 0 => ⟨fun _ _ _ _ _ r h => by simp [gudgeonlaw07_LitHex.j0] at h, fun _ _ _ r h => by simp [gudgeonlaw07_LitHex.j1] at h, fun _ _ _ _ _ r h => by simp [gudgeonlaw07_LitHex.l0] at h, fun _ _ _ r h => by simp [gudgeonlaw07_LitHex.l1] at h, fun _ _ _ r h => by simp [gudgeonlaw07_LitHex.l2] at h⟩
  | k + 1 => by
    obtain ⟨ih0, ih1, ih2, ih3, ih4⟩ := gudgeonlaw07_LitHex.mono_l k
    refine ⟨?_, ?_, ?_, ?_, ?_⟩
    · intro y0 y1 y2 y3 y4
      unfold gudgeonlaw07_LitHex.j0
      repeat' first
      | (with_reducible exact ih0 _ _ _ _ _)
      | (with_reducible exact ih1 _ _ _)
      | (with_reducible exact ih2 _ _ _ _ _)
      | (with_reducible exact ih3 _ _ _)
      | (with_reducible exact ih4 _ _ _)
      | (with_reducible exact gudgeonlaw07_awake.mono _)
      | (with_reducible exact gudgeonref07_Ints.mono _ _ _)
      | (with_reducible exact lit_Points.mono _ _)
      | (with_reducible exact LeO.refl _)
      | (with_reducible exact LeO.none _)
      | (with_reducible refine LeO.ite ?_ ?_)
      | (with_reducible refine LeO.bind ?_ (fun _ => ?_))
      | exact ih0 _ _ _ _ _
      | exact ih1 _ _ _
      | exact ih2 _ _ _ _ _
      | exact ih3 _ _ _
      | exact ih4 _ _ _
      | exact gudgeonlaw07_awake.mono _
      | exact gudgeonref07_Ints.mono _ _ _
      | exact lit_Points.mono _ _
      | exact LeO.none _
      | refine LeO.ite ?_ ?_
      | refine LeO.bind ?_ (fun _ => ?_)
    · intro y0 y1 y2
      unfold gudgeonlaw07_LitHex.j1
      repeat' first
      | (with_reducible exact ih0 _ _ _ _ _)
      | (with_reducible exact ih1 _ _ _)
      | (with_reducible exact ih2 _ _ _ _ _)
      | (with_reducible exact ih3 _ _ _)
      | (with_reducible exact ih4 _ _ _)
      | (with_reducible exact gudgeonlaw07_awake.mono _)
      | (with_reducible exact gudgeonref07_Ints.mono _ _ _)
      | (with_reducible exact lit_Points.mono _ _)
      | (with_reducible exact LeO.refl _)
      | (with_reducible exact LeO.none _)
      | (with_reducible refine LeO.ite ?_ ?_)
      | (with_reducible refine LeO.bind ?_ (fun _ => ?_))
      | exact ih0 _ _ _ _ _
      | exact ih1 _ _ _
      | exact ih2 _ _ _ _ _
      | exact ih3 _ _ _
      | exact ih4 _ _ _
      | exact gudgeonlaw07_awake.mono _
      | exact gudgeonref07_Ints.mono _ _ _
      | exact lit_Points.mono _ _
      | exact LeO.none _
      | refine LeO.ite ?_ ?_
      | refine LeO.bind ?_ (fun _ => ?_)
    · intro y0 y1 y2 y3 y4
      unfold gudgeonlaw07_LitHex.l0
      repeat' first
      | (with_reducible exact ih0 _ _ _ _ _)
      | (with_reducible exact ih1 _ _ _)
      | (with_reducible exact ih2 _ _ _ _ _)
      | (with_reducible exact ih3 _ _ _)
      | (with_reducible exact ih4 _ _ _)
      | (with_reducible exact gudgeonlaw07_awake.mono _)
      | (with_reducible exact gudgeonref07_Ints.mono _ _ _)
      | (with_reducible exact lit_Points.mono _ _)
      | (with_reducible exact LeO.refl _)
      | (with_reducible exact LeO.none _)
      | (with_reducible refine LeO.ite ?_ ?_)
      | (with_reducible refine LeO.bind ?_ (fun _ => ?_))
      | exact ih0 _ _ _ _ _
      | exact ih1 _ _ _
      | exact ih2 _ _ _ _ _
      | exact ih3 _ _ _
      | exact ih4 _ _ _
      | exact gudgeonlaw07_awake.mono _
      | exact gudgeonref07_Ints.mono _ _ _
      | exact lit_Points.mono _ _
      | exact LeO.none _
      | refine LeO.ite ?_ ?_
      | refine LeO.bind ?_ (fun _ => ?_)
    · intro y0 y1 y2
      unfold gudgeonlaw07_LitHex.l1
      repeat' first
      | (with_reducible exact ih0 _ _ _ _ _)
      | (with_reducible exact ih1 _ _ _)
      | (with_reducible exact ih2 _ _ _ _ _)
      | (with_reducible exact ih3 _ _ _)
      | (with_reducible exact ih4 _ _ _)
      | (with_reducible exact gudgeonlaw07_awake.mono _)
      | (with_reducible exact gudgeonref07_Ints.mono _ _ _)
      | (with_reducible exact lit_Points.mono _ _)
      | (with_reducible exact LeO.refl _)
      | (with_reducible exact LeO.none _)
      | (with_reducible refine LeO.ite ?_ ?_)
      | (with_reducible refine LeO.bind ?_ (fun _ => ?_))
      | exact ih0 _ _ _ _ _
      | exact ih1 _ _ _
      | exact ih2 _ _ _ _ _
      | exact ih3 _ _ _
      | exact ih4 _ _ _
      | exact gudgeonlaw07_awake.mono _
      | exact gudgeonref07_Ints.mono _ _ _
      | exact lit_Points.mono _ _
      | exact LeO.none _
      | refine LeO.ite ?_ ?_
      | refine LeO.bind ?_ (fun _ => ?_)
    · intro y0 y1 y2
      unfold gudgeonlaw07_LitHex.l2
      repeat' first
      | (with_reducible exact ih0 _ _ _ _ _)
      | (with_reducible exact ih1 _ _ _)
      | (with_reducible exact ih2 _ _ _ _ _)
      | (with_reducible exact ih3 _ _ _)
      | (with_reducible exact ih4 _ _ _)
      | (with_reducible exact gudgeonlaw07_awake.mono _)
      | (with_reducible exact gudgeonref07_Ints.mono _ _ _)
      | (with_reducible exact lit_Points.mono _ _)
      | (with_reducible exact LeO.refl _)
      | (with_reducible exact LeO.none _)
      | (with_reducible refine LeO.ite ?_ ?_)
      | (with_reducible refine LeO.bind ?_ (fun _ => ?_))
      | exact ih0 _ _ _ _ _
      | exact ih1 _ _ _
      | exact ih2 _ _ _ _ _
      | exact ih3 _ _ _
      | exact ih4 _ _ _
      | exact gudgeonlaw07_awake.mono _
      | exact gudgeonref07_Ints.mono _ _ _
      | exact lit_Points.mono _ _
      | exact LeO.none _
      | refine LeO.ite ?_ ?_
      | refine LeO.bind ?_ (fun _ => ?_)
theorem gudgeonlaw07_LitHex.mono : ∀ a0 a1 a2 k, LeO (gudgeonlaw07_LitHex.f k a0 a1 a2) (gudgeonlaw07_LitHex.f (k + 1) a0 a1 a2) := by
  intro a0 a1 a2 k
  obtain ⟨ih0, ih1, ih2, ih3, ih4⟩ := gudgeonlaw07_LitHex.mono_l k
  unfold gudgeonlaw07_LitHex.f
  repeat' first
      | (with_reducible exact ih0 _ _ _ _ _)
      | (with_reducible exact ih1 _ _ _)
      | (with_reducible exact ih2 _ _ _ _ _)
      | (with_reducible exact ih3 _ _ _)
      | (with_reducible exact ih4 _ _ _)
      | (with_reducible exact gudgeonlaw07_awake.mono _)
      | (with_reducible exact gudgeonref07_Ints.mono _ _ _)
      | (with_reducible exact lit_Points.mono _ _)
      | (with_reducible exact LeO.refl _)
      | (with_reducible exact LeO.none _)
      | (with_reducible refine LeO.ite ?_ ?_)
      | (with_reducible refine LeO.bind ?_ (fun _ => ?_))
      | exact ih0 _ _ _ _ _
      | exact ih1 _ _ _
      | exact ih2 _ _ _ _ _
      | exact ih3 _ _ _
      | exact ih4 _ _ _
      | exact gudgeonlaw07_awake.mono _
      | exact gudgeonref07_Ints.mono _ _ _
      | exact lit_Points.mono _ _
      | exact LeO.none _
      | refine LeO.ite ?_ ?_
      | refine LeO.bind ?_ (fun _ => ?_)
set_option maxHeartbeats 8000000 in
set_option maxRecDepth 100000 in
theorem gudgeonlaw07_LitHex.calls (k : Nat) (a0 : Int) (a1 : Bool) (a2 : Int) (r : Bool) (w : World) (hG : Glob w) (h : gudgeonlaw07_LitHex.f k a0 a1 a2 = some r) :
    Calls Tryd.prog 6 #[.int .i64 a0, .bool a1, .int .i64 a2] w fun e w' => e = .returned (.bool r) ∧ Below w.heap.size w w' := by
  have HG := Aside0.mk hG
  clear hG
  have HB := Aside0.mk (Below.refl w.heap.size w)
  have H : ((gudgeonlaw07_awake.f k).bind fun t190 => (if t190 = true then (if a0 < 0 then (gudgeonlaw07_LitHex.j0 k a0 a1 a2 t190 true) else (if a0 > 196607 then (gudgeonlaw07_LitHex.j0 k a0 a1 a2 t190 true) else (if a2 < 0 then (gudgeonlaw07_LitHex.j0 k a0 a1 a2 t190 true) else (gudgeonlaw07_LitHex.j0 k a0 a1 a2 t190 (decide (a2 > 5)))))) else (gudgeonlaw07_LitHex.j0 k a0 a1 a2 t190 true))) = some r := h
  clear h
  replace H := Option.bind_eq_some_iff.mp H
  obtain ⟨t190, A40, H⟩ := H
  replace H : (if t190 = true then (if a0 < 0 then (gudgeonlaw07_LitHex.j0 k a0 a1 a2 t190 true) else (if a0 > 196607 then (gudgeonlaw07_LitHex.j0 k a0 a1 a2 t190 true) else (if a2 < 0 then (gudgeonlaw07_LitHex.j0 k a0 a1 a2 t190 true) else (gudgeonlaw07_LitHex.j0 k a0 a1 a2 t190 (decide (a2 > 5)))))) else (gudgeonlaw07_LitHex.j0 k a0 a1 a2 t190 true)) = some r := H
  have A4 := Aside0.mk A40
  clear A40
  have HC5 := Aside0.mk H
  clear H
  go_enter Tryd.func6, Tryd.ntmps6
  go_upto_region 2 with (first | ((with_reducible refine gate_callee (f := 10) rfl ?_); refine goesL_ (some 13) rfl rfl Tryd.func10 (by kernel_rfl) rfl #[] rfl (by (try simp only [List.map_toArray, List.map_cons, List.map_nil]); first | done | rfl | (simp only [List.length_drop, List.length_take]; rfl)) ?_; (with_reducible refine (gudgeonlaw07_awake.calls k  t190 _ ?side1 A4.out).mono ?_); (case side1 => exact Glob.below HG.out (by repeat (first | (with_reducible first | exact HB.out | apply below_alloc | apply pw_below_drewN | apply below_drew1) | exact HB.out))); rintro e w6 ⟨rfl, hb⟩; refine ⟨_, rfl, ?_⟩; have n0_ := Aside0.mk (below_step (by repeat (first | (with_reducible first | exact HB.out | apply below_alloc | apply pw_below_drewN | apply below_drew1) | exact HB.out)) hb); clear HB; have HB := n0_; clear n0_; (try clear hb); (try clear hb2); (try clear hk); (try clear hi)))
  (try simp only [Act.put, List.setIfInBounds_toArray, List.set_cons_zero, List.set_cons_succ])
  go_cut [31] (fun v31 wc => ∃ (kq : Nat) (x31_4 : Bool), v31 = .bool x31_4 ∧ Aside0 (gudgeonlaw07_LitHex.j0 kq a0 a1 a2 t190 x31_4 = some r) ∧ Aside0 (kq ≤ k) ∧ Aside0 (Below w.heap.size w wc))
  case first =>
    have H := HC5.out
    clear HC5
    by_cases c7 : t190 = true
    · subst c7
      have H1 : (if a0 < 0 then (gudgeonlaw07_LitHex.j0 k a0 a1 a2 true true) else (if a0 > 196607 then (gudgeonlaw07_LitHex.j0 k a0 a1 a2 true true) else (if a2 < 0 then (gudgeonlaw07_LitHex.j0 k a0 a1 a2 true true) else (gudgeonlaw07_LitHex.j0 k a0 a1 a2 true (decide (a2 > 5)))))) = some r := by rw [if_pos rfl] at H; exact H
      clear H
      have H := H1
      clear H1
      by_cases c8 : a0 < 0
      · rw [if_pos c8] at H
        have c8b0 : decide (a0 < 0) = true := decide_eq_true c8
        clear c8
        (first | rw [c8b0] | (simp only [i64_w, i32_w]; rw [c8b0]) | skip)
        have H' := Aside0.mk H
        clear H
        go_wp2
        go_meet
        case rel => exact ⟨_, (true), (by first | rfl | (simp; done) | (simp [*]; done) | (refine congrArg Value.bool ?_; generalize ByteArray.toList _ = z_; cases z_ <;> rfl)), H', ⟨by first | omega | exact Nat.le_refl _⟩, ⟨by repeat (first | (with_reducible first | exact HB.out | apply below_alloc | apply pw_below_drewN | apply below_drew1) | exact HB.out)⟩⟩
      · rw [if_neg c8] at H
        have c8b0 : decide (a0 < 0) = false := decide_eq_false c8
        clear c8
        (first | rw [c8b0] | (simp only [i64_w, i32_w]; rw [c8b0]) | skip)
        by_cases c9 : a0 > 196607
        · rw [if_pos c9] at H
          have c9b0 : decide (196607 < a0) = true := decide_eq_true c9
          clear c9
          have H' := Aside0.mk H
          clear H
          go_wp2
          go_meet
          case rel => exact ⟨_, (true), (by first | rfl | (simp; done) | (simp [*]; done) | (refine congrArg Value.bool ?_; generalize ByteArray.toList _ = z_; cases z_ <;> rfl)), H', ⟨by first | omega | exact Nat.le_refl _⟩, ⟨by repeat (first | (with_reducible first | exact HB.out | apply below_alloc | apply pw_below_drewN | apply below_drew1) | exact HB.out)⟩⟩
        · rw [if_neg c9] at H
          have c9b0 : decide (196607 < a0) = false := decide_eq_false c9
          clear c9
          by_cases c10 : a2 < 0
          · rw [if_pos c10] at H
            have c10b0 : decide (a2 < 0) = true := decide_eq_true c10
            clear c10
            have H' := Aside0.mk H
            clear H
            go_wp2
            go_meet
            case rel => exact ⟨_, (true), (by first | rfl | (simp; done) | (simp [*]; done) | (refine congrArg Value.bool ?_; generalize ByteArray.toList _ = z_; cases z_ <;> rfl)), H', ⟨by first | omega | exact Nat.le_refl _⟩, ⟨by repeat (first | (with_reducible first | exact HB.out | apply below_alloc | apply pw_below_drewN | apply below_drew1) | exact HB.out)⟩⟩
          · rw [if_neg c10] at H
            have c10b0 : decide (a2 < 0) = false := decide_eq_false c10
            clear c10
            have H' := Aside0.mk H
            clear H
            go_wp2
            go_meet
            case rel => exact ⟨_, (decide (a2 > 5)), (by first | rfl | (simp; done) | (simp [*]; done) | (refine congrArg Value.bool ?_; generalize ByteArray.toList _ = z_; cases z_ <;> rfl)), H', ⟨by first | omega | exact Nat.le_refl _⟩, ⟨by repeat (first | (with_reducible first | exact HB.out | apply below_alloc | apply pw_below_drewN | apply below_drew1) | exact HB.out)⟩⟩
    · replace c7 := Bool.eq_false_iff.mpr c7
      subst c7
      have H1 : (gudgeonlaw07_LitHex.j0 k a0 a1 a2 false true) = some r := by rw [if_neg (show ¬ (false = true) by decide)] at H; exact H
      clear H
      have H := H1
      clear H1
      have H' := Aside0.mk H
      clear H
      go_wp2
      go_meet
      case rel => exact ⟨_, (true), (by first | rfl | (simp; done) | (simp [*]; done) | (refine congrArg Value.bool ?_; generalize ByteArray.toList _ = z_; cases z_ <;> rfl)), H', ⟨by first | omega | exact Nat.le_refl _⟩, ⟨by repeat (first | (with_reducible first | exact HB.out | apply below_alloc | apply pw_below_drewN | apply below_drew1) | exact HB.out)⟩⟩
  case rest =>
    clear HC5
    try clear c1
    try clear p2
    try clear c6
    try clear c7
    try clear c8
    try clear c8b0
    try clear c9
    try clear c9b0
    try clear c10
    try clear c10b0
    obtain ⟨kq, x31_4, rfl, HA, HJ4, HB⟩ := hcut
    cases kq with
    | zero => exact absurd HA.out (by simp [gudgeonlaw07_LitHex.j0])
    | succ kj4 =>
      have H := HA.out
      clear HA
      simp only [gudgeonlaw07_LitHex.j0] at H
      by_cases c11 : x31_4 = true
      · subst c11
        have H1 : (some t190) = some r := by rw [if_pos rfl] at H; exact H
        clear H
        have H := H1
        clear H1
        obtain rfl := Option.some.inj H
        go_wp2
        go_ret
        exact ⟨by first | rfl | (simp [errW_none, errW_some] <;> rfl) | (simp [*, errW_none, errW_some] <;> rfl), by repeat (first | (with_reducible first | exact HB.out | apply below_alloc | apply pw_below_drewN | apply below_drew1) | exact HB.out)⟩
      · replace c11 := Bool.eq_false_iff.mpr c11
        subst c11
        have H1 : (if a1 = true then (gudgeonlaw07_LitHex.j1 kj4 a0 a2 (⟨#[48, 49, 50, 51, 52, 53, 54, 55, 56, 57, 65, 66, 67, 68, 69, 70]⟩ : ByteArray)) else (gudgeonlaw07_LitHex.j1 kj4 a0 a2 (⟨#[48, 49, 50, 51, 52, 53, 54, 55, 56, 57, 97, 98, 99, 100, 101, 102]⟩ : ByteArray))) = some r := by rw [if_neg (show ¬ (false = true) by decide)] at H; exact H
        clear H
        have H := H1
        clear H1
        have HC12 := Aside0.mk H
        clear H
        go_upto_if 33 with (fail)
        go_cut [8] (fun v8 wc => ∃ (kq : Nat) (x8_11 : ByteArray), v8 = .string x8_11 ∧ Aside0 (gudgeonlaw07_LitHex.j1 kq a0 a2 x8_11 = some r) ∧ Aside0 (kq ≤ kj4) ∧ Aside0 (Below w.heap.size w wc))
        case first =>
          have H := HC12.out
          clear HC12
          by_cases c13 : a1 = true
          · subst c13
            have H1 : (gudgeonlaw07_LitHex.j1 kj4 a0 a2 (⟨#[48, 49, 50, 51, 52, 53, 54, 55, 56, 57, 65, 66, 67, 68, 69, 70]⟩ : ByteArray)) = some r := by rw [if_pos rfl] at H; exact H
            clear H
            have H := H1
            clear H1
            have H' := Aside0.mk H
            clear H
            go_wp2
            go_meet
            case rel => exact ⟨_, ((⟨#[48, 49, 50, 51, 52, 53, 54, 55, 56, 57, 65, 66, 67, 68, 69, 70]⟩ : ByteArray)), (by first | rfl | (simp; done) | (simp [*]; done) | (refine congrArg Value.bool ?_; generalize ByteArray.toList _ = z_; cases z_ <;> rfl)), H', ⟨by have := HJ4.out; first | omega | exact Nat.le_refl _⟩, ⟨by repeat (first | (with_reducible first | exact HB.out | apply below_alloc | apply pw_below_drewN | apply below_drew1) | exact HB.out)⟩⟩
          · replace c13 := Bool.eq_false_iff.mpr c13
            subst c13
            have H1 : (gudgeonlaw07_LitHex.j1 kj4 a0 a2 (⟨#[48, 49, 50, 51, 52, 53, 54, 55, 56, 57, 97, 98, 99, 100, 101, 102]⟩ : ByteArray)) = some r := by rw [if_neg (show ¬ (false = true) by decide)] at H; exact H
            clear H
            have H := H1
            clear H1
            have H' := Aside0.mk H
            clear H
            go_wp2
            go_meet
            case rel => exact ⟨_, ((⟨#[48, 49, 50, 51, 52, 53, 54, 55, 56, 57, 97, 98, 99, 100, 101, 102]⟩ : ByteArray)), (by first | rfl | (simp; done) | (simp [*]; done) | (refine congrArg Value.bool ?_; generalize ByteArray.toList _ = z_; cases z_ <;> rfl)), H', ⟨by have := HJ4.out; first | omega | exact Nat.le_refl _⟩, ⟨by repeat (first | (with_reducible first | exact HB.out | apply below_alloc | apply pw_below_drewN | apply below_drew1) | exact HB.out)⟩⟩
        case rest =>
          clear HC12
          try clear c1
          try clear p2
          try clear c6
          try clear c7
          try clear c8
          try clear c8b0
          try clear c9
          try clear c9b0
          try clear c10
          try clear c10b0
          try clear c11
          try clear c13
          try clear p2
          obtain ⟨kq, x8_11, rfl, HA, HJ11, HB⟩ := hcut
          cases kq with
          | zero => exact absurd HA.out (by simp [gudgeonlaw07_LitHex.j1])
          | succ kj11 =>
            have H := HA.out
            clear HA
            simp only [gudgeonlaw07_LitHex.j1] at H
            have H' := Aside0.mk H
            clear H
            go_wp2
            go_loopg [9, 10] kj11 (fun kq v9 v10 w' => ∃ (x9_3 : ByteArray) (x10_3 : Int), v9 = .string x9_3 ∧ v10 = .int .i64 x10_3 ∧ Aside0 (gudgeonlaw07_LitHex.l0 kq a0 a2 x8_11 x9_3 x10_3 = some r) ∧ Aside0 (kq ≤ kj11) ∧ Aside0 (Below w.heap.size w w'))
            case atStart => exact ⟨((⟨#[]⟩ : ByteArray)), (a0), (by first | rfl | (simp; done) | (simp [*]; done) | (refine congrArg Value.bool ?_; generalize ByteArray.toList _ = z_; cases z_ <;> rfl)), (by first | rfl | (simp; done) | (simp [*]; done) | (refine congrArg Value.bool ?_; generalize ByteArray.toList _ = z_; cases z_ <;> rfl)), H', ⟨Nat.le_refl _⟩, ⟨by repeat (first | (with_reducible first | exact HB.out | apply below_alloc | apply pw_below_drewN | apply below_drew1) | exact HB.out)⟩⟩
            case round =>
              clear H'
              try clear c1
              try clear p2
              try clear c6
              try clear c7
              try clear c8
              try clear c8b0
              try clear c9
              try clear c9b0
              try clear c10
              try clear c10b0
              try clear c11
              try clear c13
              try clear p2
              obtain ⟨x9_3, x10_3, rfl, rfl, HA, HK3, HB⟩ := hrel
              cases gk with
              | zero => exact absurd HA.out (by simp [gudgeonlaw07_LitHex.l0])
              | succ k3 =>
                have H := HA.out
                clear HA
                simp only [gudgeonlaw07_LitHex.l0] at H
                by_cases c14 : x10_3 > 0
                · rw [if_pos c14] at H
                  have c14b0 : decide (0 < x10_3) = true := decide_eq_true c14
                  clear c14
                  obtain ⟨ji15, hji15⟩ : ∃ j_ : Int, (Int.tmod x10_3 16) = j_ := ⟨_, rfl⟩
                  replace H : (if 0 ≤ (ji15) then (if (ji15) ≤ (wrap64 ((ji15) + 1)) then (if (wrap64 ((ji15) + 1)) ≤ (x8_11.size : Int) then (if (((wrap64 ((ji15) + 1)) : Int).toNat - ((ji15) : Int).toNat) + x9_3.size ≤ 9223372036854775807 then (gudgeonlaw07_LitHex.l0 k3 a0 a2 x8_11 ((x8_11.extract ((ji15) : Int).toNat ((wrap64 ((ji15) + 1)) : Int).toNat) ++ x9_3) (wrap64 (Int.tdiv x10_3 16))) else (none)) else (none)) else (none)) else (none)) = some r := by first | (rw [hji15] at H; exact H) | (simp only [hji15] at H ⊢; exact H)
                  by_cases c16 : 0 ≤ (ji15)
                  · rw [if_pos c16] at H
                    have c16b0 := eq_true c16
                    have c16b1 : decide (0 ≤ (ji15)) = true := decide_eq_true c16
                    clear c16
                    by_cases c17 : (ji15) ≤ (wrap64 ((ji15) + 1))
                    · rw [if_pos c17] at H
                      have c17b0 := eq_true c17
                      have c17b1 : decide ((ji15) ≤ (wrap64 ((ji15) + 1))) = true := decide_eq_true c17
                      by_cases c18 : (wrap64 ((ji15) + 1)) ≤ (x8_11.size : Int)
                      · rw [if_pos c18] at H
                        have c18b0 := eq_true c18
                        have c18b1 : decide ((wrap64 ((ji15) + 1)) ≤ (x8_11.size : Int)) = true := decide_eq_true c18
                        by_cases c19 : (((wrap64 ((ji15) + 1)) : Int).toNat - ((ji15) : Int).toNat) + x9_3.size ≤ 9223372036854775807
                        · rw [if_pos c19] at H
                          have c19b0 := eq_true c19
                          have c19b1 : decide ((((wrap64 ((ji15) + 1)) : Int).toNat - ((ji15) : Int).toNat) + x9_3.size ≤ 9223372036854775807) = true := decide_eq_true c19
                          try have c19b2 : (9223372036854775807 < (((wrap64 ((ji15) + 1)) : Int).toNat - ((ji15) : Int).toNat) + x9_3.size) = False := eq_false (Nat.not_lt.2 c19)
                          have H' := Aside0.mk H
                          clear H
                          go_wp2
                          go_roundg k3
                          case measure => have := HJ4.out; have := HJ11.out; have := HK3.out; omega
                          case rel => exact ⟨((x8_11.extract ((ji15) : Int).toNat ((wrap64 ((ji15) + 1)) : Int).toNat) ++ x9_3), (wrap64 (Int.tdiv x10_3 16)), (by first | rfl | (simp; done) | (simp only [← hji15] <;> (first | rfl | simp)) | (simp [*]; done)), (by first | rfl | (simp; done) | (simp [*]; done) | (refine congrArg Value.bool ?_; generalize ByteArray.toList _ = z_; cases z_ <;> rfl)), H', ⟨by have := HJ4.out; have := HJ11.out; have := HK3.out; omega⟩, ⟨by repeat (first | (with_reducible first | exact HB.out | apply below_alloc | apply pw_below_drewN | apply below_drew1) | exact HB.out)⟩⟩
                        · rw [if_neg c19] at H
                          exact absurd H (by simp)
                      · rw [if_neg c18] at H
                        exact absurd H (by simp)
                    · rw [if_neg c17] at H
                      exact absurd H (by simp)
                  · rw [if_neg c16] at H
                    exact absurd H (by simp)
                · rw [if_neg c14] at H
                  have c14b0 : decide (0 < x10_3) = false := decide_eq_false c14
                  clear c14
                  by_cases c20 : x9_3.toList = ([] : List UInt8)
                  · rw [if_pos c20] at H
                    have c20b0 : (x9_3.toList == ([] : List UInt8)) = true := beq_iff_eq.mpr c20
                    have c20b1 : (x9_3.toList != ([] : List UInt8)) = false := bne_eq_false_iff_eq.mpr c20
                    clear c20
                    obtain ⟨ji21, hji21⟩ : ∃ j_ : Int, (Int.tmod x10_3 16) = j_ := ⟨_, rfl⟩
                    replace H : (if 0 ≤ (ji21) then (if (ji21) ≤ (wrap64 ((ji21) + 1)) then (if (wrap64 ((ji21) + 1)) ≤ (x8_11.size : Int) then (if (((wrap64 ((ji21) + 1)) : Int).toNat - ((ji21) : Int).toNat) + x9_3.size ≤ 9223372036854775807 then (gudgeonlaw07_LitHex.l0 k3 a0 a2 x8_11 ((x8_11.extract ((ji21) : Int).toNat ((wrap64 ((ji21) + 1)) : Int).toNat) ++ x9_3) (wrap64 (Int.tdiv x10_3 16))) else (none)) else (none)) else (none)) else (none)) = some r := by first | (rw [hji21] at H; exact H) | (simp only [hji21] at H ⊢; exact H)
                    (try rw [hji21] at hji15)
                    (try rw [hji21] at hji15w)
                    by_cases c22 : 0 ≤ (ji21)
                    · rw [if_pos c22] at H
                      have c22b0 := eq_true c22
                      have c22b1 : decide (0 ≤ (ji21)) = true := decide_eq_true c22
                      clear c22
                      by_cases c23 : (ji21) ≤ (wrap64 ((ji21) + 1))
                      · rw [if_pos c23] at H
                        have c23b0 := eq_true c23
                        have c23b1 : decide ((ji21) ≤ (wrap64 ((ji21) + 1))) = true := decide_eq_true c23
                        by_cases c24 : (wrap64 ((ji21) + 1)) ≤ (x8_11.size : Int)
                        · rw [if_pos c24] at H
                          have c24b0 := eq_true c24
                          have c24b1 : decide ((wrap64 ((ji21) + 1)) ≤ (x8_11.size : Int)) = true := decide_eq_true c24
                          by_cases c25 : (((wrap64 ((ji21) + 1)) : Int).toNat - ((ji21) : Int).toNat) + x9_3.size ≤ 9223372036854775807
                          · rw [if_pos c25] at H
                            have c25b0 := eq_true c25
                            have c25b1 : decide ((((wrap64 ((ji21) + 1)) : Int).toNat - ((ji21) : Int).toNat) + x9_3.size ≤ 9223372036854775807) = true := decide_eq_true c25
                            try have c25b2 : (9223372036854775807 < (((wrap64 ((ji21) + 1)) : Int).toNat - ((ji21) : Int).toNat) + x9_3.size) = False := eq_false (Nat.not_lt.2 c25)
                            have H' := Aside0.mk H
                            clear H
                            go_wp2
                            go_roundg k3
                            case measure => have := HJ4.out; have := HJ11.out; have := HK3.out; omega
                            case rel => exact ⟨((x8_11.extract ((ji21) : Int).toNat ((wrap64 ((ji21) + 1)) : Int).toNat) ++ x9_3), (wrap64 (Int.tdiv x10_3 16)), (by first | rfl | (simp; done) | (simp only [← hji21] <;> (first | rfl | simp)) | (simp [*]; done)), (by first | rfl | (simp; done) | (simp [*]; done) | (refine congrArg Value.bool ?_; generalize ByteArray.toList _ = z_; cases z_ <;> rfl)), H', ⟨by have := HJ4.out; have := HJ11.out; have := HK3.out; omega⟩, ⟨by repeat (first | (with_reducible first | exact HB.out | apply below_alloc | apply pw_below_drewN | apply below_drew1) | exact HB.out)⟩⟩
                          · rw [if_neg c25] at H
                            exact absurd H (by simp)
                        · rw [if_neg c24] at H
                          exact absurd H (by simp)
                      · rw [if_neg c23] at H
                        exact absurd H (by simp)
                    · rw [if_neg c22] at H
                      exact absurd H (by simp)
                  · rw [if_neg c20] at H
                    have c20b0 : (x9_3.toList == ([] : List UInt8)) = false := beq_eq_false_iff_ne.mpr c20
                    have c20b1 : (x9_3.toList != ([] : List UInt8)) = true := bne_iff_ne.mpr c20
                    have H' := Aside0.mk H
                    clear H
                    go_wp2
                    go_loopg [9] k3 (fun kq v9 w' => ∃ (x9_4 : ByteArray), v9 = .string x9_4 ∧ Aside0 (gudgeonlaw07_LitHex.l1 kq a0 a2 x9_4 = some r) ∧ Aside0 (kq ≤ k3) ∧ Aside0 (Below w.heap.size w w'))
                    case atStart => exact ⟨(x9_3), (by first | rfl | (simp; done) | (simp [*]; done) | (refine congrArg Value.bool ?_; generalize ByteArray.toList _ = z_; cases z_ <;> rfl)), H', ⟨Nat.le_refl _⟩, ⟨by repeat (first | (with_reducible first | exact HB.out | apply below_alloc | apply pw_below_drewN | apply below_drew1) | exact HB.out)⟩⟩
                    case round =>
                      clear H'
                      try clear c1
                      try clear c2
                      try clear p2
                      try clear c6
                      try clear p6
                      try clear c7
                      try clear c8
                      try clear c8b0
                      try clear c9
                      try clear c9b0
                      try clear c10
                      try clear c10b0
                      try clear c11
                      try clear c13
                      try clear c14
                      try clear c14b0
                      try clear c16
                      try clear c16b0
                      try clear c16b1
                      try clear c17
                      try clear c17b0
                      try clear c17b1
                      try clear c18
                      try clear c18b0
                      try clear c18b1
                      try clear c19
                      try clear c19b0
                      try clear c19b1
                      try clear c19b2
                      try clear c20
                      try clear c20b0
                      try clear c20b1
                      try clear c22
                      try clear c22b0
                      try clear c22b1
                      try clear c23
                      try clear c23b0
                      try clear c23b1
                      try clear c24
                      try clear c24b0
                      try clear c24b1
                      try clear c25
                      try clear c25b0
                      try clear c25b1
                      try clear c25b2
                      try clear p2
                      obtain ⟨x9_4, rfl, HA, HK4, HB⟩ := hrel
                      cases gk with
                      | zero => exact absurd HA.out (by simp [gudgeonlaw07_LitHex.l1])
                      | succ k4 =>
                        have H := HA.out
                        clear HA
                        simp only [gudgeonlaw07_LitHex.l1] at H
                        by_cases c26 : (x9_4.size : Int) < a2
                        · rw [if_pos c26] at H
                          have c26b0 : decide ((x9_4.size : Int) < a2) = true := decide_eq_true c26
                          clear c26
                          by_cases c27 : 1 + x9_4.size ≤ 9223372036854775807
                          · rw [if_pos c27] at H
                            have c27b0 := eq_true c27
                            have c27b1 : decide (1 + x9_4.size ≤ 9223372036854775807) = true := decide_eq_true c27
                            try have c27b2 : (9223372036854775807 < 1 + x9_4.size) = False := eq_false (Nat.not_lt.2 c27)
                            have H' := Aside0.mk H
                            clear H
                            go_wp2
                            go_roundg k4
                            case measure => have := HJ4.out; have := HJ11.out; have := HK3.out; have := HK4.out; omega
                            case rel => exact ⟨((⟨#[48]⟩ : ByteArray) ++ x9_4), (by first | rfl | (simp; done) | (simp [*]; done) | (refine congrArg Value.bool ?_; generalize ByteArray.toList _ = z_; cases z_ <;> rfl)), H', ⟨by have := HJ4.out; have := HJ11.out; have := HK3.out; have := HK4.out; omega⟩, ⟨by repeat (first | (with_reducible first | exact HB.out | apply below_alloc | apply pw_below_drewN | apply below_drew1) | exact HB.out)⟩⟩
                          · rw [if_neg c27] at H
                            exact absurd H (by simp)
                        · rw [if_neg c26] at H
                          have c26b0 : decide ((x9_4.size : Int) < a2) = false := decide_eq_false c26
                          clear c26
                          by_cases c28 : 3 + x9_4.size ≤ 9223372036854775807
                          · rw [if_pos c28] at H
                            have c28b0 := eq_true c28
                            have c28b1 : decide (3 + x9_4.size ≤ 9223372036854775807) = true := decide_eq_true c28
                            try have c28b2 : (9223372036854775807 < 3 + x9_4.size) = False := eq_false (Nat.not_lt.2 c28)
                            by_cases c29 : 3 + x9_4.size + 1 ≤ 9223372036854775807
                            · rw [if_pos c29] at H
                              have c29b0 := eq_true c29
                              have c29b1 : decide (3 + x9_4.size + 1 ≤ 9223372036854775807) = true := decide_eq_true c29
                              try have c29b2 : (9223372036854775807 < 3 + x9_4.size + 1) = False := eq_false (Nat.not_lt.2 c29)
                              replace H := Option.bind_eq_some_iff.mp H
                              obtain ⟨t191, A300, H⟩ := H
                              replace H : ((gudgeonref07_Ints.f k4 t191 (([a0] : List Int))).bind fun t197 => (gudgeonlaw07_LitHex.l2 k4 a0 x9_4 t197)) = some r := H
                              have A30 := Aside0.mk A300
                              clear A300
                              obtain ⟨y194, hy194⟩ : ∃ y_ : List Int, y_ = (([a0] : List Int)) := ⟨_, rfl⟩
                              replace H : ((gudgeonref07_Ints.f k4 t191 y194).bind fun t197 => (gudgeonlaw07_LitHex.l2 k4 a0 x9_4 t197)) = some r := by first | (rw [hy194]; with_reducible exact H) | (have H2_ := (Option.bind_some _ _).symm.trans H; rw [hy194]; with_reducible exact H2_) | (have H2_ := (Option.bind_some _ _).symm.trans H; with_reducible exact H2_) | with_reducible exact H | (rw [hy194]; exact H) | exact H
                              have Ny194 := Aside0.mk hy194
                              clear hy194
                              replace H := Option.bind_eq_some_iff.mp H
                              obtain ⟨t197, A310, H⟩ := H
                              replace H : (gudgeonlaw07_LitHex.l2 k4 a0 x9_4 t197) = some r := H
                              have A31 := Aside0.mk A310
                              clear A310
                              have H' := Aside0.mk H
                              clear H
                              go_wp2_with (first | ((with_reducible refine gate_callee (f := 12) rfl ?_); refine goesL_ (some 61) rfl rfl Tryd.func12 (by kernel_rfl) rfl #[.string (((⟨#[92, 117, 123]⟩ : ByteArray) ++ x9_4) ++ (⟨#[125]⟩ : ByteArray))] rfl (by (try simp only [List.map_toArray, List.map_cons, List.map_nil]); first | done | rfl | (simp only [List.length_drop, List.length_take]; rfl)) ?_; (with_reducible refine (lit_Points.calls k4 (((⟨#[92, 117, 123]⟩ : ByteArray) ++ x9_4) ++ (⟨#[125]⟩ : ByteArray)) t191 _ A30.out).mono ?_); rintro e w32 ⟨v192, rfl, ho0, hb⟩; refine ⟨_, rfl, ?_⟩; have n0_ := Aside0.mk (Kd.R_lower ho0 (below_size (by repeat (first | (with_reducible first | exact HB.out | apply below_alloc | apply pw_below_drewN | apply below_drew1) | exact HB.out)))); have n1_ := Aside0.mk (below_step (by repeat (first | (with_reducible first | exact HB.out | apply below_alloc | apply pw_below_drewN | apply below_drew1) | exact HB.out)) hb); clear HB; have HO193 := n0_; have HB := n1_; clear n0_ n1_; (try clear hb); (try clear hb2); (try clear hk); (try clear hi); (try clear ho0)) | ((with_reducible refine gate_dst (N := 63) rfl ?_); refine Kd.R_lit (Kd.int .i64) _ 3 ?hg (N := 63) ?hd (xs := ([a0] : List Int)) (inner := [.int .i64 a0]) (ok := fun _ => True) (okp := fun _ => True) ?hr ?hp (fun _ hk => hk) trivial (Below.refl _ _) (Nat.le_refl _) (by simp) ?_; (case hd => rfl); (case hg => rfl); (case hr => first | (go_simp; done) | (go_simp; rfl)); (case hp => exact (Reps.one (show Kd.M (Kd.int .i64) _ _ _ a0 [.int .i64 a0] from rfl) (Reps.none _ _))); intro v195 w33 ho34 hb hg_ hnew_; clear hg_ hnew_; (first | rw [← Ny194.out] at ho34 | (simp only [Int.reduceToNat] at ho34; rw [← Ny194.out] at ho34)); have n0_ := Aside0.mk (Kd.R_elder' (by (with_reducible repeat (first | apply Kd.R_alloc | apply Kd.R_drewN | apply Kd.R_drew)); exact HO193.out) (Kd.R_base ho34) hb); have n1_ := Aside0.mk (Kd.R_lower (Kd.R_new' ho34 (Kd.R_lt (by (with_reducible repeat (first | apply Kd.R_alloc | apply Kd.R_drewN | apply Kd.R_drew)); exact HO193.out))) (below_size (by repeat (first | (with_reducible first | exact HB.out | apply below_alloc | apply pw_below_drewN | apply below_drew1) | exact HB.out)))); have n2_ := Aside0.mk (below_step (by repeat (first | (with_reducible first | exact HB.out | apply below_alloc | apply pw_below_drewN | apply below_drew1) | exact HB.out)) hb); clear HO193; clear HB; have HO193 := n0_; have HO196 := n1_; have HB := n2_; clear n0_ n1_ n2_; clear hb ho34; obtain ⟨Ao35, co35, eo35⟩ := Kd.R_slice HO193.out; subst eo35; obtain ⟨Ao36, co36, eo36⟩ := Kd.R_slice HO196.out; subst eo36) | ((with_reducible refine gate_callee (f := 11) rfl ?_); refine goesL_ (some 64) rfl rfl Tryd.func11 (by kernel_rfl) rfl #[.slice Ao35 t191.length co35, .slice Ao36 y194.length co36] rfl (by (try simp only [List.map_toArray, List.map_cons, List.map_nil]); first | done | rfl | (simp only [List.length_drop, List.length_take]; rfl)) ?_; (with_reducible refine (gudgeonref07_Ints.calls k4 _ _ t191 _ _ y194 t197 _ ?side1 ?side2 ?side3 ?side4 A31.out).mono ?_); (case side1 => repeat (first | exact (Kd.R_reads' HO193.out).2.2 | (with_reducible refine Kd.C_alloc ?_ _) | (with_reducible refine Kd.C_drewN ?_ _) | (with_reducible refine Kd.C_drew ?_))); (case side2 => exact (Kd.R_reads' HO193.out).2.1); (case side3 => repeat (first | exact (Kd.R_reads' HO196.out).2.2 | (with_reducible refine Kd.C_alloc ?_ _) | (with_reducible refine Kd.C_drewN ?_ _) | (with_reducible refine Kd.C_drew ?_))); (case side4 => exact (Kd.R_reads' HO196.out).2.1); rintro e w' ⟨rfl, ⟨nd, rfl⟩⟩; refine ⟨_, rfl, ?_⟩))
                              go_loopg [9] k4 (fun kq v9 w' => ∃ (x9_5 : ByteArray), v9 = .string x9_5 ∧ Aside0 (gudgeonlaw07_LitHex.l2 kq a0 x9_5 t197 = some r) ∧ Aside0 (kq ≤ k4) ∧ Aside0 (Below w.heap.size w w'))
                              case atStart => exact ⟨(x9_4), (by first | rfl | (simp; done) | (simp [*]; done) | (refine congrArg Value.bool ?_; generalize ByteArray.toList _ = z_; cases z_ <;> rfl)), H', ⟨Nat.le_refl _⟩, ⟨by repeat (first | (with_reducible first | exact HB.out | apply below_alloc | apply pw_below_drewN | apply below_drew1) | exact HB.out)⟩⟩
                              case round =>
                                clear H'
                                try clear c1
                                try clear c2
                                try clear p2
                                try clear c6
                                try clear p6
                                try clear c7
                                try clear c8
                                try clear c8b0
                                try clear c9
                                try clear c9b0
                                try clear c10
                                try clear c10b0
                                try clear c11
                                try clear c12
                                try clear c13
                                try clear c14
                                try clear c14b0
                                try clear c16
                                try clear c16b0
                                try clear c16b1
                                try clear c17
                                try clear c17b0
                                try clear c17b1
                                try clear c18
                                try clear c18b0
                                try clear c18b1
                                try clear c19
                                try clear c19b0
                                try clear c19b1
                                try clear c19b2
                                try clear c20
                                try clear c20b0
                                try clear c20b1
                                try clear c22
                                try clear c22b0
                                try clear c22b1
                                try clear c23
                                try clear c23b0
                                try clear c23b1
                                try clear c24
                                try clear c24b0
                                try clear c24b1
                                try clear c25
                                try clear c25b0
                                try clear c25b1
                                try clear c25b2
                                try clear c26
                                try clear c26b0
                                try clear c27
                                try clear c27b0
                                try clear c27b1
                                try clear c27b2
                                try clear c28
                                try clear c28b0
                                try clear c28b1
                                try clear c28b2
                                try clear c29
                                try clear c29b0
                                try clear c29b1
                                try clear c29b2
                                try clear p2
                                try clear p6
                                obtain ⟨x9_5, rfl, HA, HK5, HB⟩ := hrel
                                cases gk with
                                | zero => exact absurd HA.out (by simp [gudgeonlaw07_LitHex.l2])
                                | succ k5 =>
                                  have H := HA.out
                                  clear HA
                                  simp only [gudgeonlaw07_LitHex.l2] at H
                                  by_cases c37 : (x9_5.size : Int) < 4
                                  · rw [if_pos c37] at H
                                    have c37b0 : decide ((x9_5.size : Int) < 4) = true := decide_eq_true c37
                                    have c37b1 : decide (x9_5.size < 4) = true := decide_eq_true (by omega)
                                    clear c37
                                    by_cases c38 : 1 + x9_5.size ≤ 9223372036854775807
                                    · rw [if_pos c38] at H
                                      have c38b0 := eq_true c38
                                      have c38b1 : decide (1 + x9_5.size ≤ 9223372036854775807) = true := decide_eq_true c38
                                      try have c38b2 : (9223372036854775807 < 1 + x9_5.size) = False := eq_false (Nat.not_lt.2 c38)
                                      have H' := Aside0.mk H
                                      clear H
                                      go_wp2
                                      go_roundg k5
                                      case measure => have := HJ4.out; have := HJ11.out; have := HK3.out; have := HK4.out; have := HK5.out; omega
                                      case rel => exact ⟨((⟨#[48]⟩ : ByteArray) ++ x9_5), (by first | rfl | (simp; done) | (simp [*]; done) | (refine congrArg Value.bool ?_; generalize ByteArray.toList _ = z_; cases z_ <;> rfl)), H', ⟨by have := HJ4.out; have := HJ11.out; have := HK3.out; have := HK4.out; have := HK5.out; omega⟩, ⟨by repeat (first | (with_reducible first | exact HB.out | apply below_alloc | apply pw_below_drewN | apply below_drew1) | exact HB.out)⟩⟩
                                    · rw [if_neg c38] at H
                                      exact absurd H (by simp)
                                  · rw [if_neg c37] at H
                                    have c37b0 : decide ((x9_5.size : Int) < 4) = false := decide_eq_false c37
                                    have c37b1 : decide (x9_5.size < 4) = false := decide_eq_false (by omega)
                                    clear c37
                                    by_cases c39 : ((x9_5.size : Int) > 4)
                                    · rw [if_pos c39] at H
                                      have c39b0 : decide (4 < (x9_5.size : Int)) = true := decide_eq_true c39
                                      have c39b1 : decide (4 < x9_5.size) = true := decide_eq_true (by omega)
                                      clear c39
                                      by_cases c40 : t197 = true
                                      · subst c40
                                        have H1 : (some (decide ((x9_5.size : Int) > 4))) = some r := by rw [if_pos rfl] at H; exact H
                                        clear H
                                        have H := H1
                                        clear H1
                                        obtain rfl := Option.some.inj H
                                        go_wp2
                                        go_ret
                                        exact ⟨by first | rfl | (simp [errW_none, errW_some] <;> rfl) | (simp [*, errW_none, errW_some] <;> rfl), by repeat (first | (with_reducible first | exact HB.out | apply below_alloc | apply pw_below_drewN | apply below_drew1) | exact HB.out)⟩
                                      · replace c40 := Bool.eq_false_iff.mpr c40
                                        subst c40
                                        have H1 : (some false) = some r := by rw [if_neg (show ¬ (false = true) by decide)] at H; exact H
                                        clear H
                                        have H := H1
                                        clear H1
                                        obtain rfl := Option.some.inj H
                                        go_wp2
                                        go_ret
                                        exact ⟨by first | rfl | (simp [errW_none, errW_some] <;> rfl) | (simp [*, errW_none, errW_some] <;> rfl), by repeat (first | (with_reducible first | exact HB.out | apply below_alloc | apply pw_below_drewN | apply below_drew1) | exact HB.out)⟩
                                    · rw [if_neg c39] at H
                                      have c39b0 : decide (4 < (x9_5.size : Int)) = false := decide_eq_false c39
                                      have c39b1 : decide (4 < x9_5.size) = false := decide_eq_false (by omega)
                                      clear c39
                                      by_cases c41 : 2 + x9_5.size ≤ 9223372036854775807
                                      · rw [if_pos c41] at H
                                        have c41b0 := eq_true c41
                                        have c41b1 : decide (2 + x9_5.size ≤ 9223372036854775807) = true := decide_eq_true c41
                                        try have c41b2 : (9223372036854775807 < 2 + x9_5.size) = False := eq_false (Nat.not_lt.2 c41)
                                        replace H := Option.bind_eq_some_iff.mp H
                                        obtain ⟨t198, A420, H⟩ := H
                                        replace H : ((gudgeonref07_Ints.f k5 t198 (([a0] : List Int))).bind fun t204 => (if t197 = true then (some t204) else (some false))) = some r := H
                                        have A42 := Aside0.mk A420
                                        clear A420
                                        obtain ⟨y201, hy201⟩ : ∃ y_ : List Int, y_ = (([a0] : List Int)) := ⟨_, rfl⟩
                                        replace H : ((gudgeonref07_Ints.f k5 t198 y201).bind fun t204 => (if t197 = true then (some t204) else (some false))) = some r := by first | (rw [hy201]; with_reducible exact H) | (have H2_ := (Option.bind_some _ _).symm.trans H; rw [hy201]; with_reducible exact H2_) | (have H2_ := (Option.bind_some _ _).symm.trans H; with_reducible exact H2_) | with_reducible exact H | (rw [hy201]; exact H) | exact H
                                        have Ny201 := Aside0.mk hy201
                                        clear hy201
                                        replace H := Option.bind_eq_some_iff.mp H
                                        obtain ⟨t204, A430, H⟩ := H
                                        replace H : (if t197 = true then (some t204) else (some false)) = some r := H
                                        have A43 := Aside0.mk A430
                                        clear A430
                                        by_cases c44 : t197 = true
                                        · subst c44
                                          have H1 : (some t204) = some r := by rw [if_pos rfl] at H; exact H
                                          clear H
                                          have H := H1
                                          clear H1
                                          obtain rfl := Option.some.inj H
                                          go_wp2_with (first | ((with_reducible refine gate_callee (f := 12) rfl ?_); refine goesL_ (some 77) rfl rfl Tryd.func12 (by kernel_rfl) rfl #[.string ((⟨#[92, 117]⟩ : ByteArray) ++ x9_5)] rfl (by (try simp only [List.map_toArray, List.map_cons, List.map_nil]); first | done | rfl | (simp only [List.length_drop, List.length_take]; rfl)) ?_; (with_reducible refine (lit_Points.calls k5 ((⟨#[92, 117]⟩ : ByteArray) ++ x9_5) t198 _ A42.out).mono ?_); rintro e w45 ⟨v199, rfl, ho0, hb⟩; refine ⟨_, rfl, ?_⟩; have n0_ := Aside0.mk (Kd.R_lower ho0 (below_size (by repeat (first | (with_reducible first | exact HB.out | apply below_alloc | apply pw_below_drewN | apply below_drew1) | exact HB.out)))); have n1_ := Aside0.mk (below_step (by repeat (first | (with_reducible first | exact HB.out | apply below_alloc | apply pw_below_drewN | apply below_drew1) | exact HB.out)) hb); clear HB; have HO200 := n0_; have HB := n1_; clear n0_ n1_; (try clear hb); (try clear hb2); (try clear hk); (try clear hi); (try clear ho0)) | ((with_reducible refine gate_dst (N := 79) rfl ?_); refine Kd.R_lit (Kd.int .i64) _ 3 ?hg (N := 79) ?hd (xs := ([a0] : List Int)) (inner := [.int .i64 a0]) (ok := fun _ => True) (okp := fun _ => True) ?hr ?hp (fun _ hk => hk) trivial (Below.refl _ _) (Nat.le_refl _) (by simp) ?_; (case hd => rfl); (case hg => rfl); (case hr => first | (go_simp; done) | (go_simp; rfl)); (case hp => exact (Reps.one (show Kd.M (Kd.int .i64) _ _ _ a0 [.int .i64 a0] from rfl) (Reps.none _ _))); intro v202 w46 ho47 hb hg_ hnew_; clear hg_ hnew_; (first | rw [← Ny201.out] at ho47 | (simp only [Int.reduceToNat] at ho47; rw [← Ny201.out] at ho47)); have n0_ := Aside0.mk (Kd.R_elder' (by (with_reducible repeat (first | apply Kd.R_alloc | apply Kd.R_drewN | apply Kd.R_drew)); exact HO200.out) (Kd.R_base ho47) hb); have n1_ := Aside0.mk (Kd.R_lower (Kd.R_new' ho47 (Kd.R_lt (by (with_reducible repeat (first | apply Kd.R_alloc | apply Kd.R_drewN | apply Kd.R_drew)); exact HO200.out))) (below_size (by repeat (first | (with_reducible first | exact HB.out | apply below_alloc | apply pw_below_drewN | apply below_drew1) | exact HB.out)))); have n2_ := Aside0.mk (below_step (by repeat (first | (with_reducible first | exact HB.out | apply below_alloc | apply pw_below_drewN | apply below_drew1) | exact HB.out)) hb); clear HO200; clear HB; have HO200 := n0_; have HO203 := n1_; have HB := n2_; clear n0_ n1_ n2_; clear hb ho47; obtain ⟨Ao48, co48, eo48⟩ := Kd.R_slice HO200.out; subst eo48; obtain ⟨Ao49, co49, eo49⟩ := Kd.R_slice HO203.out; subst eo49) | ((with_reducible refine gate_callee (f := 11) rfl ?_); refine goesL_ (some 80) rfl rfl Tryd.func11 (by kernel_rfl) rfl #[.slice Ao48 t198.length co48, .slice Ao49 y201.length co49] rfl (by (try simp only [List.map_toArray, List.map_cons, List.map_nil]); first | done | rfl | (simp only [List.length_drop, List.length_take]; rfl)) ?_; (with_reducible refine (gudgeonref07_Ints.calls k5 _ _ t198 _ _ y201 t204 _ ?side1 ?side2 ?side3 ?side4 A43.out).mono ?_); (case side1 => repeat (first | exact (Kd.R_reads' HO200.out).2.2 | (with_reducible refine Kd.C_alloc ?_ _) | (with_reducible refine Kd.C_drewN ?_ _) | (with_reducible refine Kd.C_drew ?_))); (case side2 => exact (Kd.R_reads' HO200.out).2.1); (case side3 => repeat (first | exact (Kd.R_reads' HO203.out).2.2 | (with_reducible refine Kd.C_alloc ?_ _) | (with_reducible refine Kd.C_drewN ?_ _) | (with_reducible refine Kd.C_drew ?_))); (case side4 => exact (Kd.R_reads' HO203.out).2.1); rintro e w' ⟨rfl, ⟨nd, rfl⟩⟩; refine ⟨_, rfl, ?_⟩))
                                          go_ret
                                          exact ⟨by first | rfl | (simp [errW_none, errW_some] <;> rfl) | (simp [*, errW_none, errW_some] <;> rfl), by repeat (first | (with_reducible first | exact HB.out | apply below_alloc | apply pw_below_drewN | apply below_drew1) | exact HB.out)⟩
                                        · replace c44 := Bool.eq_false_iff.mpr c44
                                          subst c44
                                          have H1 : (some false) = some r := by rw [if_neg (show ¬ (false = true) by decide)] at H; exact H
                                          clear H
                                          have H := H1
                                          clear H1
                                          obtain rfl := Option.some.inj H
                                          go_wp2_with (first | ((with_reducible refine gate_callee (f := 12) rfl ?_); refine goesL_ (some 77) rfl rfl Tryd.func12 (by kernel_rfl) rfl #[.string ((⟨#[92, 117]⟩ : ByteArray) ++ x9_5)] rfl (by (try simp only [List.map_toArray, List.map_cons, List.map_nil]); first | done | rfl | (simp only [List.length_drop, List.length_take]; rfl)) ?_; (with_reducible refine (lit_Points.calls k5 ((⟨#[92, 117]⟩ : ByteArray) ++ x9_5) t198 _ A42.out).mono ?_); rintro e w50 ⟨v199, rfl, ho0, hb⟩; refine ⟨_, rfl, ?_⟩; have n0_ := Aside0.mk (Kd.R_lower ho0 (below_size (by repeat (first | (with_reducible first | exact HB.out | apply below_alloc | apply pw_below_drewN | apply below_drew1) | exact HB.out)))); have n1_ := Aside0.mk (below_step (by repeat (first | (with_reducible first | exact HB.out | apply below_alloc | apply pw_below_drewN | apply below_drew1) | exact HB.out)) hb); clear HB; have HO200 := n0_; have HB := n1_; clear n0_ n1_; (try clear hb); (try clear hb2); (try clear hk); (try clear hi); (try clear ho0)) | ((with_reducible refine gate_dst (N := 79) rfl ?_); refine Kd.R_lit (Kd.int .i64) _ 3 ?hg (N := 79) ?hd (xs := ([a0] : List Int)) (inner := [.int .i64 a0]) (ok := fun _ => True) (okp := fun _ => True) ?hr ?hp (fun _ hk => hk) trivial (Below.refl _ _) (Nat.le_refl _) (by simp) ?_; (case hd => rfl); (case hg => rfl); (case hr => first | (go_simp; done) | (go_simp; rfl)); (case hp => exact (Reps.one (show Kd.M (Kd.int .i64) _ _ _ a0 [.int .i64 a0] from rfl) (Reps.none _ _))); intro v202 w51 ho52 hb hg_ hnew_; clear hg_ hnew_; (first | rw [← Ny201.out] at ho52 | (simp only [Int.reduceToNat] at ho52; rw [← Ny201.out] at ho52)); have n0_ := Aside0.mk (Kd.R_elder' (by (with_reducible repeat (first | apply Kd.R_alloc | apply Kd.R_drewN | apply Kd.R_drew)); exact HO200.out) (Kd.R_base ho52) hb); have n1_ := Aside0.mk (Kd.R_lower (Kd.R_new' ho52 (Kd.R_lt (by (with_reducible repeat (first | apply Kd.R_alloc | apply Kd.R_drewN | apply Kd.R_drew)); exact HO200.out))) (below_size (by repeat (first | (with_reducible first | exact HB.out | apply below_alloc | apply pw_below_drewN | apply below_drew1) | exact HB.out)))); have n2_ := Aside0.mk (below_step (by repeat (first | (with_reducible first | exact HB.out | apply below_alloc | apply pw_below_drewN | apply below_drew1) | exact HB.out)) hb); clear HO200; clear HB; have HO200 := n0_; have HO203 := n1_; have HB := n2_; clear n0_ n1_ n2_; clear hb ho52; obtain ⟨Ao53, co53, eo53⟩ := Kd.R_slice HO200.out; subst eo53; obtain ⟨Ao54, co54, eo54⟩ := Kd.R_slice HO203.out; subst eo54) | ((with_reducible refine gate_callee (f := 11) rfl ?_); refine goesL_ (some 80) rfl rfl Tryd.func11 (by kernel_rfl) rfl #[.slice Ao53 t198.length co53, .slice Ao54 y201.length co54] rfl (by (try simp only [List.map_toArray, List.map_cons, List.map_nil]); first | done | rfl | (simp only [List.length_drop, List.length_take]; rfl)) ?_; (with_reducible refine (gudgeonref07_Ints.calls k5 _ _ t198 _ _ y201 t204 _ ?side1 ?side2 ?side3 ?side4 A43.out).mono ?_); (case side1 => repeat (first | exact (Kd.R_reads' HO200.out).2.2 | (with_reducible refine Kd.C_alloc ?_ _) | (with_reducible refine Kd.C_drewN ?_ _) | (with_reducible refine Kd.C_drew ?_))); (case side2 => exact (Kd.R_reads' HO200.out).2.1); (case side3 => repeat (first | exact (Kd.R_reads' HO203.out).2.2 | (with_reducible refine Kd.C_alloc ?_ _) | (with_reducible refine Kd.C_drewN ?_ _) | (with_reducible refine Kd.C_drew ?_))); (case side4 => exact (Kd.R_reads' HO203.out).2.1); rintro e w' ⟨rfl, ⟨nd, rfl⟩⟩; refine ⟨_, rfl, ?_⟩))
                                          go_ret
                                          exact ⟨by first | rfl | (simp [errW_none, errW_some] <;> rfl) | (simp [*, errW_none, errW_some] <;> rfl), by repeat (first | (with_reducible first | exact HB.out | apply below_alloc | apply pw_below_drewN | apply below_drew1) | exact HB.out)⟩
                                      · rw [if_neg c41] at H
                                        exact absurd H (by simp)
                            · rw [if_neg c29] at H
                              exact absurd H (by simp)
                          · rw [if_neg c28] at H
                            exact absurd H (by simp)

/-- THE ONE PURE STATEMENT of gudgeonlaw07_LitHex: yours. -/
def gudgeonlaw07_LitHex.Pure : Prop := ∀ (a0 : Int) (a1 : Bool) (a2 : Int), (Lit.int .i64 a0).wf = true → (Lit.int .i64 a2).wf = true → ∃ k, gudgeonlaw07_LitHex.f k a0 a1 a2 = some true
theorem gudgeonlaw07_LitHex.walk (P : gudgeonlaw07_LitHex.Pure) (a0 : Int) (a1 : Bool) (a2 : Int) (w : World) (hG : Glob w) (w0 : (Lit.int .i64 a0).wf = true) (w2 : (Lit.int .i64 a2).wf = true) :
    Calls Tryd.prog 6 #[.int .i64 a0, .bool a1, .int .i64 a2] w fun e w' => e = .returned (.bool true) ∧ Below w.heap.size w w' := by
  obtain ⟨k, h⟩ := P a0 a1 a2 w0 w2
  refine (gudgeonlaw07_LitHex.calls k a0 a1 a2 true w hG h).mono ?_
  rintro e w' ⟨rfl, hd⟩
  exact ⟨rfl, hd⟩

/-! ### gudgeonref07_Point: function 28 -/
def gudgeonref07_Point.f (a0 : Int) : Option (Bool) := if a0 ≥ 0 then (some (decide (a0 < 196608))) else (some false)
set_option maxHeartbeats 8000000 in
set_option maxRecDepth 100000 in
theorem gudgeonref07_Point.calls (a0 : Int) (r : Bool) (w : World) (h : gudgeonref07_Point.f a0 = some r) :
    Calls Tryd.prog 28 #[.int .i64 a0] w fun e w' => e = .returned (.bool r) ∧ Drawn0 w w' := by
  have H : (if a0 ≥ 0 then (some (decide (a0 < 196608))) else (some false)) = some r := h
  clear h
  by_cases c2 : a0 ≥ 0
  · rw [if_pos c2] at H
    have c2b0 : decide (0 ≤ a0) = true := decide_eq_true c2
    clear c2
    obtain rfl := Option.some.inj H
    go_enter Tryd.func28, Tryd.ntmps28
    go_wp2
    go_ret
    exact ⟨by first | rfl | (simp; done) | (simp [*]; done) | (refine congrArg Value.bool ?_; generalize ByteArray.toList _ = z_; cases z_ <;> rfl), by repeat (first | exact Drawn0.refl _ | apply Drawn0.step)⟩
  · rw [if_neg c2] at H
    have c2b0 : decide (0 ≤ a0) = false := decide_eq_false c2
    clear c2
    obtain rfl := Option.some.inj H
    go_enter Tryd.func28, Tryd.ntmps28
    go_wp2
    go_ret
    exact ⟨by first | rfl | (simp; done) | (simp [*]; done) | (refine congrArg Value.bool ?_; generalize ByteArray.toList _ = z_; cases z_ <;> rfl), by repeat (first | exact Drawn0.refl _ | apply Drawn0.step)⟩

end Go.Proofs.YtjpcbflkgldokaaDoor.PA
