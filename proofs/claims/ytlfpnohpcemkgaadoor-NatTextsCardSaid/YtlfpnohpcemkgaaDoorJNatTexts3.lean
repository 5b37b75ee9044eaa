/- Joined by wip/tools/bundle.py for the claim of NatTexts: PAx17, PAx20, PAx21, PAx22, HParse, HAwake, PAx23. -/
import Derived.Test.YtlfpnohpcemkgaaDoorJNatTexts1
import Derived.Test.YtlfpnohpcemkgaaDoorJNatTexts2
/- Written by a program of this session, wip/tools/patch_print.py, over the kit's print of the loaded functions. -/
namespace Go.Proofs.YtlfpnohpcemkgaaDoor.H
end Go.Proofs.YtlfpnohpcemkgaaDoor.H
namespace Go.Proofs.YtlfpnohpcemkgaaDoor.PA
open Go.RowKit Go.Proofs.YtlfpnohpcemkgaaDoorW.PrintWords Go.Proofs.YtlfpnohpcemkgaaDoorW.PrintLast Go.Proofs.YtlfpnohpcemkgaaDoorW.PrintMore Go.Proofs.YtlfpnohpcemkgaaDoor.H
attribute [local go_sem] max2_int min2_int max_two min_two max_three min_three max_four min_four   -- for this text's walks alone
set_option linter.unusedVariables false
set_option linter.unusedSimpArgs false

/-! ### gudgeonref01_at: function 56 -/
def gudgeonref01_at.f (l0 : List Bool) (a1 : Int) : Option (Bool) := if a1 < (l0.length : Int) then (if 0 ≤ a1 then (some (rdOf false l0 a1)) else (none)) else (some false)
set_option maxHeartbeats 8000000 in
set_option maxRecDepth 100000 in
theorem gudgeonref01_at.calls (A0 : Option Addr) (c0 : Nat) (l0 : List Bool) (a1 : Int) (r : Bool) (w : World) (hr0 : Kd.C Kd.bool w A0 l0.length l0) (hc0 : l0.length ≤ c0) (h : gudgeonref01_at.f l0 a1 = some r) :
  Calls Tryd.prog 56 #[.slice A0 l0.length c0, .int .i64 a1] w fun e w' => e = .returned (.bool r) ∧ Drawn0 w w' := by
 have HR0 := Aside0.mk hr0
 have HC0 := Aside0.mk hc0
 clear hr0 hc0
 have H : (if a1 < (l0.length : Int) then (if 0 ≤ a1 then (some (rdOf false l0 a1)) else (none)) else (some false)) = some r := h
 clear h
 by_cases c3 : a1 < (l0.length : Int)
 ·rw [if_pos c3] at H
  have c3b0 : decide (a1 < (l0.length : Int)) = true := decide_eq_true c3
  clear c3
  by_cases c4 : 0 ≤ a1
  ·rw [if_pos c4] at H
   have c4b0 : decide (0 ≤ a1) = true := decide_eq_true c4
   clear c4
   obtain rfl := Option.some.inj H
   have p457 : 0 ≤ (a1 : Int) := of_decide_eq_true (by first | (with_reducible assumption) | assumption)
   have q457 : a1 < (l0.length : Int) := of_decide_eq_true (by first | (with_reducible assumption) | assumption)
   obtain ⟨ad457, e457, hx457_0⟩ := Kd.at_bool HR0.out a1 p457 q457
   cases e457
   replace p457 := eq_true p457
   replace q457 := eq_true q457
   go_enter Tryd.func56, Tryd.ntmps56
   go_wp2
   go_ret
   exact ⟨by first | rfl | (simp; done) | (simp [*]; done) | (refine congrArg (Value.int _) ?_; omega) | (refine congrArg Value.bool ?_; generalize ByteArray.toList _ = z_; cases z_ <;> rfl), by repeat (first | exact Drawn0.refl _ | apply Drawn0.step)⟩
  ·rw [if_neg c4] at H
   exact absurd H (by simp)
 ·rw [if_neg c3] at H
  have c3b0 : decide (a1 < (l0.length : Int)) = false := decide_eq_false c3
  clear c3
  obtain rfl := Option.some.inj H
  go_enter Tryd.func56, Tryd.ntmps56
  go_wp2
  go_ret
  exact ⟨by first | rfl | (simp; done) | (simp [*]; done) | (refine congrArg (Value.int _) ?_; omega) | (refine congrArg Value.bool ?_; generalize ByteArray.toList _ = z_; cases z_ <;> rfl), by repeat (first | exact Drawn0.refl _ | apply Drawn0.step)⟩

/-! ### gudgeonref01_cmp: function 50 -/
mutual
def gudgeonref01_cmp.j0 : Nat → List Bool → List Bool → Int → Option (Int)
 | 0, _, _, _ => none
 | k + 1, x0, x1, x5 => gudgeonref01_cmp.l0 k x0 x1 (wrap64 (x5 - 1))
def gudgeonref01_cmp.l0 : Nat → List Bool → List Bool → Int → Option (Int)
 | 0, _, _, _ => none
 | k + 1, x0, x1, x6 => if x6 ≥ 0 then ((gudgeonref01_at.f x0 x6).bind fun t458 => ((gudgeonref01_at.f x1 x6).bind fun t459 => (if (t458 != t459) = true then (gudgeonref01_cmp.j2 k x0 x1 x6 t458 t459 t458) else (gudgeonref01_cmp.j2 k x0 x1 x6 t458 t459 false)))) else (some 0)
def gudgeonref01_cmp.j2 : Nat → List Bool → List Bool → Int → Bool → Bool → Bool → Option (Int)
 | 0, _, _, _, _, _, _ => none
 | k + 1, x0, x1, x6, x7, x8, x34 => if x34 = true then (some 1) else (if (x7 != x8) = true then (some (-1)) else (gudgeonref01_cmp.l0 k x0 x1 (wrap64 (x6 - 1))))
end
def gudgeonref01_cmp.f (k : Nat) (l0 : List Bool) (l1 : List Bool) : Option (Int) := if (l1.length : Int) > (l0.length : Int) then (gudgeonref01_cmp.j0 k l0 l1 (l1.length : Int)) else (gudgeonref01_cmp.j0 k l0 l1 (l0.length : Int))
theorem gudgeonref01_cmp.mono_l : ∀ k, (∀ y0 y1 y2, LeO (gudgeonref01_cmp.j0 k y0 y1 y2) (gudgeonref01_cmp.j0 (k + 1) y0 y1 y2)) ∧ (∀ y0 y1 y2, LeO (gudgeonref01_cmp.l0 k y0 y1 y2) (gudgeonref01_cmp.l0 (k + 1) y0 y1 y2)) ∧ (∀ y0 y1 y2 y3 y4 y5, LeO (gudgeonref01_cmp.j2 k y0 y1 y2 y3 y4 y5) (gudgeonref01_cmp.j2 (k + 1) y0 y1 y2 y3 y4 y5))
 | 0 => ⟨fun _ _ _ r h => by simp [gudgeonref01_cmp.j0] at h, fun _ _ _ r h => by simp [gudgeonref01_cmp.l0] at h, fun _ _ _ _ _ _ r h => by simp [gudgeonref01_cmp.j2] at h⟩
 | k + 1 => by
  obtain ⟨ih0, ih1, ih2⟩ := gudgeonref01_cmp.mono_l k
  refine ⟨?_, ?_, ?_⟩
  ·intro y0 y1 y2
   unfold gudgeonref01_cmp.j0
   repeat' first
   | (with_reducible exact ih0 _ _ _)
   | (with_reducible exact ih1 _ _ _)
   | (with_reducible exact ih2 _ _ _ _ _ _)
   | (with_reducible exact LeO.refl _)
   | (with_reducible exact LeO.none _)
   | (with_reducible refine LeO.ite ?_ ?_)
   | (with_reducible refine LeO.bind ?_ (fun _ => ?_))
   | exact ih0 _ _ _
   | exact ih1 _ _ _
   | exact ih2 _ _ _ _ _ _
   | exact LeO.none _
   | refine LeO.ite ?_ ?_
   | refine LeO.bind ?_ (fun _ => ?_)
  ·intro y0 y1 y2
   unfold gudgeonref01_cmp.l0
   repeat' first
   | (with_reducible exact ih0 _ _ _)
   | (with_reducible exact ih1 _ _ _)
   | (with_reducible exact ih2 _ _ _ _ _ _)
   | (with_reducible exact LeO.refl _)
   | (with_reducible exact LeO.none _)
   | (with_reducible refine LeO.ite ?_ ?_)
   | (with_reducible refine LeO.bind ?_ (fun _ => ?_))
   | exact ih0 _ _ _
   | exact ih1 _ _ _
   | exact ih2 _ _ _ _ _ _
   | exact LeO.none _
   | refine LeO.ite ?_ ?_
   | refine LeO.bind ?_ (fun _ => ?_)
  ·intro y0 y1 y2 y3 y4 y5
   unfold gudgeonref01_cmp.j2
   repeat' first
   | (with_reducible exact ih0 _ _ _)
   | (with_reducible exact ih1 _ _ _)
   | (with_reducible exact ih2 _ _ _ _ _ _)
   | (with_reducible exact LeO.refl _)
   | (with_reducible exact LeO.none _)
   | (with_reducible refine LeO.ite ?_ ?_)
   | (with_reducible refine LeO.bind ?_ (fun _ => ?_))
   | exact ih0 _ _ _
   | exact ih1 _ _ _
   | exact ih2 _ _ _ _ _ _
   | exact LeO.none _
   | refine LeO.ite ?_ ?_
   | refine LeO.bind ?_ (fun _ => ?_)
theorem gudgeonref01_cmp.mono : ∀ a0 a1 k, LeO (gudgeonref01_cmp.f k a0 a1) (gudgeonref01_cmp.f (k + 1) a0 a1) := by
 intro a0 a1 k
 obtain ⟨ih0, ih1, ih2⟩ := gudgeonref01_cmp.mono_l k
 unfold gudgeonref01_cmp.f
 repeat' first
   | (with_reducible exact ih0 _ _ _)
   | (with_reducible exact ih1 _ _ _)
   | (with_reducible exact ih2 _ _ _ _ _ _)
   | (with_reducible exact LeO.refl _)
   | (with_reducible exact LeO.none _)
   | (with_reducible refine LeO.ite ?_ ?_)
   | (with_reducible refine LeO.bind ?_ (fun _ => ?_))
   | exact ih0 _ _ _
   | exact ih1 _ _ _
   | exact ih2 _ _ _ _ _ _
   | exact LeO.none _
   | refine LeO.ite ?_ ?_
   | refine LeO.bind ?_ (fun _ => ?_)
set_option maxHeartbeats 8000000 in
set_option maxRecDepth 100000 in
theorem gudgeonref01_cmp.calls (k : Nat) (A0 : Option Addr) (c0 : Nat) (l0 : List Bool) (A1 : Option Addr) (c1 : Nat) (l1 : List Bool) (r : Int) (w : World) (hr0 : Kd.C Kd.bool w A0 l0.length l0) (hc0 : l0.length ≤ c0) (hr1 : Kd.C Kd.bool w A1 l1.length l1) (hc1 : l1.length ≤ c1) (h : gudgeonref01_cmp.f k l0 l1 = some r) :
  Calls Tryd.prog 50 #[.slice A0 l0.length c0, .slice A1 l1.length c1] w fun e w' => e = .returned (.int .i64 r) ∧ Drawn0 w w' := by
 have HR0 := Aside0.mk hr0
 have HC0 := Aside0.mk hc0
 clear hr0 hc0
 have HR1 := Aside0.mk hr1
 have HC1 := Aside0.mk hc1
 clear hr1 hc1
 have H : (if (l1.length : Int) > (l0.length : Int) then (gudgeonref01_cmp.j0 k l0 l1 (l1.length : Int)) else (gudgeonref01_cmp.j0 k l0 l1 (l0.length : Int))) = some r := h
 clear h
 have HC3 := Aside0.mk H
 clear H
 go_enter Tryd.func50, Tryd.ntmps50
 go_upto_if 14 with (fail)
 go_cut [5] (fun v5 wc => ∃ (kq : Nat) (x5_2 : Int), v5 = .int .i64 x5_2 ∧ Aside0 (gudgeonref01_cmp.j0 kq l0 l1 x5_2 = some r) ∧ Aside0 (kq ≤ k) ∧ Drawn0 w wc)
 case first =>
  have H := HC3.out
  clear HC3
  by_cases c4 : (l1.length : Int) > (l0.length : Int)
  ·rw [if_pos c4] at H
   have c4b0 : decide ((l0.length : Int) < (l1.length : Int)) = true := decide_eq_true c4
   have c4b1 : decide (l0.length < l1.length) = true := decide_eq_true (Int.ofNat_lt.mp c4)
   clear c4
   (first | rw [c4b0] | rw [c4b1] | (simp only [i64_w, i32_w]; rw [c4b0]) | skip)
   have H' := Aside0.mk H
   clear H
   go_wp2
   go_meet
   case rel => exact ⟨_, ((l1.length : Int)), (by first | rfl | (simp; done) | (simp [*]; done) | (refine congrArg (Value.int _) ?_; omega) | (refine congrArg Value.bool ?_; generalize ByteArray.toList _ = z_; cases z_ <;> rfl)), H', ⟨by first | omega | exact Nat.le_refl _⟩, by repeat (first | exact Drawn0.refl _ | apply Drawn0.step)⟩
  ·rw [if_neg c4] at H
   have c4b0 : decide ((l0.length : Int) < (l1.length : Int)) = false := decide_eq_false c4
   have c4b1 : decide (l0.length < l1.length) = false := decide_eq_false (fun h => c4 (Int.ofNat_lt.mpr h))
   clear c4
   (first | rw [c4b0] | rw [c4b1] | (simp only [i64_w, i32_w]; rw [c4b0]) | skip)
   have H' := Aside0.mk H
   clear H
   go_wp2
   go_meet
   case rel => exact ⟨_, ((l0.length : Int)), (by first | rfl | (simp; done) | (simp [*]; done) | (refine congrArg (Value.int _) ?_; omega) | (refine congrArg Value.bool ?_; generalize ByteArray.toList _ = z_; cases z_ <;> rfl)), H', ⟨by first | omega | exact Nat.le_refl _⟩, by repeat (first | exact Drawn0.refl _ | apply Drawn0.step)⟩
 case rest =>
  clear HC3
  try clear c1
  try clear p2
  try clear c4
  try clear c4b0
  try clear c4b1
  obtain ⟨kq, x5_2, rfl, HA, HJ2, ⟨mc2, rfl⟩⟩ := hcut
  cases kq with
  | zero => exact absurd HA.out (by simp [gudgeonref01_cmp.j0])
  | succ kj2 =>
   have H := HA.out
   clear HA
   simp only [gudgeonref01_cmp.j0] at H
   have H' := Aside0.mk H
   clear H
   go_wp2
   go_loopg [6] kj2 (fun kq v6 w' => ∃ (x6_2 : Int), v6 = .int .i64 x6_2 ∧ Aside0 (gudgeonref01_cmp.l0 kq l0 l1 x6_2 = some r) ∧ Aside0 (kq ≤ kj2) ∧ Drawn0 w w')
   case atStart => exact ⟨(wrap64 (x5_2 - 1)), (by first | rfl | (simp; done) | (simp [*]; done) | (refine congrArg (Value.int _) ?_; omega) | (refine congrArg Value.bool ?_; generalize ByteArray.toList _ = z_; cases z_ <;> rfl)), H', ⟨Nat.le_refl _⟩, by repeat (first | exact Drawn0.refl _ | apply Drawn0.step)⟩
   case round =>
    clear H'
    try clear c1
    try clear c2
    try clear p2
    try clear c4
    try clear c4b0
    try clear c4b1
    try clear p2
    obtain ⟨x6_2, rfl, HA, HK2, ⟨m2, rfl⟩⟩ := hrel
    cases gk with
    | zero => exact absurd HA.out (by simp [gudgeonref01_cmp.l0])
    | succ k2 =>
     have H := HA.out
     clear HA
     simp only [gudgeonref01_cmp.l0] at H
     by_cases c5 : x6_2 ≥ 0
     ·rw [if_pos c5] at H
      have c5b0 : decide (0 ≤ x6_2) = true := decide_eq_true c5
      clear c5
      replace H := Option.bind_eq_some_iff.mp H
      obtain ⟨t458, A60, H⟩ := H
      replace H : ((gudgeonref01_at.f l1 x6_2).bind fun t459 => (if (t458 != t459) = true then (gudgeonref01_cmp.j2 k2 l0 l1 x6_2 t458 t459 t458) else (gudgeonref01_cmp.j2 k2 l0 l1 x6_2 t458 t459 false))) = some r := H
      have A6 := Aside0.mk A60
      clear A60
      replace H := Option.bind_eq_some_iff.mp H
      obtain ⟨t459, A70, H⟩ := H
      replace H : (if (t458 != t459) = true then (gudgeonref01_cmp.j2 k2 l0 l1 x6_2 t458 t459 t458) else (gudgeonref01_cmp.j2 k2 l0 l1 x6_2 t458 t459 false)) = some r := H
      have A7 := Aside0.mk A70
      clear A70
      have HC8 := Aside0.mk H
      clear H
      go_upto_region 9 with (first | ((with_reducible refine gate_callee (f := 56) rfl ?_); refine goesL_ (some 25) rfl rfl Tryd.func56 (by kernel_rfl) rfl #[.slice A0 l0.length c0, .int .i64 x6_2] rfl (by (try simp only [List.map_toArray, List.map_cons, List.map_nil]); first | done | rfl | (simp only [List.length_drop, List.length_take]; rfl)) ?_; (with_reducible refine (gudgeonref01_at.calls _ _ l0 x6_2 t458 _ ?side1 ?side2 A6.out).mono ?_); (case side1 => repeat (first | exact HR0.out | (with_reducible refine Kd.C_alloc ?_ _) | (with_reducible refine Kd.C_drewN ?_ _) | (with_reducible refine Kd.C_drew ?_))); (case side2 => exact HC0.out); rintro e w' ⟨rfl, ⟨nd, rfl⟩⟩; refine ⟨_, rfl, ?_⟩) | ((with_reducible refine gate_callee (f := 56) rfl ?_); refine goesL_ (some 28) rfl rfl Tryd.func56 (by kernel_rfl) rfl #[.slice A1 l1.length c1, .int .i64 x6_2] rfl (by (try simp only [List.map_toArray, List.map_cons, List.map_nil]); first | done | rfl | (simp only [List.length_drop, List.length_take]; rfl)) ?_; (with_reducible refine (gudgeonref01_at.calls _ _ l1 x6_2 t459 _ ?side1 ?side2 A7.out).mono ?_); (case side1 => repeat (first | exact HR1.out | (with_reducible refine Kd.C_alloc ?_ _) | (with_reducible refine Kd.C_drewN ?_ _) | (with_reducible refine Kd.C_drew ?_))); (case side2 => exact HC1.out); rintro e w' ⟨rfl, ⟨nd, rfl⟩⟩; refine ⟨_, rfl, ?_⟩))
      (try simp only [Act.put, List.setIfInBounds_toArray, List.set_cons_zero, List.set_cons_succ])
      go_cut [34] (fun v34 wc => ∃ (kq : Nat) (x34_7 : Bool), v34 = .bool x34_7 ∧ Aside0 (gudgeonref01_cmp.j2 kq l0 l1 x6_2 t458 t459 x34_7 = some r) ∧ Aside0 (kq ≤ k2) ∧ Drawn0 w wc)
      case first =>
       have H := HC8.out
       clear HC8
       by_cases c9 : (t458 != t459) = true
       ·rw [if_pos c9] at H
        have c9b0 : (t458 != t459) = true := c9
        (try (have c9b1 : decide (t458 = t459) = false := by simpa using c9))
        (try (have c9b2 : (t458 == t459) = false := by simpa using c9))
        (try (have c9b3 : ¬ (t458 = t459) := by simpa using c9))
        clear c9
        (first | rw [c9b0] | rw [c9b1] | (simp only [i64_w, i32_w]; rw [c9b0]) | skip)
        have H' := Aside0.mk H
        clear H
        go_wp2
        go_meet
        case rel => exact ⟨_, (t458), (by first | rfl | (simp; done) | (simp [*]; done) | (refine congrArg (Value.int _) ?_; omega) | (refine congrArg Value.bool ?_; generalize ByteArray.toList _ = z_; cases z_ <;> rfl)), H', ⟨by have := HJ2.out; have := HK2.out; first | omega | exact Nat.le_refl _⟩, by repeat (first | exact Drawn0.refl _ | apply Drawn0.step)⟩
       ·rw [if_neg c9] at H
        have c9b0 : (t458 != t459) = false := by simpa using c9
        (try (have c9b1 : decide (t458 = t459) = true := by simpa using c9))
        (try (have c9b2 : (t458 == t459) = true := by simpa using c9))
        clear c9
        (first | rw [c9b0] | rw [c9b1] | (simp only [i64_w, i32_w]; rw [c9b0]) | skip)
        have H' := Aside0.mk H
        clear H
        go_wp2
        go_meet
        case rel => exact ⟨_, (false), (by first | rfl | (simp; done) | (simp [*]; done) | (refine congrArg (Value.int _) ?_; omega) | (refine congrArg Value.bool ?_; generalize ByteArray.toList _ = z_; cases z_ <;> rfl)), H', ⟨by have := HJ2.out; have := HK2.out; first | omega | exact Nat.le_refl _⟩, by repeat (first | exact Drawn0.refl _ | apply Drawn0.step)⟩
      case rest =>
       clear HC8
       try clear c1
       try clear c2
       try clear p2
       try clear c4
       try clear c4b0
       try clear c4b1
       try clear c5
       try clear c5b0
       try clear p6
       try clear c9
       try clear c9b0
       try clear c9b1
       try clear c9b2
       try clear p2
       obtain ⟨kq, x34_7, rfl, HA, HJ7, ⟨mc7, rfl⟩⟩ := hcut
       cases kq with
       | zero => exact absurd HA.out (by simp [gudgeonref01_cmp.j2])
       | succ kj7 =>
        have H := HA.out
        clear HA
        simp only [gudgeonref01_cmp.j2] at H
        by_cases c10 : x34_7 = true
        ·subst c10
         have H1 : (some 1) = some r := by rw [if_pos rfl] at H; exact H
         clear H
         have H := H1
         clear H1
         obtain rfl := Option.some.inj H
         go_wp2
         go_ret
         exact ⟨by first | rfl | (simp; done) | (simp [*]; done) | (refine congrArg (Value.int _) ?_; omega) | (refine congrArg Value.bool ?_; generalize ByteArray.toList _ = z_; cases z_ <;> rfl), by repeat (first | exact Drawn0.refl _ | apply Drawn0.step)⟩
        ·replace c10 := Bool.eq_false_iff.mpr c10
         subst c10
         have H1 : (if (t458 != t459) = true then (some (-1)) else (gudgeonref01_cmp.l0 kj7 l0 l1 (wrap64 (x6_2 - 1)))) = some r := by rw [if_neg (show ¬ (false = true) by decide)] at H; exact H
         clear H
         have H := H1
         clear H1
         by_cases c11 : (t458 != t459) = true
         ·rw [if_pos c11] at H
          have c11b0 : (t458 != t459) = true := c11
          (try (have c11b1 : decide (t458 = t459) = false := by simpa using c11))
          (try (have c11b2 : (t458 == t459) = false := by simpa using c11))
          (try (have c11b3 : ¬ (t458 = t459) := by simpa using c11))
          clear c11
          obtain rfl := Option.some.inj H
          go_wp2
          go_ret
          exact ⟨by first | rfl | (simp; done) | (simp [*]; done) | (refine congrArg (Value.int _) ?_; omega) | (refine congrArg Value.bool ?_; generalize ByteArray.toList _ = z_; cases z_ <;> rfl), by repeat (first | exact Drawn0.refl _ | apply Drawn0.step)⟩
         ·rw [if_neg c11] at H
          have c11b0 : (t458 != t459) = false := by simpa using c11
          (try (have c11b1 : decide (t458 = t459) = true := by simpa using c11))
          (try (have c11b2 : (t458 == t459) = true := by simpa using c11))
          clear c11
          have H' := Aside0.mk H
          clear H
          go_wp2
          go_roundg kj7
          case measure => have := HJ2.out; have := HK2.out; have := HJ7.out; omega
          case rel => exact ⟨(wrap64 (x6_2 - 1)), (by first | rfl | (simp; done) | (simp [*]; done) | (refine congrArg (Value.int _) ?_; omega) | (refine congrArg Value.bool ?_; generalize ByteArray.toList _ = z_; cases z_ <;> rfl)), H', ⟨by have := HJ2.out; have := HK2.out; have := HJ7.out; omega⟩, by repeat (first | exact Drawn0.refl _ | apply Drawn0.step)⟩
     ·rw [if_neg c5] at H
      have c5b0 : decide (0 ≤ x6_2) = false := decide_eq_false c5
      clear c5
      obtain rfl := Option.some.inj H
      go_wp2
      go_ret
      exact ⟨by first | rfl | (simp; done) | (simp [*]; done) | (refine congrArg (Value.int _) ?_; omega) | (refine congrArg Value.bool ?_; generalize ByteArray.toList _ = z_; cases z_ <;> rfl), by repeat (first | exact Drawn0.refl _ | apply Drawn0.step)⟩

/-! ### gudgeonref01_sub: function 51 -/
mutual
def gudgeonref01_sub.l0 : Nat → List Bool → List Bool → List Bool → Bool → Int → Option (List Bool)
 | 0, _, _, _, _, _ => none
 | k + 1, x0, x1, x5, x6, x7 => if x7 < (x0.length : Int) then (if 0 ≤ x7 then (if rdOf false x0 x7 = true then (gudgeonref01_sub.j1 k x0 x1 x5 x6 x7 (0 + 1)) else (gudgeonref01_sub.j1 k x0 x1 x5 x6 x7 0)) else (none)) else ((gudgeonref01_trim.f k x5).bind fun t460 => (some t460))
def gudgeonref01_sub.j1 : Nat → List Bool → List Bool → List Bool → Bool → Int → Int → Option (List Bool)
 | 0, _, _, _, _, _, _ => none
 | k + 1, x0, x1, x5, x6, x7, x8 => (gudgeonref01_at.f x1 x7).bind fun t464 => (if t464 = true then (if x6 = true then (if (wrap64 ((wrap64 (x8 - 1)) - 1)) = 1 then (if x5.length < 140737488355328 then (gudgeonref01_sub.l0 k x0 x1 (x5 ++ [true]) (decide ((wrap64 ((wrap64 (x8 - 1)) - 1)) < 0)) (wrap64 (x7 + 1))) else (none)) else (if x5.length < 140737488355328 then (gudgeonref01_sub.l0 k x0 x1 (x5 ++ [((wrap64 ((wrap64 (x8 - 1)) - 1)) == (-1))]) (decide ((wrap64 ((wrap64 (x8 - 1)) - 1)) < 0)) (wrap64 (x7 + 1))) else (none))) else (if (wrap64 (x8 - 1)) = 1 then (if x5.length < 140737488355328 then (gudgeonref01_sub.l0 k x0 x1 (x5 ++ [true]) (decide ((wrap64 (x8 - 1)) < 0)) (wrap64 (x7 + 1))) else (none)) else (if x5.length < 140737488355328 then (gudgeonref01_sub.l0 k x0 x1 (x5 ++ [((wrap64 (x8 - 1)) == (-1))]) (decide ((wrap64 (x8 - 1)) < 0)) (wrap64 (x7 + 1))) else (none)))) else (if x6 = true then (if (wrap64 (x8 - 1)) = 1 then (if x5.length < 140737488355328 then (gudgeonref01_sub.l0 k x0 x1 (x5 ++ [true]) (decide ((wrap64 (x8 - 1)) < 0)) (wrap64 (x7 + 1))) else (none)) else (if x5.length < 140737488355328 then (gudgeonref01_sub.l0 k x0 x1 (x5 ++ [((wrap64 (x8 - 1)) == (-1))]) (decide ((wrap64 (x8 - 1)) < 0)) (wrap64 (x7 + 1))) else (none))) else (if x8 = 1 then (if x5.length < 140737488355328 then (gudgeonref01_sub.l0 k x0 x1 (x5 ++ [true]) (decide (x8 < 0)) (wrap64 (x7 + 1))) else (none)) else (if x5.length < 140737488355328 then (gudgeonref01_sub.l0 k x0 x1 (x5 ++ [(x8 == (-1))]) (decide (x8 < 0)) (wrap64 (x7 + 1))) else (none)))))
end
def gudgeonref01_sub.f (k : Nat) (l0 : List Bool) (l1 : List Bool) : Option (List Bool) := gudgeonref01_sub.l0 k l0 l1 ([] : List Bool) false 0
theorem gudgeonref01_sub.mono_l : ∀ k, (∀ y0 y1 y2 y3 y4, LeO (gudgeonref01_sub.l0 k y0 y1 y2 y3 y4) (gudgeonref01_sub.l0 (k + 1) y0 y1 y2 y3 y4)) ∧ (∀ y0 y1 y2 y3 y4 y5, LeO (gudgeonref01_sub.j1 k y0 y1 y2 y3 y4 y5) (gudgeonref01_sub.j1 (k + 1) y0 y1 y2 y3 y4 y5))
 | 0 => ⟨fun _ _ _ _ _ r h => by simp [gudgeonref01_sub.l0] at h, fun _ _ _ _ _ _ r h => by simp [gudgeonref01_sub.j1] at h⟩
 | k + 1 => by
  obtain ⟨ih0, ih1⟩ := gudgeonref01_sub.mono_l k
  refine ⟨?_, ?_⟩
  ·intro y0 y1 y2 y3 y4
   unfold gudgeonref01_sub.l0
   repeat' first
   | (with_reducible exact ih0 _ _ _ _ _)
   | (with_reducible exact ih1 _ _ _ _ _ _)
   | (with_reducible exact gudgeonref01_trim.mono _ _)
   | (with_reducible exact LeO.refl _)
   | (with_reducible exact LeO.none _)
   | (with_reducible refine LeO.ite ?_ ?_)
   | (with_reducible refine LeO.bind ?_ (fun _ => ?_))
   | exact ih0 _ _ _ _ _
   | exact ih1 _ _ _ _ _ _
   | exact gudgeonref01_trim.mono _ _
   | exact LeO.none _
   | refine LeO.ite ?_ ?_
   | refine LeO.bind ?_ (fun _ => ?_)
  ·intro y0 y1 y2 y3 y4 y5
   unfold gudgeonref01_sub.j1
   repeat' first
   | (with_reducible exact ih0 _ _ _ _ _)
   | (with_reducible exact ih1 _ _ _ _ _ _)
   | (with_reducible exact gudgeonref01_trim.mono _ _)
   | (with_reducible exact LeO.refl _)
   | (with_reducible exact LeO.none _)
   | (with_reducible refine LeO.ite ?_ ?_)
   | (with_reducible refine LeO.bind ?_ (fun _ => ?_))
   | exact ih0 _ _ _ _ _
   | exact ih1 _ _ _ _ _ _
   | exact gudgeonref01_trim.mono _ _
   | exact LeO.none _
   | refine LeO.ite ?_ ?_
   | refine LeO.bind ?_ (fun _ => ?_)
theorem gudgeonref01_sub.mono : ∀ a0 a1 k, LeO (gudgeonref01_sub.f k a0 a1) (gudgeonref01_sub.f (k + 1) a0 a1) := by
 intro a0 a1 k
 obtain ⟨ih0, ih1⟩ := gudgeonref01_sub.mono_l k
 unfold gudgeonref01_sub.f
 repeat' first
   | (with_reducible exact ih0 _ _ _ _ _)
   | (with_reducible exact ih1 _ _ _ _ _ _)
   | (with_reducible exact gudgeonref01_trim.mono _ _)
   | (with_reducible exact LeO.refl _)
   | (with_reducible exact LeO.none _)
   | (with_reducible refine LeO.ite ?_ ?_)
   | (with_reducible refine LeO.bind ?_ (fun _ => ?_))
   | exact ih0 _ _ _ _ _
   | exact ih1 _ _ _ _ _ _
   | exact gudgeonref01_trim.mono _ _
   | exact LeO.none _
   | refine LeO.ite ?_ ?_
   | refine LeO.bind ?_ (fun _ => ?_)
set_option maxHeartbeats 8000000 in
set_option maxRecDepth 100000 in
theorem gudgeonref01_sub.calls (k : Nat) (A0 : Option Addr) (c0 : Nat) (l0 : List Bool) (A1 : Option Addr) (c1 : Nat) (l1 : List Bool) (r : List Bool) (w : World) (hr0 : Kd.C Kd.bool w A0 l0.length l0) (hc0 : l0.length ≤ c0) (hr1 : Kd.C Kd.bool w A1 l1.length l1) (hc1 : l1.length ≤ c1) (h : gudgeonref01_sub.f k l0 l1 = some r) :
  Calls Tryd.prog 51 #[.slice A0 l0.length c0, .slice A1 l1.length c1] w fun e w' => ∃ v0_ : Value, e = .returned (v0_) ∧ Kd.R Kd.bool 4 w' w.heap.size (fun _ => True) v0_ r ∧ Below w.heap.size w w' := by
 have HR0 := Aside0.mk hr0
 have HC0 := Aside0.mk hc0
 clear hr0 hc0
 have HR1 := Aside0.mk hr1
 have HC1 := Aside0.mk hc1
 clear hr1 hc1
 have HB := Aside0.mk (Below.refl w.heap.size w)
 have H : (gudgeonref01_sub.l0 k l0 l1 ([] : List Bool) false 0) = some r := h
 clear h
 have H' := Aside0.mk H
 clear H
 go_enter Tryd.func51, Tryd.ntmps51
 go_wp2
 go_loopg [5, 6, 7] k (fun kq v5 v6 v7 w' => ∃ (x5_1 : List Bool) (x6_1 : Bool) (x7_1 : Int), v6 = .bool x6_1 ∧ v7 = .int .i64 x7_1 ∧ Aside0 (gudgeonref01_sub.l0 kq l0 l1 x5_1 x6_1 x7_1 = some r) ∧ Aside0 (kq ≤ k) ∧ Aside0 (Kd.R Kd.bool 4 w' w.heap.size (fun _ => True) v5 x5_1) ∧ Aside0 (Below w.heap.size w w'))
 case atStart => exact ⟨(([] : List Bool)), (false), (0), (by first | rfl | (simp; done) | (simp [*]; done) | (refine congrArg (Value.int _) ?_; omega) | (refine congrArg Value.bool ?_; generalize ByteArray.toList _ = z_; cases z_ <;> rfl)), (by first | rfl | (simp; done) | (simp [*]; done) | (refine congrArg (Value.int _) ?_; omega) | (refine congrArg Value.bool ?_; generalize ByteArray.toList _ = z_; cases z_ <;> rfl)), H', ⟨Nat.le_refl _⟩, ⟨by first | exact Kd.R_nil _ _ _ _ _ | exact Kd.N_nil _ _ _ _ _ | exact Kd.V_nil _ _ _ _ _ | exact Kd.Q_nil _ _ _ _ _ | exact Kd.S_nil _ _ _ _ _⟩, ⟨by repeat first | exact HB.out | apply below_alloc | apply pw_below_drewN | apply below_drew1⟩⟩
 case round =>
  clear H'
  try clear c1
  try clear p2
  obtain ⟨x5_1, x6_1, x7_1, rfl, rfl, HA, HK1, HO_5, HB⟩ := hrel
  cases gk with
  | zero => exact absurd HA.out (by simp [gudgeonref01_sub.l0])
  | succ k1 =>
   have H := HA.out
   clear HA
   simp only [gudgeonref01_sub.l0] at H
   by_cases c3 : x7_1 < (l0.length : Int)
   ·rw [if_pos c3] at H
    have c3b0 : decide (x7_1 < (l0.length : Int)) = true := decide_eq_true c3
    clear c3
    by_cases c4 : 0 ≤ x7_1
    ·rw [if_pos c4] at H
     have c4b0 : decide (0 ≤ x7_1) = true := decide_eq_true c4
     clear c4
     have HC5 := Aside0.mk H
     clear H
     have p463 : 0 ≤ (x7_1 : Int) := of_decide_eq_true (by first | (with_reducible assumption) | assumption)
     have q463 : x7_1 < (l0.length : Int) := of_decide_eq_true (by first | (with_reducible assumption) | assumption)
     obtain ⟨ad463, e463, hx463_0⟩ := Kd.at_bool HR0.out x7_1 p463 q463
     cases e463
     replace hx463_0 := (HB.out.cell (World.block_lt_of_cell? w _ hx463_0)).trans hx463_0
     replace p463 := eq_true p463
     replace q463 := eq_true q463
     go_upto_if 18 with (fail)
     go_cut [8] (fun v8 wc => ∃ (kq : Nat) (x8_4 : Int), v8 = .int .i64 x8_4 ∧ Aside0 (gudgeonref01_sub.j1 kq l0 l1 x5_1 x6_1 x7_1 x8_4 = some r) ∧ Aside0 (kq ≤ k1) ∧ Aside0 (Kd.R Kd.bool 4 wc w.heap.size (fun _ => True) u5 x5_1) ∧ Aside0 (Below w.heap.size w wc))
     case first =>
      have H := HC5.out
      clear HC5
      obtain ⟨bq6, hbq6⟩ : ∃ b_ : Bool, b_ = (rdOf false l0 x7_1) := ⟨_, rfl⟩
      replace H : (if bq6 = true then (gudgeonref01_sub.j1 k1 l0 l1 x5_1 x6_1 x7_1 (0 + 1)) else (gudgeonref01_sub.j1 k1 l0 l1 x5_1 x6_1 x7_1 0)) = some r := by rw [← hbq6] at H; exact H
      have Nbq6 := Aside0.mk hbq6
      clear hbq6
      (try rw [← Nbq6.out])
      by_cases c7 : bq6 = true
      ·subst c7
       have H1 : (gudgeonref01_sub.j1 k1 l0 l1 x5_1 x6_1 x7_1 (0 + 1)) = some r := by rw [if_pos rfl] at H; exact H
       clear H
       have H := H1
       clear H1
       have H' := Aside0.mk H
       clear H
       go_wp2
       go_meet
       case rel => exact ⟨_, (0 + 1), (by first | rfl | (simp; done) | (simp [*]; done) | (refine congrArg (Value.int _) ?_; omega) | (refine congrArg Value.bool ?_; generalize ByteArray.toList _ = z_; cases z_ <;> rfl)), H', ⟨by have := HK1.out; first | omega | exact Nat.le_refl _⟩, ⟨by (with_reducible repeat (first | apply Kd.R_alloc | apply Kd.R_drewN | apply Kd.R_drew)); exact HO_5.out⟩, ⟨by repeat first | exact HB.out | apply below_alloc | apply pw_below_drewN | apply below_drew1⟩⟩
      ·replace c7 := Bool.eq_false_iff.mpr c7
       subst c7
       have H1 : (gudgeonref01_sub.j1 k1 l0 l1 x5_1 x6_1 x7_1 0) = some r := by rw [if_neg (show ¬ (false = true) by decide)] at H; exact H
       clear H
       have H := H1
       clear H1
       have H' := Aside0.mk H
       clear H
       go_wp2
       go_meet
       case rel => exact ⟨_, (0), (by first | rfl | (simp; done) | (simp [*]; done) | (refine congrArg (Value.int _) ?_; omega) | (refine congrArg Value.bool ?_; generalize ByteArray.toList _ = z_; cases z_ <;> rfl)), H', ⟨by have := HK1.out; first | omega | exact Nat.le_refl _⟩, ⟨by (with_reducible repeat (first | apply Kd.R_alloc | apply Kd.R_drewN | apply Kd.R_drew)); exact HO_5.out⟩, ⟨by repeat first | exact HB.out | apply below_alloc | apply pw_below_drewN | apply below_drew1⟩⟩
     case rest =>
      clear HC5
      try clear c1
      try clear p2
      try clear c3
      try clear c3b0
      try clear c4
      try clear c4b0
      try clear p4
      try clear q4
      try clear hx4
      try clear c5
      try clear q6
      try clear c7
      try clear hx463_0
      try clear p2
      try clear p463
      try clear q463
      obtain ⟨kq, x8_4, rfl, HA, HJ4, HO_5, HB⟩ := hcut
      cases kq with
      | zero => exact absurd HA.out (by simp [gudgeonref01_sub.j1])
      | succ kj4 =>
       have H := HA.out
       clear HA
       simp only [gudgeonref01_sub.j1] at H
       replace H := Option.bind_eq_some_iff.mp H
       obtain ⟨t464, A80, H⟩ := H
       replace H : (if t464 = true then (if x6_1 = true then (if (wrap64 ((wrap64 (x8_4 - 1)) - 1)) = 1 then (if x5_1.length < 140737488355328 then (gudgeonref01_sub.l0 kj4 l0 l1 (x5_1 ++ [true]) (decide ((wrap64 ((wrap64 (x8_4 - 1)) - 1)) < 0)) (wrap64 (x7_1 + 1))) else (none)) else (if x5_1.length < 140737488355328 then (gudgeonref01_sub.l0 kj4 l0 l1 (x5_1 ++ [((wrap64 ((wrap64 (x8_4 - 1)) - 1)) == (-1))]) (decide ((wrap64 ((wrap64 (x8_4 - 1)) - 1)) < 0)) (wrap64 (x7_1 + 1))) else (none))) else (if (wrap64 (x8_4 - 1)) = 1 then (if x5_1.length < 140737488355328 then (gudgeonref01_sub.l0 kj4 l0 l1 (x5_1 ++ [true]) (decide ((wrap64 (x8_4 - 1)) < 0)) (wrap64 (x7_1 + 1))) else (none)) else (if x5_1.length < 140737488355328 then (gudgeonref01_sub.l0 kj4 l0 l1 (x5_1 ++ [((wrap64 (x8_4 - 1)) == (-1))]) (decide ((wrap64 (x8_4 - 1)) < 0)) (wrap64 (x7_1 + 1))) else (none)))) else (if x6_1 = true then (if (wrap64 (x8_4 - 1)) = 1 then (if x5_1.length < 140737488355328 then (gudgeonref01_sub.l0 kj4 l0 l1 (x5_1 ++ [true]) (decide ((wrap64 (x8_4 - 1)) < 0)) (wrap64 (x7_1 + 1))) else (none)) else (if x5_1.length < 140737488355328 then (gudgeonref01_sub.l0 kj4 l0 l1 (x5_1 ++ [((wrap64 (x8_4 - 1)) == (-1))]) (decide ((wrap64 (x8_4 - 1)) < 0)) (wrap64 (x7_1 + 1))) else (none))) else (if x8_4 = 1 then (if x5_1.length < 140737488355328 then (gudgeonref01_sub.l0 kj4 l0 l1 (x5_1 ++ [true]) (decide (x8_4 < 0)) (wrap64 (x7_1 + 1))) else (none)) else (if x5_1.length < 140737488355328 then (gudgeonref01_sub.l0 kj4 l0 l1 (x5_1 ++ [(x8_4 == (-1))]) (decide (x8_4 < 0)) (wrap64 (x7_1 + 1))) else (none))))) = some r := H
       have A8 := Aside0.mk A80
       clear A80
       by_cases c9 : t464 = true
       ·subst c9
        have H1 : (if x6_1 = true then (if (wrap64 ((wrap64 (x8_4 - 1)) - 1)) = 1 then (if x5_1.length < 140737488355328 then (gudgeonref01_sub.l0 kj4 l0 l1 (x5_1 ++ [true]) (decide ((wrap64 ((wrap64 (x8_4 - 1)) - 1)) < 0)) (wrap64 (x7_1 + 1))) else (none)) else (if x5_1.length < 140737488355328 then (gudgeonref01_sub.l0 kj4 l0 l1 (x5_1 ++ [((wrap64 ((wrap64 (x8_4 - 1)) - 1)) == (-1))]) (decide ((wrap64 ((wrap64 (x8_4 - 1)) - 1)) < 0)) (wrap64 (x7_1 + 1))) else (none))) else (if (wrap64 (x8_4 - 1)) = 1 then (if x5_1.length < 140737488355328 then (gudgeonref01_sub.l0 kj4 l0 l1 (x5_1 ++ [true]) (decide ((wrap64 (x8_4 - 1)) < 0)) (wrap64 (x7_1 + 1))) else (none)) else (if x5_1.length < 140737488355328 then (gudgeonref01_sub.l0 kj4 l0 l1 (x5_1 ++ [((wrap64 (x8_4 - 1)) == (-1))]) (decide ((wrap64 (x8_4 - 1)) < 0)) (wrap64 (x7_1 + 1))) else (none)))) = some r := by rw [if_pos rfl] at H; exact H
        clear H
        have H := H1
        clear H1
        by_cases c10 : x6_1 = true
        ·subst c10
         have H1 : (if (wrap64 ((wrap64 (x8_4 - 1)) - 1)) = 1 then (if x5_1.length < 140737488355328 then (gudgeonref01_sub.l0 kj4 l0 l1 (x5_1 ++ [true]) (decide ((wrap64 ((wrap64 (x8_4 - 1)) - 1)) < 0)) (wrap64 (x7_1 + 1))) else (none)) else (if x5_1.length < 140737488355328 then (gudgeonref01_sub.l0 kj4 l0 l1 (x5_1 ++ [((wrap64 ((wrap64 (x8_4 - 1)) - 1)) == (-1))]) (decide ((wrap64 ((wrap64 (x8_4 - 1)) - 1)) < 0)) (wrap64 (x7_1 + 1))) else (none))) = some r := by rw [if_pos rfl] at H; exact H
         clear H
         have H := H1
         clear H1
         by_cases c11 : (wrap64 ((wrap64 (x8_4 - 1)) - 1)) = 1
         ·rw [if_pos c11] at H
          have c11b0 : ((wrap64 ((wrap64 (x8_4 - 1)) - 1)) == 1) = true := beq_iff_eq.mpr c11
          have c11b1 : ((wrap64 ((wrap64 (x8_4 - 1)) - 1)) != 1) = false := bne_eq_false_iff_eq.mpr c11
          clear c11
          by_cases c12 : x5_1.length < 140737488355328
          ·rw [if_pos c12] at H
           have LMc12 := Aside0.mk c12
           clear c12
           obtain ⟨y465, hy465⟩ : ∃ y_ : List Bool, y_ = (x5_1 ++ [true]) := ⟨_, rfl⟩
           replace H : (gudgeonref01_sub.l0 kj4 l0 l1 y465 (decide ((wrap64 ((wrap64 (x8_4 - 1)) - 1)) < 0)) (wrap64 (x7_1 + 1))) = some r := by first | (rw [hy465]; with_reducible exact H) | (have H2_ := (Option.bind_some _ _).symm.trans H; rw [hy465]; with_reducible exact H2_) | (have H2_ := (Option.bind_some _ _).symm.trans H; with_reducible exact H2_) | with_reducible exact H | (rw [hy465]; exact H) | exact H
           have Ny465 := Aside0.mk hy465
           clear hy465
           have H' := Aside0.mk H
           clear H
           go_wp2_with (first | ((with_reducible refine gate_callee (f := 56) rfl ?_); refine goesL_ (some 23) rfl rfl Tryd.func56 (by kernel_rfl) rfl #[.slice A1 l1.length c1, .int .i64 x7_1] rfl (by (try simp only [List.map_toArray, List.map_cons, List.map_nil]); first | done | rfl | (simp only [List.length_drop, List.length_take]; rfl)) ?_; (with_reducible refine (gudgeonref01_at.calls _ _ l1 x7_1 true _ ?side1 ?side2 A8.out).mono ?_); (case side1 => repeat (first | exact (Kd.C_below HR1.out HB.out) | (with_reducible refine Kd.C_alloc ?_ _) | (with_reducible refine Kd.C_drewN ?_ _) | (with_reducible refine Kd.C_drew ?_))); (case side2 => exact HC1.out); rintro e w' ⟨rfl, ⟨nd, rfl⟩⟩; refine ⟨_, rfl, ?_⟩) | ((with_reducible refine gate_builtin (b := .append) (xs := #[.tmp 29, .tmp 36]) rfl ?_); at_builtin; refine Kd.R_append Kd.bool (w0 := w) w.heap.size rfl (.tmp 29) (.tmp 36) 49 4 (.bool false) 1 rfl Tryd.underlying49 info4 rfl (by decide) (by omega) u5 x5_1 true [.bool true] (fun _ => True) (fun _ => False) rfl rfl ?aP (fun _ hk => hk.elim) ?aF ?aO ?aB ?aS ?aL ?_; (case aP => exact rfl); (case aB => exact (by repeat first | exact HB.out | apply below_alloc | apply pw_below_drewN | apply below_drew1)); (case aF => exact (fun _ _ => trivial)); (case aO => exact HO_5.out); (case aS => exact (below_size (by repeat first | exact HB.out | apply below_alloc | apply pw_below_drewN | apply below_drew1))); (case aL => have := LMc12.out; omega); intro v466 w13 ho hb hg hat; rw [← Ny465.out] at ho; have n0_ := Aside0.mk (hb); have n1_ := Aside0.mk (ho); clear HB; clear HO_5; have HB := n0_; have HO467 := n1_; clear n0_ n1_; clear ho hb hg hat))
           go_roundg kj4
           case measure => have := HK1.out; have := HJ4.out; omega
           case rel => exact ⟨(y465), (decide ((wrap64 ((wrap64 (x8_4 - 1)) - 1)) < 0)), (wrap64 (x7_1 + 1)), (by first | rfl | (simp; done) | (simp [*]; done) | (refine congrArg (Value.int _) ?_; omega) | (refine congrArg Value.bool ?_; generalize ByteArray.toList _ = z_; cases z_ <;> rfl)), (by first | rfl | (simp; done) | (simp [*]; done) | (refine congrArg (Value.int _) ?_; omega) | (refine congrArg Value.bool ?_; generalize ByteArray.toList _ = z_; cases z_ <;> rfl)), H', ⟨by have := HK1.out; have := HJ4.out; omega⟩, ⟨by (with_reducible repeat (first | apply Kd.R_alloc | apply Kd.R_drewN | apply Kd.R_drew)); exact HO467.out⟩, ⟨by repeat first | exact HB.out | apply below_alloc | apply pw_below_drewN | apply below_drew1⟩⟩
          ·rw [if_neg c12] at H
           exact absurd H (by simp)
         ·rw [if_neg c11] at H
          have c11b0 : ((wrap64 ((wrap64 (x8_4 - 1)) - 1)) == 1) = false := beq_eq_false_iff_ne.mpr c11
          have c11b1 : ((wrap64 ((wrap64 (x8_4 - 1)) - 1)) != 1) = true := bne_iff_ne.mpr c11
          by_cases c14 : x5_1.length < 140737488355328
          ·rw [if_pos c14] at H
           have LMc14 := Aside0.mk c14
           clear c14
           obtain ⟨y468, hy468⟩ : ∃ y_ : List Bool, y_ = (x5_1 ++ [((wrap64 ((wrap64 (x8_4 - 1)) - 1)) == (-1))]) := ⟨_, rfl⟩
           replace H : (gudgeonref01_sub.l0 kj4 l0 l1 y468 (decide ((wrap64 ((wrap64 (x8_4 - 1)) - 1)) < 0)) (wrap64 (x7_1 + 1))) = some r := by first | (rw [hy468]; with_reducible exact H) | (have H2_ := (Option.bind_some _ _).symm.trans H; rw [hy468]; with_reducible exact H2_) | (have H2_ := (Option.bind_some _ _).symm.trans H; with_reducible exact H2_) | with_reducible exact H | (rw [hy468]; exact H) | exact H
           have Ny468 := Aside0.mk hy468
           clear hy468
           have H' := Aside0.mk H
           clear H
           go_wp2_with (first | ((with_reducible refine gate_callee (f := 56) rfl ?_); refine goesL_ (some 23) rfl rfl Tryd.func56 (by kernel_rfl) rfl #[.slice A1 l1.length c1, .int .i64 x7_1] rfl (by (try simp only [List.map_toArray, List.map_cons, List.map_nil]); first | done | rfl | (simp only [List.length_drop, List.length_take]; rfl)) ?_; (with_reducible refine (gudgeonref01_at.calls _ _ l1 x7_1 true _ ?side1 ?side2 A8.out).mono ?_); (case side1 => repeat (first | exact (Kd.C_below HR1.out HB.out) | (with_reducible refine Kd.C_alloc ?_ _) | (with_reducible refine Kd.C_drewN ?_ _) | (with_reducible refine Kd.C_drew ?_))); (case side2 => exact HC1.out); rintro e w' ⟨rfl, ⟨nd, rfl⟩⟩; refine ⟨_, rfl, ?_⟩) | ((with_reducible refine gate_builtin (b := .append) (xs := #[.tmp 29, .tmp 36]) rfl ?_); at_builtin; refine Kd.R_append Kd.bool (w0 := w) w.heap.size rfl (.tmp 29) (.tmp 36) 49 4 (.bool false) 1 rfl Tryd.underlying49 info4 rfl (by decide) (by omega) u5 x5_1 ((wrap64 ((wrap64 (x8_4 - 1)) - 1)) == (-1)) [.bool ((wrap64 ((wrap64 (x8_4 - 1)) - 1)) == (-1))] (fun _ => True) (fun _ => False) rfl rfl ?aP (fun _ hk => hk.elim) ?aF ?aO ?aB ?aS ?aL ?_; (case aP => exact rfl); (case aB => exact (by repeat first | exact HB.out | apply below_alloc | apply pw_below_drewN | apply below_drew1)); (case aF => exact (fun _ _ => trivial)); (case aO => exact HO_5.out); (case aS => exact (below_size (by repeat first | exact HB.out | apply below_alloc | apply pw_below_drewN | apply below_drew1))); (case aL => have := LMc14.out; omega); intro v469 w15 ho hb hg hat; rw [← Ny468.out] at ho; have n0_ := Aside0.mk (hb); have n1_ := Aside0.mk (ho); clear HB; clear HO_5; have HB := n0_; have HO470 := n1_; clear n0_ n1_; clear ho hb hg hat))
           go_roundg kj4
           case measure => have := HK1.out; have := HJ4.out; omega
           case rel => exact ⟨(y468), (decide ((wrap64 ((wrap64 (x8_4 - 1)) - 1)) < 0)), (wrap64 (x7_1 + 1)), (by first | rfl | (simp; done) | (simp [*]; done) | (refine congrArg (Value.int _) ?_; omega) | (refine congrArg Value.bool ?_; generalize ByteArray.toList _ = z_; cases z_ <;> rfl)), (by first | rfl | (simp; done) | (simp [*]; done) | (refine congrArg (Value.int _) ?_; omega) | (refine congrArg Value.bool ?_; generalize ByteArray.toList _ = z_; cases z_ <;> rfl)), H', ⟨by have := HK1.out; have := HJ4.out; omega⟩, ⟨by (with_reducible repeat (first | apply Kd.R_alloc | apply Kd.R_drewN | apply Kd.R_drew)); exact HO470.out⟩, ⟨by repeat first | exact HB.out | apply below_alloc | apply pw_below_drewN | apply below_drew1⟩⟩
          ·rw [if_neg c14] at H
           exact absurd H (by simp)
        ·replace c10 := Bool.eq_false_iff.mpr c10
         subst c10
         have H1 : (if (wrap64 (x8_4 - 1)) = 1 then (if x5_1.length < 140737488355328 then (gudgeonref01_sub.l0 kj4 l0 l1 (x5_1 ++ [true]) (decide ((wrap64 (x8_4 - 1)) < 0)) (wrap64 (x7_1 + 1))) else (none)) else (if x5_1.length < 140737488355328 then (gudgeonref01_sub.l0 kj4 l0 l1 (x5_1 ++ [((wrap64 (x8_4 - 1)) == (-1))]) (decide ((wrap64 (x8_4 - 1)) < 0)) (wrap64 (x7_1 + 1))) else (none))) = some r := by rw [if_neg (show ¬ (false = true) by decide)] at H; exact H
         clear H
         have H := H1
         clear H1
         by_cases c16 : (wrap64 (x8_4 - 1)) = 1
         ·rw [if_pos c16] at H
          have c16b0 : ((wrap64 (x8_4 - 1)) == 1) = true := beq_iff_eq.mpr c16
          have c16b1 : ((wrap64 (x8_4 - 1)) != 1) = false := bne_eq_false_iff_eq.mpr c16
          clear c16
          by_cases c17 : x5_1.length < 140737488355328
          ·rw [if_pos c17] at H
           have LMc17 := Aside0.mk c17
           clear c17
           obtain ⟨y471, hy471⟩ : ∃ y_ : List Bool, y_ = (x5_1 ++ [true]) := ⟨_, rfl⟩
           replace H : (gudgeonref01_sub.l0 kj4 l0 l1 y471 (decide ((wrap64 (x8_4 - 1)) < 0)) (wrap64 (x7_1 + 1))) = some r := by first | (rw [hy471]; with_reducible exact H) | (have H2_ := (Option.bind_some _ _).symm.trans H; rw [hy471]; with_reducible exact H2_) | (have H2_ := (Option.bind_some _ _).symm.trans H; with_reducible exact H2_) | with_reducible exact H | (rw [hy471]; exact H) | exact H
           have Ny471 := Aside0.mk hy471
           clear hy471
           have H' := Aside0.mk H
           clear H
           go_wp2_with (first | ((with_reducible refine gate_callee (f := 56) rfl ?_); refine goesL_ (some 23) rfl rfl Tryd.func56 (by kernel_rfl) rfl #[.slice A1 l1.length c1, .int .i64 x7_1] rfl (by (try simp only [List.map_toArray, List.map_cons, List.map_nil]); first | done | rfl | (simp only [List.length_drop, List.length_take]; rfl)) ?_; (with_reducible refine (gudgeonref01_at.calls _ _ l1 x7_1 true _ ?side1 ?side2 A8.out).mono ?_); (case side1 => repeat (first | exact (Kd.C_below HR1.out HB.out) | (with_reducible refine Kd.C_alloc ?_ _) | (with_reducible refine Kd.C_drewN ?_ _) | (with_reducible refine Kd.C_drew ?_))); (case side2 => exact HC1.out); rintro e w' ⟨rfl, ⟨nd, rfl⟩⟩; refine ⟨_, rfl, ?_⟩) | ((with_reducible refine gate_builtin (b := .append) (xs := #[.tmp 29, .tmp 36]) rfl ?_); at_builtin; refine Kd.R_append Kd.bool (w0 := w) w.heap.size rfl (.tmp 29) (.tmp 36) 49 4 (.bool false) 1 rfl Tryd.underlying49 info4 rfl (by decide) (by omega) u5 x5_1 true [.bool true] (fun _ => True) (fun _ => False) rfl rfl ?aP (fun _ hk => hk.elim) ?aF ?aO ?aB ?aS ?aL ?_; (case aP => exact rfl); (case aB => exact (by repeat first | exact HB.out | apply below_alloc | apply pw_below_drewN | apply below_drew1)); (case aF => exact (fun _ _ => trivial)); (case aO => exact HO_5.out); (case aS => exact (below_size (by repeat first | exact HB.out | apply below_alloc | apply pw_below_drewN | apply below_drew1))); (case aL => have := LMc17.out; omega); intro v472 w18 ho hb hg hat; rw [← Ny471.out] at ho; have n0_ := Aside0.mk (hb); have n1_ := Aside0.mk (ho); clear HB; clear HO_5; have HB := n0_; have HO473 := n1_; clear n0_ n1_; clear ho hb hg hat))
           go_roundg kj4
           case measure => have := HK1.out; have := HJ4.out; omega
           case rel => exact ⟨(y471), (decide ((wrap64 (x8_4 - 1)) < 0)), (wrap64 (x7_1 + 1)), (by first | rfl | (simp; done) | (simp [*]; done) | (refine congrArg (Value.int _) ?_; omega) | (refine congrArg Value.bool ?_; generalize ByteArray.toList _ = z_; cases z_ <;> rfl)), (by first | rfl | (simp; done) | (simp [*]; done) | (refine congrArg (Value.int _) ?_; omega) | (refine congrArg Value.bool ?_; generalize ByteArray.toList _ = z_; cases z_ <;> rfl)), H', ⟨by have := HK1.out; have := HJ4.out; omega⟩, ⟨by (with_reducible repeat (first | apply Kd.R_alloc | apply Kd.R_drewN | apply Kd.R_drew)); exact HO473.out⟩, ⟨by repeat first | exact HB.out | apply below_alloc | apply pw_below_drewN | apply below_drew1⟩⟩
          ·rw [if_neg c17] at H
           exact absurd H (by simp)
         ·rw [if_neg c16] at H
          have c16b0 : ((wrap64 (x8_4 - 1)) == 1) = false := beq_eq_false_iff_ne.mpr c16
          have c16b1 : ((wrap64 (x8_4 - 1)) != 1) = true := bne_iff_ne.mpr c16
          by_cases c19 : x5_1.length < 140737488355328
          ·rw [if_pos c19] at H
           have LMc19 := Aside0.mk c19
           clear c19
           obtain ⟨y474, hy474⟩ : ∃ y_ : List Bool, y_ = (x5_1 ++ [((wrap64 (x8_4 - 1)) == (-1))]) := ⟨_, rfl⟩
           replace H : (gudgeonref01_sub.l0 kj4 l0 l1 y474 (decide ((wrap64 (x8_4 - 1)) < 0)) (wrap64 (x7_1 + 1))) = some r := by first | (rw [hy474]; with_reducible exact H) | (have H2_ := (Option.bind_some _ _).symm.trans H; rw [hy474]; with_reducible exact H2_) | (have H2_ := (Option.bind_some _ _).symm.trans H; with_reducible exact H2_) | with_reducible exact H | (rw [hy474]; exact H) | exact H
           have Ny474 := Aside0.mk hy474
           clear hy474
           have H' := Aside0.mk H
           clear H
           go_wp2_with (first | ((with_reducible refine gate_callee (f := 56) rfl ?_); refine goesL_ (some 23) rfl rfl Tryd.func56 (by kernel_rfl) rfl #[.slice A1 l1.length c1, .int .i64 x7_1] rfl (by (try simp only [List.map_toArray, List.map_cons, List.map_nil]); first | done | rfl | (simp only [List.length_drop, List.length_take]; rfl)) ?_; (with_reducible refine (gudgeonref01_at.calls _ _ l1 x7_1 true _ ?side1 ?side2 A8.out).mono ?_); (case side1 => repeat (first | exact (Kd.C_below HR1.out HB.out) | (with_reducible refine Kd.C_alloc ?_ _) | (with_reducible refine Kd.C_drewN ?_ _) | (with_reducible refine Kd.C_drew ?_))); (case side2 => exact HC1.out); rintro e w' ⟨rfl, ⟨nd, rfl⟩⟩; refine ⟨_, rfl, ?_⟩) | ((with_reducible refine gate_builtin (b := .append) (xs := #[.tmp 29, .tmp 36]) rfl ?_); at_builtin; refine Kd.R_append Kd.bool (w0 := w) w.heap.size rfl (.tmp 29) (.tmp 36) 49 4 (.bool false) 1 rfl Tryd.underlying49 info4 rfl (by decide) (by omega) u5 x5_1 ((wrap64 (x8_4 - 1)) == (-1)) [.bool ((wrap64 (x8_4 - 1)) == (-1))] (fun _ => True) (fun _ => False) rfl rfl ?aP (fun _ hk => hk.elim) ?aF ?aO ?aB ?aS ?aL ?_; (case aP => exact rfl); (case aB => exact (by repeat first | exact HB.out | apply below_alloc | apply pw_below_drewN | apply below_drew1)); (case aF => exact (fun _ _ => trivial)); (case aO => exact HO_5.out); (case aS => exact (below_size (by repeat first | exact HB.out | apply below_alloc | apply pw_below_drewN | apply below_drew1))); (case aL => have := LMc19.out; omega); intro v475 w20 ho hb hg hat; rw [← Ny474.out] at ho; have n0_ := Aside0.mk (hb); have n1_ := Aside0.mk (ho); clear HB; clear HO_5; have HB := n0_; have HO476 := n1_; clear n0_ n1_; clear ho hb hg hat))
           go_roundg kj4
           case measure => have := HK1.out; have := HJ4.out; omega
           case rel => exact ⟨(y474), (decide ((wrap64 (x8_4 - 1)) < 0)), (wrap64 (x7_1 + 1)), (by first | rfl | (simp; done) | (simp [*]; done) | (refine congrArg (Value.int _) ?_; omega) | (refine congrArg Value.bool ?_; generalize ByteArray.toList _ = z_; cases z_ <;> rfl)), (by first | rfl | (simp; done) | (simp [*]; done) | (refine congrArg (Value.int _) ?_; omega) | (refine congrArg Value.bool ?_; generalize ByteArray.toList _ = z_; cases z_ <;> rfl)), H', ⟨by have := HK1.out; have := HJ4.out; omega⟩, ⟨by (with_reducible repeat (first | apply Kd.R_alloc | apply Kd.R_drewN | apply Kd.R_drew)); exact HO476.out⟩, ⟨by repeat first | exact HB.out | apply below_alloc | apply pw_below_drewN | apply below_drew1⟩⟩
          ·rw [if_neg c19] at H
           exact absurd H (by simp)
       ·replace c9 := Bool.eq_false_iff.mpr c9
        subst c9
        have H1 : (if x6_1 = true then (if (wrap64 (x8_4 - 1)) = 1 then (if x5_1.length < 140737488355328 then (gudgeonref01_sub.l0 kj4 l0 l1 (x5_1 ++ [true]) (decide ((wrap64 (x8_4 - 1)) < 0)) (wrap64 (x7_1 + 1))) else (none)) else (if x5_1.length < 140737488355328 then (gudgeonref01_sub.l0 kj4 l0 l1 (x5_1 ++ [((wrap64 (x8_4 - 1)) == (-1))]) (decide ((wrap64 (x8_4 - 1)) < 0)) (wrap64 (x7_1 + 1))) else (none))) else (if x8_4 = 1 then (if x5_1.length < 140737488355328 then (gudgeonref01_sub.l0 kj4 l0 l1 (x5_1 ++ [true]) (decide (x8_4 < 0)) (wrap64 (x7_1 + 1))) else (none)) else (if x5_1.length < 140737488355328 then (gudgeonref01_sub.l0 kj4 l0 l1 (x5_1 ++ [(x8_4 == (-1))]) (decide (x8_4 < 0)) (wrap64 (x7_1 + 1))) else (none)))) = some r := by rw [if_neg (show ¬ (false = true) by decide)] at H; exact H
        clear H
        have H := H1
        clear H1
        by_cases c21 : x6_1 = true
        ·subst c21
         have H1 : (if (wrap64 (x8_4 - 1)) = 1 then (if x5_1.length < 140737488355328 then (gudgeonref01_sub.l0 kj4 l0 l1 (x5_1 ++ [true]) (decide ((wrap64 (x8_4 - 1)) < 0)) (wrap64 (x7_1 + 1))) else (none)) else (if x5_1.length < 140737488355328 then (gudgeonref01_sub.l0 kj4 l0 l1 (x5_1 ++ [((wrap64 (x8_4 - 1)) == (-1))]) (decide ((wrap64 (x8_4 - 1)) < 0)) (wrap64 (x7_1 + 1))) else (none))) = some r := by rw [if_pos rfl] at H; exact H
         clear H
         have H := H1
         clear H1
         by_cases c22 : (wrap64 (x8_4 - 1)) = 1
         ·rw [if_pos c22] at H
          have c22b0 : ((wrap64 (x8_4 - 1)) == 1) = true := beq_iff_eq.mpr c22
          have c22b1 : ((wrap64 (x8_4 - 1)) != 1) = false := bne_eq_false_iff_eq.mpr c22
          clear c22
          by_cases c23 : x5_1.length < 140737488355328
          ·rw [if_pos c23] at H
           have LMc23 := Aside0.mk c23
           clear c23
           obtain ⟨y477, hy477⟩ : ∃ y_ : List Bool, y_ = (x5_1 ++ [true]) := ⟨_, rfl⟩
           replace H : (gudgeonref01_sub.l0 kj4 l0 l1 y477 (decide ((wrap64 (x8_4 - 1)) < 0)) (wrap64 (x7_1 + 1))) = some r := by first | (rw [hy477]; with_reducible exact H) | (have H2_ := (Option.bind_some _ _).symm.trans H; rw [hy477]; with_reducible exact H2_) | (have H2_ := (Option.bind_some _ _).symm.trans H; with_reducible exact H2_) | with_reducible exact H | (rw [hy477]; exact H) | exact H
           have Ny477 := Aside0.mk hy477
           clear hy477
           have H' := Aside0.mk H
           clear H
           go_wp2_with (first | ((with_reducible refine gate_callee (f := 56) rfl ?_); refine goesL_ (some 23) rfl rfl Tryd.func56 (by kernel_rfl) rfl #[.slice A1 l1.length c1, .int .i64 x7_1] rfl (by (try simp only [List.map_toArray, List.map_cons, List.map_nil]); first | done | rfl | (simp only [List.length_drop, List.length_take]; rfl)) ?_; (with_reducible refine (gudgeonref01_at.calls _ _ l1 x7_1 false _ ?side1 ?side2 A8.out).mono ?_); (case side1 => repeat (first | exact (Kd.C_below HR1.out HB.out) | (with_reducible refine Kd.C_alloc ?_ _) | (with_reducible refine Kd.C_drewN ?_ _) | (with_reducible refine Kd.C_drew ?_))); (case side2 => exact HC1.out); rintro e w' ⟨rfl, ⟨nd, rfl⟩⟩; refine ⟨_, rfl, ?_⟩) | ((with_reducible refine gate_builtin (b := .append) (xs := #[.tmp 29, .tmp 36]) rfl ?_); at_builtin; refine Kd.R_append Kd.bool (w0 := w) w.heap.size rfl (.tmp 29) (.tmp 36) 49 4 (.bool false) 1 rfl Tryd.underlying49 info4 rfl (by decide) (by omega) u5 x5_1 true [.bool true] (fun _ => True) (fun _ => False) rfl rfl ?aP (fun _ hk => hk.elim) ?aF ?aO ?aB ?aS ?aL ?_; (case aP => exact rfl); (case aB => exact (by repeat first | exact HB.out | apply below_alloc | apply pw_below_drewN | apply below_drew1)); (case aF => exact (fun _ _ => trivial)); (case aO => exact HO_5.out); (case aS => exact (below_size (by repeat first | exact HB.out | apply below_alloc | apply pw_below_drewN | apply below_drew1))); (case aL => have := LMc23.out; omega); intro v478 w24 ho hb hg hat; rw [← Ny477.out] at ho; have n0_ := Aside0.mk (hb); have n1_ := Aside0.mk (ho); clear HB; clear HO_5; have HB := n0_; have HO479 := n1_; clear n0_ n1_; clear ho hb hg hat))
           go_roundg kj4
           case measure => have := HK1.out; have := HJ4.out; omega
           case rel => exact ⟨(y477), (decide ((wrap64 (x8_4 - 1)) < 0)), (wrap64 (x7_1 + 1)), (by first | rfl | (simp; done) | (simp [*]; done) | (refine congrArg (Value.int _) ?_; omega) | (refine congrArg Value.bool ?_; generalize ByteArray.toList _ = z_; cases z_ <;> rfl)), (by first | rfl | (simp; done) | (simp [*]; done) | (refine congrArg (Value.int _) ?_; omega) | (refine congrArg Value.bool ?_; generalize ByteArray.toList _ = z_; cases z_ <;> rfl)), H', ⟨by have := HK1.out; have := HJ4.out; omega⟩, ⟨by (with_reducible repeat (first | apply Kd.R_alloc | apply Kd.R_drewN | apply Kd.R_drew)); exact HO479.out⟩, ⟨by repeat first | exact HB.out | apply below_alloc | apply pw_below_drewN | apply below_drew1⟩⟩
          ·rw [if_neg c23] at H
           exact absurd H (by simp)
         ·rw [if_neg c22] at H
          have c22b0 : ((wrap64 (x8_4 - 1)) == 1) = false := beq_eq_false_iff_ne.mpr c22
          have c22b1 : ((wrap64 (x8_4 - 1)) != 1) = true := bne_iff_ne.mpr c22
          by_cases c25 : x5_1.length < 140737488355328
          ·rw [if_pos c25] at H
           have LMc25 := Aside0.mk c25
           clear c25
           obtain ⟨y480, hy480⟩ : ∃ y_ : List Bool, y_ = (x5_1 ++ [((wrap64 (x8_4 - 1)) == (-1))]) := ⟨_, rfl⟩
           replace H : (gudgeonref01_sub.l0 kj4 l0 l1 y480 (decide ((wrap64 (x8_4 - 1)) < 0)) (wrap64 (x7_1 + 1))) = some r := by first | (rw [hy480]; with_reducible exact H) | (have H2_ := (Option.bind_some _ _).symm.trans H; rw [hy480]; with_reducible exact H2_) | (have H2_ := (Option.bind_some _ _).symm.trans H; with_reducible exact H2_) | with_reducible exact H | (rw [hy480]; exact H) | exact H
           have Ny480 := Aside0.mk hy480
           clear hy480
           have H' := Aside0.mk H
           clear H
           go_wp2_with (first | ((with_reducible refine gate_callee (f := 56) rfl ?_); refine goesL_ (some 23) rfl rfl Tryd.func56 (by kernel_rfl) rfl #[.slice A1 l1.length c1, .int .i64 x7_1] rfl (by (try simp only [List.map_toArray, List.map_cons, List.map_nil]); first | done | rfl | (simp only [List.length_drop, List.length_take]; rfl)) ?_; (with_reducible refine (gudgeonref01_at.calls _ _ l1 x7_1 false _ ?side1 ?side2 A8.out).mono ?_); (case side1 => repeat (first | exact (Kd.C_below HR1.out HB.out) | (with_reducible refine Kd.C_alloc ?_ _) | (with_reducible refine Kd.C_drewN ?_ _) | (with_reducible refine Kd.C_drew ?_))); (case side2 => exact HC1.out); rintro e w' ⟨rfl, ⟨nd, rfl⟩⟩; refine ⟨_, rfl, ?_⟩) | ((with_reducible refine gate_builtin (b := .append) (xs := #[.tmp 29, .tmp 36]) rfl ?_); at_builtin; refine Kd.R_append Kd.bool (w0 := w) w.heap.size rfl (.tmp 29) (.tmp 36) 49 4 (.bool false) 1 rfl Tryd.underlying49 info4 rfl (by decide) (by omega) u5 x5_1 ((wrap64 (x8_4 - 1)) == (-1)) [.bool ((wrap64 (x8_4 - 1)) == (-1))] (fun _ => True) (fun _ => False) rfl rfl ?aP (fun _ hk => hk.elim) ?aF ?aO ?aB ?aS ?aL ?_; (case aP => exact rfl); (case aB => exact (by repeat first | exact HB.out | apply below_alloc | apply pw_below_drewN | apply below_drew1)); (case aF => exact (fun _ _ => trivial)); (case aO => exact HO_5.out); (case aS => exact (below_size (by repeat first | exact HB.out | apply below_alloc | apply pw_below_drewN | apply below_drew1))); (case aL => have := LMc25.out; omega); intro v481 w26 ho hb hg hat; rw [← Ny480.out] at ho; have n0_ := Aside0.mk (hb); have n1_ := Aside0.mk (ho); clear HB; clear HO_5; have HB := n0_; have HO482 := n1_; clear n0_ n1_; clear ho hb hg hat))
           go_roundg kj4
           case measure => have := HK1.out; have := HJ4.out; omega
           case rel => exact ⟨(y480), (decide ((wrap64 (x8_4 - 1)) < 0)), (wrap64 (x7_1 + 1)), (by first | rfl | (simp; done) | (simp [*]; done) | (refine congrArg (Value.int _) ?_; omega) | (refine congrArg Value.bool ?_; generalize ByteArray.toList _ = z_; cases z_ <;> rfl)), (by first | rfl | (simp; done) | (simp [*]; done) | (refine congrArg (Value.int _) ?_; omega) | (refine congrArg Value.bool ?_; generalize ByteArray.toList _ = z_; cases z_ <;> rfl)), H', ⟨by have := HK1.out; have := HJ4.out; omega⟩, ⟨by (with_reducible repeat (first | apply Kd.R_alloc | apply Kd.R_drewN | apply Kd.R_drew)); exact HO482.out⟩, ⟨by repeat first | exact HB.out | apply below_alloc | apply pw_below_drewN | apply below_drew1⟩⟩
          ·rw [if_neg c25] at H
           exact absurd H (by simp)
        ·replace c21 := Bool.eq_false_iff.mpr c21
         subst c21
         have H1 : (if x8_4 = 1 then (if x5_1.length < 140737488355328 then (gudgeonref01_sub.l0 kj4 l0 l1 (x5_1 ++ [true]) (decide (x8_4 < 0)) (wrap64 (x7_1 + 1))) else (none)) else (if x5_1.length < 140737488355328 then (gudgeonref01_sub.l0 kj4 l0 l1 (x5_1 ++ [(x8_4 == (-1))]) (decide (x8_4 < 0)) (wrap64 (x7_1 + 1))) else (none))) = some r := by rw [if_neg (show ¬ (false = true) by decide)] at H; exact H
         clear H
         have H := H1
         clear H1
         by_cases c27 : x8_4 = 1
         ·rw [if_pos c27] at H
          have c27b0 : (x8_4 == 1) = true := beq_iff_eq.mpr c27
          have c27b1 : (x8_4 != 1) = false := bne_eq_false_iff_eq.mpr c27
          clear c27
          by_cases c28 : x5_1.length < 140737488355328
          ·rw [if_pos c28] at H
           have LMc28 := Aside0.mk c28
           clear c28
           obtain ⟨y483, hy483⟩ : ∃ y_ : List Bool, y_ = (x5_1 ++ [true]) := ⟨_, rfl⟩
           replace H : (gudgeonref01_sub.l0 kj4 l0 l1 y483 (decide (x8_4 < 0)) (wrap64 (x7_1 + 1))) = some r := by first | (rw [hy483]; with_reducible exact H) | (have H2_ := (Option.bind_some _ _).symm.trans H; rw [hy483]; with_reducible exact H2_) | (have H2_ := (Option.bind_some _ _).symm.trans H; with_reducible exact H2_) | with_reducible exact H | (rw [hy483]; exact H) | exact H
           have Ny483 := Aside0.mk hy483
           clear hy483
           have H' := Aside0.mk H
           clear H
           go_wp2_with (first | ((with_reducible refine gate_callee (f := 56) rfl ?_); refine goesL_ (some 23) rfl rfl Tryd.func56 (by kernel_rfl) rfl #[.slice A1 l1.length c1, .int .i64 x7_1] rfl (by (try simp only [List.map_toArray, List.map_cons, List.map_nil]); first | done | rfl | (simp only [List.length_drop, List.length_take]; rfl)) ?_; (with_reducible refine (gudgeonref01_at.calls _ _ l1 x7_1 false _ ?side1 ?side2 A8.out).mono ?_); (case side1 => repeat (first | exact (Kd.C_below HR1.out HB.out) | (with_reducible refine Kd.C_alloc ?_ _) | (with_reducible refine Kd.C_drewN ?_ _) | (with_reducible refine Kd.C_drew ?_))); (case side2 => exact HC1.out); rintro e w' ⟨rfl, ⟨nd, rfl⟩⟩; refine ⟨_, rfl, ?_⟩) | ((with_reducible refine gate_builtin (b := .append) (xs := #[.tmp 29, .tmp 36]) rfl ?_); at_builtin; refine Kd.R_append Kd.bool (w0 := w) w.heap.size rfl (.tmp 29) (.tmp 36) 49 4 (.bool false) 1 rfl Tryd.underlying49 info4 rfl (by decide) (by omega) u5 x5_1 true [.bool true] (fun _ => True) (fun _ => False) rfl rfl ?aP (fun _ hk => hk.elim) ?aF ?aO ?aB ?aS ?aL ?_; (case aP => exact rfl); (case aB => exact (by repeat first | exact HB.out | apply below_alloc | apply pw_below_drewN | apply below_drew1)); (case aF => exact (fun _ _ => trivial)); (case aO => exact HO_5.out); (case aS => exact (below_size (by repeat first | exact HB.out | apply below_alloc | apply pw_below_drewN | apply below_drew1))); (case aL => have := LMc28.out; omega); intro v484 w29 ho hb hg hat; rw [← Ny483.out] at ho; have n0_ := Aside0.mk (hb); have n1_ := Aside0.mk (ho); clear HB; clear HO_5; have HB := n0_; have HO485 := n1_; clear n0_ n1_; clear ho hb hg hat))
           go_roundg kj4
           case measure => have := HK1.out; have := HJ4.out; omega
           case rel => exact ⟨(y483), (decide (x8_4 < 0)), (wrap64 (x7_1 + 1)), (by first | rfl | (simp; done) | (simp [*]; done) | (refine congrArg (Value.int _) ?_; omega) | (refine congrArg Value.bool ?_; generalize ByteArray.toList _ = z_; cases z_ <;> rfl)), (by first | rfl | (simp; done) | (simp [*]; done) | (refine congrArg (Value.int _) ?_; omega) | (refine congrArg Value.bool ?_; generalize ByteArray.toList _ = z_; cases z_ <;> rfl)), H', ⟨by have := HK1.out; have := HJ4.out; omega⟩, ⟨by (with_reducible repeat (first | apply Kd.R_alloc | apply Kd.R_drewN | apply Kd.R_drew)); exact HO485.out⟩, ⟨by repeat first | exact HB.out | apply below_alloc | apply pw_below_drewN | apply below_drew1⟩⟩
          ·rw [if_neg c28] at H
           exact absurd H (by simp)
         ·rw [if_neg c27] at H
          have c27b0 : (x8_4 == 1) = false := beq_eq_false_iff_ne.mpr c27
          have c27b1 : (x8_4 != 1) = true := bne_iff_ne.mpr c27
          by_cases c30 : x5_1.length < 140737488355328
          ·rw [if_pos c30] at H
           have LMc30 := Aside0.mk c30
           clear c30
           obtain ⟨y486, hy486⟩ : ∃ y_ : List Bool, y_ = (x5_1 ++ [(x8_4 == (-1))]) := ⟨_, rfl⟩
           replace H : (gudgeonref01_sub.l0 kj4 l0 l1 y486 (decide (x8_4 < 0)) (wrap64 (x7_1 + 1))) = some r := by first | (rw [hy486]; with_reducible exact H) | (have H2_ := (Option.bind_some _ _).symm.trans H; rw [hy486]; with_reducible exact H2_) | (have H2_ := (Option.bind_some _ _).symm.trans H; with_reducible exact H2_) | with_reducible exact H | (rw [hy486]; exact H) | exact H
           have Ny486 := Aside0.mk hy486
           clear hy486
           have H' := Aside0.mk H
           clear H
           go_wp2_with (first | ((with_reducible refine gate_callee (f := 56) rfl ?_); refine goesL_ (some 23) rfl rfl Tryd.func56 (by kernel_rfl) rfl #[.slice A1 l1.length c1, .int .i64 x7_1] rfl (by (try simp only [List.map_toArray, List.map_cons, List.map_nil]); first | done | rfl | (simp only [List.length_drop, List.length_take]; rfl)) ?_; (with_reducible refine (gudgeonref01_at.calls _ _ l1 x7_1 false _ ?side1 ?side2 A8.out).mono ?_); (case side1 => repeat (first | exact (Kd.C_below HR1.out HB.out) | (with_reducible refine Kd.C_alloc ?_ _) | (with_reducible refine Kd.C_drewN ?_ _) | (with_reducible refine Kd.C_drew ?_))); (case side2 => exact HC1.out); rintro e w' ⟨rfl, ⟨nd, rfl⟩⟩; refine ⟨_, rfl, ?_⟩) | ((with_reducible refine gate_builtin (b := .append) (xs := #[.tmp 29, .tmp 36]) rfl ?_); at_builtin; refine Kd.R_append Kd.bool (w0 := w) w.heap.size rfl (.tmp 29) (.tmp 36) 49 4 (.bool false) 1 rfl Tryd.underlying49 info4 rfl (by decide) (by omega) u5 x5_1 (x8_4 == (-1)) [.bool (x8_4 == (-1))] (fun _ => True) (fun _ => False) rfl rfl ?aP (fun _ hk => hk.elim) ?aF ?aO ?aB ?aS ?aL ?_; (case aP => exact rfl); (case aB => exact (by repeat first | exact HB.out | apply below_alloc | apply pw_below_drewN | apply below_drew1)); (case aF => exact (fun _ _ => trivial)); (case aO => exact HO_5.out); (case aS => exact (below_size (by repeat first | exact HB.out | apply below_alloc | apply pw_below_drewN | apply below_drew1))); (case aL => have := LMc30.out; omega); intro v487 w31 ho hb hg hat; rw [← Ny486.out] at ho; have n0_ := Aside0.mk (hb); have n1_ := Aside0.mk (ho); clear HB; clear HO_5; have HB := n0_; have HO488 := n1_; clear n0_ n1_; clear ho hb hg hat))
           go_roundg kj4
           case measure => have := HK1.out; have := HJ4.out; omega
           case rel => exact ⟨(y486), (decide (x8_4 < 0)), (wrap64 (x7_1 + 1)), (by first | rfl | (simp; done) | (simp [*]; done) | (refine congrArg (Value.int _) ?_; omega) | (refine congrArg Value.bool ?_; generalize ByteArray.toList _ = z_; cases z_ <;> rfl)), (by first | rfl | (simp; done) | (simp [*]; done) | (refine congrArg (Value.int _) ?_; omega) | (refine congrArg Value.bool ?_; generalize ByteArray.toList _ = z_; cases z_ <;> rfl)), H', ⟨by have := HK1.out; have := HJ4.out; omega⟩, ⟨by (with_reducible repeat (first | apply Kd.R_alloc | apply Kd.R_drewN | apply Kd.R_drew)); exact HO488.out⟩, ⟨by repeat first | exact HB.out | apply below_alloc | apply pw_below_drewN | apply below_drew1⟩⟩
          ·rw [if_neg c30] at H
           exact absurd H (by simp)
    ·rw [if_neg c4] at H
     exact absurd H (by simp)
   ·rw [if_neg c3] at H
    have c3b0 : decide (x7_1 < (l0.length : Int)) = false := decide_eq_false c3
    clear c3
    replace H := Option.bind_eq_some_iff.mp H
    obtain ⟨t460, A320, H⟩ := H
    replace H : (some t460) = some r := H
    have A32 := Aside0.mk A320
    clear A320
    obtain rfl := Option.some.inj H
    obtain ⟨Ao33, co33, eo33⟩ := Kd.R_slice HO_5.out
    subst eo33
    go_wp2_with (first | ((with_reducible refine gate_callee (f := 55) rfl ?_); refine goesL_ (some 41) rfl rfl Tryd.func55 (by kernel_rfl) rfl #[.slice Ao33 x5_1.length co33] rfl (by (try simp only [List.map_toArray, List.map_cons, List.map_nil]); first | done | rfl | (simp only [List.length_drop, List.length_take]; rfl)) ?_; (with_reducible refine (gudgeonref01_trim.calls k1 _ _ x5_1 t460 _ ?side1 ?side2 A32.out).mono ?_); (case side1 => repeat (first | exact (Kd.R_reads' HO_5.out).2.2 | (with_reducible refine Kd.C_alloc ?_ _) | (with_reducible refine Kd.C_drewN ?_ _) | (with_reducible refine Kd.C_drew ?_))); (case side2 => exact (Kd.R_reads' HO_5.out).2.1); rintro e w34 ⟨v461, rfl, ho0, hb⟩; refine ⟨_, rfl, ?_⟩; have n0_ := Aside0.mk (Kd.R_elder' HO_5.out (Kd.R_base ho0) hb); have n1_ := Aside0.mk (Kd.R_lower (Kd.R_new' ho0 (Kd.R_lt HO_5.out)) (below_size (by repeat first | exact HB.out | apply below_alloc | apply pw_below_drewN | apply below_drew1))); have n2_ := Aside0.mk (below_step (by repeat first | exact HB.out | apply below_alloc | apply pw_below_drewN | apply below_drew1) hb); clear HO_5; clear HB; have HO_5 := n0_; have HO462 := n1_; have HB := n2_; clear n0_ n1_ n2_))
    go_ret
    exact ⟨_, by first | rfl | (simp [errW_none, errW_some] <;> rfl) | (simp [*, errW_none, errW_some] <;> rfl), by (with_reducible repeat (first | apply Kd.R_alloc | apply Kd.R_drewN | apply Kd.R_drew)); exact Kd.R_mono HO462.out (fun _ hk => trivial), by repeat first | exact HB.out | apply below_alloc | apply pw_below_drewN | apply below_drew1⟩

end Go.Proofs.YtlfpnohpcemkgaaDoor.PA
/- Written by a program of this session, wip/tools/patch_print.py, over the kit's print of the loaded functions. -/
namespace Go.Proofs.YtlfpnohpcemkgaaDoor.H
end Go.Proofs.YtlfpnohpcemkgaaDoor.H
namespace Go.Proofs.YtlfpnohpcemkgaaDoor.PA
open Go.RowKit Go.Proofs.YtlfpnohpcemkgaaDoorW.PrintWords Go.Proofs.YtlfpnohpcemkgaaDoorW.PrintLast Go.Proofs.YtlfpnohpcemkgaaDoorW.PrintMore Go.Proofs.YtlfpnohpcemkgaaDoor.H
attribute [local go_sem] max2_int min2_int max_two min_two max_three min_three max_four min_four   -- for this text's walks alone
set_option linter.unusedVariables false
set_option linter.unusedSimpArgs false

/-! ### gudgeonref01_add: function 44 -/
mutual
def gudgeonref01_add.l0 : Nat → List Bool → List Bool → List Bool → Bool → Int → Option (List Bool)
 | 0, _, _, _, _, _ => none
 | k + 1, x0, x1, x5, x6, x7 => if x7 < (x0.length : Int) then (gudgeonref01_add.j1 k x0 x1 x5 x6 x7 true) else (if x7 < (x1.length : Int) then (gudgeonref01_add.j1 k x0 x1 x5 x6 x7 true) else (gudgeonref01_add.j1 k x0 x1 x5 x6 x7 x6))
def gudgeonref01_add.j1 : Nat → List Bool → List Bool → List Bool → Bool → Int → Bool → Option (List Bool)
 | 0, _, _, _, _, _, _ => none
 | k + 1, x0, x1, x5, x6, x7, x23 => if x23 = true then ((gudgeonref01_at.f x0 x7).bind fun t579 => ((gudgeonref01_at.f x1 x7).bind fun t580 => (if t579 = true then (gudgeonref01_add.j2 k x0 x1 x5 x6 x7 t580 (0 + 1)) else (gudgeonref01_add.j2 k x0 x1 x5 x6 x7 t580 0)))) else ((gudgeonref01_trim.f k x5).bind fun t576 => (some t576))
def gudgeonref01_add.j2 : Nat → List Bool → List Bool → List Bool → Bool → Int → Bool → Int → Option (List Bool)
 | 0, _, _, _, _, _, _, _ => none
 | k + 1, x0, x1, x5, x6, x7, x9, x10 => if x9 = true then (if x6 = true then (if x5.length < 140737488355328 then (gudgeonref01_add.l0 k x0 x1 (x5 ++ [((Int.tmod (wrap64 ((wrap64 (x10 + 1)) + 1)) 2) == 1)]) (decide ((wrap64 ((wrap64 (x10 + 1)) + 1)) > 1)) (wrap64 (x7 + 1))) else (none)) else (if x5.length < 140737488355328 then (gudgeonref01_add.l0 k x0 x1 (x5 ++ [((Int.tmod (wrap64 (x10 + 1)) 2) == 1)]) (decide ((wrap64 (x10 + 1)) > 1)) (wrap64 (x7 + 1))) else (none))) else (if x6 = true then (if x5.length < 140737488355328 then (gudgeonref01_add.l0 k x0 x1 (x5 ++ [((Int.tmod (wrap64 (x10 + 1)) 2) == 1)]) (decide ((wrap64 (x10 + 1)) > 1)) (wrap64 (x7 + 1))) else (none)) else (if x5.length < 140737488355328 then (gudgeonref01_add.l0 k x0 x1 (x5 ++ [((Int.tmod x10 2) == 1)]) (decide (x10 > 1)) (wrap64 (x7 + 1))) else (none)))
end
def gudgeonref01_add.f (k : Nat) (l0 : List Bool) (l1 : List Bool) : Option (List Bool) := gudgeonref01_add.l0 k l0 l1 ([] : List Bool) false 0
theorem gudgeonref01_add.mono_l : ∀ k, (∀ y0 y1 y2 y3 y4, LeO (gudgeonref01_add.l0 k y0 y1 y2 y3 y4) (gudgeonref01_add.l0 (k + 1) y0 y1 y2 y3 y4)) ∧ (∀ y0 y1 y2 y3 y4 y5, LeO (gudgeonref01_add.j1 k y0 y1 y2 y3 y4 y5) (gudgeonref01_add.j1 (k + 1) y0 y1 y2 y3 y4 y5)) ∧ (∀ y0 y1 y2 y3 y4 y5 y6, LeO (gudgeonref01_add.j2 k y0 y1 y2 y3 y4 y5 y6) (gudgeonref01_add.j2 (k + 1) y0 y1 y2 y3 y4 y5 y6))
 | 0 => ⟨fun _ _ _ _ _ r h => by simp [gudgeonref01_add.l0] at h, fun _ _ _ _ _ _ r h => by simp [gudgeonref01_add.j1] at h, fun _ _ _ _ _ _ _ r h => by simp [gudgeonref01_add.j2] at h⟩
 | k + 1 => by
  obtain ⟨ih0, ih1, ih2⟩ := gudgeonref01_add.mono_l k
  refine ⟨?_, ?_, ?_⟩
  ·intro y0 y1 y2 y3 y4
   unfold gudgeonref01_add.l0
   repeat' first
   | (with_reducible exact ih0 _ _ _ _ _)
   | (with_reducible exact ih1 _ _ _ _ _ _)
   | (with_reducible exact ih2 _ _ _ _ _ _ _)
   | (with_reducible exact gudgeonref01_trim.mono _ _)
   | (with_reducible exact LeO.refl _)
   | (with_reducible exact LeO.none _)
   | (with_reducible refine LeO.ite ?_ ?_)
   | (with_reducible refine LeO.bind ?_ (fun _ => ?_))
   | exact ih0 _ _ _ _ _
   | exact ih1 _ _ _ _ _ _
   | exact ih2 _ _ _ _ _ _ _
   | exact gudgeonref01_trim.mono _ _
   | exact LeO.none _
   | refine LeO.ite ?_ ?_
   | refine LeO.bind ?_ (fun _ => ?_)
  ·intro y0 y1 y2 y3 y4 y5
   unfold gudgeonref01_add.j1
   repeat' first
   | (with_reducible exact ih0 _ _ _ _ _)
   | (with_reducible exact ih1 _ _ _ _ _ _)
   | (with_reducible exact ih2 _ _ _ _ _ _ _)
   | (with_reducible exact gudgeonref01_trim.mono _ _)
   | (with_reducible exact LeO.refl _)
   | (with_reducible exact LeO.none _)
   | (with_reducible refine LeO.ite ?_ ?_)
   | (with_reducible refine LeO.bind ?_ (fun _ => ?_))
   | exact ih0 _ _ _ _ _
   | exact ih1 _ _ _ _ _ _
   | exact ih2 _ _ _ _ _ _ _
   | exact gudgeonref01_trim.mono _ _
   | exact LeO.none _
   | refine LeO.ite ?_ ?_
   | refine LeO.bind ?_ (fun _ => ?_)
  ·intro y0 y1 y2 y3 y4 y5 y6
   unfold gudgeonref01_add.j2
   repeat' first
   | (with_reducible exact ih0 _ _ _ _ _)
   | (with_reducible exact ih1 _ _ _ _ _ _)
   | (with_reducible exact ih2 _ _ _ _ _ _ _)
   | (with_reducible exact gudgeonref01_trim.mono _ _)
   | (with_reducible exact LeO.refl _)
   | (with_reducible exact LeO.none _)
   | (with_reducible refine LeO.ite ?_ ?_)
   | (with_reducible refine LeO.bind ?_ (fun _ => ?_))
   | exact ih0 _ _ _ _ _
   | exact ih1 _ _ _ _ _ _
   | exact ih2 _ _ _ _ _ _ _
   | exact gudgeonref01_trim.mono _ _
   | exact LeO.none _
   | refine LeO.ite ?_ ?_
   | refine LeO.bind ?_ (fun _ => ?_)
theorem gudgeonref01_add.mono : ∀ a0 a1 k, LeO (gudgeonref01_add.f k a0 a1) (gudgeonref01_add.f (k + 1) a0 a1) := by
 intro a0 a1 k
 obtain ⟨ih0, ih1, ih2⟩ := gudgeonref01_add.mono_l k
 unfold gudgeonref01_add.f
 repeat' first
   | (with_reducible exact ih0 _ _ _ _ _)
   | (with_reducible exact ih1 _ _ _ _ _ _)
   | (with_reducible exact ih2 _ _ _ _ _ _ _)
   | (with_reducible exact gudgeonref01_trim.mono _ _)
   | (with_reducible exact LeO.refl _)
   | (with_reducible exact LeO.none _)
   | (with_reducible refine LeO.ite ?_ ?_)
   | (with_reducible refine LeO.bind ?_ (fun _ => ?_))
   | exact ih0 _ _ _ _ _
   | exact ih1 _ _ _ _ _ _
   | exact ih2 _ _ _ _ _ _ _
   | exact gudgeonref01_trim.mono _ _
   | exact LeO.none _
   | refine LeO.ite ?_ ?_
   | refine LeO.bind ?_ (fun _ => ?_)
set_option maxHeartbeats 8000000 in
set_option maxRecDepth 100000 in
theorem gudgeonref01_add.calls (k : Nat) (A0 : Option Addr) (c0 : Nat) (l0 : List Bool) (A1 : Option Addr) (c1 : Nat) (l1 : List Bool) (r : List Bool) (w : World) (hr0 : Kd.C Kd.bool w A0 l0.length l0) (hc0 : l0.length ≤ c0) (hr1 : Kd.C Kd.bool w A1 l1.length l1) (hc1 : l1.length ≤ c1) (h : gudgeonref01_add.f k l0 l1 = some r) :
  Calls Tryd.prog 44 #[.slice A0 l0.length c0, .slice A1 l1.length c1] w fun e w' => ∃ v0_ : Value, e = .returned (v0_) ∧ Kd.R Kd.bool 4 w' w.heap.size (fun _ => True) v0_ r ∧ Below w.heap.size w w' := by
 have HR0 := Aside0.mk hr0
 have HC0 := Aside0.mk hc0
 clear hr0 hc0
 have HR1 := Aside0.mk hr1
 have HC1 := Aside0.mk hc1
 clear hr1 hc1
 have HB := Aside0.mk (Below.refl w.heap.size w)
 have H : (gudgeonref01_add.l0 k l0 l1 ([] : List Bool) false 0) = some r := h
 clear h
 have H' := Aside0.mk H
 clear H
 go_enter Tryd.func44, Tryd.ntmps44
 go_wp2
 go_loopg [5, 6, 7] k (fun kq v5 v6 v7 w' => ∃ (x5_1 : List Bool) (x6_1 : Bool) (x7_1 : Int), v6 = .bool x6_1 ∧ v7 = .int .i64 x7_1 ∧ Aside0 (gudgeonref01_add.l0 kq l0 l1 x5_1 x6_1 x7_1 = some r) ∧ Aside0 (kq ≤ k) ∧ Aside0 (Kd.R Kd.bool 4 w' w.heap.size (fun _ => True) v5 x5_1) ∧ Aside0 (Below w.heap.size w w'))
 case atStart => exact ⟨(([] : List Bool)), (false), (0), (by first | rfl | (simp; done) | (simp [*]; done) | (refine congrArg (Value.int _) ?_; omega) | (refine congrArg Value.bool ?_; generalize ByteArray.toList _ = z_; cases z_ <;> rfl)), (by first | rfl | (simp; done) | (simp [*]; done) | (refine congrArg (Value.int _) ?_; omega) | (refine congrArg Value.bool ?_; generalize ByteArray.toList _ = z_; cases z_ <;> rfl)), H', ⟨Nat.le_refl _⟩, ⟨by first | exact Kd.R_nil _ _ _ _ _ | exact Kd.N_nil _ _ _ _ _ | exact Kd.V_nil _ _ _ _ _ | exact Kd.Q_nil _ _ _ _ _ | exact Kd.S_nil _ _ _ _ _⟩, ⟨by repeat first | exact HB.out | apply below_alloc | apply pw_below_drewN | apply below_drew1⟩⟩
 case round =>
  clear H'
  try clear c1
  try clear p2
  obtain ⟨x5_1, x6_1, x7_1, rfl, rfl, HA, HK1, HO_5, HB⟩ := hrel
  cases gk with
  | zero => exact absurd HA.out (by simp [gudgeonref01_add.l0])
  | succ k1 =>
   have H := HA.out
   clear HA
   simp only [gudgeonref01_add.l0] at H
   have HC3 := Aside0.mk H
   clear H
   go_upto_region 4 with (fail)
   go_cut [23] (fun v23 wc => ∃ (kq : Nat) (x23_2 : Bool), v23 = .bool x23_2 ∧ Aside0 (gudgeonref01_add.j1 kq l0 l1 x5_1 x6_1 x7_1 x23_2 = some r) ∧ Aside0 (kq ≤ k1) ∧ Aside0 (Kd.R Kd.bool 4 wc w.heap.size (fun _ => True) u5 x5_1) ∧ Aside0 (Below w.heap.size w wc))
   case first =>
    have H := HC3.out
    clear HC3
    by_cases c4 : x7_1 < (l0.length : Int)
    ·rw [if_pos c4] at H
     have c4b0 : decide (x7_1 < (l0.length : Int)) = true := decide_eq_true c4
     clear c4
     (first | rw [c4b0] | rw [c4b1] | (simp only [i64_w, i32_w]; rw [c4b0]) | skip)
     have H' := Aside0.mk H
     clear H
     go_wp2
     go_meet
     case rel => exact ⟨_, (true), (by first | rfl | (simp; done) | (simp [*]; done) | (refine congrArg (Value.int _) ?_; omega) | (refine congrArg Value.bool ?_; generalize ByteArray.toList _ = z_; cases z_ <;> rfl)), H', ⟨by have := HK1.out; first | omega | exact Nat.le_refl _⟩, ⟨by (with_reducible repeat (first | apply Kd.R_alloc | apply Kd.R_drewN | apply Kd.R_drew)); exact HO_5.out⟩, ⟨by repeat first | exact HB.out | apply below_alloc | apply pw_below_drewN | apply below_drew1⟩⟩
    ·rw [if_neg c4] at H
     have c4b0 : decide (x7_1 < (l0.length : Int)) = false := decide_eq_false c4
     clear c4
     (first | rw [c4b0] | rw [c4b1] | (simp only [i64_w, i32_w]; rw [c4b0]) | skip)
     by_cases c5 : x7_1 < (l1.length : Int)
     ·rw [if_pos c5] at H
      have c5b0 : decide (x7_1 < (l1.length : Int)) = true := decide_eq_true c5
      clear c5
      have H' := Aside0.mk H
      clear H
      go_wp2
      go_meet
      case rel => exact ⟨_, (true), (by first | rfl | (simp; done) | (simp [*]; done) | (refine congrArg (Value.int _) ?_; omega) | (refine congrArg Value.bool ?_; generalize ByteArray.toList _ = z_; cases z_ <;> rfl)), H', ⟨by have := HK1.out; first | omega | exact Nat.le_refl _⟩, ⟨by (with_reducible repeat (first | apply Kd.R_alloc | apply Kd.R_drewN | apply Kd.R_drew)); exact HO_5.out⟩, ⟨by repeat first | exact HB.out | apply below_alloc | apply pw_below_drewN | apply below_drew1⟩⟩
     ·rw [if_neg c5] at H
      have c5b0 : decide (x7_1 < (l1.length : Int)) = false := decide_eq_false c5
      clear c5
      have H' := Aside0.mk H
      clear H
      go_wp2
      go_meet
      case rel => exact ⟨_, (x6_1), (by first | rfl | (simp; done) | (simp [*]; done) | (refine congrArg (Value.int _) ?_; omega) | (refine congrArg Value.bool ?_; generalize ByteArray.toList _ = z_; cases z_ <;> rfl)), H', ⟨by have := HK1.out; first | omega | exact Nat.le_refl _⟩, ⟨by (with_reducible repeat (first | apply Kd.R_alloc | apply Kd.R_drewN | apply Kd.R_drew)); exact HO_5.out⟩, ⟨by repeat first | exact HB.out | apply below_alloc | apply pw_below_drewN | apply below_drew1⟩⟩
   case rest =>
    clear HC3
    try clear c1
    try clear p2
    try clear c4
    try clear c4b0
    try clear c5
    try clear c5b0
    try clear p2
    obtain ⟨kq, x23_2, rfl, HA, HJ2, HO_5, HB⟩ := hcut
    cases kq with
    | zero => exact absurd HA.out (by simp [gudgeonref01_add.j1])
    | succ kj2 =>
     have H := HA.out
     clear HA
     simp only [gudgeonref01_add.j1] at H
     by_cases c6 : x23_2 = true
     ·subst c6
      have H1 : ((gudgeonref01_at.f l0 x7_1).bind fun t579 => ((gudgeonref01_at.f l1 x7_1).bind fun t580 => (if t579 = true then (gudgeonref01_add.j2 kj2 l0 l1 x5_1 x6_1 x7_1 t580 (0 + 1)) else (gudgeonref01_add.j2 kj2 l0 l1 x5_1 x6_1 x7_1 t580 0)))) = some r := by rw [if_pos rfl] at H; exact H
      clear H
      have H := H1
      clear H1
      replace H := Option.bind_eq_some_iff.mp H
      obtain ⟨t579, A70, H⟩ := H
      replace H : ((gudgeonref01_at.f l1 x7_1).bind fun t580 => (if t579 = true then (gudgeonref01_add.j2 kj2 l0 l1 x5_1 x6_1 x7_1 t580 (0 + 1)) else (gudgeonref01_add.j2 kj2 l0 l1 x5_1 x6_1 x7_1 t580 0))) = some r := H
      have A7 := Aside0.mk A70
      clear A70
      replace H := Option.bind_eq_some_iff.mp H
      obtain ⟨t580, A80, H⟩ := H
      replace H : (if t579 = true then (gudgeonref01_add.j2 kj2 l0 l1 x5_1 x6_1 x7_1 t580 (0 + 1)) else (gudgeonref01_add.j2 kj2 l0 l1 x5_1 x6_1 x7_1 t580 0)) = some r := H
      have A8 := Aside0.mk A80
      clear A80
      have HC9 := Aside0.mk H
      clear H
      go_upto_if 32 with (first | ((with_reducible refine gate_callee (f := 56) rfl ?_); refine goesL_ (some 28) rfl rfl Tryd.func56 (by kernel_rfl) rfl #[.slice A0 l0.length c0, .int .i64 x7_1] rfl (by (try simp only [List.map_toArray, List.map_cons, List.map_nil]); first | done | rfl | (simp only [List.length_drop, List.length_take]; rfl)) ?_; (with_reducible refine (gudgeonref01_at.calls _ _ l0 x7_1 t579 _ ?side1 ?side2 A7.out).mono ?_); (case side1 => repeat (first | exact (Kd.C_below HR0.out HB.out) | (with_reducible refine Kd.C_alloc ?_ _) | (with_reducible refine Kd.C_drewN ?_ _) | (with_reducible refine Kd.C_drew ?_))); (case side2 => exact HC0.out); rintro e w' ⟨rfl, ⟨nd, rfl⟩⟩; refine ⟨_, rfl, ?_⟩) | ((with_reducible refine gate_callee (f := 56) rfl ?_); refine goesL_ (some 31) rfl rfl Tryd.func56 (by kernel_rfl) rfl #[.slice A1 l1.length c1, .int .i64 x7_1] rfl (by (try simp only [List.map_toArray, List.map_cons, List.map_nil]); first | done | rfl | (simp only [List.length_drop, List.length_take]; rfl)) ?_; (with_reducible refine (gudgeonref01_at.calls _ _ l1 x7_1 t580 _ ?side1 ?side2 A8.out).mono ?_); (case side1 => repeat (first | exact (Kd.C_below HR1.out (by repeat first | exact HB.out | apply below_alloc | apply pw_below_drewN | apply below_drew1)) | (with_reducible refine Kd.C_alloc ?_ _) | (with_reducible refine Kd.C_drewN ?_ _) | (with_reducible refine Kd.C_drew ?_))); (case side2 => exact HC1.out); rintro e w' ⟨rfl, ⟨nd, rfl⟩⟩; refine ⟨_, rfl, ?_⟩))
      (try simp only [Act.put, List.setIfInBounds_toArray, List.set_cons_zero, List.set_cons_succ])
      go_cut [10] (fun v10 wc => ∃ (kq : Nat) (x10_8 : Int), v10 = .int .i64 x10_8 ∧ Aside0 (gudgeonref01_add.j2 kq l0 l1 x5_1 x6_1 x7_1 t580 x10_8 = some r) ∧ Aside0 (kq ≤ kj2) ∧ Aside0 (Kd.R Kd.bool 4 wc w.heap.size (fun _ => True) u5 x5_1) ∧ Aside0 (Below w.heap.size w wc))
      case first =>
       have H := HC9.out
       clear HC9
       by_cases c10 : t579 = true
       ·subst c10
        have H1 : (gudgeonref01_add.j2 kj2 l0 l1 x5_1 x6_1 x7_1 t580 (0 + 1)) = some r := by rw [if_pos rfl] at H; exact H
        clear H
        have H := H1
        clear H1
        have H' := Aside0.mk H
        clear H
        go_wp2
        go_meet
        case rel => exact ⟨_, (0 + 1), (by first | rfl | (simp; done) | (simp [*]; done) | (refine congrArg (Value.int _) ?_; omega) | (refine congrArg Value.bool ?_; generalize ByteArray.toList _ = z_; cases z_ <;> rfl)), H', ⟨by have := HK1.out; have := HJ2.out; first | omega | exact Nat.le_refl _⟩, ⟨by (with_reducible repeat (first | apply Kd.R_alloc | apply Kd.R_drewN | apply Kd.R_drew)); exact HO_5.out⟩, ⟨by repeat first | exact HB.out | apply below_alloc | apply pw_below_drewN | apply below_drew1⟩⟩
       ·replace c10 := Bool.eq_false_iff.mpr c10
        subst c10
        have H1 : (gudgeonref01_add.j2 kj2 l0 l1 x5_1 x6_1 x7_1 t580 0) = some r := by rw [if_neg (show ¬ (false = true) by decide)] at H; exact H
        clear H
        have H := H1
        clear H1
        have H' := Aside0.mk H
        clear H
        go_wp2
        go_meet
        case rel => exact ⟨_, (0), (by first | rfl | (simp; done) | (simp [*]; done) | (refine congrArg (Value.int _) ?_; omega) | (refine congrArg Value.bool ?_; generalize ByteArray.toList _ = z_; cases z_ <;> rfl)), H', ⟨by have := HK1.out; have := HJ2.out; first | omega | exact Nat.le_refl _⟩, ⟨by (with_reducible repeat (first | apply Kd.R_alloc | apply Kd.R_drewN | apply Kd.R_drew)); exact HO_5.out⟩, ⟨by repeat first | exact HB.out | apply below_alloc | apply pw_below_drewN | apply below_drew1⟩⟩
      case rest =>
       clear HC9
       try clear c1
       try clear p2
       try clear c4
       try clear c4b0
       try clear c5
       try clear c5b0
       try clear c6
       try clear c10
       try clear p2
       obtain ⟨kq, x10_8, rfl, HA, HJ8, HO_5, HB⟩ := hcut
       cases kq with
       | zero => exact absurd HA.out (by simp [gudgeonref01_add.j2])
       | succ kj8 =>
        have H := HA.out
        clear HA
        simp only [gudgeonref01_add.j2] at H
        by_cases c11 : t580 = true
        ·subst c11
         have H1 : (if x6_1 = true then (if x5_1.length < 140737488355328 then (gudgeonref01_add.l0 kj8 l0 l1 (x5_1 ++ [((Int.tmod (wrap64 ((wrap64 (x10_8 + 1)) + 1)) 2) == 1)]) (decide ((wrap64 ((wrap64 (x10_8 + 1)) + 1)) > 1)) (wrap64 (x7_1 + 1))) else (none)) else (if x5_1.length < 140737488355328 then (gudgeonref01_add.l0 kj8 l0 l1 (x5_1 ++ [((Int.tmod (wrap64 (x10_8 + 1)) 2) == 1)]) (decide ((wrap64 (x10_8 + 1)) > 1)) (wrap64 (x7_1 + 1))) else (none))) = some r := by rw [if_pos rfl] at H; exact H
         clear H
         have H := H1
         clear H1
         by_cases c12 : x6_1 = true
         ·subst c12
          have H1 : (if x5_1.length < 140737488355328 then (gudgeonref01_add.l0 kj8 l0 l1 (x5_1 ++ [((Int.tmod (wrap64 ((wrap64 (x10_8 + 1)) + 1)) 2) == 1)]) (decide ((wrap64 ((wrap64 (x10_8 + 1)) + 1)) > 1)) (wrap64 (x7_1 + 1))) else (none)) = some r := by rw [if_pos rfl] at H; exact H
          clear H
          have H := H1
          clear H1
          by_cases c13 : x5_1.length < 140737488355328
          ·rw [if_pos c13] at H
           have LMc13 := Aside0.mk c13
           clear c13
           obtain ⟨y581, hy581⟩ : ∃ y_ : List Bool, y_ = (x5_1 ++ [((Int.tmod (wrap64 ((wrap64 (x10_8 + 1)) + 1)) 2) == 1)]) := ⟨_, rfl⟩
           replace H : (gudgeonref01_add.l0 kj8 l0 l1 y581 (decide ((wrap64 ((wrap64 (x10_8 + 1)) + 1)) > 1)) (wrap64 (x7_1 + 1))) = some r := by first | (rw [hy581]; with_reducible exact H) | (have H2_ := (Option.bind_some _ _).symm.trans H; rw [hy581]; with_reducible exact H2_) | (have H2_ := (Option.bind_some _ _).symm.trans H; with_reducible exact H2_) | with_reducible exact H | (rw [hy581]; exact H) | exact H
           have Ny581 := Aside0.mk hy581
           clear hy581
           have H' := Aside0.mk H
           clear H
           go_wp2_with (first | ((with_reducible refine gate_builtin (b := .append) (xs := #[.tmp 41, .tmp 45]) rfl ?_); (try (refine gate_guard (by rfl) ?_; dsimp only)); at_builtin; refine Kd.R_append Kd.bool (w0 := w) w.heap.size rfl (.tmp 41) (.tmp 45) 49 4 (.bool false) 1 rfl Tryd.underlying49 info4 rfl (by decide) (by omega) u5 x5_1 ((Int.tmod (wrap64 ((wrap64 (x10_8 + 1)) + 1)) 2) == 1) [.bool ((Int.tmod (wrap64 ((wrap64 (x10_8 + 1)) + 1)) 2) == 1)] (fun _ => True) (fun _ => False) rfl rfl ?aP (fun _ hk => hk.elim) ?aF ?aO ?aB ?aS ?aL ?_; (case aP => exact rfl); (case aB => exact (by repeat first | exact HB.out | apply below_alloc | apply pw_below_drewN | apply below_drew1)); (case aF => exact (fun _ _ => trivial)); (case aO => exact HO_5.out); (case aS => exact (below_size (by repeat first | exact HB.out | apply below_alloc | apply pw_below_drewN | apply below_drew1))); (case aL => have := LMc13.out; omega); intro v582 w14 ho hb hg hat; rw [← Ny581.out] at ho; have n0_ := Aside0.mk (hb); have n1_ := Aside0.mk (ho); clear HB; clear HO_5; have HB := n0_; have HO583 := n1_; clear n0_ n1_; clear ho hb hg hat))
           go_roundg kj8
           case measure => have := HK1.out; have := HJ2.out; have := HJ8.out; omega
           case rel => exact ⟨(y581), (decide ((wrap64 ((wrap64 (x10_8 + 1)) + 1)) > 1)), (wrap64 (x7_1 + 1)), (by first | rfl | (simp; done) | (simp [*]; done) | (refine congrArg (Value.int _) ?_; omega) | (refine congrArg Value.bool ?_; generalize ByteArray.toList _ = z_; cases z_ <;> rfl)), (by first | rfl | (simp; done) | (simp [*]; done) | (refine congrArg (Value.int _) ?_; omega) | (refine congrArg Value.bool ?_; generalize ByteArray.toList _ = z_; cases z_ <;> rfl)), H', ⟨by have := HK1.out; have := HJ2.out; have := HJ8.out; omega⟩, ⟨by (with_reducible repeat (first | apply Kd.R_alloc | apply Kd.R_drewN | apply Kd.R_drew)); exact HO583.out⟩, ⟨by repeat first | exact HB.out | apply below_alloc | apply pw_below_drewN | apply below_drew1⟩⟩
          ·rw [if_neg c13] at H
           exact absurd H (by simp)
         ·replace c12 := Bool.eq_false_iff.mpr c12
          subst c12
          have H1 : (if x5_1.length < 140737488355328 then (gudgeonref01_add.l0 kj8 l0 l1 (x5_1 ++ [((Int.tmod (wrap64 (x10_8 + 1)) 2) == 1)]) (decide ((wrap64 (x10_8 + 1)) > 1)) (wrap64 (x7_1 + 1))) else (none)) = some r := by rw [if_neg (show ¬ (false = true) by decide)] at H; exact H
          clear H
          have H := H1
          clear H1
          by_cases c15 : x5_1.length < 140737488355328
          ·rw [if_pos c15] at H
           have LMc15 := Aside0.mk c15
           clear c15
           obtain ⟨y584, hy584⟩ : ∃ y_ : List Bool, y_ = (x5_1 ++ [((Int.tmod (wrap64 (x10_8 + 1)) 2) == 1)]) := ⟨_, rfl⟩
           replace H : (gudgeonref01_add.l0 kj8 l0 l1 y584 (decide ((wrap64 (x10_8 + 1)) > 1)) (wrap64 (x7_1 + 1))) = some r := by first | (rw [hy584]; with_reducible exact H) | (have H2_ := (Option.bind_some _ _).symm.trans H; rw [hy584]; with_reducible exact H2_) | (have H2_ := (Option.bind_some _ _).symm.trans H; with_reducible exact H2_) | with_reducible exact H | (rw [hy584]; exact H) | exact H
           have Ny584 := Aside0.mk hy584
           clear hy584
           have H' := Aside0.mk H
           clear H
           go_wp2_with (first | ((with_reducible refine gate_builtin (b := .append) (xs := #[.tmp 41, .tmp 45]) rfl ?_); (try (refine gate_guard (by rfl) ?_; dsimp only)); at_builtin; refine Kd.R_append Kd.bool (w0 := w) w.heap.size rfl (.tmp 41) (.tmp 45) 49 4 (.bool false) 1 rfl Tryd.underlying49 info4 rfl (by decide) (by omega) u5 x5_1 ((Int.tmod (wrap64 (x10_8 + 1)) 2) == 1) [.bool ((Int.tmod (wrap64 (x10_8 + 1)) 2) == 1)] (fun _ => True) (fun _ => False) rfl rfl ?aP (fun _ hk => hk.elim) ?aF ?aO ?aB ?aS ?aL ?_; (case aP => exact rfl); (case aB => exact (by repeat first | exact HB.out | apply below_alloc | apply pw_below_drewN | apply below_drew1)); (case aF => exact (fun _ _ => trivial)); (case aO => exact HO_5.out); (case aS => exact (below_size (by repeat first | exact HB.out | apply below_alloc | apply pw_below_drewN | apply below_drew1))); (case aL => have := LMc15.out; omega); intro v585 w16 ho hb hg hat; rw [← Ny584.out] at ho; have n0_ := Aside0.mk (hb); have n1_ := Aside0.mk (ho); clear HB; clear HO_5; have HB := n0_; have HO586 := n1_; clear n0_ n1_; clear ho hb hg hat))
           go_roundg kj8
           case measure => have := HK1.out; have := HJ2.out; have := HJ8.out; omega
           case rel => exact ⟨(y584), (decide ((wrap64 (x10_8 + 1)) > 1)), (wrap64 (x7_1 + 1)), (by first | rfl | (simp; done) | (simp [*]; done) | (refine congrArg (Value.int _) ?_; omega) | (refine congrArg Value.bool ?_; generalize ByteArray.toList _ = z_; cases z_ <;> rfl)), (by first | rfl | (simp; done) | (simp [*]; done) | (refine congrArg (Value.int _) ?_; omega) | (refine congrArg Value.bool ?_; generalize ByteArray.toList _ = z_; cases z_ <;> rfl)), H', ⟨by have := HK1.out; have := HJ2.out; have := HJ8.out; omega⟩, ⟨by (with_reducible repeat (first | apply Kd.R_alloc | apply Kd.R_drewN | apply Kd.R_drew)); exact HO586.out⟩, ⟨by repeat first | exact HB.out | apply below_alloc | apply pw_below_drewN | apply below_drew1⟩⟩
          ·rw [if_neg c15] at H
           exact absurd H (by simp)
        ·replace c11 := Bool.eq_false_iff.mpr c11
         subst c11
         have H1 : (if x6_1 = true then (if x5_1.length < 140737488355328 then (gudgeonref01_add.l0 kj8 l0 l1 (x5_1 ++ [((Int.tmod (wrap64 (x10_8 + 1)) 2) == 1)]) (decide ((wrap64 (x10_8 + 1)) > 1)) (wrap64 (x7_1 + 1))) else (none)) else (if x5_1.length < 140737488355328 then (gudgeonref01_add.l0 kj8 l0 l1 (x5_1 ++ [((Int.tmod x10_8 2) == 1)]) (decide (x10_8 > 1)) (wrap64 (x7_1 + 1))) else (none))) = some r := by rw [if_neg (show ¬ (false = true) by decide)] at H; exact H
         clear H
         have H := H1
         clear H1
         by_cases c17 : x6_1 = true
         ·subst c17
          have H1 : (if x5_1.length < 140737488355328 then (gudgeonref01_add.l0 kj8 l0 l1 (x5_1 ++ [((Int.tmod (wrap64 (x10_8 + 1)) 2) == 1)]) (decide ((wrap64 (x10_8 + 1)) > 1)) (wrap64 (x7_1 + 1))) else (none)) = some r := by rw [if_pos rfl] at H; exact H
          clear H
          have H := H1
          clear H1
          by_cases c18 : x5_1.length < 140737488355328
          ·rw [if_pos c18] at H
           have LMc18 := Aside0.mk c18
           clear c18
           obtain ⟨y587, hy587⟩ : ∃ y_ : List Bool, y_ = (x5_1 ++ [((Int.tmod (wrap64 (x10_8 + 1)) 2) == 1)]) := ⟨_, rfl⟩
           replace H : (gudgeonref01_add.l0 kj8 l0 l1 y587 (decide ((wrap64 (x10_8 + 1)) > 1)) (wrap64 (x7_1 + 1))) = some r := by first | (rw [hy587]; with_reducible exact H) | (have H2_ := (Option.bind_some _ _).symm.trans H; rw [hy587]; with_reducible exact H2_) | (have H2_ := (Option.bind_some _ _).symm.trans H; with_reducible exact H2_) | with_reducible exact H | (rw [hy587]; exact H) | exact H
           have Ny587 := Aside0.mk hy587
           clear hy587
           have H' := Aside0.mk H
           clear H
           go_wp2_with (first | ((with_reducible refine gate_builtin (b := .append) (xs := #[.tmp 41, .tmp 45]) rfl ?_); (try (refine gate_guard (by rfl) ?_; dsimp only)); at_builtin; refine Kd.R_append Kd.bool (w0 := w) w.heap.size rfl (.tmp 41) (.tmp 45) 49 4 (.bool false) 1 rfl Tryd.underlying49 info4 rfl (by decide) (by omega) u5 x5_1 ((Int.tmod (wrap64 (x10_8 + 1)) 2) == 1) [.bool ((Int.tmod (wrap64 (x10_8 + 1)) 2) == 1)] (fun _ => True) (fun _ => False) rfl rfl ?aP (fun _ hk => hk.elim) ?aF ?aO ?aB ?aS ?aL ?_; (case aP => exact rfl); (case aB => exact (by repeat first | exact HB.out | apply below_alloc | apply pw_below_drewN | apply below_drew1)); (case aF => exact (fun _ _ => trivial)); (case aO => exact HO_5.out); (case aS => exact (below_size (by repeat first | exact HB.out | apply below_alloc | apply pw_below_drewN | apply below_drew1))); (case aL => have := LMc18.out; omega); intro v588 w19 ho hb hg hat; rw [← Ny587.out] at ho; have n0_ := Aside0.mk (hb); have n1_ := Aside0.mk (ho); clear HB; clear HO_5; have HB := n0_; have HO589 := n1_; clear n0_ n1_; clear ho hb hg hat))
           go_roundg kj8
           case measure => have := HK1.out; have := HJ2.out; have := HJ8.out; omega
           case rel => exact ⟨(y587), (decide ((wrap64 (x10_8 + 1)) > 1)), (wrap64 (x7_1 + 1)), (by first | rfl | (simp; done) | (simp [*]; done) | (refine congrArg (Value.int _) ?_; omega) | (refine congrArg Value.bool ?_; generalize ByteArray.toList _ = z_; cases z_ <;> rfl)), (by first | rfl | (simp; done) | (simp [*]; done) | (refine congrArg (Value.int _) ?_; omega) | (refine congrArg Value.bool ?_; generalize ByteArray.toList _ = z_; cases z_ <;> rfl)), H', ⟨by have := HK1.out; have := HJ2.out; have := HJ8.out; omega⟩, ⟨by (with_reducible repeat (first | apply Kd.R_alloc | apply Kd.R_drewN | apply Kd.R_drew)); exact HO589.out⟩, ⟨by repeat first | exact HB.out | apply below_alloc | apply pw_below_drewN | apply below_drew1⟩⟩
          ·rw [if_neg c18] at H
           exact absurd H (by simp)
         ·replace c17 := Bool.eq_false_iff.mpr c17
          subst c17
          have H1 : (if x5_1.length < 140737488355328 then (gudgeonref01_add.l0 kj8 l0 l1 (x5_1 ++ [((Int.tmod x10_8 2) == 1)]) (decide (x10_8 > 1)) (wrap64 (x7_1 + 1))) else (none)) = some r := by rw [if_neg (show ¬ (false = true) by decide)] at H; exact H
          clear H
          have H := H1
          clear H1
          by_cases c20 : x5_1.length < 140737488355328
          ·rw [if_pos c20] at H
           have LMc20 := Aside0.mk c20
           clear c20
           obtain ⟨y590, hy590⟩ : ∃ y_ : List Bool, y_ = (x5_1 ++ [((Int.tmod x10_8 2) == 1)]) := ⟨_, rfl⟩
           replace H : (gudgeonref01_add.l0 kj8 l0 l1 y590 (decide (x10_8 > 1)) (wrap64 (x7_1 + 1))) = some r := by first | (rw [hy590]; with_reducible exact H) | (have H2_ := (Option.bind_some _ _).symm.trans H; rw [hy590]; with_reducible exact H2_) | (have H2_ := (Option.bind_some _ _).symm.trans H; with_reducible exact H2_) | with_reducible exact H | (rw [hy590]; exact H) | exact H
           have Ny590 := Aside0.mk hy590
           clear hy590
           have H' := Aside0.mk H
           clear H
           go_wp2_with (first | ((with_reducible refine gate_builtin (b := .append) (xs := #[.tmp 41, .tmp 45]) rfl ?_); (try (refine gate_guard (by rfl) ?_; dsimp only)); at_builtin; refine Kd.R_append Kd.bool (w0 := w) w.heap.size rfl (.tmp 41) (.tmp 45) 49 4 (.bool false) 1 rfl Tryd.underlying49 info4 rfl (by decide) (by omega) u5 x5_1 ((Int.tmod x10_8 2) == 1) [.bool ((Int.tmod x10_8 2) == 1)] (fun _ => True) (fun _ => False) rfl rfl ?aP (fun _ hk => hk.elim) ?aF ?aO ?aB ?aS ?aL ?_; (case aP => exact rfl); (case aB => exact (by repeat first | exact HB.out | apply below_alloc | apply pw_below_drewN | apply below_drew1)); (case aF => exact (fun _ _ => trivial)); (case aO => exact HO_5.out); (case aS => exact (below_size (by repeat first | exact HB.out | apply below_alloc | apply pw_below_drewN | apply below_drew1))); (case aL => have := LMc20.out; omega); intro v591 w21 ho hb hg hat; rw [← Ny590.out] at ho; have n0_ := Aside0.mk (hb); have n1_ := Aside0.mk (ho); clear HB; clear HO_5; have HB := n0_; have HO592 := n1_; clear n0_ n1_; clear ho hb hg hat))
           go_roundg kj8
           case measure => have := HK1.out; have := HJ2.out; have := HJ8.out; omega
           case rel => exact ⟨(y590), (decide (x10_8 > 1)), (wrap64 (x7_1 + 1)), (by first | rfl | (simp; done) | (simp [*]; done) | (refine congrArg (Value.int _) ?_; omega) | (refine congrArg Value.bool ?_; generalize ByteArray.toList _ = z_; cases z_ <;> rfl)), (by first | rfl | (simp; done) | (simp [*]; done) | (refine congrArg (Value.int _) ?_; omega) | (refine congrArg Value.bool ?_; generalize ByteArray.toList _ = z_; cases z_ <;> rfl)), H', ⟨by have := HK1.out; have := HJ2.out; have := HJ8.out; omega⟩, ⟨by (with_reducible repeat (first | apply Kd.R_alloc | apply Kd.R_drewN | apply Kd.R_drew)); exact HO592.out⟩, ⟨by repeat first | exact HB.out | apply below_alloc | apply pw_below_drewN | apply below_drew1⟩⟩
          ·rw [if_neg c20] at H
           exact absurd H (by simp)
     ·replace c6 := Bool.eq_false_iff.mpr c6
      subst c6
      have H1 : ((gudgeonref01_trim.f kj2 x5_1).bind fun t576 => (some t576)) = some r := by rw [if_neg (show ¬ (false = true) by decide)] at H; exact H
      clear H
      have H := H1
      clear H1
      replace H := Option.bind_eq_some_iff.mp H
      obtain ⟨t576, A220, H⟩ := H
      replace H : (some t576) = some r := H
      have A22 := Aside0.mk A220
      clear A220
      obtain rfl := Option.some.inj H
      obtain ⟨Ao23, co23, eo23⟩ := Kd.R_slice HO_5.out
      subst eo23
      go_wp2_with (first | ((with_reducible refine gate_callee (f := 55) rfl ?_); refine goesL_ (some 50) rfl rfl Tryd.func55 (by kernel_rfl) rfl #[.slice Ao23 x5_1.length co23] rfl (by (try simp only [List.map_toArray, List.map_cons, List.map_nil]); first | done | rfl | (simp only [List.length_drop, List.length_take]; rfl)) ?_; (with_reducible refine (gudgeonref01_trim.calls kj2 _ _ x5_1 t576 _ ?side1 ?side2 A22.out).mono ?_); (case side1 => repeat (first | exact (Kd.R_reads' HO_5.out).2.2 | (with_reducible refine Kd.C_alloc ?_ _) | (with_reducible refine Kd.C_drewN ?_ _) | (with_reducible refine Kd.C_drew ?_))); (case side2 => exact (Kd.R_reads' HO_5.out).2.1); rintro e w24 ⟨v577, rfl, ho0, hb⟩; refine ⟨_, rfl, ?_⟩; have n0_ := Aside0.mk (Kd.R_elder' HO_5.out (Kd.R_base ho0) hb); have n1_ := Aside0.mk (Kd.R_lower (Kd.R_new' ho0 (Kd.R_lt HO_5.out)) (below_size (by repeat first | exact HB.out | apply below_alloc | apply pw_below_drewN | apply below_drew1))); have n2_ := Aside0.mk (below_step (by repeat first | exact HB.out | apply below_alloc | apply pw_below_drewN | apply below_drew1) hb); clear HO_5; clear HB; have HO_5 := n0_; have HO578 := n1_; have HB := n2_; clear n0_ n1_ n2_))
      go_ret
      exact ⟨_, by first | rfl | (simp [errW_none, errW_some] <;> rfl) | (simp [*, errW_none, errW_some] <;> rfl), by (with_reducible repeat (first | apply Kd.R_alloc | apply Kd.R_drewN | apply Kd.R_drew)); exact Kd.R_mono HO578.out (fun _ hk => trivial), by repeat first | exact HB.out | apply below_alloc | apply pw_below_drewN | apply below_drew1⟩

/-! ### gudgeonref01_mul: function 45 -/
def gudgeonref01_mul.l0 : Nat → List Bool → List Bool → List Bool → Int → Option (List Bool)
 | 0, _, _, _, _ => none
 | k + 1, x0, x1, x5, x6 => if x6 ≥ 0 then ((some (([false] : List Bool) : List Bool)).bind fun y593 => (if y593.length + x5.length < 140737488355328 then ((some (y593 ++ x5 : List Bool)).bind fun y596 => (if 0 ≤ x6 then (if x6 < (x0.length : Int) then (if rdOf false x0 x6 = true then ((gudgeonref01_add.f k y596 x1).bind fun t600 => (gudgeonref01_mul.l0 k x0 x1 t600 (wrap64 (x6 - 1)))) else (gudgeonref01_mul.l0 k x0 x1 y596 (wrap64 (x6 - 1)))) else (none)) else (none))) else (none))) else ((gudgeonref01_trim.f k x5).bind fun t603 => (some t603))
def gudgeonref01_mul.f (k : Nat) (l0 : List Bool) (l1 : List Bool) : Option (List Bool) := gudgeonref01_mul.l0 k l0 l1 ([] : List Bool) (wrap64 ((l0.length : Int) - 1))
theorem gudgeonref01_mul.mono_l : ∀ k, (∀ y0 y1 y2 y3, LeO (gudgeonref01_mul.l0 k y0 y1 y2 y3) (gudgeonref01_mul.l0 (k + 1) y0 y1 y2 y3))
 | 0 => fun _ _ _ _ r h => by simp [gudgeonref01_mul.l0] at h
 | k + 1 => by
  have ih0 := gudgeonref01_mul.mono_l k
  ·intro y0 y1 y2 y3
   unfold gudgeonref01_mul.l0
   repeat' first
   | (with_reducible exact ih0 _ _ _ _)
   | (with_reducible exact gudgeonref01_add.mono _ _ _)
   | (with_reducible exact gudgeonref01_trim.mono _ _)
   | (with_reducible exact LeO.refl _)
   | (with_reducible exact LeO.none _)
   | (with_reducible refine LeO.ite ?_ ?_)
   | (with_reducible refine LeO.bind ?_ (fun _ => ?_))
   | exact ih0 _ _ _ _
   | exact gudgeonref01_add.mono _ _ _
   | exact gudgeonref01_trim.mono _ _
   | exact LeO.none _
   | refine LeO.ite ?_ ?_
   | refine LeO.bind ?_ (fun _ => ?_)
theorem gudgeonref01_mul.mono : ∀ a0 a1 k, LeO (gudgeonref01_mul.f k a0 a1) (gudgeonref01_mul.f (k + 1) a0 a1) := by
 intro a0 a1 k
 have ih0 := gudgeonref01_mul.mono_l k
 unfold gudgeonref01_mul.f
 repeat' first
   | (with_reducible exact ih0 _ _ _ _)
   | (with_reducible exact gudgeonref01_add.mono _ _ _)
   | (with_reducible exact gudgeonref01_trim.mono _ _)
   | (with_reducible exact LeO.refl _)
   | (with_reducible exact LeO.none _)
   | (with_reducible refine LeO.ite ?_ ?_)
   | (with_reducible refine LeO.bind ?_ (fun _ => ?_))
   | exact ih0 _ _ _ _
   | exact gudgeonref01_add.mono _ _ _
   | exact gudgeonref01_trim.mono _ _
   | exact LeO.none _
   | refine LeO.ite ?_ ?_
   | refine LeO.bind ?_ (fun _ => ?_)
set_option maxHeartbeats 8000000 in
set_option maxRecDepth 100000 in
theorem gudgeonref01_mul.calls (k : Nat) (A0 : Option Addr) (c0 : Nat) (l0 : List Bool) (A1 : Option Addr) (c1 : Nat) (l1 : List Bool) (r : List Bool) (w : World) (hr0 : Kd.C Kd.bool w A0 l0.length l0) (hc0 : l0.length ≤ c0) (hr1 : Kd.C Kd.bool w A1 l1.length l1) (hc1 : l1.length ≤ c1) (h : gudgeonref01_mul.f k l0 l1 = some r) :
  Calls Tryd.prog 45 #[.slice A0 l0.length c0, .slice A1 l1.length c1] w fun e w' => ∃ v0_ : Value, e = .returned (v0_) ∧ Kd.R Kd.bool 4 w' w.heap.size (fun _ => True) v0_ r ∧ Below w.heap.size w w' := by
 have HR0 := Aside0.mk hr0
 have HC0 := Aside0.mk hc0
 clear hr0 hc0
 have HR1 := Aside0.mk hr1
 have HC1 := Aside0.mk hc1
 clear hr1 hc1
 have HB := Aside0.mk (Below.refl w.heap.size w)
 have H : (gudgeonref01_mul.l0 k l0 l1 ([] : List Bool) (wrap64 ((l0.length : Int) - 1))) = some r := h
 clear h
 have H' := Aside0.mk H
 clear H
 go_enter Tryd.func45, Tryd.ntmps45
 go_wp2
 go_loopg [5, 6] k (fun kq v5 v6 w' => ∃ (x5_1 : List Bool) (x6_1 : Int), v6 = .int .i64 x6_1 ∧ Aside0 (gudgeonref01_mul.l0 kq l0 l1 x5_1 x6_1 = some r) ∧ Aside0 (kq ≤ k) ∧ Aside0 (Kd.R Kd.bool 4 w' w.heap.size (fun _ => True) v5 x5_1) ∧ Aside0 (Below w.heap.size w w'))
 case atStart => exact ⟨(([] : List Bool)), (wrap64 ((l0.length : Int) - 1)), (by first | rfl | (simp; done) | (simp [*]; done) | (refine congrArg (Value.int _) ?_; omega) | (refine congrArg Value.bool ?_; generalize ByteArray.toList _ = z_; cases z_ <;> rfl)), H', ⟨Nat.le_refl _⟩, ⟨by first | exact Kd.R_nil _ _ _ _ _ | exact Kd.N_nil _ _ _ _ _ | exact Kd.V_nil _ _ _ _ _ | exact Kd.Q_nil _ _ _ _ _ | exact Kd.S_nil _ _ _ _ _⟩, ⟨by repeat first | exact HB.out | apply below_alloc | apply pw_below_drewN | apply below_drew1⟩⟩
 case round =>
  clear H'
  try clear c1
  try clear p2
  obtain ⟨x5_1, x6_1, rfl, HA, HK1, HO_5, HB⟩ := hrel
  cases gk with
  | zero => exact absurd HA.out (by simp [gudgeonref01_mul.l0])
  | succ k1 =>
   have H := HA.out
   clear HA
   simp only [gudgeonref01_mul.l0] at H
   by_cases c3 : x6_1 ≥ 0
   ·rw [if_pos c3] at H
    have c3b0 : decide (0 ≤ x6_1) = true := decide_eq_true c3
    clear c3
    obtain ⟨y593, hy593⟩ : ∃ y_ : List Bool, y_ = (([false] : List Bool)) := ⟨_, rfl⟩
    replace H : (if y593.length + x5_1.length < 140737488355328 then ((some (y593 ++ x5_1 : List Bool)).bind fun y596 => (if 0 ≤ x6_1 then (if x6_1 < (l0.length : Int) then (if rdOf false l0 x6_1 = true then ((gudgeonref01_add.f k1 y596 l1).bind fun t600 => (gudgeonref01_mul.l0 k1 l0 l1 t600 (wrap64 (x6_1 - 1)))) else (gudgeonref01_mul.l0 k1 l0 l1 y596 (wrap64 (x6_1 - 1)))) else (none)) else (none))) else (none)) = some r := by first | (rw [hy593]; with_reducible exact H) | (have H2_ := (Option.bind_some _ _).symm.trans H; rw [hy593]; with_reducible exact H2_) | (have H2_ := (Option.bind_some _ _).symm.trans H; with_reducible exact H2_) | with_reducible exact H | (rw [hy593]; exact H) | exact H
    have Ny593 := Aside0.mk hy593
    clear hy593
    by_cases c4 : y593.length + x5_1.length < 140737488355328
    ·rw [if_pos c4] at H
     have LMc4 := Aside0.mk c4
     clear c4
     obtain ⟨y596, hy596⟩ : ∃ y_ : List Bool, y_ = (y593 ++ x5_1) := ⟨_, rfl⟩
     replace H : (if 0 ≤ x6_1 then (if x6_1 < (l0.length : Int) then (if rdOf false l0 x6_1 = true then ((gudgeonref01_add.f k1 y596 l1).bind fun t600 => (gudgeonref01_mul.l0 k1 l0 l1 t600 (wrap64 (x6_1 - 1)))) else (gudgeonref01_mul.l0 k1 l0 l1 y596 (wrap64 (x6_1 - 1)))) else (none)) else (none)) = some r := by first | (rw [hy596]; with_reducible exact H) | (have H2_ := (Option.bind_some _ _).symm.trans H; rw [hy596]; with_reducible exact H2_) | (have H2_ := (Option.bind_some _ _).symm.trans H; with_reducible exact H2_) | with_reducible exact H | (rw [hy596]; exact H) | exact H
     have Ny596 := Aside0.mk hy596
     clear hy596
     by_cases c5 : 0 ≤ x6_1
     ·rw [if_pos c5] at H
      have c5b0 : decide (0 ≤ x6_1) = true := decide_eq_true c5
      clear c5
      by_cases c6 : x6_1 < (l0.length : Int)
      ·rw [if_pos c6] at H
       have c6b0 : decide (x6_1 < (l0.length : Int)) = true := decide_eq_true c6
       clear c6
       obtain ⟨bq7, hbq7⟩ : ∃ b_ : Bool, b_ = (rdOf false l0 x6_1) := ⟨_, rfl⟩
       replace H : (if bq7 = true then ((gudgeonref01_add.f k1 y596 l1).bind fun t600 => (gudgeonref01_mul.l0 k1 l0 l1 t600 (wrap64 (x6_1 - 1)))) else (gudgeonref01_mul.l0 k1 l0 l1 y596 (wrap64 (x6_1 - 1)))) = some r := by rw [← hbq7] at H; exact H
       have Nbq7 := Aside0.mk hbq7
       clear hbq7
       by_cases c8 : bq7 = true
       ·subst c8
        have H1 : ((gudgeonref01_add.f k1 y596 l1).bind fun t600 => (gudgeonref01_mul.l0 k1 l0 l1 t600 (wrap64 (x6_1 - 1)))) = some r := by rw [if_pos rfl] at H; exact H
        clear H
        have H := H1
        clear H1
        replace H := Option.bind_eq_some_iff.mp H
        obtain ⟨t600, A90, H⟩ := H
        replace H : (gudgeonref01_mul.l0 k1 l0 l1 t600 (wrap64 (x6_1 - 1))) = some r := H
        have A9 := Aside0.mk A90
        clear A90
        have H' := Aside0.mk H
        clear H
        go_wp2_with (first | ((with_reducible refine gate_dst (N := 14) rfl ?_); refine Kd.R_lit Kd.bool _ 4 ?hg (N := 14) ?hd (xs := ([false] : List Bool)) (inner := [.bool false]) (ok := fun _ => True) (okp := fun _ => True) ?hr ?hp (fun _ hk => hk) trivial (Below.refl _ _) (Nat.le_refl _) (by simp) ?_; (case hd => rfl); (case hg => rfl); (case hr => first | (go_simp; done) | (go_simp; rfl) | (go_simp; simp only [IntKind.wrap_u8, IntKind.wrap_u32]; congr 4; omega) | (go_simp; simp only [IntKind.wrap_u8, IntKind.wrap_u32]; congr 5; omega)); (case hp => exact (Reps.one (show Kd.M Kd.bool _ _ _ false [.bool false] from rfl) (Reps.none _ _))); intro v594 w10 ho11 hb hg_ hnew_; clear hg_ hnew_; (first | rw [← Ny593.out] at ho11 | (simp only [Int.reduceToNat] at ho11; rw [← Ny593.out] at ho11)); have n0_ := Aside0.mk (Kd.R_elder' HO_5.out (Kd.R_base ho11) hb); have n1_ := Aside0.mk (Kd.R_lower (Kd.R_new' ho11 (Kd.R_lt HO_5.out)) (below_size (by repeat first | exact HB.out | apply below_alloc | apply pw_below_drewN | apply below_drew1))); have n2_ := Aside0.mk (below_step (by repeat first | exact HB.out | apply below_alloc | apply pw_below_drewN | apply below_drew1) hb); clear HO_5; clear HB; have HO_5 := n0_; have HO595 := n1_; have HB := n2_; clear n0_ n1_ n2_; clear hb ho11; obtain ⟨Ao13, co13, eo13⟩ := Kd.R_slice HO_5.out; subst eo13) | ((with_reducible refine gate_builtin (b := .append) (xs := #[.tmp 14, .tmp 15]) rfl ?_); at_builtin; refine Kd.R_append_rows Kd.bool (w0 := w) w.heap.size rfl (.tmp 14) (.tmp 15) 49 4 (.bool false) 1 rfl Tryd.underlying49 info4 rfl (by decide) (by omega) v594 y593 x5_1 _ _ _ (fun k_ => some k_ ≠ (.slice Ao13 x5_1.length co13 : Value).ownBlock) (fun _ => False) rfl rfl ?aO ?aR (fun _ _ h => h) (fun _ h => h.elim) ?aF ?aB ?aS ?aL ?_; (case aR => repeat (first | exact (Kd.R_reads' HO_5.out).2.2 | (with_reducible refine Kd.C_alloc ?_ _) | (with_reducible refine Kd.C_drewN ?_ _) | (with_reducible refine Kd.C_drew ?_))); (case aB => exact (by repeat first | exact HB.out | apply below_alloc | apply pw_below_drewN | apply below_drew1)); (case aF => exact (fun k_ hk => Kd.fresh' (Kd.R_lt HO_5.out) k_ hk)); (case aO => exact (by (with_reducible repeat (first | apply Kd.R_alloc | apply Kd.R_drewN | apply Kd.R_drew)); exact Kd.R_mono HO595.out (fun _ hk => hk.2))); (case aS => exact (below_size (by repeat first | exact HB.out | apply below_alloc | apply pw_below_drewN | apply below_drew1))); (case aL => have := LMc4.out; omega); intro v597 w12 ho hb hg hat; rw [← Ny596.out] at ho; have n0_ := Aside0.mk (Kd.R_after (ok := (fun _ => True)) HO_5.out hg hat); have n1_ := Aside0.mk (hb); have n2_ := Aside0.mk (ho); clear HO_5; clear HB; clear HO595; have HO_5 := n0_; have HB := n1_; have HO598 := n2_; clear n0_ n1_ n2_; clear ho hb hg hat; have p599 : 0 ≤ (x6_1 : Int) := of_decide_eq_true (by first | (with_reducible assumption) | assumption); have q599 : x6_1 < (l0.length : Int) := of_decide_eq_true (by first | (with_reducible assumption) | assumption); obtain ⟨ad599, e599, hx599_0⟩ := Kd.at_bool HR0.out x6_1 p599 q599; (try rw [← Nbq7.out] at hx599_0); cases e599; replace hx599_0 := (HB.out.cell (World.block_lt_of_cell? w _ hx599_0)).trans hx599_0; replace p599 := eq_true p599; replace q599 := eq_true q599; obtain ⟨Ao14, co14, eo14⟩ := Kd.R_slice HO598.out; subst eo14) | ((with_reducible refine gate_callee (f := 44) rfl ?_); refine goesL_ (some 23) rfl rfl Tryd.func44 (by kernel_rfl) rfl #[.slice Ao14 y596.length co14, .slice A1 l1.length c1] rfl (by (try simp only [List.map_toArray, List.map_cons, List.map_nil]); first | done | rfl | (simp only [List.length_drop, List.length_take]; rfl)) ?_; (with_reducible refine (gudgeonref01_add.calls k1 _ _ y596 _ _ l1 t600 _ ?side1 ?side2 ?side3 ?side4 A9.out).mono ?_); (case side1 => repeat (first | exact (Kd.R_reads' HO598.out).2.2 | (with_reducible refine Kd.C_alloc ?_ _) | (with_reducible refine Kd.C_drewN ?_ _) | (with_reducible refine Kd.C_drew ?_))); (case side2 => exact (Kd.R_reads' HO598.out).2.1); (case side3 => repeat (first | exact (Kd.C_below HR1.out HB.out) | (with_reducible refine Kd.C_alloc ?_ _) | (with_reducible refine Kd.C_drewN ?_ _) | (with_reducible refine Kd.C_drew ?_))); (case side4 => exact HC1.out); rintro e w15 ⟨v601, rfl, ho0, hb⟩; refine ⟨_, rfl, ?_⟩; have n0_ := Aside0.mk (Kd.R_elder' HO_5.out (Kd.R_base ho0) hb); have n1_ := Aside0.mk (Kd.R_elder' HO598.out (Kd.R_base ho0) hb); have n2_ := Aside0.mk (Kd.R_lower (Kd.R_new' (Kd.R_new' ho0 (Kd.R_lt HO_5.out)) (Kd.R_lt HO598.out)) (below_size (by repeat first | exact HB.out | apply below_alloc | apply pw_below_drewN | apply below_drew1))); have n3_ := Aside0.mk (below_step (by repeat first | exact HB.out | apply below_alloc | apply pw_below_drewN | apply below_drew1) hb); clear HO_5; clear HO598; clear HB; have HO_5 := n0_; have HO598 := n1_; have HO602 := n2_; have HB := n3_; clear n0_ n1_ n2_ n3_))
        go_roundg k1
        case measure => have := HK1.out; omega
        case rel => exact ⟨(t600), (wrap64 (x6_1 - 1)), (by first | rfl | (simp; done) | (simp [*]; done) | (refine congrArg (Value.int _) ?_; omega) | (refine congrArg Value.bool ?_; generalize ByteArray.toList _ = z_; cases z_ <;> rfl)), H', ⟨by have := HK1.out; omega⟩, ⟨by (with_reducible repeat (first | apply Kd.R_alloc | apply Kd.R_drewN | apply Kd.R_drew)); exact Kd.R_mono HO602.out (fun _ hk => trivial)⟩, ⟨by repeat first | exact HB.out | apply below_alloc | apply pw_below_drewN | apply below_drew1⟩⟩
       ·replace c8 := Bool.eq_false_iff.mpr c8
        subst c8
        have H1 : (gudgeonref01_mul.l0 k1 l0 l1 y596 (wrap64 (x6_1 - 1))) = some r := by rw [if_neg (show ¬ (false = true) by decide)] at H; exact H
        clear H
        have H := H1
        clear H1
        have H' := Aside0.mk H
        clear H
        go_wp2_with (first | ((with_reducible refine gate_dst (N := 14) rfl ?_); refine Kd.R_lit Kd.bool _ 4 ?hg (N := 14) ?hd (xs := ([false] : List Bool)) (inner := [.bool false]) (ok := fun _ => True) (okp := fun _ => True) ?hr ?hp (fun _ hk => hk) trivial (Below.refl _ _) (Nat.le_refl _) (by simp) ?_; (case hd => rfl); (case hg => rfl); (case hr => first | (go_simp; done) | (go_simp; rfl) | (go_simp; simp only [IntKind.wrap_u8, IntKind.wrap_u32]; congr 4; omega) | (go_simp; simp only [IntKind.wrap_u8, IntKind.wrap_u32]; congr 5; omega)); (case hp => exact (Reps.one (show Kd.M Kd.bool _ _ _ false [.bool false] from rfl) (Reps.none _ _))); intro v594 w16 ho17 hb hg_ hnew_; clear hg_ hnew_; (first | rw [← Ny593.out] at ho17 | (simp only [Int.reduceToNat] at ho17; rw [← Ny593.out] at ho17)); have n0_ := Aside0.mk (Kd.R_elder' HO_5.out (Kd.R_base ho17) hb); have n1_ := Aside0.mk (Kd.R_lower (Kd.R_new' ho17 (Kd.R_lt HO_5.out)) (below_size (by repeat first | exact HB.out | apply below_alloc | apply pw_below_drewN | apply below_drew1))); have n2_ := Aside0.mk (below_step (by repeat first | exact HB.out | apply below_alloc | apply pw_below_drewN | apply below_drew1) hb); clear HO_5; clear HB; have HO_5 := n0_; have HO595 := n1_; have HB := n2_; clear n0_ n1_ n2_; clear hb ho17; obtain ⟨Ao19, co19, eo19⟩ := Kd.R_slice HO_5.out; subst eo19) | ((with_reducible refine gate_builtin (b := .append) (xs := #[.tmp 14, .tmp 15]) rfl ?_); at_builtin; refine Kd.R_append_rows Kd.bool (w0 := w) w.heap.size rfl (.tmp 14) (.tmp 15) 49 4 (.bool false) 1 rfl Tryd.underlying49 info4 rfl (by decide) (by omega) v594 y593 x5_1 _ _ _ (fun k_ => some k_ ≠ (.slice Ao19 x5_1.length co19 : Value).ownBlock) (fun _ => False) rfl rfl ?aO ?aR (fun _ _ h => h) (fun _ h => h.elim) ?aF ?aB ?aS ?aL ?_; (case aR => repeat (first | exact (Kd.R_reads' HO_5.out).2.2 | (with_reducible refine Kd.C_alloc ?_ _) | (with_reducible refine Kd.C_drewN ?_ _) | (with_reducible refine Kd.C_drew ?_))); (case aB => exact (by repeat first | exact HB.out | apply below_alloc | apply pw_below_drewN | apply below_drew1)); (case aF => exact (fun k_ hk => Kd.fresh' (Kd.R_lt HO_5.out) k_ hk)); (case aO => exact (by (with_reducible repeat (first | apply Kd.R_alloc | apply Kd.R_drewN | apply Kd.R_drew)); exact Kd.R_mono HO595.out (fun _ hk => hk.2))); (case aS => exact (below_size (by repeat first | exact HB.out | apply below_alloc | apply pw_below_drewN | apply below_drew1))); (case aL => have := LMc4.out; omega); intro v597 w18 ho hb hg hat; rw [← Ny596.out] at ho; have n0_ := Aside0.mk (Kd.R_after (ok := (fun _ => True)) HO_5.out hg hat); have n1_ := Aside0.mk (hb); have n2_ := Aside0.mk (ho); clear HO_5; clear HB; clear HO595; have HO_5 := n0_; have HB := n1_; have HO598 := n2_; clear n0_ n1_ n2_; clear ho hb hg hat; have p599 : 0 ≤ (x6_1 : Int) := of_decide_eq_true (by first | (with_reducible assumption) | assumption); have q599 : x6_1 < (l0.length : Int) := of_decide_eq_true (by first | (with_reducible assumption) | assumption); obtain ⟨ad599, e599, hx599_0⟩ := Kd.at_bool HR0.out x6_1 p599 q599; (try rw [← Nbq7.out] at hx599_0); cases e599; replace hx599_0 := (HB.out.cell (World.block_lt_of_cell? w _ hx599_0)).trans hx599_0; replace p599 := eq_true p599; replace q599 := eq_true q599))
        go_roundg k1
        case measure => have := HK1.out; omega
        case rel => exact ⟨(y596), (wrap64 (x6_1 - 1)), (by first | rfl | (simp; done) | (simp [*]; done) | (refine congrArg (Value.int _) ?_; omega) | (refine congrArg Value.bool ?_; generalize ByteArray.toList _ = z_; cases z_ <;> rfl)), H', ⟨by have := HK1.out; omega⟩, ⟨by (with_reducible repeat (first | apply Kd.R_alloc | apply Kd.R_drewN | apply Kd.R_drew)); exact Kd.R_mono HO598.out (fun _ hk => trivial)⟩, ⟨by repeat first | exact HB.out | apply below_alloc | apply pw_below_drewN | apply below_drew1⟩⟩
      ·rw [if_neg c6] at H
       exact absurd H (by simp)
     ·rw [if_neg c5] at H
      exact absurd H (by simp)
    ·rw [if_neg c4] at H
     exact absurd H (by simp)
   ·rw [if_neg c3] at H
    have c3b0 : decide (0 ≤ x6_1) = false := decide_eq_false c3
    clear c3
    replace H := Option.bind_eq_some_iff.mp H
    obtain ⟨t603, A200, H⟩ := H
    replace H : (some t603) = some r := H
    have A20 := Aside0.mk A200
    clear A200
    obtain rfl := Option.some.inj H
    obtain ⟨Ao21, co21, eo21⟩ := Kd.R_slice HO_5.out
    subst eo21
    go_wp2_with (first | ((with_reducible refine gate_callee (f := 55) rfl ?_); refine goesL_ (some 25) rfl rfl Tryd.func55 (by kernel_rfl) rfl #[.slice Ao21 x5_1.length co21] rfl (by (try simp only [List.map_toArray, List.map_cons, List.map_nil]); first | done | rfl | (simp only [List.length_drop, List.length_take]; rfl)) ?_; (with_reducible refine (gudgeonref01_trim.calls k1 _ _ x5_1 t603 _ ?side1 ?side2 A20.out).mono ?_); (case side1 => repeat (first | exact (Kd.R_reads' HO_5.out).2.2 | (with_reducible refine Kd.C_alloc ?_ _) | (with_reducible refine Kd.C_drewN ?_ _) | (with_reducible refine Kd.C_drew ?_))); (case side2 => exact (Kd.R_reads' HO_5.out).2.1); rintro e w22 ⟨v604, rfl, ho0, hb⟩; refine ⟨_, rfl, ?_⟩; have n0_ := Aside0.mk (Kd.R_elder' HO_5.out (Kd.R_base ho0) hb); have n1_ := Aside0.mk (Kd.R_lower (Kd.R_new' ho0 (Kd.R_lt HO_5.out)) (below_size (by repeat first | exact HB.out | apply below_alloc | apply pw_below_drewN | apply below_drew1))); have n2_ := Aside0.mk (below_step (by repeat first | exact HB.out | apply below_alloc | apply pw_below_drewN | apply below_drew1) hb); clear HO_5; clear HB; have HO_5 := n0_; have HO605 := n1_; have HB := n2_; clear n0_ n1_ n2_))
    go_ret
    exact ⟨_, by first | rfl | (simp [errW_none, errW_some] <;> rfl) | (simp [*, errW_none, errW_some] <;> rfl), by (with_reducible repeat (first | apply Kd.R_alloc | apply Kd.R_drewN | apply Kd.R_drew)); exact Kd.R_mono HO605.out (fun _ hk => trivial), by repeat first | exact HB.out | apply below_alloc | apply pw_below_drewN | apply below_drew1⟩

end Go.Proofs.YtlfpnohpcemkgaaDoor.PA
/- Written by a program of this session, wip/tools/patch_print.py, over the kit's print of the loaded functions. -/
namespace Go.Proofs.YtlfpnohpcemkgaaDoor.H
end Go.Proofs.YtlfpnohpcemkgaaDoor.H
namespace Go.Proofs.YtlfpnohpcemkgaaDoor.PA
open Go.RowKit Go.Proofs.YtlfpnohpcemkgaaDoorW.PrintWords Go.Proofs.YtlfpnohpcemkgaaDoorW.PrintLast Go.Proofs.YtlfpnohpcemkgaaDoorW.PrintMore Go.Proofs.YtlfpnohpcemkgaaDoor.H
attribute [local go_sem] max2_int min2_int max_two min_two max_three min_three max_four min_four   -- for this text's walks alone
set_option linter.unusedVariables false
set_option linter.unusedSimpArgs false

/-! ### gudgeonref01_Parse: function 19 -/
mutual
def gudgeonref01_Parse.j0 : Nat → ByteArray → Bool → Option (List Int × Int)
 | 0, _, _ => none
 | k + 1, x0, x23 => if x23 = true then (some (([] : List Int), 8)) else (gudgeonref01_Parse.l0 k x0 (([false, true, false, true] : List Bool)) ([] : List Bool) 0)
def gudgeonref01_Parse.l0 : Nat → ByteArray → List Bool → List Bool → Int → Option (List Int × Int)
 | 0, _, _, _, _ => none
 | k + 1, x0, x4, x5, x6 => if x6 < (x0.size : Int) then (if 0 ≤ x6 then (if (bt x0 x6) < 48 then (gudgeonref01_Parse.j2 k x0 x4 x5 x6 true) else (gudgeonref01_Parse.j2 k x0 x4 x5 x6 (decide ((bt x0 x6) > 57)))) else (none)) else ((gudgeonref01_Limbs.f k x5).bind fun t609 => (some (t609, 0)))
def gudgeonref01_Parse.j2 : Nat → ByteArray → List Bool → List Bool → Int → Bool → Option (List Int × Int)
 | 0, _, _, _, _, _ => none
 | k + 1, x0, x4, x5, x6, x40 => if x40 = true then (some (([] : List Int), 8)) else ((gudgeonref01_mul.f k x4 x5).bind fun t612 => (if 0 ≤ x6 then (if x6 < (x0.size : Int) then ((gudgeonref01_Bits.f k (([((bt x0 x6) - 48) % 256] : List Int))).bind fun t618 => ((gudgeonref01_add.f k t612 t618).bind fun t621 => (gudgeonref01_Parse.l0 k x0 x4 t621 (wrap64 (x6 + 1))))) else (none)) else (none)))
end
def gudgeonref01_Parse.f (k : Nat) (a0 : ByteArray) : Option (List Int × Int) := if a0.toList = ([] : List UInt8) then (gudgeonref01_Parse.j0 k a0 true) else (if (a0.size : Int) > 2000 then (gudgeonref01_Parse.j0 k a0 true) else (if 0 < (a0.size : Int) then (if (bt a0 0) = 48 then (gudgeonref01_Parse.j0 k a0 (decide ((a0.size : Int) > 1))) else (gudgeonref01_Parse.j0 k a0 false)) else (none)))
theorem gudgeonref01_Parse.mono_l : ∀ k, (∀ y0 y1, LeO (gudgeonref01_Parse.j0 k y0 y1) (gudgeonref01_Parse.j0 (k + 1) y0 y1)) ∧ (∀ y0 y1 y2 y3, LeO (gudgeonref01_Parse.l0 k y0 y1 y2 y3) (gudgeonref01_Parse.l0 (k + 1) y0 y1 y2 y3)) ∧ (∀ y0 y1 y2 y3 y4, LeO (gudgeonref01_Parse.j2 k y0 y1 y2 y3 y4) (gudgeonref01_Parse.j2 (k + 1) y0 y1 y2 y3 y4))
 | 0 => ⟨fun _ _ r h => by simp [gudgeonref01_Parse.j0] at h, fun _ _ _ _ r h => by simp [gudgeonref01_Parse.l0] at h, fun _ _ _ _ _ r h => by simp [gudgeonref01_Parse.j2] at h⟩
 | k + 1 => by
  obtain ⟨ih0, ih1, ih2⟩ := gudgeonref01_Parse.mono_l k
  refine ⟨?_, ?_, ?_⟩
  ·intro y0 y1
   unfold gudgeonref01_Parse.j0
   repeat' first
   | (with_reducible exact ih0 _ _)
   | (with_reducible exact ih1 _ _ _ _)
   | (with_reducible exact ih2 _ _ _ _ _)
   | (with_reducible exact gudgeonref01_Bits.mono _ _)
   | (with_reducible exact gudgeonref01_Limbs.mono _ _)
   | (with_reducible exact gudgeonref01_add.mono _ _ _)
   | (with_reducible exact gudgeonref01_mul.mono _ _ _)
   | (with_reducible exact LeO.refl _)
   | (with_reducible exact LeO.none _)
   | (with_reducible refine LeO.ite ?_ ?_)
   | (with_reducible refine LeO.bind ?_ (fun _ => ?_))
   | exact ih0 _ _
   | exact ih1 _ _ _ _
   | exact ih2 _ _ _ _ _
   | exact gudgeonref01_Bits.mono _ _
   | exact gudgeonref01_Limbs.mono _ _
   | exact gudgeonref01_add.mono _ _ _
   | exact gudgeonref01_mul.mono _ _ _
   | exact LeO.none _
   | refine LeO.ite ?_ ?_
   | refine LeO.bind ?_ (fun _ => ?_)
  ·intro y0 y1 y2 y3
   unfold gudgeonref01_Parse.l0
   repeat' first
   | (with_reducible exact ih0 _ _)
   | (with_reducible exact ih1 _ _ _ _)
   | (with_reducible exact ih2 _ _ _ _ _)
   | (with_reducible exact gudgeonref01_Bits.mono _ _)
   | (with_reducible exact gudgeonref01_Limbs.mono _ _)
   | (with_reducible exact gudgeonref01_add.mono _ _ _)
   | (with_reducible exact gudgeonref01_mul.mono _ _ _)
   | (with_reducible exact LeO.refl _)
   | (with_reducible exact LeO.none _)
   | (with_reducible refine LeO.ite ?_ ?_)
   | (with_reducible refine LeO.bind ?_ (fun _ => ?_))
   | exact ih0 _ _
   | exact ih1 _ _ _ _
   | exact ih2 _ _ _ _ _
   | exact gudgeonref01_Bits.mono _ _
   | exact gudgeonref01_Limbs.mono _ _
   | exact gudgeonref01_add.mono _ _ _
   | exact gudgeonref01_mul.mono _ _ _
   | exact LeO.none _
   | refine LeO.ite ?_ ?_
   | refine LeO.bind ?_ (fun _ => ?_)
  ·intro y0 y1 y2 y3 y4
   unfold gudgeonref01_Parse.j2
   repeat' first
   | (with_reducible exact ih0 _ _)
   | (with_reducible exact ih1 _ _ _ _)
   | (with_reducible exact ih2 _ _ _ _ _)
   | (with_reducible exact gudgeonref01_Bits.mono _ _)
   | (with_reducible exact gudgeonref01_Limbs.mono _ _)
   | (with_reducible exact gudgeonref01_add.mono _ _ _)
   | (with_reducible exact gudgeonref01_mul.mono _ _ _)
   | (with_reducible exact LeO.refl _)
   | (with_reducible exact LeO.none _)
   | (with_reducible refine LeO.ite ?_ ?_)
   | (with_reducible refine LeO.bind ?_ (fun _ => ?_))
   | exact ih0 _ _
   | exact ih1 _ _ _ _
   | exact ih2 _ _ _ _ _
   | exact gudgeonref01_Bits.mono _ _
   | exact gudgeonref01_Limbs.mono _ _
   | exact gudgeonref01_add.mono _ _ _
   | exact gudgeonref01_mul.mono _ _ _
   | exact LeO.none _
   | refine LeO.ite ?_ ?_
   | refine LeO.bind ?_ (fun _ => ?_)
theorem gudgeonref01_Parse.mono : ∀ a0 k, LeO (gudgeonref01_Parse.f k a0) (gudgeonref01_Parse.f (k + 1) a0) := by
 intro a0 k
 obtain ⟨ih0, ih1, ih2⟩ := gudgeonref01_Parse.mono_l k
 unfold gudgeonref01_Parse.f
 repeat' first
   | (with_reducible exact ih0 _ _)
   | (with_reducible exact ih1 _ _ _ _)
   | (with_reducible exact ih2 _ _ _ _ _)
   | (with_reducible exact gudgeonref01_Bits.mono _ _)
   | (with_reducible exact gudgeonref01_Limbs.mono _ _)
   | (with_reducible exact gudgeonref01_add.mono _ _ _)
   | (with_reducible exact gudgeonref01_mul.mono _ _ _)
   | (with_reducible exact LeO.refl _)
   | (with_reducible exact LeO.none _)
   | (with_reducible refine LeO.ite ?_ ?_)
   | (with_reducible refine LeO.bind ?_ (fun _ => ?_))
   | exact ih0 _ _
   | exact ih1 _ _ _ _
   | exact ih2 _ _ _ _ _
   | exact gudgeonref01_Bits.mono _ _
   | exact gudgeonref01_Limbs.mono _ _
   | exact gudgeonref01_add.mono _ _ _
   | exact gudgeonref01_mul.mono _ _ _
   | exact LeO.none _
   | refine LeO.ite ?_ ?_
   | refine LeO.bind ?_ (fun _ => ?_)
def gudgeonref01_Parse.T10 : Bool × List (List Nat × List Nat) := (true, [([], []), ([], []), ([0, 1], [0, 1]), ([], []), ([], []), ([3, 4], [3, 4]), ([5], [5]), ([6], [6]), ([7], [7]), ([8, 2], [8]), ([2, 9, 9], [2, 9]), ([10, 10, 0, 1, 2, 3, 4, 5, 6, 7, 8, 9, 10], [1, 10])])
def gudgeonref01_Parse.B10 : List Nat := [0, 0, 3, 0, 0, 24, 56, 120, 248, 511, 1023, 2047]
theorem gudgeonref01_Parse.tab10 : rtab .any (opsOf Tryd.f19 10) = gudgeonref01_Parse.T10 := by kernel_rfl
theorem gudgeonref01_Parse.bits10 : waitsOk gudgeonref01_Parse.T10.2 gudgeonref01_Parse.B10 = true := by kernel_rfl
set_option maxHeartbeats 8000000 in
set_option maxRecDepth 100000 in
theorem gudgeonref01_Parse.calls (k : Nat) (a0 : ByteArray) (r1 : List Int) (r2 : Int) (w : World) (h : gudgeonref01_Parse.f k a0 = some (r1, r2)) :
  Calls Tryd.prog 19 #[.string a0] w fun e w' => ∃ v0_ : Value, e = .returned (.tuple #[v0_, .int .i64 r2]) ∧ Kd.R (Kd.int .u32) 43 w' w.heap.size (fun _ => True) v0_ r1 ∧ Below w.heap.size w w' := by
 have HB := Aside0.mk (Below.refl w.heap.size w)
 have H : (if a0.toList = ([] : List UInt8) then (gudgeonref01_Parse.j0 k a0 true) else (if (a0.size : Int) > 2000 then (gudgeonref01_Parse.j0 k a0 true) else (if 0 < (a0.size : Int) then (if (bt a0 0) = 48 then (gudgeonref01_Parse.j0 k a0 (decide ((a0.size : Int) > 1))) else (gudgeonref01_Parse.j0 k a0 false)) else (none)))) = some (r1, r2) := h
 clear h
 have HC2 := Aside0.mk H
 clear H
 go_enter Tryd.func19, Tryd.ntmps19
 go_upto_region 1 with (fail)
 go_cut [23] (fun v23 wc => ∃ (kq : Nat) (x23_1 : Bool), v23 = .bool x23_1 ∧ Aside0 (gudgeonref01_Parse.j0 kq a0 x23_1 = some (r1, r2)) ∧ Aside0 (kq ≤ k) ∧ Aside0 (Below w.heap.size w wc))
 case first =>
  have H := HC2.out
  clear HC2
  by_cases c3 : a0.toList = ([] : List UInt8)
  ·rw [if_pos c3] at H
   have c3b0 : (a0.toList == ([] : List UInt8)) = true := beq_iff_eq.mpr c3
   have c3b1 : (a0.toList != ([] : List UInt8)) = false := bne_eq_false_iff_eq.mpr c3
   clear c3
   (first | rw [c3b0] | rw [c3b1] | (simp only [i64_w, i32_w]; rw [c3b0]) | skip)
   have H' := Aside0.mk H
   clear H
   go_wp2
   go_meet
   case rel => exact ⟨_, (true), (by first | rfl | (simp; done) | (simp [*]; done) | (refine congrArg (Value.int _) ?_; omega) | (refine congrArg Value.bool ?_; generalize ByteArray.toList _ = z_; cases z_ <;> rfl)), H', ⟨by first | omega | exact Nat.le_refl _⟩, ⟨by repeat first | exact HB.out | apply below_alloc | apply pw_below_drewN | apply below_drew1⟩⟩
  ·rw [if_neg c3] at H
   have c3b0 : (a0.toList == ([] : List UInt8)) = false := beq_eq_false_iff_ne.mpr c3
   have c3b1 : (a0.toList != ([] : List UInt8)) = true := bne_iff_ne.mpr c3
   (first | rw [c3b0] | rw [c3b1] | (simp only [i64_w, i32_w]; rw [c3b0]) | skip)
   by_cases c4 : (a0.size : Int) > 2000
   ·rw [if_pos c4] at H
    have c4b0 : decide (2000 < (a0.size : Int)) = true := decide_eq_true c4
    have c4b1 : decide (2000 < a0.size) = true := decide_eq_true (by omega)
    clear c4
    have H' := Aside0.mk H
    clear H
    go_wp2
    go_meet
    case rel => exact ⟨_, (true), (by first | rfl | (simp; done) | (simp [*]; done) | (refine congrArg (Value.int _) ?_; omega) | (refine congrArg Value.bool ?_; generalize ByteArray.toList _ = z_; cases z_ <;> rfl)), H', ⟨by first | omega | exact Nat.le_refl _⟩, ⟨by repeat first | exact HB.out | apply below_alloc | apply pw_below_drewN | apply below_drew1⟩⟩
   ·rw [if_neg c4] at H
    have c4b0 : decide (2000 < (a0.size : Int)) = false := decide_eq_false c4
    have c4b1 : decide (2000 < a0.size) = false := decide_eq_false (by omega)
    clear c4
    by_cases c5 : 0 < (a0.size : Int)
    ·rw [if_pos c5] at H
     have c5b0 : decide (0 < (a0.size : Int)) = true := decide_eq_true c5
     have c5b1 : decide (0 < a0.size) = true := decide_eq_true (by omega)
     clear c5
     by_cases c7 : (bt a0 0) = 48
     ·rw [if_pos c7] at H
      have c7b0 : ((bt a0 0) == 48) = true := beq_iff_eq.mpr c7
      have c7b1 : ((bt a0 0) != 48) = false := bne_eq_false_iff_eq.mpr c7
      clear c7
      have H' := Aside0.mk H
      clear H
      have p6 : 0 ≤ (0 : Int) := (by omega)
      have q6 : 0 < a0.size := (by have : (0 : Int) < (a0.size : Int) := of_decide_eq_true (by first | (with_reducible assumption) | assumption); omega)
      have hx6 : ∀ h : 0 < a0.size, ((a0[0]'h).toNat : Int) = bt a0 0 := bt_at a0 0
      clear p6
      have qi6 : (0 < (a0.size : Int)) = True := eq_true (of_decide_eq_true (by first | (with_reducible assumption) | assumption))
      replace q6 := eq_true q6
      go_wp2
      go_meet
      case rel => exact ⟨_, (decide ((a0.size : Int) > 1)), (by first | rfl | (simp; done) | (simp [*]; done) | (refine congrArg (Value.int _) ?_; omega) | (refine congrArg Value.bool ?_; generalize ByteArray.toList _ = z_; cases z_ <;> rfl)), H', ⟨by first | omega | exact Nat.le_refl _⟩, ⟨by repeat first | exact HB.out | apply below_alloc | apply pw_below_drewN | apply below_drew1⟩⟩
     ·rw [if_neg c7] at H
      have c7b0 : ((bt a0 0) == 48) = false := beq_eq_false_iff_ne.mpr c7
      have c7b1 : ((bt a0 0) != 48) = true := bne_iff_ne.mpr c7
      have H' := Aside0.mk H
      clear H
      have p6 : 0 ≤ (0 : Int) := (by omega)
      have q6 : 0 < a0.size := (by have : (0 : Int) < (a0.size : Int) := of_decide_eq_true (by first | (with_reducible assumption) | assumption); omega)
      have hx6 : ∀ h : 0 < a0.size, ((a0[0]'h).toNat : Int) = bt a0 0 := bt_at a0 0
      clear p6
      have qi6 : (0 < (a0.size : Int)) = True := eq_true (of_decide_eq_true (by first | (with_reducible assumption) | assumption))
      replace q6 := eq_true q6
      go_wp2
      go_meet
      case rel => exact ⟨_, (false), (by first | rfl | (simp; done) | (simp [*]; done) | (refine congrArg (Value.int _) ?_; omega) | (refine congrArg Value.bool ?_; generalize ByteArray.toList _ = z_; cases z_ <;> rfl)), H', ⟨by first | omega | exact Nat.le_refl _⟩, ⟨by repeat first | exact HB.out | apply below_alloc | apply pw_below_drewN | apply below_drew1⟩⟩
    ·rw [if_neg c5] at H
     exact absurd H (by simp)
 case rest =>
  clear HC2
  try clear c1
  try clear p2
  try clear c3
  try clear c3b0
  try clear c3b1
  try clear c4
  try clear c4b0
  try clear c4b1
  try clear c5
  try clear c5b0
  try clear c5b1
  try clear p6
  try clear q6
  try clear hx6
  try clear qi6
  try clear c7
  try clear c7b0
  try clear c7b1
  try clear p6
  try clear q6
  obtain ⟨kq, x23_1, rfl, HA, HJ1, HB⟩ := hcut
  cases kq with
  | zero => exact absurd HA.out (by simp [gudgeonref01_Parse.j0])
  | succ kj1 =>
   have H := HA.out
   clear HA
   simp only [gudgeonref01_Parse.j0] at H
   by_cases c8 : x23_1 = true
   ·subst c8
    have H1 : (some (([] : List Int), 8)) = some (r1, r2) := by rw [if_pos rfl] at H; exact H
    clear H
    have H := H1
    clear H1
    simp only [Option.some.injEq, Prod.mk.injEq] at H
    obtain ⟨rfl, rfl⟩ := H
    go_wp2
    go_ret2
    exact ⟨_, by first | rfl | (simp [errW_none, errW_some] <;> rfl) | (simp [*, errW_none, errW_some] <;> rfl), by first | exact Kd.R_nil _ _ _ _ _ | exact Kd.N_nil _ _ _ _ _ | exact Kd.V_nil _ _ _ _ _ | exact Kd.Q_nil _ _ _ _ _ | exact Kd.S_nil _ _ _ _ _, by repeat first | exact HB.out | apply below_alloc | apply pw_below_drewN | apply below_drew1⟩
   ·replace c8 := Bool.eq_false_iff.mpr c8
    subst c8
    have H1 : (gudgeonref01_Parse.l0 kj1 a0 (([false, true, false, true] : List Bool)) ([] : List Bool) 0) = some (r1, r2) := by rw [if_neg (show ¬ (false = true) by decide)] at H; exact H
    clear H
    have H := H1
    clear H1
    obtain ⟨y606, hy606⟩ : ∃ y_ : List Bool, y_ = (([false, true, false, true] : List Bool)) := ⟨_, rfl⟩
    replace H : (gudgeonref01_Parse.l0 kj1 a0 y606 ([] : List Bool) 0) = some (r1, r2) := by first | (rw [hy606]; with_reducible exact H) | (have H2_ := (Option.bind_some _ _).symm.trans H; rw [hy606]; with_reducible exact H2_) | (have H2_ := (Option.bind_some _ _).symm.trans H; with_reducible exact H2_) | with_reducible exact H | (rw [hy606]; exact H) | exact H
    have Ny606 := Aside0.mk hy606
    clear hy606
    have H' := Aside0.mk H
    clear H
    go_wp2_with (first | ((with_reducible refine gate_dst (N := 24) rfl ?_); (try (refine gate_guard (by rfl) ?_; dsimp only)); refine Kd.R_lit Kd.bool _ 4 ?hg (N := 24) ?hd (xs := ([false, true, false, true] : List Bool)) (inner := [.bool false, .bool true, .bool false, .bool true]) (ok := fun _ => True) (okp := fun _ => True) ?hr ?hp (fun _ hk => hk) trivial (Below.refl _ _) (Nat.le_refl _) (by simp) ?_; (case hd => rfl); (case hg => rfl); (case hr => first | (go_simp; done) | (go_simp; rfl) | (go_simp; simp only [IntKind.wrap_u8, IntKind.wrap_u32]; congr 4; omega) | (go_simp; simp only [IntKind.wrap_u8, IntKind.wrap_u32]; congr 5; omega)); (case hp => exact (Reps.one (show Kd.M Kd.bool _ _ _ false [.bool false] from rfl) (Reps.one (show Kd.M Kd.bool _ _ _ true [.bool true] from rfl) (Reps.one (show Kd.M Kd.bool _ _ _ false [.bool false] from rfl) (Reps.one (show Kd.M Kd.bool _ _ _ true [.bool true] from rfl) (Reps.none _ _)))))); intro v607 w9 ho10 hb hg_ hnew_; clear hg_ hnew_; (first | rw [← Ny606.out] at ho10 | (simp only [Int.reduceToNat] at ho10; rw [← Ny606.out] at ho10)); have n0_ := Aside0.mk (Kd.R_lower ho10 (below_size (by repeat first | exact HB.out | apply below_alloc | apply pw_below_drewN | apply below_drew1))); have n1_ := Aside0.mk (below_step (by repeat first | exact HB.out | apply below_alloc | apply pw_below_drewN | apply below_drew1) hb); clear HB; have HO608 := n0_; have HB := n1_; clear n0_ n1_; clear hb ho10))
    go_loopg [5, 6] kj1 (fun kq v5 v6 w' => ∃ (x5_2 : List Bool) (x6_2 : Int), v6 = .int .i64 x6_2 ∧ Aside0 (gudgeonref01_Parse.l0 kq a0 y606 x5_2 x6_2 = some (r1, r2)) ∧ Aside0 (kq ≤ kj1) ∧ Aside0 (Kd.R Kd.bool 4 w' w.heap.size (fun k_ => some k_ ≠ (v5 : Value).ownBlock) v607 y606) ∧ Aside0 (Kd.R Kd.bool 4 w' w.heap.size (fun k_ => some k_ ≠ (v607 : Value).ownBlock) v5 x5_2) ∧ Aside0 (Below w.heap.size w w'))
    case atStart => exact ⟨(([] : List Bool)), (0), (by first | rfl | (simp; done) | (simp [*]; done) | (refine congrArg (Value.int _) ?_; omega) | (refine congrArg Value.bool ?_; generalize ByteArray.toList _ = z_; cases z_ <;> rfl)), H', ⟨Nat.le_refl _⟩, ⟨by (with_reducible repeat (first | apply Kd.R_alloc | apply Kd.R_drewN | apply Kd.R_drew)); exact Kd.R_mono HO608.out (fun _ hk => (by simp [Value.ownBlock]))⟩, ⟨by first | exact Kd.R_nil _ _ _ _ _ | exact Kd.N_nil _ _ _ _ _ | exact Kd.V_nil _ _ _ _ _ | exact Kd.Q_nil _ _ _ _ _ | exact Kd.S_nil _ _ _ _ _⟩, ⟨by repeat first | exact HB.out | apply below_alloc | apply pw_below_drewN | apply below_drew1⟩⟩
    case round =>
     clear H'
     try clear c1
     try clear p2
     try clear c3
     try clear c3b0
     try clear c3b1
     try clear c4
     try clear c4b0
     try clear c4b1
     try clear c5
     try clear c5b0
     try clear c5b1
     try clear p6
     try clear q6
     try clear hx6
     try clear qi6
     try clear c7
     try clear c7b0
     try clear c7b1
     try clear c8
     try clear p2
     try clear p6
     try clear q6
     obtain ⟨x5_2, x6_2, rfl, HA, HK2, HO_4, HO_5, HB⟩ := hrel
     cases gk with
     | zero => exact absurd HA.out (by simp [gudgeonref01_Parse.l0])
     | succ k2 =>
      have H := HA.out
      clear HA
      simp only [gudgeonref01_Parse.l0] at H
      by_cases c11 : x6_2 < (a0.size : Int)
      ·rw [if_pos c11] at H
       have c11b0 : decide (x6_2 < (a0.size : Int)) = true := decide_eq_true c11
       clear c11
       have HC12 := Aside0.mk H
       clear H
       go_upto_region 8 with (fail)
       go_cut [40] (fun v40 wc => ∃ (kq : Nat) (x40_11 : Bool), v40 = .bool x40_11 ∧ Aside0 (gudgeonref01_Parse.j2 kq a0 y606 x5_2 x6_2 x40_11 = some (r1, r2)) ∧ Aside0 (kq ≤ k2) ∧ Aside0 (Kd.R Kd.bool 4 wc w.heap.size (fun k_ => some k_ ≠ (u5 : Value).ownBlock) v607 y606) ∧ Aside0 (Kd.R Kd.bool 4 wc w.heap.size (fun k_ => some k_ ≠ (v607 : Value).ownBlock) u5 x5_2) ∧ Aside0 (Below w.heap.size w wc))
       case first =>
        have H := HC12.out
        clear HC12
        by_cases c13 : 0 ≤ x6_2
        ·rw [if_pos c13] at H
         have c13b0 : decide (0 ≤ x6_2) = true := decide_eq_true c13
         clear c13
         (first | rw [c13b0] | rw [c13b1] | (simp only [i64_w, i32_w]; rw [c13b0]) | skip)
         by_cases c15 : (bt a0 x6_2) < 48
         ·rw [if_pos c15] at H
          have c15b0 : decide ((bt a0 x6_2) < 48) = true := decide_eq_true c15
          clear c15
          have H' := Aside0.mk H
          clear H
          have p14 : 0 ≤ (x6_2 : Int) := of_decide_eq_true (by first | (with_reducible assumption) | assumption)
          have q14 : x6_2 < (a0.size : Int) := of_decide_eq_true (by first | (with_reducible assumption) | assumption)
          have hx14 := bt_at a0 x6_2
          replace p14 := eq_true p14
          replace q14 := eq_true q14
          go_wp2
          go_meet
          case rel => exact ⟨_, (true), (by first | rfl | (simp; done) | (simp [*]; done) | (refine congrArg (Value.int _) ?_; omega) | (refine congrArg Value.bool ?_; generalize ByteArray.toList _ = z_; cases z_ <;> rfl)), H', ⟨by have := HJ1.out; have := HK2.out; first | omega | exact Nat.le_refl _⟩, ⟨by (with_reducible repeat (first | apply Kd.R_alloc | apply Kd.R_drewN | apply Kd.R_drew)); exact HO_4.out⟩, ⟨by (with_reducible repeat (first | apply Kd.R_alloc | apply Kd.R_drewN | apply Kd.R_drew)); exact HO_5.out⟩, ⟨by repeat first | exact HB.out | apply below_alloc | apply pw_below_drewN | apply below_drew1⟩⟩
         ·rw [if_neg c15] at H
          have c15b0 : decide ((bt a0 x6_2) < 48) = false := decide_eq_false c15
          clear c15
          have H' := Aside0.mk H
          clear H
          have p14 : 0 ≤ (x6_2 : Int) := of_decide_eq_true (by first | (with_reducible assumption) | assumption)
          have q14 : x6_2 < (a0.size : Int) := of_decide_eq_true (by first | (with_reducible assumption) | assumption)
          have hx14 := bt_at a0 x6_2
          replace p14 := eq_true p14
          replace q14 := eq_true q14
          have p16 : 0 ≤ (x6_2 : Int) := of_decide_eq_true (by first | (with_reducible assumption) | assumption)
          have q16 : x6_2 < (a0.size : Int) := of_decide_eq_true (by first | (with_reducible assumption) | assumption)
          have hx16 := bt_at a0 x6_2
          replace p16 := eq_true p16
          replace q16 := eq_true q16
          go_wp2
          go_meet
          case rel => exact ⟨_, (decide ((bt a0 x6_2) > 57)), (by first | rfl | (simp; done) | (simp [*]; done) | (refine congrArg (Value.int _) ?_; omega) | (refine congrArg Value.bool ?_; generalize ByteArray.toList _ = z_; cases z_ <;> rfl)), H', ⟨by have := HJ1.out; have := HK2.out; first | omega | exact Nat.le_refl _⟩, ⟨by (with_reducible repeat (first | apply Kd.R_alloc | apply Kd.R_drewN | apply Kd.R_drew)); exact HO_4.out⟩, ⟨by (with_reducible repeat (first | apply Kd.R_alloc | apply Kd.R_drewN | apply Kd.R_drew)); exact HO_5.out⟩, ⟨by repeat first | exact HB.out | apply below_alloc | apply pw_below_drewN | apply below_drew1⟩⟩
        ·rw [if_neg c13] at H
         exact absurd H (by simp)
       case rest =>
        clear HC12
        try clear c1
        try clear p1
        try clear q1
        try clear hx1
        try clear p2
        try clear c3
        try clear c3b0
        try clear c3b1
        try clear c4
        try clear c4b0
        try clear c4b1
        try clear c5
        try clear c5b0
        try clear c5b1
        try clear p6
        try clear q6
        try clear hx6
        try clear qi6
        try clear c7
        try clear c7b0
        try clear c7b1
        try clear c8
        try clear c11
        try clear c11b0
        try clear c13
        try clear c13b0
        try clear p14
        try clear q14
        try clear hx14
        try clear c15
        try clear c15b0
        try clear p16
        try clear q16
        try clear hx16
        try clear p14
        try clear p16
        try clear p2
        try clear p6
        try clear q14
        try clear q16
        try clear q6
        obtain ⟨kq, x40_11, rfl, HA, HJ11, HO_4, HO_5, HB⟩ := hcut
        cases kq with
        | zero => exact absurd HA.out (by simp [gudgeonref01_Parse.j2])
        | succ kj11 =>
         have H := HA.out
         clear HA
         simp only [gudgeonref01_Parse.j2] at H
         by_cases c17 : x40_11 = true
         ·subst c17
          have H1 : (some (([] : List Int), 8)) = some (r1, r2) := by rw [if_pos rfl] at H; exact H
          clear H
          have H := H1
          clear H1
          simp only [Option.some.injEq, Prod.mk.injEq] at H
          obtain ⟨rfl, rfl⟩ := H
          go_wp2
          go_ret2
          exact ⟨_, by first | rfl | (simp [errW_none, errW_some] <;> rfl) | (simp [*, errW_none, errW_some] <;> rfl), by first | exact Kd.R_nil _ _ _ _ _ | exact Kd.N_nil _ _ _ _ _ | exact Kd.V_nil _ _ _ _ _ | exact Kd.Q_nil _ _ _ _ _ | exact Kd.S_nil _ _ _ _ _, by repeat first | exact HB.out | apply below_alloc | apply pw_below_drewN | apply below_drew1⟩
         ·replace c17 := Bool.eq_false_iff.mpr c17
          subst c17
          have H1 : ((gudgeonref01_mul.f kj11 y606 x5_2).bind fun t612 => (if 0 ≤ x6_2 then (if x6_2 < (a0.size : Int) then ((gudgeonref01_Bits.f kj11 (([((bt a0 x6_2) - 48) % 256] : List Int))).bind fun t618 => ((gudgeonref01_add.f kj11 t612 t618).bind fun t621 => (gudgeonref01_Parse.l0 kj11 a0 y606 t621 (wrap64 (x6_2 + 1))))) else (none)) else (none))) = some (r1, r2) := by rw [if_neg (show ¬ (false = true) by decide)] at H; exact H
          clear H
          have H := H1
          clear H1
          replace H := Option.bind_eq_some_iff.mp H
          obtain ⟨t612, A180, H⟩ := H
          replace H : (if 0 ≤ x6_2 then (if x6_2 < (a0.size : Int) then ((gudgeonref01_Bits.f kj11 (([((bt a0 x6_2) - 48) % 256] : List Int))).bind fun t618 => ((gudgeonref01_add.f kj11 t612 t618).bind fun t621 => (gudgeonref01_Parse.l0 kj11 a0 y606 t621 (wrap64 (x6_2 + 1))))) else (none)) else (none)) = some (r1, r2) := H
          have A18 := Aside0.mk A180
          clear A180
          by_cases c19 : 0 ≤ x6_2
          ·rw [if_pos c19] at H
           have c19b0 : decide (0 ≤ x6_2) = true := decide_eq_true c19
           clear c19
           by_cases c20 : x6_2 < (a0.size : Int)
           ·rw [if_pos c20] at H
            have c20b0 : decide (x6_2 < (a0.size : Int)) = true := decide_eq_true c20
            clear c20
            obtain ⟨y615, hy615⟩ : ∃ y_ : List Int, y_ = (([((bt a0 x6_2) - 48) % 256] : List Int)) := ⟨_, rfl⟩
            replace H : ((gudgeonref01_Bits.f kj11 y615).bind fun t618 => ((gudgeonref01_add.f kj11 t612 t618).bind fun t621 => (gudgeonref01_Parse.l0 kj11 a0 y606 t621 (wrap64 (x6_2 + 1))))) = some (r1, r2) := by first | (rw [hy615]; with_reducible exact H) | (have H2_ := (Option.bind_some _ _).symm.trans H; rw [hy615]; with_reducible exact H2_) | (have H2_ := (Option.bind_some _ _).symm.trans H; with_reducible exact H2_) | with_reducible exact H | (rw [hy615]; exact H) | exact H
            have Ny615 := Aside0.mk hy615
            clear hy615
            replace H := Option.bind_eq_some_iff.mp H
            obtain ⟨t618, A220, H⟩ := H
            replace H : ((gudgeonref01_add.f kj11 t612 t618).bind fun t621 => (gudgeonref01_Parse.l0 kj11 a0 y606 t621 (wrap64 (x6_2 + 1)))) = some (r1, r2) := H
            have A22 := Aside0.mk A220
            clear A220
            replace H := Option.bind_eq_some_iff.mp H
            obtain ⟨t621, A230, H⟩ := H
            replace H : (gudgeonref01_Parse.l0 kj11 a0 y606 t621 (wrap64 (x6_2 + 1))) = some (r1, r2) := H
            have A23 := Aside0.mk A230
            clear A230
            have H' := Aside0.mk H
            clear H
            obtain ⟨Ao24, co24, eo24⟩ := Kd.R_slice HO_4.out
            subst eo24
            obtain ⟨Ao25, co25, eo25⟩ := Kd.R_slice HO_5.out
            subst eo25
            try go_wp2
            have n0_ := Aside0.mk (Kd.R_drew HO_4.out)
            have n1_ := Aside0.mk (Kd.R_drew HO_5.out)
            have n2_ := Aside0.mk (below_drew1 HB.out)
            clear HO_4
            clear HO_5
            clear HB
            have HO_4 := n0_
            have HO_5 := n1_
            have HB := n2_
            clear n0_ n1_ n2_
            have p21 : 0 ≤ (x6_2 : Int) := of_decide_eq_true (by first | (with_reducible assumption) | assumption)
            have q21 : x6_2 < (a0.size : Int) := of_decide_eq_true (by first | (with_reducible assumption) | assumption)
            have hx21 := bt_at a0 x6_2
            replace p21 := eq_true p21
            replace q21 := eq_true q21
            refine start_ (n := 12) (S := fun w' => True) (ds := []) #[false, false, false, false, false, false, false, false, false, false, false, false] (by kernel_rfl) rfl rfl trivial (fun hHeld => ?_); refine with_tabW gudgeonref01_Parse.tab10 gudgeonref01_Parse.bits10 (fun HT_ HW_ => ?_)
            generalize wc.drew = w26 at HO_4 HO_5 HB hHeld ⊢
            refine pure_ (i := 0) (N := some 41) (v := ?_) (a' := ?_) #[true, false, false, false, false, false, false, false, false, false, false, false] rfl rfl (any_of HT_.out (by kernel_rfl)) (fun _ _ _ h => h) (Or.inl ⟨by rfl, ?_⟩) ?_ ?_
            rotate_left
            ·intro w'
             go_simp
             with_reducible rfl
            rotate_left
            ·simp only [Act.put, List.setIfInBounds_toArray, List.set_cons_zero, List.set_cons_succ, i64_w, i32_w]
             rfl
            refine pure_ (i := 1) (N := some 42) (v := ?_) (a' := ?_) #[true, true, false, false, false, false, false, false, false, false, false, false] rfl rfl (any_of HT_.out (by kernel_rfl)) (fun _ _ _ h => h) (Or.inl ⟨by rfl, ?_⟩) ?_ ?_
            rotate_left
            ·intro w'
             go_simp
             with_reducible rfl
            rotate_left
            ·simp only [Act.put, List.setIfInBounds_toArray, List.set_cons_zero, List.set_cons_succ, i64_w, i32_w]
             rfl
            refine pure_ (i := 3) (N := some 44) (v := ?_) (a' := ?_) #[true, true, false, true, false, false, false, false, false, false, false, false] rfl rfl (any_of HT_.out (by kernel_rfl)) (fun _ _ _ h => h) (Or.inl ⟨by rfl, ?_⟩) ?_ ?_
            rotate_left
            ·intro w'
             go_simp
             with_reducible rfl
            rotate_left
            ·simp only [Act.put, List.setIfInBounds_toArray, List.set_cons_zero, List.set_cons_succ, i64_w, i32_w]
             rfl
            refine pure_ (i := 4) (N := some 45) (v := ?_) (a' := ?_) #[true, true, false, true, true, false, false, false, false, false, false, false] rfl rfl (any_of HT_.out (by kernel_rfl)) (fun _ _ _ h => h) (Or.inl ⟨by rfl, ?_⟩) ?_ ?_
            rotate_left
            ·intro w'
             go_simp
             with_reducible rfl
            rotate_left
            ·simp only [Act.put, List.setIfInBounds_toArray, List.set_cons_zero, List.set_cons_succ, i64_w, i32_w]
             rfl
            refine take_ (i := 5) (N := some 46) (v := ?_) (a' := ?_) #[true, true, false, true, true, true, false, false, false, false, false, false] rfl rfl (take_ofW HT_.out HW_.out (by kernel_rfl)) (fun _ _ _ h => h) (Or.inl ⟨by rfl, ?_⟩) hHeld ?_ ?_
            rotate_left
            ·intro w' _
             go_simp
             with_reducible rfl
            rotate_left
            ·simp only [Act.put, List.setIfInBounds_toArray, List.set_cons_zero, List.set_cons_succ, i64_w, i32_w]
             rfl
            refine pure_ (i := 6) (N := some 47) (v := ?_) (a' := ?_) #[true, true, false, true, true, true, true, false, false, false, false, false] rfl rfl (any_of HT_.out (by kernel_rfl)) (fun _ _ _ h => h) (Or.inl ⟨by rfl, ?_⟩) ?_ ?_
            rotate_left
            ·intro w'
             go_simp
             with_reducible rfl
            rotate_left
            ·simp only [Act.put, List.setIfInBounds_toArray, List.set_cons_zero, List.set_cons_succ, i64_w, i32_w]
             rfl
            refine pure_ (i := 7) (N := some 48) (v := ?_) (a' := ?_) #[true, true, false, true, true, true, true, true, false, false, false, false] rfl rfl (any_of HT_.out (by kernel_rfl)) (fun _ _ _ h => h) (Or.inl ⟨by rfl, ?_⟩) ?_ ?_
            rotate_left
            ·intro w'
             go_simp
             with_reducible rfl
            rotate_left
            ·simp only [Act.put, List.setIfInBounds_toArray, List.set_cons_zero, List.set_cons_succ, i64_w, i32_w]
             rfl
            refine join_ (σ := Value × Value) 3 #[true, true, true, true, true, true, true, true, true, false, false, false] (fun s_ => [(43, s_.1), (49, s_.2)]) (fun s_ w' => (Kd.R Kd.bool 4 w' w.heap.size (fun k_ => some k_ ≠ (.slice Ao24 y606.length co24 : Value).ownBlock ∧ some k_ ≠ (.slice Ao25 x5_2.length co25 : Value).ownBlock) s_.1 t612) ∧ (Kd.R (Kd.int .u32) 43 w' w.heap.size (fun _ => True) s_.2 y615) ∧ (Kd.R Kd.bool 4 w' w.heap.size (fun k_ => some k_ ≠ (s_.1 : Value).ownBlock ∧ some k_ ≠ (.slice Ao25 x5_2.length co25 : Value).ownBlock) (.slice Ao24 y606.length co24) y606) ∧ (Kd.R Kd.bool 4 w' w.heap.size (fun k_ => some k_ ≠ (s_.1 : Value).ownBlock ∧ some k_ ≠ (.slice Ao24 y606.length co24 : Value).ownBlock) (.slice Ao25 x5_2.length co25) x5_2) ∧ (Below w.heap.size w w')) ?_ ?_
            rotate_left
            ·intro hCont
             refine two_ (i := 2) (j := 8) (Ni := some 43) (Nj := some 49) #[true, true, true, true, true, true, true, true, false, false, false, false] #[true, true, false, true, true, true, true, true, true, false, false, false] rfl rfl rfl rfl (two_of HT_.out (by kernel_rfl)) (by decide) (by decide) (fun K hK => ?_) (fun K hK => ?_)
             ·skip
              refine goes_ Tryd.func45 (by kernel_rfl) rfl #[.slice Ao24 y606.length co24, .slice Ao25 x5_2.length co25] (by rfl) rfl rfl (by (try simp only [List.map_toArray, List.map_cons, List.map_nil]); first | done | rfl | (simp only [List.length_drop, List.length_take]; rfl)) ?_
              with_reducible refine (gudgeonref01_mul.calls kj11 _ _ y606 _ _ x5_2 t612 _ ?side1 ?side2 ?side3 ?side4 A18.out).mono ?_
              (case side1 => repeat (first | exact (Kd.R_reads' HO_4.out).2.2 | (with_reducible refine Kd.C_alloc ?_ _) | (with_reducible refine Kd.C_drewN ?_ _) | (with_reducible refine Kd.C_drew ?_)))
              (case side2 => exact (Kd.R_reads' HO_4.out).2.1)
              (case side3 => repeat (first | exact (Kd.R_reads' HO_5.out).2.2 | (with_reducible refine Kd.C_alloc ?_ _) | (with_reducible refine Kd.C_drewN ?_ _) | (with_reducible refine Kd.C_drew ?_)))
              (case side4 => exact (Kd.R_reads' HO_5.out).2.1)
              rintro e w27 ⟨v613, rfl, ho0, hb⟩
              refine ⟨_, rfl, ?_⟩
              have n0_ := Aside0.mk (Kd.R_elder' HO_4.out (Kd.R_base ho0) hb)
              have n1_ := Aside0.mk (Kd.R_elder' HO_5.out (Kd.R_base ho0) hb)
              have n2_ := Aside0.mk (Kd.R_lower (Kd.R_new' (Kd.R_new' ho0 (Kd.R_lt HO_4.out)) (Kd.R_lt HO_5.out)) (below_size (by repeat first | exact HB.out | apply below_alloc | apply pw_below_drewN | apply below_drew1)))
              have n3_ := Aside0.mk (below_step (by repeat first | exact HB.out | apply below_alloc | apply pw_below_drewN | apply below_drew1) hb)
              clear HO_4
              clear HO_5
              clear HB
              have HO_4 := n0_
              have HO_5 := n1_
              have HO614 := n2_
              have HB := n3_
              clear n0_ n1_ n2_ n3_
              (try clear hb)
              (try clear hb2)
              (try clear hk)
              (try clear hi)
              (try clear ho0)
              refine hK.out _ _ trivial (fun hHeld => ?_)
              clear hK K
              refine norm_ (a' := ?_) ?_ ?_
              rotate_left
              ·show Act.put _ (some 43) _ = _
               simp only [Act.put, List.setIfInBounds_toArray, List.set_cons_zero, List.set_cons_succ, i64_w, i32_w]
               rfl
              refine one_ (i := 8) (N := some 49) #[true, true, true, true, true, true, true, true, true, false, false, false] rfl rfl (one_of HT_.out (by kernel_rfl)) (by decide) (fun K hK => ?_)
              refine Kd.R_lit_step (Kd.int .u32) _ 43 ?hg (N := 49) ?hd (xs := ([((bt a0 x6_2) - 48) % 256] : List Int)) (inner := [.int .u32 (((bt a0 x6_2) - 48) % 256)]) (ok := fun _ => True) (okp := fun _ => True) ?hr ?hp (fun _ hk => hk) trivial (Below.refl _ _) (Nat.le_refl _) (by simp) ?_; (case hd => rfl); (case hg => rfl); (case hr => first | (go_simp; done) | (go_simp; rfl) | (go_simp; simp only [IntKind.wrap_u8, IntKind.wrap_u32]; congr 4; omega) | (go_simp; simp only [IntKind.wrap_u8, IntKind.wrap_u32]; congr 5; omega)); (case hp => exact (Reps.one (show Kd.M (Kd.int .u32) _ _ _ (((bt a0 x6_2) - 48) % 256) [.int .u32 (((bt a0 x6_2) - 48) % 256)] from rfl) (Reps.none _ _)))
              intro v616 w28 ho29 hb hg_ hnew_
              clear hg_ hnew_
              (first | rw [← Ny615.out] at ho29 | (simp only [Int.reduceToNat] at ho29; rw [← Ny615.out] at ho29))
              have n0_ := Aside0.mk (Kd.R_below HO_4.out hb)
              have n1_ := Aside0.mk (Kd.R_below HO_5.out hb)
              have n2_ := Aside0.mk (Kd.R_below HO614.out hb)
              have n3_ := Aside0.mk (Kd.R_lower ho29 (below_size (by repeat first | exact HB.out | apply below_alloc | apply pw_below_drewN | apply below_drew1)))
              have n4_ := Aside0.mk (below_step (by repeat first | exact HB.out | apply below_alloc | apply pw_below_drewN | apply below_drew1) hb)
              clear HO_4
              clear HO_5
              clear HO614
              clear HB
              have HO_4 := n0_
              have HO_5 := n1_
              have HO614 := n2_
              have HO617 := n3_
              have HB := n4_
              clear n0_ n1_ n2_ n3_ n4_
              clear hb ho29
              refine hK.out _ _ trivial (fun hHeld => ?_)
              clear hK K
              refine norm_ (a' := ?_) ?_ ?_
              rotate_left
              ·show Act.put _ (some 49) _ = _
               simp only [Act.put, List.setIfInBounds_toArray, List.set_cons_zero, List.set_cons_succ, i64_w, i32_w]
               rfl
              exact norm_ (by simp only [putAll, Act.put, List.setIfInBounds_toArray, List.set_cons_zero, List.set_cons_succ]) (hCont (v613, v616) _ ⟨(by (with_reducible repeat (first | apply Kd.R_alloc | apply Kd.R_drewN | apply Kd.R_drew)); exact Kd.R_mono HO614.out (fun _ hk => by first | exact ⟨hk.1.2, hk.2⟩ | ((repeat' refine ⟨?_, ?_⟩) <;> (first | exact hk.1 | exact hk.2 | exact hk.1.1 | exact hk.1.2 | exact hk.2.1 | exact hk.2.2 | exact hk.1.1.1 | exact hk.1.1.2 | exact hk.1.2.1 | exact hk.1.2.2 | exact hk.2.1.1 | exact hk.2.1.2 | exact hk.2.2.1 | exact hk.2.2.2 | exact hk.1.1.1.1 | exact hk.1.1.1.2 | exact hk.1.1.2.1 | exact hk.1.1.2.2 | exact hk.1.2.1.1 | exact hk.1.2.1.2 | exact hk.1.2.2.1 | exact hk.1.2.2.2 | exact hk.2.1.1.1 | exact hk.2.1.1.2 | exact hk.2.1.2.1 | exact hk.2.1.2.2 | exact hk.2.2.1.1 | exact hk.2.2.1.2 | exact hk.2.2.2.1 | exact hk.2.2.2.2)))), HO617.out, (by (with_reducible repeat (first | apply Kd.R_alloc | apply Kd.R_drewN | apply Kd.R_drew)); exact Kd.R_mono HO_4.out (fun _ hk => by first | exact ⟨hk.2, hk.1⟩ | ((repeat' refine ⟨?_, ?_⟩) <;> (first | exact hk.1 | exact hk.2 | exact hk.1.1 | exact hk.1.2 | exact hk.2.1 | exact hk.2.2 | exact hk.1.1.1 | exact hk.1.1.2 | exact hk.1.2.1 | exact hk.1.2.2 | exact hk.2.1.1 | exact hk.2.1.2 | exact hk.2.2.1 | exact hk.2.2.2 | exact hk.1.1.1.1 | exact hk.1.1.1.2 | exact hk.1.1.2.1 | exact hk.1.1.2.2 | exact hk.1.2.1.1 | exact hk.1.2.1.2 | exact hk.1.2.2.1 | exact hk.1.2.2.2 | exact hk.2.1.1.1 | exact hk.2.1.1.2 | exact hk.2.1.2.1 | exact hk.2.1.2.2 | exact hk.2.2.1.1 | exact hk.2.2.1.2 | exact hk.2.2.2.1 | exact hk.2.2.2.2)))), (by (with_reducible repeat (first | apply Kd.R_alloc | apply Kd.R_drewN | apply Kd.R_drew)); exact Kd.R_mono HO_5.out (fun _ hk => by first | exact ⟨hk.2, hk.1⟩ | ((repeat' refine ⟨?_, ?_⟩) <;> (first | exact hk.1 | exact hk.2 | exact hk.1.1 | exact hk.1.2 | exact hk.2.1 | exact hk.2.2 | exact hk.1.1.1 | exact hk.1.1.2 | exact hk.1.2.1 | exact hk.1.2.2 | exact hk.2.1.1 | exact hk.2.1.2 | exact hk.2.2.1 | exact hk.2.2.2 | exact hk.1.1.1.1 | exact hk.1.1.1.2 | exact hk.1.1.2.1 | exact hk.1.1.2.2 | exact hk.1.2.1.1 | exact hk.1.2.1.2 | exact hk.1.2.2.1 | exact hk.1.2.2.2 | exact hk.2.1.1.1 | exact hk.2.1.1.2 | exact hk.2.1.2.1 | exact hk.2.1.2.2 | exact hk.2.2.1.1 | exact hk.2.2.1.2 | exact hk.2.2.2.1 | exact hk.2.2.2.2)))), (by repeat first | exact HB.out | apply below_alloc | apply pw_below_drewN | apply below_drew1)⟩)
             ·skip
              refine Kd.R_lit_step (Kd.int .u32) _ 43 ?hg (N := 49) ?hd (xs := ([((bt a0 x6_2) - 48) % 256] : List Int)) (inner := [.int .u32 (((bt a0 x6_2) - 48) % 256)]) (ok := fun _ => True) (okp := fun _ => True) ?hr ?hp (fun _ hk => hk) trivial (Below.refl _ _) (Nat.le_refl _) (by simp) ?_; (case hd => rfl); (case hg => rfl); (case hr => first | (go_simp; done) | (go_simp; rfl) | (go_simp; simp only [IntKind.wrap_u8, IntKind.wrap_u32]; congr 4; omega) | (go_simp; simp only [IntKind.wrap_u8, IntKind.wrap_u32]; congr 5; omega)); (case hp => exact (Reps.one (show Kd.M (Kd.int .u32) _ _ _ (((bt a0 x6_2) - 48) % 256) [.int .u32 (((bt a0 x6_2) - 48) % 256)] from rfl) (Reps.none _ _)))
              intro v616 w27 ho28 hb hg_ hnew_
              clear hg_ hnew_
              (first | rw [← Ny615.out] at ho28 | (simp only [Int.reduceToNat] at ho28; rw [← Ny615.out] at ho28))
              have n0_ := Aside0.mk (Kd.R_below HO_4.out hb)
              have n1_ := Aside0.mk (Kd.R_below HO_5.out hb)
              have n2_ := Aside0.mk (Kd.R_lower ho28 (below_size (by repeat first | exact HB.out | apply below_alloc | apply pw_below_drewN | apply below_drew1)))
              have n3_ := Aside0.mk (below_step (by repeat first | exact HB.out | apply below_alloc | apply pw_below_drewN | apply below_drew1) hb)
              clear HO_4
              clear HO_5
              clear HB
              have HO_4 := n0_
              have HO_5 := n1_
              have HO617 := n2_
              have HB := n3_
              clear n0_ n1_ n2_ n3_
              clear hb ho28
              refine hK.out _ _ trivial (fun hHeld => ?_)
              clear hK K
              refine norm_ (a' := ?_) ?_ ?_
              rotate_left
              ·show Act.put _ (some 49) _ = _
               simp only [Act.put, List.setIfInBounds_toArray, List.set_cons_zero, List.set_cons_succ, i64_w, i32_w]
               rfl
              refine one_ (i := 2) (N := some 43) #[true, true, true, true, true, true, true, true, true, false, false, false] rfl rfl (one_of HT_.out (by kernel_rfl)) (by decide) (fun K hK => ?_)
              refine goes_ Tryd.func45 (by kernel_rfl) rfl #[.slice Ao24 y606.length co24, .slice Ao25 x5_2.length co25] (by rfl) rfl rfl (by (try simp only [List.map_toArray, List.map_cons, List.map_nil]); first | done | rfl | (simp only [List.length_drop, List.length_take]; rfl)) ?_
              with_reducible refine (gudgeonref01_mul.calls kj11 _ _ y606 _ _ x5_2 t612 _ ?side1 ?side2 ?side3 ?side4 A18.out).mono ?_
              (case side1 => repeat (first | exact (Kd.R_reads' HO_4.out).2.2 | (with_reducible refine Kd.C_alloc ?_ _) | (with_reducible refine Kd.C_drewN ?_ _) | (with_reducible refine Kd.C_drew ?_)))
              (case side2 => exact (Kd.R_reads' HO_4.out).2.1)
              (case side3 => repeat (first | exact (Kd.R_reads' HO_5.out).2.2 | (with_reducible refine Kd.C_alloc ?_ _) | (with_reducible refine Kd.C_drewN ?_ _) | (with_reducible refine Kd.C_drew ?_)))
              (case side4 => exact (Kd.R_reads' HO_5.out).2.1)
              rintro e w29 ⟨v613, rfl, ho0, hb⟩
              refine ⟨_, rfl, ?_⟩
              have n0_ := Aside0.mk (Kd.R_elder' HO_4.out (Kd.R_base ho0) hb)
              have n1_ := Aside0.mk (Kd.R_elder' HO_5.out (Kd.R_base ho0) hb)
              have n2_ := Aside0.mk (Kd.R_below HO617.out hb)
              have n3_ := Aside0.mk (Kd.R_lower (Kd.R_new' (Kd.R_new' ho0 (Kd.R_lt HO_4.out)) (Kd.R_lt HO_5.out)) (below_size (by repeat first | exact HB.out | apply below_alloc | apply pw_below_drewN | apply below_drew1)))
              have n4_ := Aside0.mk (below_step (by repeat first | exact HB.out | apply below_alloc | apply pw_below_drewN | apply below_drew1) hb)
              clear HO_4
              clear HO_5
              clear HO617
              clear HB
              have HO_4 := n0_
              have HO_5 := n1_
              have HO617 := n2_
              have HO614 := n3_
              have HB := n4_
              clear n0_ n1_ n2_ n3_ n4_
              (try clear hb)
              (try clear hb2)
              (try clear hk)
              (try clear hi)
              (try clear ho0)
              refine hK.out _ _ trivial (fun hHeld => ?_)
              clear hK K
              refine norm_ (a' := ?_) ?_ ?_
              rotate_left
              ·show Act.put _ (some 43) _ = _
               simp only [Act.put, List.setIfInBounds_toArray, List.set_cons_zero, List.set_cons_succ, i64_w, i32_w]
               rfl
              exact norm_ (by simp only [putAll, Act.put, List.setIfInBounds_toArray, List.set_cons_zero, List.set_cons_succ]) (hCont (v613, v616) _ ⟨(by (with_reducible repeat (first | apply Kd.R_alloc | apply Kd.R_drewN | apply Kd.R_drew)); exact Kd.R_mono HO614.out (fun _ hk => by first | exact ⟨hk.1.2, hk.2⟩ | ((repeat' refine ⟨?_, ?_⟩) <;> (first | exact hk.1 | exact hk.2 | exact hk.1.1 | exact hk.1.2 | exact hk.2.1 | exact hk.2.2 | exact hk.1.1.1 | exact hk.1.1.2 | exact hk.1.2.1 | exact hk.1.2.2 | exact hk.2.1.1 | exact hk.2.1.2 | exact hk.2.2.1 | exact hk.2.2.2 | exact hk.1.1.1.1 | exact hk.1.1.1.2 | exact hk.1.1.2.1 | exact hk.1.1.2.2 | exact hk.1.2.1.1 | exact hk.1.2.1.2 | exact hk.1.2.2.1 | exact hk.1.2.2.2 | exact hk.2.1.1.1 | exact hk.2.1.1.2 | exact hk.2.1.2.1 | exact hk.2.1.2.2 | exact hk.2.2.1.1 | exact hk.2.2.1.2 | exact hk.2.2.2.1 | exact hk.2.2.2.2)))), HO617.out, (by (with_reducible repeat (first | apply Kd.R_alloc | apply Kd.R_drewN | apply Kd.R_drew)); exact Kd.R_mono HO_4.out (fun _ hk => by first | exact ⟨hk.2, hk.1⟩ | ((repeat' refine ⟨?_, ?_⟩) <;> (first | exact hk.1 | exact hk.2 | exact hk.1.1 | exact hk.1.2 | exact hk.2.1 | exact hk.2.2 | exact hk.1.1.1 | exact hk.1.1.2 | exact hk.1.2.1 | exact hk.1.2.2 | exact hk.2.1.1 | exact hk.2.1.2 | exact hk.2.2.1 | exact hk.2.2.2 | exact hk.1.1.1.1 | exact hk.1.1.1.2 | exact hk.1.1.2.1 | exact hk.1.1.2.2 | exact hk.1.2.1.1 | exact hk.1.2.1.2 | exact hk.1.2.2.1 | exact hk.1.2.2.2 | exact hk.2.1.1.1 | exact hk.2.1.1.2 | exact hk.2.1.2.1 | exact hk.2.1.2.2 | exact hk.2.2.1.1 | exact hk.2.2.1.2 | exact hk.2.2.2.1 | exact hk.2.2.2.2)))), (by (with_reducible repeat (first | apply Kd.R_alloc | apply Kd.R_drewN | apply Kd.R_drew)); exact Kd.R_mono HO_5.out (fun _ hk => by first | exact ⟨hk.2, hk.1⟩ | ((repeat' refine ⟨?_, ?_⟩) <;> (first | exact hk.1 | exact hk.2 | exact hk.1.1 | exact hk.1.2 | exact hk.2.1 | exact hk.2.2 | exact hk.1.1.1 | exact hk.1.1.2 | exact hk.1.2.1 | exact hk.1.2.2 | exact hk.2.1.1 | exact hk.2.1.2 | exact hk.2.2.1 | exact hk.2.2.2 | exact hk.1.1.1.1 | exact hk.1.1.1.2 | exact hk.1.1.2.1 | exact hk.1.1.2.2 | exact hk.1.2.1.1 | exact hk.1.2.1.2 | exact hk.1.2.2.1 | exact hk.1.2.2.2 | exact hk.2.1.1.1 | exact hk.2.1.1.2 | exact hk.2.1.2.1 | exact hk.2.1.2.2 | exact hk.2.2.1.1 | exact hk.2.2.1.2 | exact hk.2.2.2.1 | exact hk.2.2.2.2)))), (by repeat first | exact HB.out | apply below_alloc | apply pw_below_drewN | apply below_drew1)⟩)
            rintro ⟨v613, v616⟩ w30 ⟨h0_, h1_, h2_, h3_, h4_⟩
            have n0_ : Aside0 (Kd.R Kd.bool 4 w30 w.heap.size (fun k_ => some k_ ≠ (.slice Ao24 y606.length co24 : Value).ownBlock ∧ some k_ ≠ (.slice Ao25 x5_2.length co25 : Value).ownBlock) v613 t612) := ⟨h0_⟩
            have n1_ : Aside0 (Kd.R (Kd.int .u32) 43 w30 w.heap.size (fun _ => True) v616 y615) := ⟨h1_⟩
            have n2_ : Aside0 (Kd.R Kd.bool 4 w30 w.heap.size (fun k_ => some k_ ≠ (v613 : Value).ownBlock ∧ some k_ ≠ (.slice Ao25 x5_2.length co25 : Value).ownBlock) (.slice Ao24 y606.length co24) y606) := ⟨h2_⟩
            have n3_ : Aside0 (Kd.R Kd.bool 4 w30 w.heap.size (fun k_ => some k_ ≠ (v613 : Value).ownBlock ∧ some k_ ≠ (.slice Ao24 y606.length co24 : Value).ownBlock) (.slice Ao25 x5_2.length co25) x5_2) := ⟨h3_⟩
            have n4_ : Aside0 (Below w.heap.size w w30) := ⟨h4_⟩
            clear HO_4
            clear HO_5
            clear HB
            clear h0_ h1_ h2_ h3_ h4_
            have HO614 := n0_
            have HO617 := n1_
            have HO_4 := n2_
            have HO_5 := n3_
            have HB := n4_
            clear n0_ n1_ n2_ n3_ n4_
            have hHeld := trivial
            obtain ⟨Ao31, co31, eo31⟩ := Kd.R_slice HO617.out
            (first | subst eo31 | (injection eo31 with f1_ f2_ f3_; have f4_ := f1_.symm; have f5_ := f3_.symm; clear f1_ f2_ f3_; subst f4_; subst f5_))
            refine norm_ (a' := ?_) ?_ ?_
            rotate_left
            ·simp only [putAll, Act.put, List.setIfInBounds_toArray, List.set_cons_zero, List.set_cons_succ]
             rfl
            refine one_ (i := 9) (N := some 50) #[true, true, true, true, true, true, true, true, true, true, false, false] rfl rfl (one_of HT_.out (by kernel_rfl)) (by decide) (fun K hK => ?_)
            refine goes_ Tryd.func41 (by kernel_rfl) rfl #[.slice Ao31 y615.length co31] (by rfl) rfl rfl (by (try simp only [List.map_toArray, List.map_cons, List.map_nil]); first | done | rfl | (simp only [List.length_drop, List.length_take]; rfl)) ?_
            with_reducible refine (gudgeonref01_Bits.calls kj11 _ _ y615 t618 _ ?side1 ?side2 A22.out).mono ?_
            (case side1 => repeat (first | exact (Kd.R_reads' HO617.out).2.2 | (with_reducible refine Kd.C_alloc ?_ _) | (with_reducible refine Kd.C_drewN ?_ _) | (with_reducible refine Kd.C_drew ?_)))
            (case side2 => exact (Kd.R_reads' HO617.out).2.1)
            rintro e w32 ⟨v619, rfl, ho0, hb⟩
            refine ⟨_, rfl, ?_⟩
            have n0_ := Aside0.mk (Kd.R_elder' HO_4.out (Kd.R_base ho0) hb)
            have n1_ := Aside0.mk (Kd.R_elder' HO_5.out (Kd.R_base ho0) hb)
            have n2_ := Aside0.mk (Kd.R_elder' HO614.out (Kd.R_base ho0) hb)
            have n3_ := Aside0.mk (Kd.R_below HO617.out hb)
            have n4_ := Aside0.mk (Kd.R_lower (Kd.R_new' (Kd.R_new' (Kd.R_new' ho0 (Kd.R_lt HO_4.out)) (Kd.R_lt HO_5.out)) (Kd.R_lt HO614.out)) (below_size (by repeat first | exact HB.out | apply below_alloc | apply pw_below_drewN | apply below_drew1)))
            have n5_ := Aside0.mk (below_step (by repeat first | exact HB.out | apply below_alloc | apply pw_below_drewN | apply below_drew1) hb)
            clear HO_4
            clear HO_5
            clear HO614
            clear HO617
            clear HB
            have HO_4 := n0_
            have HO_5 := n1_
            have HO614 := n2_
            have HO617 := n3_
            have HO620 := n4_
            have HB := n5_
            clear n0_ n1_ n2_ n3_ n4_ n5_
            (try clear hb)
            (try clear hb2)
            (try clear hk)
            (try clear hi)
            (try clear ho0)
            obtain ⟨Ao33, co33, eo33⟩ := Kd.R_slice HO614.out
            (first | subst eo33 | (injection eo33 with f1_ f2_ f3_; have f4_ := f1_.symm; have f5_ := f3_.symm; clear f1_ f2_ f3_; subst f4_; subst f5_))
            obtain ⟨Ao34, co34, eo34⟩ := Kd.R_slice HO620.out
            (first | subst eo34 | (injection eo34 with f1_ f2_ f3_; have f4_ := f1_.symm; have f5_ := f3_.symm; clear f1_ f2_ f3_; subst f4_; subst f5_))
            refine hK.out _ _ trivial (fun hHeld => ?_)
            clear hK K
            refine norm_ (a' := ?_) ?_ ?_
            rotate_left
            ·show Act.put _ (some 50) _ = _
             simp only [Act.put, List.setIfInBounds_toArray, List.set_cons_zero, List.set_cons_succ, i64_w, i32_w]
             rfl
            refine one_ (i := 10) (N := some 51) #[true, true, true, true, true, true, true, true, true, true, true, false] rfl rfl (one_of HT_.out (by kernel_rfl)) (by decide) (fun K hK => ?_)
            refine goes_ Tryd.func44 (by kernel_rfl) rfl #[.slice Ao33 t612.length co33, .slice Ao34 t618.length co34] (by rfl) rfl rfl (by (try simp only [List.map_toArray, List.map_cons, List.map_nil]); first | done | rfl | (simp only [List.length_drop, List.length_take]; rfl)) ?_
            with_reducible refine (gudgeonref01_add.calls kj11 _ _ t612 _ _ t618 t621 _ ?side1 ?side2 ?side3 ?side4 A23.out).mono ?_
            (case side1 => repeat (first | exact (Kd.R_reads' HO614.out).2.2 | (with_reducible refine Kd.C_alloc ?_ _) | (with_reducible refine Kd.C_drewN ?_ _) | (with_reducible refine Kd.C_drew ?_)))
            (case side2 => exact (Kd.R_reads' HO614.out).2.1)
            (case side3 => repeat (first | exact (Kd.R_reads' HO620.out).2.2 | (with_reducible refine Kd.C_alloc ?_ _) | (with_reducible refine Kd.C_drewN ?_ _) | (with_reducible refine Kd.C_drew ?_)))
            (case side4 => exact (Kd.R_reads' HO620.out).2.1)
            rintro e w35 ⟨v622, rfl, ho0, hb⟩
            refine ⟨_, rfl, ?_⟩
            have n0_ := Aside0.mk (Kd.R_elder' HO_4.out (Kd.R_base ho0) hb)
            have n1_ := Aside0.mk (Kd.R_elder' HO_5.out (Kd.R_base ho0) hb)
            have n2_ := Aside0.mk (Kd.R_elder' HO614.out (Kd.R_base ho0) hb)
            have n3_ := Aside0.mk (Kd.R_below HO617.out hb)
            have n4_ := Aside0.mk (Kd.R_elder' HO620.out (Kd.R_base ho0) hb)
            have n5_ := Aside0.mk (Kd.R_lower (Kd.R_new' (Kd.R_new' (Kd.R_new' (Kd.R_new' ho0 (Kd.R_lt HO_4.out)) (Kd.R_lt HO_5.out)) (Kd.R_lt HO614.out)) (Kd.R_lt HO620.out)) (below_size (by repeat first | exact HB.out | apply below_alloc | apply pw_below_drewN | apply below_drew1)))
            have n6_ := Aside0.mk (below_step (by repeat first | exact HB.out | apply below_alloc | apply pw_below_drewN | apply below_drew1) hb)
            clear HO_4
            clear HO_5
            clear HO614
            clear HO617
            clear HO620
            clear HB
            have HO_4 := n0_
            have HO_5 := n1_
            have HO614 := n2_
            have HO617 := n3_
            have HO620 := n4_
            have HO623 := n5_
            have HB := n6_
            clear n0_ n1_ n2_ n3_ n4_ n5_ n6_
            (try clear hb)
            (try clear hb2)
            (try clear hk)
            (try clear hi)
            (try clear ho0)
            refine hK.out _ _ trivial (fun hHeld => ?_)
            clear hK K
            refine norm_ (a' := ?_) ?_ ?_
            rotate_left
            ·show Act.put _ (some 51) _ = _
             simp only [Act.put, List.setIfInBounds_toArray, List.set_cons_zero, List.set_cons_succ, i64_w, i32_w]
             rfl
            refine pure_ (i := 11) (N := some 5) (v := ?_) (a' := ?_) #[true, true, true, true, true, true, true, true, true, true, true, true] rfl rfl (any_of HT_.out (by kernel_rfl)) (fun _ _ _ h => h) (Or.inl ⟨by rfl, ?_⟩) ?_ ?_
            rotate_left
            ·intro w'
             go_simp
             with_reducible rfl
            rotate_left
            ·simp only [Act.put, List.setIfInBounds_toArray, List.set_cons_zero, List.set_cons_succ, i64_w, i32_w]
             rfl
            refine done_ (done_of HT_.out (by kernel_rfl)) ?_
            try go_wp2
            go_roundg kj11
            case measure => have := HJ1.out; have := HK2.out; have := HJ11.out; omega
            case rel => exact ⟨(t621), (wrap64 (x6_2 + 1)), (by first | rfl | (simp; done) | (simp [*]; done) | (refine congrArg (Value.int _) ?_; omega) | (refine congrArg Value.bool ?_; generalize ByteArray.toList _ = z_; cases z_ <;> rfl)), H', ⟨by have := HJ1.out; have := HK2.out; have := HJ11.out; omega⟩, ⟨by (with_reducible repeat (first | apply Kd.R_alloc | apply Kd.R_drewN | apply Kd.R_drew)); exact Kd.R_mono HO_4.out (fun _ hk => hk.2)⟩, ⟨by (with_reducible repeat (first | apply Kd.R_alloc | apply Kd.R_drewN | apply Kd.R_drew)); exact Kd.R_mono HO623.out (fun _ hk => hk.1.1.1.2)⟩, ⟨by repeat first | exact HB.out | apply below_alloc | apply pw_below_drewN | apply below_drew1⟩⟩
           ·rw [if_neg c20] at H
            exact absurd H (by simp)
          ·rw [if_neg c19] at H
           exact absurd H (by simp)
      ·rw [if_neg c11] at H
       have c11b0 : decide (x6_2 < (a0.size : Int)) = false := decide_eq_false c11
       clear c11
       replace H := Option.bind_eq_some_iff.mp H
       obtain ⟨t609, A360, H⟩ := H
       replace H : (some (t609, 0)) = some (r1, r2) := H
       have A36 := Aside0.mk A360
       clear A360
       simp only [Option.some.injEq, Prod.mk.injEq] at H
       obtain ⟨rfl, rfl⟩ := H
       obtain ⟨Ao37, co37, eo37⟩ := Kd.R_slice HO_5.out
       subst eo37
       go_wp2_with (first | ((with_reducible refine gate_callee (f := 43) rfl ?_); refine goesL_ (some 53) rfl rfl Tryd.func43 (by kernel_rfl) rfl #[.slice Ao37 x5_2.length co37] rfl (by (try simp only [List.map_toArray, List.map_cons, List.map_nil]); first | done | rfl | (simp only [List.length_drop, List.length_take]; rfl)) ?_; (with_reducible refine (gudgeonref01_Limbs.calls k2 _ _ x5_2 t609 _ ?side1 ?side2 A36.out).mono ?_); (case side1 => repeat (first | exact (Kd.R_reads' HO_5.out).2.2 | (with_reducible refine Kd.C_alloc ?_ _) | (with_reducible refine Kd.C_drewN ?_ _) | (with_reducible refine Kd.C_drew ?_))); (case side2 => exact (Kd.R_reads' HO_5.out).2.1); rintro e w38 ⟨v610, rfl, ho0, hb⟩; refine ⟨_, rfl, ?_⟩; have n0_ := Aside0.mk (Kd.R_below HO_4.out hb); have n1_ := Aside0.mk (Kd.R_below HO_5.out hb); have n2_ := Aside0.mk (Kd.R_lower ho0 (below_size (by repeat first | exact HB.out | apply below_alloc | apply pw_below_drewN | apply below_drew1))); have n3_ := Aside0.mk (below_step (by repeat first | exact HB.out | apply below_alloc | apply pw_below_drewN | apply below_drew1) hb); clear HO_4; clear HO_5; clear HB; have HO_4 := n0_; have HO_5 := n1_; have HO611 := n2_; have HB := n3_; clear n0_ n1_ n2_ n3_))
       go_ret2
       exact ⟨_, by first | rfl | (simp [errW_none, errW_some] <;> rfl) | (simp [*, errW_none, errW_some] <;> rfl), by (with_reducible repeat (first | apply Kd.R_alloc | apply Kd.R_drewN | apply Kd.R_drew)); exact HO611.out, by repeat first | exact HB.out | apply below_alloc | apply pw_below_drewN | apply below_drew1⟩

end Go.Proofs.YtlfpnohpcemkgaaDoor.PA
/- Written by a program of this session, wip/tools/patch_print.py, over the kit's print of the loaded functions. -/
namespace Go.Proofs.YtlfpnohpcemkgaaDoor.H
end Go.Proofs.YtlfpnohpcemkgaaDoor.H
namespace Go.Proofs.YtlfpnohpcemkgaaDoor.PA
open Go.RowKit Go.Proofs.YtlfpnohpcemkgaaDoorW.PrintWords Go.Proofs.YtlfpnohpcemkgaaDoorW.PrintLast Go.Proofs.YtlfpnohpcemkgaaDoorW.PrintMore Go.Proofs.YtlfpnohpcemkgaaDoor.H
attribute [local go_sem] max2_int min2_int max_two min_two max_three min_three max_four min_four   -- for this text's walks alone
set_option linter.unusedVariables false
set_option linter.unusedSimpArgs false

/-! ### gudgeonref01_Text: function 21 -/
mutual
def gudgeonref01_Text.l0 : Nat → List Bool → List Int → Int → Option (ByteArray)
 | 0, _, _, _ => none
 | k + 1, x3, x4, x5 => if x5 ≥ 0 then (if 0 ≤ x5 then (if x5 < (x3.length : Int) then (if rdOf false x3 x5 = true then (gudgeonref01_Text.j1 k x3 x4 x5 1) else (gudgeonref01_Text.j1 k x3 x4 x5 0)) else (none)) else (none)) else (if (x4.length : Int) = 0 then (some (⟨#[48]⟩ : ByteArray)) else (gudgeonref01_Text.l2 k x4 ([] : List Int) (wrap64 ((x4.length : Int) - 1))))
def gudgeonref01_Text.j1 : Nat → List Bool → List Int → Int → Int → Option (ByteArray)
 | 0, _, _, _, _ => none
 | k + 1, x3, x4, x5, x6 => gudgeonref01_Text.l1 k x3 x4 x5 x6 0
def gudgeonref01_Text.l1 : Nat → List Bool → List Int → Int → Int → Int → Option (ByteArray)
 | 0, _, _, _, _, _ => none
 | k + 1, x3, x4, x5, x6, x7 => if x7 < (x4.length : Int) then (if 0 ≤ x7 then (gudgeonref01_Text.l1 k x3 (x4.set (x7 : Int).toNat (Int.tmod (wrap64 ((wrap64 (2 * (rd x4 x7))) + x6)) 10)) x5 (wrap64 (Int.tdiv (wrap64 ((wrap64 (2 * (rd x4 x7))) + x6)) 10)) (wrap64 (x7 + 1))) else (none)) else (if x6 > 0 then (if x4.length < 17592186044416 then (gudgeonref01_Text.l0 k x3 (x4 ++ [x6]) (wrap64 (x5 - 1))) else (none)) else (gudgeonref01_Text.l0 k x3 x4 (wrap64 (x5 - 1))))
def gudgeonref01_Text.l2 : Nat → List Int → List Int → Int → Option (ByteArray)
 | 0, _, _, _ => none
 | k + 1, x4, x9, x10 => if x10 ≥ 0 then (if 0 ≤ x10 then (if x10 < (x4.length : Int) then (if x9.length < 140737488355328 then (gudgeonref01_Text.l2 k x4 (x9 ++ [(wrap64 (48 + (rd x4 x10))) % 256]) (wrap64 (x10 - 1))) else (none)) else (none)) else (none)) else (some (strOfNums x9))
end
def gudgeonref01_Text.f (k : Nat) (l0 : List Int) : Option (ByteArray) := (gudgeonref01_Bits.f k l0).bind fun t624 => (gudgeonref01_Text.l0 k t624 ([] : List Int) (wrap64 ((t624.length : Int) - 1)))
theorem gudgeonref01_Text.mono_l : ∀ k, (∀ y0 y1 y2, LeO (gudgeonref01_Text.l0 k y0 y1 y2) (gudgeonref01_Text.l0 (k + 1) y0 y1 y2)) ∧ (∀ y0 y1 y2 y3, LeO (gudgeonref01_Text.j1 k y0 y1 y2 y3) (gudgeonref01_Text.j1 (k + 1) y0 y1 y2 y3)) ∧ (∀ y0 y1 y2 y3 y4, LeO (gudgeonref01_Text.l1 k y0 y1 y2 y3 y4) (gudgeonref01_Text.l1 (k + 1) y0 y1 y2 y3 y4)) ∧ (∀ y0 y1 y2, LeO (gudgeonref01_Text.l2 k y0 y1 y2) (gudgeonref01_Text.l2 (k + 1) y0 y1 y2))
 | 0 => ⟨fun _ _ _ r h => by simp [gudgeonref01_Text.l0] at h, fun _ _ _ _ r h => by simp [gudgeonref01_Text.j1] at h, fun _ _ _ _ _ r h => by simp [gudgeonref01_Text.l1] at h, fun _ _ _ r h => by simp [gudgeonref01_Text.l2] at h⟩
 | k + 1 => by
  obtain ⟨ih0, ih1, ih2, ih3⟩ := gudgeonref01_Text.mono_l k
  refine ⟨?_, ?_, ?_, ?_⟩
  ·intro y0 y1 y2
   unfold gudgeonref01_Text.l0
   repeat' first
   | (with_reducible exact ih0 _ _ _)
   | (with_reducible exact ih1 _ _ _ _)
   | (with_reducible exact ih2 _ _ _ _ _)
   | (with_reducible exact ih3 _ _ _)
   | (with_reducible exact gudgeonref01_Bits.mono _ _)
   | (with_reducible exact LeO.refl _)
   | (with_reducible exact LeO.none _)
   | (with_reducible refine LeO.ite ?_ ?_)
   | (with_reducible refine LeO.bind ?_ (fun _ => ?_))
   | exact ih0 _ _ _
   | exact ih1 _ _ _ _
   | exact ih2 _ _ _ _ _
   | exact ih3 _ _ _
   | exact gudgeonref01_Bits.mono _ _
   | exact LeO.none _
   | refine LeO.ite ?_ ?_
   | refine LeO.bind ?_ (fun _ => ?_)
  ·intro y0 y1 y2 y3
   unfold gudgeonref01_Text.j1
   repeat' first
   | (with_reducible exact ih0 _ _ _)
   | (with_reducible exact ih1 _ _ _ _)
   | (with_reducible exact ih2 _ _ _ _ _)
   | (with_reducible exact ih3 _ _ _)
   | (with_reducible exact gudgeonref01_Bits.mono _ _)
   | (with_reducible exact LeO.refl _)
   | (with_reducible exact LeO.none _)
   | (with_reducible refine LeO.ite ?_ ?_)
   | (with_reducible refine LeO.bind ?_ (fun _ => ?_))
   | exact ih0 _ _ _
   | exact ih1 _ _ _ _
   | exact ih2 _ _ _ _ _
   | exact ih3 _ _ _
   | exact gudgeonref01_Bits.mono _ _
   | exact LeO.none _
   | refine LeO.ite ?_ ?_
   | refine LeO.bind ?_ (fun _ => ?_)
  ·intro y0 y1 y2 y3 y4
   unfold gudgeonref01_Text.l1
   repeat' first
   | (with_reducible exact ih0 _ _ _)
   | (with_reducible exact ih1 _ _ _ _)
   | (with_reducible exact ih2 _ _ _ _ _)
   | (with_reducible exact ih3 _ _ _)
   | (with_reducible exact gudgeonref01_Bits.mono _ _)
   | (with_reducible exact LeO.refl _)
   | (with_reducible exact LeO.none _)
   | (with_reducible refine LeO.ite ?_ ?_)
   | (with_reducible refine LeO.bind ?_ (fun _ => ?_))
   | exact ih0 _ _ _
   | exact ih1 _ _ _ _
   | exact ih2 _ _ _ _ _
   | exact ih3 _ _ _
   | exact gudgeonref01_Bits.mono _ _
   | exact LeO.none _
   | refine LeO.ite ?_ ?_
   | refine LeO.bind ?_ (fun _ => ?_)
  ·intro y0 y1 y2
   unfold gudgeonref01_Text.l2
   repeat' first
   | (with_reducible exact ih0 _ _ _)
   | (with_reducible exact ih1 _ _ _ _)
   | (with_reducible exact ih2 _ _ _ _ _)
   | (with_reducible exact ih3 _ _ _)
   | (with_reducible exact gudgeonref01_Bits.mono _ _)
   | (with_reducible exact LeO.refl _)
   | (with_reducible exact LeO.none _)
   | (with_reducible refine LeO.ite ?_ ?_)
   | (with_reducible refine LeO.bind ?_ (fun _ => ?_))
   | exact ih0 _ _ _
   | exact ih1 _ _ _ _
   | exact ih2 _ _ _ _ _
   | exact ih3 _ _ _
   | exact gudgeonref01_Bits.mono _ _
   | exact LeO.none _
   | refine LeO.ite ?_ ?_
   | refine LeO.bind ?_ (fun _ => ?_)
theorem gudgeonref01_Text.mono : ∀ a0 k, LeO (gudgeonref01_Text.f k a0) (gudgeonref01_Text.f (k + 1) a0) := by
 intro a0 k
 obtain ⟨ih0, ih1, ih2, ih3⟩ := gudgeonref01_Text.mono_l k
 unfold gudgeonref01_Text.f
 repeat' first
   | (with_reducible exact ih0 _ _ _)
   | (with_reducible exact ih1 _ _ _ _)
   | (with_reducible exact ih2 _ _ _ _ _)
   | (with_reducible exact ih3 _ _ _)
   | (with_reducible exact gudgeonref01_Bits.mono _ _)
   | (with_reducible exact LeO.refl _)
   | (with_reducible exact LeO.none _)
   | (with_reducible refine LeO.ite ?_ ?_)
   | (with_reducible refine LeO.bind ?_ (fun _ => ?_))
   | exact ih0 _ _ _
   | exact ih1 _ _ _ _
   | exact ih2 _ _ _ _ _
   | exact ih3 _ _ _
   | exact gudgeonref01_Bits.mono _ _
   | exact LeO.none _
   | refine LeO.ite ?_ ?_
   | refine LeO.bind ?_ (fun _ => ?_)
set_option maxHeartbeats 8000000 in
set_option maxRecDepth 100000 in
theorem gudgeonref01_Text.calls (k : Nat) (A0 : Option Addr) (c0 : Nat) (l0 : List Int) (r : ByteArray) (w : World) (hr0 : Kd.C (Kd.int .u32) w A0 l0.length l0) (hc0 : l0.length ≤ c0) (h : gudgeonref01_Text.f k l0 = some r) :
  Calls Tryd.prog 21 #[.slice A0 l0.length c0] w fun e w' => e = .returned (.string r) ∧ Below w.heap.size w w' := by
 have HR0 := Aside0.mk hr0
 have HC0 := Aside0.mk hc0
 clear hr0 hc0
 have HB := Aside0.mk (Below.refl w.heap.size w)
 have H : ((gudgeonref01_Bits.f k l0).bind fun t624 => (gudgeonref01_Text.l0 k t624 ([] : List Int) (wrap64 ((t624.length : Int) - 1)))) = some r := h
 clear h
 replace H := Option.bind_eq_some_iff.mp H
 obtain ⟨t624, A20, H⟩ := H
 replace H : (gudgeonref01_Text.l0 k t624 ([] : List Int) (wrap64 ((t624.length : Int) - 1))) = some r := H
 have A2 := Aside0.mk A20
 clear A20
 have H' := Aside0.mk H
 clear H
 go_enter Tryd.func21, Tryd.ntmps21
 go_wp2_with (first | ((with_reducible refine gate_callee (f := 41) rfl ?_); refine goesL_ (some 12) rfl rfl Tryd.func41 (by kernel_rfl) rfl #[.slice A0 l0.length c0] rfl (by (try simp only [List.map_toArray, List.map_cons, List.map_nil]); first | done | rfl | (simp only [List.length_drop, List.length_take]; rfl)) ?_; (with_reducible refine (gudgeonref01_Bits.calls k _ _ l0 t624 _ ?side1 ?side2 A2.out).mono ?_); (case side1 => repeat (first | exact HR0.out | (with_reducible refine Kd.C_alloc ?_ _) | (with_reducible refine Kd.C_drewN ?_ _) | (with_reducible refine Kd.C_drew ?_))); (case side2 => exact HC0.out); rintro e w3 ⟨v625, rfl, ho0, hb⟩; refine ⟨_, rfl, ?_⟩; have n0_ := Aside0.mk (Kd.R_lower ho0 (below_size (by repeat first | exact HB.out | apply below_alloc | apply pw_below_drewN | apply below_drew1))); have n1_ := Aside0.mk (below_step (by repeat first | exact HB.out | apply below_alloc | apply pw_below_drewN | apply below_drew1) hb); clear HB; have HO626 := n0_; have HB := n1_; clear n0_ n1_; obtain ⟨Ao4, co4, eo4⟩ := Kd.R_slice HO626.out; subst eo4))
 go_loopg [4, 5] k (fun kq v4 v5 w' => ∃ (x4_1 : List Int) (x5_1 : Int), v5 = .int .i64 x5_1 ∧ Aside0 (gudgeonref01_Text.l0 kq t624 x4_1 x5_1 = some r) ∧ Aside0 (kq ≤ k) ∧ Aside0 (Kd.R Kd.bool 4 w' w.heap.size (fun _ => True) (.slice Ao4 t624.length co4) t624) ∧ Aside0 (Kd.R (Kd.int .i64) 3 w' w.heap.size (fun _ => True) v4 x4_1) ∧ Aside0 (Below w.heap.size w w'))
 case atStart => exact ⟨(([] : List Int)), (wrap64 ((t624.length : Int) - 1)), (by first | rfl | (simp; done) | (simp [*]; done) | (refine congrArg (Value.int _) ?_; omega) | (refine congrArg Value.bool ?_; generalize ByteArray.toList _ = z_; cases z_ <;> rfl)), H', ⟨Nat.le_refl _⟩, ⟨by (with_reducible repeat (first | apply Kd.R_alloc | apply Kd.R_drewN | apply Kd.R_drew)); exact HO626.out⟩, ⟨by first | exact Kd.R_nil _ _ _ _ _ | exact Kd.N_nil _ _ _ _ _ | exact Kd.V_nil _ _ _ _ _ | exact Kd.Q_nil _ _ _ _ _ | exact Kd.S_nil _ _ _ _ _⟩, ⟨by repeat first | exact HB.out | apply below_alloc | apply pw_below_drewN | apply below_drew1⟩⟩
 case round =>
  clear H'
  try clear c2
  try clear p2
  try clear c4
  obtain ⟨x4_1, x5_1, rfl, HA, HK1, HO_3, HO_4, HB⟩ := hrel
  cases gk with
  | zero => exact absurd HA.out (by simp [gudgeonref01_Text.l0])
  | succ k1 =>
   have H := HA.out
   clear HA
   simp only [gudgeonref01_Text.l0] at H
   by_cases c5 : x5_1 ≥ 0
   ·rw [if_pos c5] at H
    have c5b0 : decide (0 ≤ x5_1) = true := decide_eq_true c5
    clear c5
    by_cases c6 : 0 ≤ x5_1
    ·rw [if_pos c6] at H
     have c6b0 : decide (0 ≤ x5_1) = true := decide_eq_true c6
     clear c6
     by_cases c7 : x5_1 < (t624.length : Int)
     ·rw [if_pos c7] at H
      have c7b0 : decide (x5_1 < (t624.length : Int)) = true := decide_eq_true c7
      clear c7
      have HC8 := Aside0.mk H
      clear H
      have p627 : 0 ≤ (x5_1 : Int) := of_decide_eq_true (by first | (with_reducible assumption) | assumption)
      have q627 : x5_1 < (t624.length : Int) := of_decide_eq_true (by first | (with_reducible assumption) | assumption)
      obtain ⟨ad627, e627, hx627_0⟩ := Kd.at_bool (Kd.R_reads' HO_3.out).2.2 x5_1 p627 q627
      cases e627
      replace p627 := eq_true p627
      replace q627 := eq_true q627
      go_upto_if 23 with (fail)
      go_cut [6] (fun v6 wc => ∃ (kq : Nat) (x6_7 : Int), v6 = .int .i64 x6_7 ∧ Aside0 (gudgeonref01_Text.j1 kq t624 x4_1 x5_1 x6_7 = some r) ∧ Aside0 (kq ≤ k1) ∧ Aside0 (Kd.R Kd.bool 4 wc w.heap.size (fun _ => True) (.slice (some ad627) t624.length co4) t624) ∧ Aside0 (Kd.R (Kd.int .i64) 3 wc w.heap.size (fun _ => True) u4 x4_1) ∧ Aside0 (Below w.heap.size w wc))
      case first =>
       have H := HC8.out
       clear HC8
       obtain ⟨bq9, hbq9⟩ : ∃ b_ : Bool, b_ = (rdOf false t624 x5_1) := ⟨_, rfl⟩
       replace H : (if bq9 = true then (gudgeonref01_Text.j1 k1 t624 x4_1 x5_1 1) else (gudgeonref01_Text.j1 k1 t624 x4_1 x5_1 0)) = some r := by rw [← hbq9] at H; exact H
       have Nbq9 := Aside0.mk hbq9
       clear hbq9
       (try rw [← Nbq9.out])
       by_cases c10 : bq9 = true
       ·subst c10
        have H1 : (gudgeonref01_Text.j1 k1 t624 x4_1 x5_1 1) = some r := by rw [if_pos rfl] at H; exact H
        clear H
        have H := H1
        clear H1
        have H' := Aside0.mk H
        clear H
        go_wp2
        go_meet
        case rel => exact ⟨_, (1), (by first | rfl | (simp; done) | (simp [*]; done) | (refine congrArg (Value.int _) ?_; omega) | (refine congrArg Value.bool ?_; generalize ByteArray.toList _ = z_; cases z_ <;> rfl)), H', ⟨by have := HK1.out; first | omega | exact Nat.le_refl _⟩, ⟨by (with_reducible repeat (first | apply Kd.R_alloc | apply Kd.R_drewN | apply Kd.R_drew)); exact HO_3.out⟩, ⟨by (with_reducible repeat (first | apply Kd.R_alloc | apply Kd.R_drewN | apply Kd.R_drew)); exact HO_4.out⟩, ⟨by repeat first | exact HB.out | apply below_alloc | apply pw_below_drewN | apply below_drew1⟩⟩
       ·replace c10 := Bool.eq_false_iff.mpr c10
        subst c10
        have H1 : (gudgeonref01_Text.j1 k1 t624 x4_1 x5_1 0) = some r := by rw [if_neg (show ¬ (false = true) by decide)] at H; exact H
        clear H
        have H := H1
        clear H1
        have H' := Aside0.mk H
        clear H
        go_wp2
        go_meet
        case rel => exact ⟨_, (0), (by first | rfl | (simp; done) | (simp [*]; done) | (refine congrArg (Value.int _) ?_; omega) | (refine congrArg Value.bool ?_; generalize ByteArray.toList _ = z_; cases z_ <;> rfl)), H', ⟨by have := HK1.out; first | omega | exact Nat.le_refl _⟩, ⟨by (with_reducible repeat (first | apply Kd.R_alloc | apply Kd.R_drewN | apply Kd.R_drew)); exact HO_3.out⟩, ⟨by (with_reducible repeat (first | apply Kd.R_alloc | apply Kd.R_drewN | apply Kd.R_drew)); exact HO_4.out⟩, ⟨by repeat first | exact HB.out | apply below_alloc | apply pw_below_drewN | apply below_drew1⟩⟩
      case rest =>
       clear HC8
       try clear c1
       try clear c2
       try clear p2
       try clear c4
       try clear c5
       try clear c5b0
       try clear c6
       try clear c6b0
       try clear p6
       try clear q6
       try clear hx6
       try clear c7
       try clear c7b0
       try clear q9
       try clear c10
       try clear hx627_0
       try clear p2
       try clear p627
       try clear q627
       obtain ⟨kq, x6_7, rfl, HA, HJ7, HO_3, HO_4, HB⟩ := hcut
       cases kq with
       | zero => exact absurd HA.out (by simp [gudgeonref01_Text.j1])
       | succ kj7 =>
        have H := HA.out
        clear HA
        simp only [gudgeonref01_Text.j1] at H
        have H' := Aside0.mk H
        clear H
        go_wp2
        go_loopg [6, 7] kj7 (fun kq v6 v7 w' => ∃ (x4_3 : List Int) (x6_3 : Int) (x7_3 : Int), v6 = .int .i64 x6_3 ∧ v7 = .int .i64 x7_3 ∧ Aside0 (gudgeonref01_Text.l1 kq t624 x4_3 x5_1 x6_3 x7_3 = some r) ∧ Aside0 (kq ≤ kj7) ∧ Aside0 (Kd.R Kd.bool 4 w' w.heap.size (fun _ => True) (.slice (some ad627) t624.length co4) t624) ∧ Aside0 (Kd.R (Kd.int .i64) 3 w' w.heap.size (fun _ => True) u4 x4_3) ∧ Aside0 (Below w.heap.size w w'))
        case atStart => exact ⟨(x4_1), (x6_7), (0), (by first | rfl | (simp; done) | (simp [*]; done) | (refine congrArg (Value.int _) ?_; omega) | (refine congrArg Value.bool ?_; generalize ByteArray.toList _ = z_; cases z_ <;> rfl)), (by first | rfl | (simp; done) | (simp [*]; done) | (refine congrArg (Value.int _) ?_; omega) | (refine congrArg Value.bool ?_; generalize ByteArray.toList _ = z_; cases z_ <;> rfl)), H', ⟨Nat.le_refl _⟩, ⟨by (with_reducible repeat (first | apply Kd.R_alloc | apply Kd.R_drewN | apply Kd.R_drew)); exact HO_3.out⟩, ⟨by (with_reducible repeat (first | apply Kd.R_alloc | apply Kd.R_drewN | apply Kd.R_drew)); exact HO_4.out⟩, ⟨by repeat first | exact HB.out | apply below_alloc | apply pw_below_drewN | apply below_drew1⟩⟩
        case round =>
         clear H'
         try clear c1
         try clear c2
         try clear p2
         try clear c4
         try clear c5
         try clear c5b0
         try clear c6
         try clear c6b0
         try clear p6
         try clear q6
         try clear hx6
         try clear c7
         try clear c7b0
         try clear q9
         try clear c10
         try clear hx627_0
         try clear p2
         try clear p6
         try clear p627
         try clear q6
         try clear q627
         try clear q9
         obtain ⟨x4_3, x6_3, x7_3, rfl, rfl, HA, HK3, HO_3, HO_4, HB⟩ := hrel
         cases gk with
         | zero => exact absurd HA.out (by simp [gudgeonref01_Text.l1])
         | succ k3 =>
          have H := HA.out
          clear HA
          simp only [gudgeonref01_Text.l1] at H
          by_cases c11 : x7_3 < (x4_3.length : Int)
          ·rw [if_pos c11] at H
           have c11b0 : decide (x7_3 < (x4_3.length : Int)) = true := decide_eq_true c11
           clear c11
           by_cases c12 : 0 ≤ x7_3
           ·rw [if_pos c12] at H
            have c12b0 : decide (0 ≤ x7_3) = true := decide_eq_true c12
            clear c12
            obtain ⟨y629, hy629⟩ : ∃ y_ : List Int, y_ = (x4_3.set (x7_3 : Int).toNat (Int.tmod (wrap64 ((wrap64 (2 * (rd x4_3 x7_3))) + x6_3)) 10)) := ⟨_, rfl⟩
            replace H : (gudgeonref01_Text.l1 k3 t624 y629 x5_1 (wrap64 (Int.tdiv (wrap64 ((wrap64 (2 * (rd x4_3 x7_3))) + x6_3)) 10)) (wrap64 (x7_3 + 1))) = some r := by first | (rw [hy629]; with_reducible exact H) | (have H2_ := (Option.bind_some _ _).symm.trans H; rw [hy629]; with_reducible exact H2_) | (have H2_ := (Option.bind_some _ _).symm.trans H; with_reducible exact H2_) | with_reducible exact H | (rw [hy629]; exact H) | exact H
            have Ny629 := Aside0.mk hy629
            clear hy629
            have H' := Aside0.mk H
            clear H
            obtain ⟨Ao14, co14, eo14⟩ := Kd.R_slice HO_4.out
            subst eo14
            have p628 : 0 ≤ (x7_3 : Int) := of_decide_eq_true (by first | (with_reducible assumption) | assumption)
            have q628 : x7_3 < (x4_3.length : Int) := of_decide_eq_true (by first | (with_reducible assumption) | assumption)
            obtain ⟨ad628, e628, hx628_0⟩ := Kd.at_int (Kd.R_reads' HO_4.out).2.2 x7_3 p628 q628
            cases e628
            replace p628 := eq_true p628
            replace q628 := eq_true q628
            have p13 : 0 ≤ (x7_3 : Int) := of_decide_eq_true (by first | (with_reducible assumption) | assumption)
            have q13 : (x7_3 : Int) < ((x4_3.length : Int) : Int) := of_decide_eq_true (by first | (with_reducible assumption) | assumption)
            obtain ⟨go13, co13, eo13, gb13, gl13, cl13, HG13⟩ := Kd.R_form HO_4.out (by omega)
            (first | cases eo13 | (injection eo13 with ea_ en_ ec_; (first | subst ea_ | (injection ea_ with ea_; subst ea_)); subst ec_; clear en_))
            have GB13 := Aside0.mk gb13
            have GG13 := Aside0.mk HG13
            clear gb13 gl13 HG13
            (first | simp only [add_plain] at hx628_0 | skip)
            obtain ⟨hx13_0, hf13_0⟩ := Kd.R_celln 0 HO_4.out (x7_3 : Int) p13 q13
            replace p13 := eq_true p13
            replace q13 := eq_true q13
            have HP15 := Kd.R_putg HO_4.out (x7_3 : Int) (Int.tmod (wrap64 ((wrap64 (2 * (rd x4_3 x7_3))) + x6_3)) 10)
            go_wp2_with (first | ((with_reducible refine gate_store (t := 3) (p := 41) rfl ?_); refine store_event (t := 3) (p := 41) (v := ?vo_w16) (w1 := (wr.setCell ⟨go13, (x7_3 : Int).toNat, none⟩ (.int .i64 (Int.tmod (wrap64 ((wrap64 (2 * (rd x4_3 x7_3))) + x6_3)) 10)))) ?hg ?ho ?hn ?hr ?_; (case ho => rfl); (case hg => rfl); (case hn => rfl); (case hr => first | (go_simp; done) | (go_simp; rfl) | (go_simp; simp only [IntKind.wrap_u8, IntKind.wrap_u32]; congr 4; omega) | (go_simp; simp only [IntKind.wrap_u8, IntKind.wrap_u32]; congr 5; omega)); intro w16 hw; have hg : wr.grownBy w16 (some go13) := (by rw [hw]; exact HP15.2); have hp_ : Kd.R (Kd.int .i64) 3 w16 w.heap.size (fun _ => True) (.slice (some ⟨go13, 0, none⟩) x4_3.length co14) y629 := (by rw [hw, Ny629.out]; exact HP15.1); clear HP15; have n0_ := Aside0.mk (Kd.R_over' (v := (.slice (some ⟨go13, 0, none⟩) x4_3.length co14)) HO_3.out (Kd.R_typed HO_4.out) (by decide) hg); have n1_ := Aside0.mk (hp_); have n2_ := Aside0.mk ((by rw [hw]; exact below_set (HB.out) GB13.out : Below w.heap.size w w16)); clear HO_3; clear HO_4; clear HB; have HO_3 := n0_; have HO_4 := n1_; have HB := n2_; clear n0_ n1_ n2_; clear hg hw hp_))
            go_roundg k3
            case measure => have := HK1.out; have := HJ7.out; have := HK3.out; omega
            case rel => exact ⟨(y629), (wrap64 (Int.tdiv (wrap64 ((wrap64 (2 * (rd x4_3 x7_3))) + x6_3)) 10)), (wrap64 (x7_3 + 1)), (by first | rfl | (simp; done) | (simp [*]; done) | (refine congrArg (Value.int _) ?_; omega) | (refine congrArg Value.bool ?_; generalize ByteArray.toList _ = z_; cases z_ <;> rfl)), (by first | rfl | (simp; done) | (simp [*]; done) | (refine congrArg (Value.int _) ?_; omega) | (refine congrArg Value.bool ?_; generalize ByteArray.toList _ = z_; cases z_ <;> rfl)), H', ⟨by have := HK1.out; have := HJ7.out; have := HK3.out; omega⟩, ⟨by (with_reducible repeat (first | apply Kd.R_alloc | apply Kd.R_drewN | apply Kd.R_drew)); exact HO_3.out⟩, ⟨by (with_reducible repeat (first | apply Kd.R_alloc | apply Kd.R_drewN | apply Kd.R_drew)); exact HO_4.out⟩, ⟨by repeat first | exact HB.out | apply below_alloc | apply pw_below_drewN | apply below_drew1⟩⟩
           ·rw [if_neg c12] at H
            exact absurd H (by simp)
          ·rw [if_neg c11] at H
           have c11b0 : decide (x7_3 < (x4_3.length : Int)) = false := decide_eq_false c11
           clear c11
           by_cases c17 : x6_3 > 0
           ·rw [if_pos c17] at H
            have c17b0 : decide (0 < x6_3) = true := decide_eq_true c17
            clear c17
            by_cases c18 : x4_3.length < 17592186044416
            ·rw [if_pos c18] at H
             have LMc18 := Aside0.mk c18
             clear c18
             obtain ⟨y630, hy630⟩ : ∃ y_ : List Int, y_ = (x4_3 ++ [x6_3]) := ⟨_, rfl⟩
             replace H : (gudgeonref01_Text.l0 k3 t624 y630 (wrap64 (x5_1 - 1))) = some r := by first | (rw [hy630]; with_reducible exact H) | (have H2_ := (Option.bind_some _ _).symm.trans H; rw [hy630]; with_reducible exact H2_) | (have H2_ := (Option.bind_some _ _).symm.trans H; with_reducible exact H2_) | with_reducible exact H | (rw [hy630]; exact H) | exact H
             have Ny630 := Aside0.mk hy630
             clear hy630
             have H' := Aside0.mk H
             clear H
             obtain ⟨Ao19, co19, eo19⟩ := Kd.R_slice HO_4.out
             subst eo19
             go_wp2_with (first | ((with_reducible refine gate_builtin (b := .append) (xs := #[.tmp 46, .tmp 48]) rfl ?_); at_builtin; refine Kd.R_append (Kd.int .i64) (w0 := w) w.heap.size rfl (.tmp 46) (.tmp 48) 58 3 (.int .i64 0) 8 rfl Tryd.underlying58 info3 rfl (by decide) (by omega) (.slice Ao19 x4_3.length co19) x4_3 x6_3 [.int .i64 x6_3] (fun _ => True) (fun _ => False) rfl rfl ?aP (fun _ hk => hk.elim) ?aF ?aO ?aB ?aS ?aL ?_; (case aP => exact rfl); (case aB => exact (by repeat first | exact HB.out | apply below_alloc | apply pw_below_drewN | apply below_drew1)); (case aF => exact (fun _ _ => trivial)); (case aO => exact HO_4.out); (case aS => exact (below_size (by repeat first | exact HB.out | apply below_alloc | apply pw_below_drewN | apply below_drew1))); (case aL => have := LMc18.out; omega); intro v631 w20 ho hb hg hat; rw [← Ny630.out] at ho; have n0_ := Aside0.mk (Kd.R_over' HO_3.out (Kd.R_typed HO_4.out) (by decide) hg); have n1_ := Aside0.mk (hb); have n2_ := Aside0.mk (ho); clear HO_3; clear HB; clear HO_4; have HO_3 := n0_; have HB := n1_; have HO632 := n2_; clear n0_ n1_ n2_; clear ho hb hg hat))
             go_roundg k3
             case measure => have := HK1.out; have := HJ7.out; have := HK3.out; omega
             case rel => exact ⟨(y630), (wrap64 (x5_1 - 1)), (by first | rfl | (simp; done) | (simp [*]; done) | (refine congrArg (Value.int _) ?_; omega) | (refine congrArg Value.bool ?_; generalize ByteArray.toList _ = z_; cases z_ <;> rfl)), H', ⟨by have := HK1.out; have := HJ7.out; have := HK3.out; omega⟩, ⟨by (with_reducible repeat (first | apply Kd.R_alloc | apply Kd.R_drewN | apply Kd.R_drew)); exact HO_3.out⟩, ⟨by (with_reducible repeat (first | apply Kd.R_alloc | apply Kd.R_drewN | apply Kd.R_drew)); exact HO632.out⟩, ⟨by repeat first | exact HB.out | apply below_alloc | apply pw_below_drewN | apply below_drew1⟩⟩
            ·rw [if_neg c18] at H
             exact absurd H (by simp)
           ·rw [if_neg c17] at H
            have c17b0 : decide (0 < x6_3) = false := decide_eq_false c17
            clear c17
            have H' := Aside0.mk H
            clear H
            obtain ⟨Ao21, co21, eo21⟩ := Kd.R_slice HO_4.out
            subst eo21
            go_wp2
            go_roundg k3
            case measure => have := HK1.out; have := HJ7.out; have := HK3.out; omega
            case rel => exact ⟨(x4_3), (wrap64 (x5_1 - 1)), (by first | rfl | (simp; done) | (simp [*]; done) | (refine congrArg (Value.int _) ?_; omega) | (refine congrArg Value.bool ?_; generalize ByteArray.toList _ = z_; cases z_ <;> rfl)), H', ⟨by have := HK1.out; have := HJ7.out; have := HK3.out; omega⟩, ⟨by (with_reducible repeat (first | apply Kd.R_alloc | apply Kd.R_drewN | apply Kd.R_drew)); exact HO_3.out⟩, ⟨by (with_reducible repeat (first | apply Kd.R_alloc | apply Kd.R_drewN | apply Kd.R_drew)); exact HO_4.out⟩, ⟨by repeat first | exact HB.out | apply below_alloc | apply pw_below_drewN | apply below_drew1⟩⟩
     ·rw [if_neg c7] at H
      exact absurd H (by simp)
    ·rw [if_neg c6] at H
     exact absurd H (by simp)
   ·rw [if_neg c5] at H
    have c5b0 : decide (0 ≤ x5_1) = false := decide_eq_false c5
    clear c5
    by_cases c22 : (x4_1.length : Int) = 0
    ·rw [if_pos c22] at H
     have c22b0 : ((x4_1.length : Int) == 0) = true := beq_iff_eq.mpr c22
     have c22b1 : ((x4_1.length : Int) != 0) = false := bne_eq_false_iff_eq.mpr c22
     clear c22
     obtain rfl := Option.some.inj H
     obtain ⟨Ao23, co23, eo23⟩ := Kd.R_slice HO_4.out
     subst eo23
     go_wp2
     go_ret
     exact ⟨by first | rfl | (simp [errW_none, errW_some] <;> rfl) | (simp [*, errW_none, errW_some] <;> rfl), by repeat first | exact HB.out | apply below_alloc | apply pw_below_drewN | apply below_drew1⟩
    ·rw [if_neg c22] at H
     have c22b0 : ((x4_1.length : Int) == 0) = false := beq_eq_false_iff_ne.mpr c22
     have c22b1 : ((x4_1.length : Int) != 0) = true := bne_iff_ne.mpr c22
     have c22b2 : ¬ (x4_1 = []) := fun h_ => c22 (by rw [h_]; rfl)
     have H' := Aside0.mk H
     clear H
     obtain ⟨Ao24, co24, eo24⟩ := Kd.R_slice HO_4.out
     subst eo24
     go_wp2
     go_loopg [9, 10] k1 (fun kq v9 v10 w' => ∃ (x9_2 : List Int) (x10_2 : Int), v10 = .int .i64 x10_2 ∧ Aside0 (gudgeonref01_Text.l2 kq x4_1 x9_2 x10_2 = some r) ∧ Aside0 (kq ≤ k1) ∧ Aside0 (Kd.R (Kd.int .i64) 3 w' w.heap.size (fun _ => True) (.slice Ao24 x4_1.length co24) x4_1) ∧ Aside0 (Kd.R (Kd.int .u8) 5 w' w.heap.size (fun _ => True) v9 x9_2) ∧ Aside0 (Below w.heap.size w w'))
     case atStart => exact ⟨(([] : List Int)), (wrap64 ((x4_1.length : Int) - 1)), (by first | rfl | (simp; done) | (simp [*]; done) | (refine congrArg (Value.int _) ?_; omega) | (refine congrArg Value.bool ?_; generalize ByteArray.toList _ = z_; cases z_ <;> rfl)), H', ⟨Nat.le_refl _⟩, ⟨by (with_reducible repeat (first | apply Kd.R_alloc | apply Kd.R_drewN | apply Kd.R_drew)); exact HO_4.out⟩, ⟨by first | exact Kd.R_nil _ _ _ _ _ | exact Kd.N_nil _ _ _ _ _ | exact Kd.V_nil _ _ _ _ _ | exact Kd.Q_nil _ _ _ _ _ | exact Kd.S_nil _ _ _ _ _⟩, ⟨by repeat first | exact HB.out | apply below_alloc | apply pw_below_drewN | apply below_drew1⟩⟩
     case round =>
      clear H'
      try clear c1
      try clear p1
      try clear q1
      try clear hx1
      try clear hf1
      try clear c2
      try clear p2
      try clear c4
      try clear c5
      try clear c5b0
      try clear c6
      try clear c6b0
      try clear p6
      try clear q6
      try clear hx6
      try clear c7
      try clear c7b0
      try clear q9
      try clear c10
      try clear c11
      try clear c11b0
      try clear c12
      try clear c12b0
      try clear p13
      try clear q13
      try clear hx13
      try clear hf13
      try clear c17
      try clear c17b0
      try clear c18
      try clear c21
      try clear c22
      try clear c22b0
      try clear c22b1
      try clear c22b2
      try clear hx13_0
      try clear hx627_0
      try clear hx628_0
      try clear p13
      try clear p2
      try clear p6
      try clear p627
      try clear p628
      try clear q13
      try clear q6
      try clear q627
      try clear q628
      try clear q9
      obtain ⟨x9_2, x10_2, rfl, HA, HK2, HO_4, HO_9, HB⟩ := hrel
      cases gk with
      | zero => exact absurd HA.out (by simp [gudgeonref01_Text.l2])
      | succ k2 =>
       have H := HA.out
       clear HA
       simp only [gudgeonref01_Text.l2] at H
       by_cases c25 : x10_2 ≥ 0
       ·rw [if_pos c25] at H
        have c25b0 : decide (0 ≤ x10_2) = true := decide_eq_true c25
        clear c25
        by_cases c26 : 0 ≤ x10_2
        ·rw [if_pos c26] at H
         have c26b0 : decide (0 ≤ x10_2) = true := decide_eq_true c26
         clear c26
         by_cases c27 : x10_2 < (x4_1.length : Int)
         ·rw [if_pos c27] at H
          have c27b0 : decide (x10_2 < (x4_1.length : Int)) = true := decide_eq_true c27
          clear c27
          by_cases c28 : x9_2.length < 140737488355328
          ·rw [if_pos c28] at H
           have LMc28 := Aside0.mk c28
           clear c28
           obtain ⟨y634, hy634⟩ : ∃ y_ : List Int, y_ = (x9_2 ++ [(wrap64 (48 + (rd x4_1 x10_2))) % 256]) := ⟨_, rfl⟩
           replace H : (gudgeonref01_Text.l2 k2 x4_1 y634 (wrap64 (x10_2 - 1))) = some r := by first | (rw [hy634]; with_reducible exact H) | (have H2_ := (Option.bind_some _ _).symm.trans H; rw [hy634]; with_reducible exact H2_) | (have H2_ := (Option.bind_some _ _).symm.trans H; with_reducible exact H2_) | with_reducible exact H | (rw [hy634]; exact H) | exact H
           have Ny634 := Aside0.mk hy634
           clear hy634
           have H' := Aside0.mk H
           clear H
           have p633 : 0 ≤ (x10_2 : Int) := of_decide_eq_true (by first | (with_reducible assumption) | assumption)
           have q633 : x10_2 < (x4_1.length : Int) := of_decide_eq_true (by first | (with_reducible assumption) | assumption)
           obtain ⟨ad633, e633, hx633_0⟩ := Kd.at_int (Kd.R_reads' HO_4.out).2.2 x10_2 p633 q633
           cases e633
           replace p633 := eq_true p633
           replace q633 := eq_true q633
           go_wp2_with (first | ((with_reducible refine gate_builtin (b := .append) (xs := #[.tmp 60, .tmp 67]) rfl ?_); at_builtin; refine Kd.R_append (Kd.int .u8) (w0 := w) w.heap.size rfl (.tmp 60) (.tmp 67) 54 5 (.int .u8 0) 1 rfl Tryd.underlying54 info5 rfl (by decide) (by omega) u9 x9_2 ((wrap64 (48 + (rd x4_1 x10_2))) % 256) [.int .u8 ((wrap64 (48 + (rd x4_1 x10_2))) % 256)] (fun _ => True) (fun _ => False) rfl rfl ?aP (fun _ hk => hk.elim) ?aF ?aO ?aB ?aS ?aL ?_; (case aP => exact rfl); (case aB => exact (by repeat first | exact HB.out | apply below_alloc | apply pw_below_drewN | apply below_drew1)); (case aF => exact (fun _ _ => trivial)); (case aO => exact HO_9.out); (case aS => exact (below_size (by repeat first | exact HB.out | apply below_alloc | apply pw_below_drewN | apply below_drew1))); (case aL => have := LMc28.out; omega); intro v635 w29 ho hb hg hat; rw [← Ny634.out] at ho; have n0_ := Aside0.mk (Kd.R_over' HO_4.out (Kd.R_typed HO_9.out) (by decide) hg); have n1_ := Aside0.mk (hb); have n2_ := Aside0.mk (ho); clear HO_4; clear HB; clear HO_9; have HO_4 := n0_; have HB := n1_; have HO636 := n2_; clear n0_ n1_ n2_; clear ho hb hg hat))
           go_roundg k2
           case measure => have := HK1.out; have := HK2.out; omega
           case rel => exact ⟨(y634), (wrap64 (x10_2 - 1)), (by first | rfl | (simp; done) | (simp [*]; done) | (refine congrArg (Value.int _) ?_; omega) | (refine congrArg Value.bool ?_; generalize ByteArray.toList _ = z_; cases z_ <;> rfl)), H', ⟨by have := HK1.out; have := HK2.out; omega⟩, ⟨by (with_reducible repeat (first | apply Kd.R_alloc | apply Kd.R_drewN | apply Kd.R_drew)); exact HO_4.out⟩, ⟨by (with_reducible repeat (first | apply Kd.R_alloc | apply Kd.R_drewN | apply Kd.R_drew)); exact HO636.out⟩, ⟨by repeat first | exact HB.out | apply below_alloc | apply pw_below_drewN | apply below_drew1⟩⟩
          ·rw [if_neg c28] at H
           exact absurd H (by simp)
         ·rw [if_neg c27] at H
          exact absurd H (by simp)
        ·rw [if_neg c26] at H
         exact absurd H (by simp)
       ·rw [if_neg c25] at H
        have c25b0 : decide (0 ≤ x10_2) = false := decide_eq_false c25
        clear c25
        obtain rfl := Option.some.inj H
        have hcv30 := own_string (P := Tryd.prog) Tryd.underlying54 Tryd.underlying5 Tryd.underlying9 (Kd.own_of_R HO_9.out)
        go_wp2
        go_ret
        exact ⟨by first | rfl | (simp [errW_none, errW_some] <;> rfl) | (simp [*, errW_none, errW_some] <;> rfl), by repeat first | exact HB.out | apply below_alloc | apply pw_below_drewN | apply below_drew1⟩

end Go.Proofs.YtlfpnohpcemkgaaDoor.PA
/- nat.Parse, in the printed shape: the number of a text's digits. -/
namespace Go.Proofs.YtlfpnohpcemkgaaDoor.H
open Go.RowKit Go.Proofs.YtlfpnohpcemkgaaDoorW.PrintWords Go.Proofs.YtlfpnohpcemkgaaDoorW.PrintLast Go.Proofs.YtlfpnohpcemkgaaDoor.PA

/-- The loop over the text's bytes. -/
def nat_Parse.l0 : Nat → ByteArray → List Int → Int → Option (List Int × Int)
  | 0, _, _, _ => none
  | k + 1, s, a, i => if i < (s.size : Int) then (if bt s i < 48 then some ([], 8) else if bt s i > 57 then some ([], 8) else (nat_Mul.f k a [10]).bind fun m => (nat_Add.f k m [bt s i - 48]).bind fun t => nat_Parse.l0 k s t (i + 1)) else (nat_Norm.f a).bind fun t => some (t, 0)
def nat_Parse.f (k : Nat) (s : ByteArray) : Option (List Int × Int) := if s.toList = ([] : List UInt8) then some ([], 8) else if (s.size : Int) > 2000 then some ([], 8) else if bt s 0 = 48 ∧ ¬ s.toList = ([48] : List UInt8) then some ([], 8) else nat_Parse.l0 k s [] 0
theorem nat_Parse.mono_l (s : ByteArray) : ∀ k a i, LeO (nat_Parse.l0 k s a i) (nat_Parse.l0 (k + 1) s a i)
  | 0, _, _, r, h => by simp [nat_Parse.l0] at h
  | k + 1, a, i, r, h => by
    unfold nat_Parse.l0 at h ⊢
    split at h
    · rename_i h1
      rw [if_pos h1]
      split at h
      · rename_i h2; rw [if_pos h2]; exact h
      · rename_i h2
        rw [if_neg h2]
        split at h
        · rename_i h3; rw [if_pos h3]; exact h
        · rename_i h3
          rw [if_neg h3]
          obtain ⟨m, hm, h⟩ := Option.bind_eq_some_iff.1 h
          obtain ⟨t, ht, h⟩ := Option.bind_eq_some_iff.1 h
          rw [nat_Mul.mono _ _ k m hm, Option.bind_some, nat_Add.mono _ _ k t ht, Option.bind_some]
          exact nat_Parse.mono_l s k t (i + 1) r h
    · rename_i h1; rw [if_neg h1]; exact h
theorem nat_Parse.mono (s : ByteArray) (k : Nat) : LeO (nat_Parse.f k s) (nat_Parse.f (k + 1) s) := by
  intro r h
  unfold nat_Parse.f at h ⊢
  split at h
  · rename_i h1; rw [if_pos h1]; exact h
  · rename_i h1
    rw [if_neg h1]
    split at h
    · rename_i h2; rw [if_pos h2]; exact h
    · rename_i h2
      rw [if_neg h2]
      split at h
      · rename_i h3; rw [if_pos h3]; exact h
      · rename_i h3; rw [if_neg h3]; exact nat_Parse.mono_l s k [] 0 r h
theorem below_frozen {b : Nat} {W0 W : World} (h : Below b W0 W) {p : Addr} (hp : b ≤ p.block) (n : Nat) : Below b W0 (W.freeze p n) := by
  by_cases hn : n = 0
  · simp only [World.freeze, hn, if_true]; exact h
  · refine ⟨?_, ?_, ?_, ?_, fun i hi => ?_⟩
    · simp only [World.freeze, hn, if_false]; exact h.os
    · simp only [World.freeze, hn, if_false]; exact h.tape
    · simp only [World.freeze, hn, if_false]; exact h.output
    · have := h.size
      simp only [World.freeze, hn, if_false, Array.size_modify]
      exact this
    · have := h.block i hi
      simp only [World.freeze, hn, if_false]
      rw [Array.getElem?_modify, if_neg (by omega)]
      exact this
theorem conv_run (W : World) (s : ByteArray) : (convert 9 54 (.string s)).run Tryd.prog W = .ok (.slice (some ⟨W.heap.size, 0, none⟩) s.size (grownCap W s.size 0 5)) (Lib.bytesWorld W 5 s) :=
  Lib.run_convert_string_bytes W 9 54 5 s Tryd.underlying9 Tryd.underlying54 Tryd.underlying5
theorem bytesWorld_below {W0 W : World} {b : Nat} (h : Below b W0 W) (hb : b ≤ W.heap.size) (e : TypeId) (s : ByteArray) : Below b W0 (Lib.bytesWorld W e s) := by
  unfold Lib.bytesWorld
  exact below_frozen ((below_drew1 h).alloc (by simpa using hb) _) (by simpa using hb) _
theorem bytesWorld_C (W : World) (s : ByteArray) (h : s.size ≤ 2000) : Kd.C (Kd.int .u8) (Lib.bytesWorld W 5 s) (some ⟨W.heap.size, 0, none⟩) (bytesOf s).length (bytesOf s) := by
  refine ⟨rfl, by rw [bytesOf_length]; omega, fun _ => ⟨_, rfl, fun j p hp => ⟨[.int .u8 p], rfl, rfl, fun i u hu => ?_⟩⟩⟩
  have hi0 : i = 0 := by
    rcases i with _ | i
    · rfl
    · simp at hu
  subst hi0
  have hu' : Value.int .u8 p = u := by simpa using hu
  subst hu'
  obtain ⟨hj, rfl⟩ := List.getElem?_eq_some_iff.1 hp
  have hjs : j < s.size := by rw [← bytesOf_length]; exact hj
  have e : (⟨W.heap.size, 0, none⟩ : Addr).add (j * (Kd.int .u8).sz + 0) = ⟨W.heap.size, j, none⟩ := by
    rw [add_plain]; simp [Kd.int, Kd.scalar]
  rw [e, Lib.bytesWorld_cell W _ s j hjs]
  simp [bytesOf, List.getD_eq_getElem?_getD, hjs]
set_option maxHeartbeats 4000000 in
set_option maxRecDepth 100000 in
theorem nat_Parse.calls (k : Nat) (a0 : ByteArray) (r1 : List Int) (r2 : Int) (w : World) (h : nat_Parse.f k a0 = some (r1, r2)) :
    Calls Tryd.prog 18 #[.string a0] w fun e w' => ∃ v0_ : Value, e = .returned (.tuple #[v0_, .int .i64 r2]) ∧ Kd.R (Kd.int .u32) 43 w' w.heap.size (fun _ => True) v0_ r1 ∧ Below w.heap.size w w' := by
  have HB := Aside0.mk (Below.refl w.heap.size w)
  unfold nat_Parse.f at h
  by_cases c3 : a0.toList = ([] : List UInt8)
  · rw [if_pos c3] at h
    obtain ⟨rfl, rfl⟩ := Prod.mk.inj (Option.some.inj h)
    have c3b0 : (a0.toList == ([] : List UInt8)) = true := beq_iff_eq.mpr c3
    clear c3
    go_enter Tryd.func18, Tryd.ntmps18
    go_wp2
    go_ret2
    exact ⟨_, rfl, Kd.R_nil _ _ _ _ _, HB.out⟩
  · rw [if_neg c3] at h
    have hs0 : a0.size ≠ 0 := by
      intro e
      apply c3
      rw [Lib.toList_data]
      exact List.eq_nil_of_length_eq_zero (by rw [data_length]; exact e)
    have c3b0 : (a0.toList == ([] : List UInt8)) = false := beq_eq_false_iff_ne.mpr c3
    clear c3
    by_cases c4 : (a0.size : Int) > 2000
    · rw [if_pos c4] at h
      obtain ⟨rfl, rfl⟩ := Prod.mk.inj (Option.some.inj h)
      have c4b0 : decide (2000 < (a0.size : Int)) = true := decide_eq_true c4
      have c4b1 : decide (2000 < a0.size) = true := decide_eq_true (by omega)
      clear c4 hs0
      go_enter Tryd.func18, Tryd.ntmps18
      go_wp2
      go_ret2
      exact ⟨_, rfl, Kd.R_nil _ _ _ _ _, HB.out⟩
    · rw [if_neg c4] at h
      have hsz : a0.size ≤ 2000 := by omega
      have c4b0 : decide (2000 < (a0.size : Int)) = false := decide_eq_false c4
      have c4b1 : decide (2000 < a0.size) = false := decide_eq_false (by omega)
      clear c4
      have q6 : (0 < a0.size) = True := eq_true (by omega)
      have qi6 : (0 < (a0.size : Int)) = True := eq_true (by omega)
      have hx6 : ∀ h : 0 < a0.size, ((a0[0]'h).toNat : Int) = bt a0 0 := bt_at a0 0
      clear hs0
      by_cases c5 : bt a0 0 = 48 ∧ ¬ a0.toList = ([48] : List UInt8)
      · rw [if_pos c5] at h
        obtain ⟨rfl, rfl⟩ := Prod.mk.inj (Option.some.inj h)
        have c5b0 : ((bt a0 0) == 48) = true := beq_iff_eq.mpr c5.1
        have c5b1 : (a0.toList != ([48] : List UInt8)) = true := bne_iff_ne.mpr c5.2
        have c5b2 : (a0.toList == ([48] : List UInt8)) = false := beq_eq_false_iff_ne.mpr c5.2
        clear c5 hsz
        go_enter Tryd.func18, Tryd.ntmps18
        go_wp2
        go_ret2
        exact ⟨_, rfl, Kd.R_nil _ _ _ _ _, HB.out⟩
      · rw [if_neg c5] at h
        have H' := Aside0.mk h
        have HSZ := Aside0.mk hsz
        clear h hsz
        have c5c : (bt a0 0 == 48) = false ∨ ((bt a0 0 == 48) = true ∧ (a0.toList == ([48] : List UInt8)) = true ∧ (a0.toList != ([48] : List UInt8)) = false) := by
          by_cases z : bt a0 0 = 48
          · right
            have z2 : a0.toList = ([48] : List UInt8) := by
              by_cases z2 : a0.toList = ([48] : List UInt8)
              · exact z2
              · exact absurd ⟨z, z2⟩ c5
            exact ⟨beq_iff_eq.mpr z, beq_iff_eq.mpr z2, bne_eq_false_iff_eq.mpr z2⟩
          · left; exact beq_eq_false_iff_ne.mpr z
        clear c5
        have hcv := conv_run w a0
        rcases c5c with c5b | ⟨c5b, c5d, c5e⟩
        all_goals
          go_enter Tryd.func18, Tryd.ntmps18
          go_wp2
          clear hcv
          have HC := Aside0.mk (bytesWorld_C w a0 HSZ.out)
          have HB1 := Aside0.mk (bytesWorld_below HB.out (Nat.le_refl _) 5 a0)
          generalize Lib.bytesWorld w 5 a0 = wB at HC HB1 ⊢
          generalize grownCap w a0.size 0 5 = cB
          generalize w.heap.size = gB at HC
          clear HB q6 qi6 hx6
          go_loopg [4, 26] k (fun kq v4 v26 w' => ∃ (a : List Int) (i : Nat), v26 = .int .i64 (i : Int) ∧ Aside0 (nat_Parse.l0 kq a0 a (i : Int) = some (r1, r2)) ∧ Aside0 (kq ≤ k) ∧ Aside0 (i ≤ a0.size) ∧ Aside0 (Kd.R (Kd.int .u32) 43 w' w.heap.size (fun _ => True) v4 a) ∧ Aside0 (Kd.C (Kd.int .u8) w' (some ⟨gB, 0, none⟩) (bytesOf a0).length (bytesOf a0)) ∧ Aside0 (Below w.heap.size w w'))
          case atStart => exact ⟨[], 0, rfl, H', ⟨Nat.le_refl _⟩, ⟨Nat.zero_le _⟩, ⟨Kd.R_nil _ _ _ _ _⟩, HC, HB1⟩
          case round =>
            clear H'
            obtain ⟨a, i, rfl, HA, HK, HI, HO, HC, HB⟩ := hrel
            cases gk with
            | zero => exact absurd HA.out (by simp [nat_Parse.l0])
            | succ k1 =>
              have H := HA.out
              clear HA
              simp only [nat_Parse.l0] at H
              by_cases c1 : (i : Int) < (a0.size : Int)
              · rw [if_pos c1] at H
                have hin : i < a0.size := by omega
                obtain ⟨ad, had, hcell⟩ := Kd.at_int HC.out (i : Int) (by omega) (by rw [bytesOf_length]; omega)
                injection had with had
                subst had
                rw [rd_bytesOf, Int.toNat_natCast, add_plain] at hcell
                have c1b : decide ((i : Int) < (a0.size : Int)) = true := decide_eq_true c1
                have c1n : decide (i < a0.size) = true := decide_eq_true hin
                have hbr := bt_range a0 (i : Int)
                have hkl : (i : Int) < (a0.size : Int) := c1
                have hk0 : (0 : Int) ≤ (i : Int) := by omega
                clear c1
                by_cases c2 : bt a0 (i : Int) < 48
                · rw [if_pos c2] at H
                  obtain ⟨rfl, rfl⟩ := Prod.mk.inj (Option.some.inj H)
                  have c2b : decide (bt a0 (i : Int) < 48) = true := decide_eq_true c2
                  clear c2 H hbr hin
                  go_wp2
                  go_ret2
                  exact ⟨_, rfl, Kd.R_nil _ _ _ _ _, HB.out⟩
                · rw [if_neg c2] at H
                  have c2b : decide (bt a0 (i : Int) < 48) = false := decide_eq_false c2
                  by_cases c3 : bt a0 (i : Int) > 57
                  · rw [if_pos c3] at H
                    obtain ⟨rfl, rfl⟩ := Prod.mk.inj (Option.some.inj H)
                    have c3b : decide (57 < bt a0 (i : Int)) = true := decide_eq_true c3
                    clear c2 c3 H hbr hin
                    go_wp2
                    go_ret2
                    exact ⟨_, rfl, Kd.R_nil _ _ _ _ _, HB.out⟩
                  · rw [if_neg c3] at H
                    have c3b : decide (57 < bt a0 (i : Int)) = false := decide_eq_false c3
                    obtain ⟨y1, hy1⟩ : ∃ y_ : List Int, y_ = [10] := ⟨_, rfl⟩
                    obtain ⟨y2, hy2⟩ : ∃ y_ : List Int, y_ = [bt a0 (i : Int) - 48] := ⟨_, rfl⟩
                    rw [← hy1, ← hy2] at H
                    obtain ⟨m, HM, H⟩ := Option.bind_eq_some_iff.1 H
                    obtain ⟨t, HT, H⟩ := Option.bind_eq_some_iff.1 H
                    have NY1 := Aside0.mk hy1
                    have NY2 := Aside0.mk hy2
                    have HM1 := Aside0.mk HM
                    have HT1 := Aside0.mk HT
                    have H1 := Aside0.mk H
                    have hlo : 48 ≤ bt a0 (i : Int) := by omega
                    have hhi : bt a0 (i : Int) ≤ 57 := by omega
                    have hi2 : (i : Int) < 2000 := by have := HSZ.out; omega
                    have HIN := Aside0.mk hin
                    clear hy1 hy2 HM HT H c2 c3 hbr hin
                    obtain ⟨A4, c4, rfl⟩ := Kd.R_slice HO.out
                    go_wp2_with (first | ((with_reducible refine gate_dst (N := 37) rfl ?_); refine Kd.R_lit (Kd.int .u32) _ 43 ?hg (N := 37) ?hd (xs := ([10] : List Int)) (inner := [.int .u32 (10)]) (ok := fun _ => True) (okp := fun _ => True) ?hr ?hp (fun _ hk => hk) trivial (Below.refl _ _) (Nat.le_refl _) (by simp) ?_; (case hd => rfl); (case hg => rfl); (case hr => first | (go_simp; done) | (go_simp; rfl)); (case hp => exact (Reps.one (show Kd.M (Kd.int .u32) _ _ _ (10) [.int .u32 (10)] from rfl) (Reps.none _ _))); intro v1 w1 ho1 hb1 hg_ hnew_; clear hg_ hnew_; rw [← NY1.out] at ho1; have n0 := Aside0.mk (Kd.R_mono (ok' := fun _ => True) (Kd.R_elder' HO.out (Kd.R_base ho1) hb1) (fun _ _ => trivial)); have n1 := Aside0.mk ho1; have n2 := Aside0.mk (Kd.C_below HC.out hb1); have n3 := Aside0.mk (below_step HB.out hb1); clear HO HC HB hb1 ho1; obtain ⟨A1, d1, rfl⟩ := Kd.R_slice n1.out) | ((with_reducible refine gate_callee (f := 25) rfl ?_); refine goesL_ (some 38) rfl rfl Tryd.func25 (by kernel_rfl) rfl #[.slice A4 a.length c4, .slice A1 y1.length d1] rfl (by (try simp only [List.map_toArray, List.map_cons, List.map_nil]); first | done | rfl) ?_; (with_reducible refine (nat_Mul.calls k1 _ _ a _ _ y1 m _ ?s1 ?s2 ?s3 ?s4 HM1.out).mono ?_); (case s1 => exact (Kd.R_reads' n0.out).2.2); (case s2 => exact (Kd.R_reads' n0.out).2.1); (case s3 => exact (Kd.R_reads' n1.out).2.2); (case s4 => exact (Kd.R_reads' n1.out).2.1); rintro e w2 ⟨v2, rfl, ho2, hb2⟩; refine ⟨_, rfl, ?_⟩; have m1 := Aside0.mk ho2; have m2 := Aside0.mk (Kd.C_below n2.out hb2); have m3 := Aside0.mk (below_step n3.out hb2); clear n0 n1 n2 n3 hb2 ho2; obtain ⟨A2, d2, rfl⟩ := Kd.R_slice m1.out) | ((with_reducible refine gate_dst (N := 42) rfl ?_); refine Kd.R_lit (Kd.int .u32) _ 43 ?hg (N := 42) ?hd (xs := ([bt a0 (i : Int) - 48] : List Int)) (inner := [.int .u32 (bt a0 (i : Int) - 48)]) (ok := fun _ => True) (okp := fun _ => True) ?hr ?hp (fun _ hk => hk) trivial (Below.refl _ _) (Nat.le_refl _) (by simp) ?_; (case hd => rfl); (case hg => rfl); (case hr => first | (go_simp; done) | (go_simp; rfl)); (case hp => exact (Reps.one (show Kd.M (Kd.int .u32) _ _ _ (bt a0 (i : Int) - 48) [.int .u32 (bt a0 (i : Int) - 48)] from rfl) (Reps.none _ _))); intro v3 w3 ho3 hb3 hg_ hnew_; clear hg_ hnew_; rw [← NY2.out] at ho3; have p0 := Aside0.mk (Kd.R_mono (ok' := fun _ => True) (Kd.R_elder' m1.out (Kd.R_base ho3) hb3) (fun _ _ => trivial)); have p1 := Aside0.mk ho3; have p2 := Aside0.mk (Kd.C_below m2.out hb3); have p3 := Aside0.mk (below_step m3.out hb3); clear m1 m2 m3 hb3 ho3; obtain ⟨A3, d3, rfl⟩ := Kd.R_slice p1.out) | ((with_reducible refine gate_callee (f := 24) rfl ?_); refine goesL_ (some 43) rfl rfl Tryd.func24 (by kernel_rfl) rfl #[.slice A2 m.length d2, .slice A3 y2.length d3] rfl (by (try simp only [List.map_toArray, List.map_cons, List.map_nil]); first | done | rfl) ?_; (with_reducible refine (nat_Add.calls k1 _ _ m _ _ y2 t _ ?s1 ?s2 ?s3 ?s4 HT1.out).mono ?_); (case s1 => exact (Kd.R_reads' p0.out).2.2); (case s2 => exact (Kd.R_reads' p0.out).2.1); (case s3 => exact (Kd.R_reads' p1.out).2.2); (case s4 => exact (Kd.R_reads' p1.out).2.1); rintro e w4 ⟨v4, rfl, ho4, hb4⟩; refine ⟨_, rfl, ?_⟩; have q1 := Aside0.mk (Kd.R_lower ho4 (below_size p3.out)); have q2 := Aside0.mk (Kd.C_below p2.out hb4); have q3 := Aside0.mk (below_step p3.out hb4); clear p0 p1 p2 p3 hb4 ho4))
                    go_roundg k1
                    case measure => have := HK.out; omega
                    case rel => exact ⟨t, i + 1, by go_num, H1, ⟨by have := HK.out; omega⟩, ⟨HIN.out⟩, q1, q2, q3⟩
              · rw [if_neg c1] at H
                obtain ⟨t, HT, H⟩ := Option.bind_eq_some_iff.1 H
                obtain ⟨rfl, rfl⟩ := Prod.mk.inj (Option.some.inj H)
                have HT1 := Aside0.mk HT
                have c1b : decide ((i : Int) < (a0.size : Int)) = false := decide_eq_false c1
                have c1n : decide (i < a0.size) = false := decide_eq_false (by omega)
                clear c1 H HT
                obtain ⟨A4, c4, rfl⟩ := Kd.R_slice HO.out
                go_wp2_with (first | ((with_reducible refine gate_callee (f := 22) rfl ?_); refine goesL_ (some 46) rfl rfl Tryd.func22 (by kernel_rfl) rfl #[.slice A4 a.length c4] rfl (by (try simp only [List.map_toArray, List.map_cons, List.map_nil]); first | done | rfl) ?_; (with_reducible refine (nat_Norm.calls _ _ a t _ ?s1 ?s2 HT1.out).mono ?_); (case s1 => exact (Kd.R_reads' HO.out).2.2); (case s2 => exact (Kd.R_reads' HO.out).2.1); rintro e w2 ⟨v2, rfl, ho2, hb2⟩; refine ⟨_, rfl, ?_⟩; have q1 := Aside0.mk (Kd.R_lower ho2 (below_size HB.out)); have q3 := Aside0.mk (below_step HB.out hb2); clear hb2 ho2))
                go_ret2
                exact ⟨_, rfl, q1.out, q3.out⟩
end Go.Proofs.YtlfpnohpcemkgaaDoor.H
/- gudgeonlaw01.awake, in the printed shape: the chapter's examples hold (written by wip/tools/straight.py). -/
namespace Go.Proofs.YtlfpnohpcemkgaaDoor.H
open Go.RowKit Go.Proofs.YtlfpnohpcemkgaaDoorW.PrintWords Go.Proofs.YtlfpnohpcemkgaaDoorW.PrintLast Go.Proofs.YtlfpnohpcemkgaaDoor.PA
def gudgeonlaw01_awake.f : Option Bool := some true
theorem row_of {v : Value} {w : World} {b : Nat} {ok : Nat → Prop} {l : List Int} (h : Kd.R (Kd.int .u32) 43 w b ok v l) : ∃ A c, v = .slice A l.length c ∧ Kd.C (Kd.int .u32) w A l.length l ∧ l.length ≤ c := by
  obtain ⟨A, c, rfl⟩ := Kd.R_slice h
  exact ⟨A, c, rfl, (Kd.R_reads' h).2.2, (Kd.R_reads' h).2.1⟩
set_option maxHeartbeats 4000000 in
set_option maxRecDepth 100000 in
theorem gudgeonlaw01_awake.calls (r : Bool) (w : World) (h : gudgeonlaw01_awake.f = some r) :
    Calls Tryd.prog 11 #[] w fun e w' => e = .returned (.bool r) ∧ Below w.heap.size w w' := by
  obtain rfl : true = r := Option.some.inj h
  clear h
  have HB := Aside0.mk (Below.refl w.heap.size w)
  obtain ⟨a1, ha1⟩ : ∃ y_ : List Int, y_ = [4294967295] := ⟨_, rfl⟩
  obtain ⟨a2, ha2⟩ : ∃ y_ : List Int, y_ = [1] := ⟨_, rfl⟩
  obtain ⟨s, hs⟩ : ∃ y_ : List Int, y_ = [0, 1] := ⟨_, rfl⟩
  obtain ⟨b1, hb1⟩ : ∃ y_ : List Int, y_ = [100] := ⟨_, rfl⟩
  obtain ⟨b2, hb2⟩ : ∃ y_ : List Int, y_ = [7] := ⟨_, rfl⟩
  obtain ⟨q, hq⟩ : ∃ y_ : List Int, y_ = [14] := ⟨_, rfl⟩
  obtain ⟨r, hr⟩ : ∃ y_ : List Int, y_ = [2] := ⟨_, rfl⟩
  obtain ⟨z, hz⟩ : ∃ y_ : List Int, y_ = [] := ⟨_, rfl⟩
  obtain ⟨d1, hd1⟩ : ∃ y_ : List Int, y_ = [12] := ⟨_, rfl⟩
  obtain ⟨d2, hd2⟩ : ∃ y_ : List Int, y_ = [18] := ⟨_, rfl⟩
  obtain ⟨g, hg⟩ : ∃ y_ : List Int, y_ = [6] := ⟨_, rfl⟩
  obtain ⟨e1, he1⟩ : ∃ y_ : List Int, y_ = [0, 1] := ⟨_, rfl⟩
  obtain ⟨e2, he2⟩ : ∃ y_ : List Int, y_ = [14] := ⟨_, rfl⟩
  obtain ⟨e3, he3⟩ : ∃ y_ : List Int, y_ = [2] := ⟨_, rfl⟩
  obtain ⟨e4, he4⟩ : ∃ y_ : List Int, y_ = [6] := ⟨_, rfl⟩
  obtain ⟨f1, hf1⟩ : ∃ y_ : List Int, y_ = [0, 1] := ⟨_, rfl⟩
  have E1 : Aside0 (nat_Add.f 40 a1 a2 = some s) := ⟨by rw [ha1, ha2, hs]; kernel_rfl⟩
  have E2 : Aside0 (nat_DivMod.f 40 b1 b2 = some (q, r, 0)) := ⟨by rw [hb1, hb2, hq, hr]; kernel_rfl⟩
  have E3 : Aside0 (nat_Parse.f 40 (⟨#[48, 48, 55]⟩ : ByteArray) = some (z, 8)) := ⟨by rw [hz]; kernel_rfl⟩
  have E4 : Aside0 (nat_Gcd.f 40 d1 d2 = some g) := ⟨by rw [hd1, hd2, hg]; kernel_rfl⟩
  have E5 : Aside0 (gudgeonref01_Same.f 40 s e1 = some true) := ⟨by rw [hs, he1]; kernel_rfl⟩
  have E6 : Aside0 (gudgeonref01_Same.f 40 q e2 = some true) := ⟨by rw [hq, he2]; kernel_rfl⟩
  have E7 : Aside0 (gudgeonref01_Same.f 40 r e3 = some true) := ⟨by rw [hr, he3]; kernel_rfl⟩
  have E8 : Aside0 (gudgeonref01_Same.f 40 g e4 = some true) := ⟨by rw [hg, he4]; kernel_rfl⟩
  have E9 : Aside0 (nat_Text.f 40 f1 = some (⟨#[52, 50, 57, 52, 57, 54, 55, 50, 57, 54]⟩ : ByteArray)) := ⟨by rw [hf1]; kernel_rfl⟩
  have HY := Aside0.mk (show a1 = [4294967295] ∧ a2 = [1] ∧ b1 = [100] ∧ b2 = [7] ∧ d1 = [12] ∧ d2 = [18] ∧ e1 = [0, 1] ∧ e2 = [14] ∧ e3 = [2] ∧ e4 = [6] ∧ f1 = [0, 1] from ⟨ha1, ha2, hb1, hb2, hd1, hd2, he1, he2, he3, he4, hf1⟩)
  clear ha1 ha2 hs hb1 hb2 hq hr hz hd1 hd2 hg he1 he2 he3 he4 hf1
  go_enter Tryd.func11, Tryd.ntmps11
  go_wp2_with (first
    | ((with_reducible refine gate_dst (N := 12) rfl ?_); (try (refine gate_guard (by rfl) ?_; dsimp only)); refine Kd.R_lit (Kd.int .u32) _ 43 ?hg (N := 12) ?hd (xs := ([4294967295] : List Int)) (inner := [.int .u32 4294967295]) (ok := fun _ => True) (okp := fun _ => True) ?hr ?hp (fun _ hk => hk) trivial (Below.refl _ _) (Nat.le_refl _) (by simp) ?_; (case hd => rfl); (case hg => rfl); (case hr => first | (go_simp; done) | (go_simp; rfl)); (case hp => exact (Reps.one (show Kd.M (Kd.int .u32) _ _ _ 4294967295 [.int .u32 4294967295] from rfl) (Reps.none _ _))); intro v w1 ho hb hg_ hnew_; clear hg_ hnew_; rw [← HY.out.1] at ho; obtain ⟨Aa1, ca1, rfl, hc_, hl_⟩ := row_of ho; have Ca1 := Aside0.mk hc_; have La1 := Aside0.mk hl_; clear hc_ hl_ ho; have n_ := Aside0.mk (below_step HB.out hb); clear HB; have HB := n_; clear n_ hb)
    | ((with_reducible refine gate_dst (N := 13) rfl ?_); (try (refine gate_guard (by rfl) ?_; dsimp only)); refine Kd.R_lit (Kd.int .u32) _ 43 ?hg (N := 13) ?hd (xs := ([1] : List Int)) (inner := [.int .u32 1]) (ok := fun _ => True) (okp := fun _ => True) ?hr ?hp (fun _ hk => hk) trivial (Below.refl _ _) (Nat.le_refl _) (by simp) ?_; (case hd => rfl); (case hg => rfl); (case hr => first | (go_simp; done) | (go_simp; rfl)); (case hp => exact (Reps.one (show Kd.M (Kd.int .u32) _ _ _ 1 [.int .u32 1] from rfl) (Reps.none _ _))); intro v w2 ho hb hg_ hnew_; clear hg_ hnew_; rw [← HY.out.2.1] at ho; obtain ⟨Aa2, ca2, rfl, hc_, hl_⟩ := row_of ho; have Ca2 := Aside0.mk hc_; have La2 := Aside0.mk hl_; clear hc_ hl_ ho; have n_a1 := Aside0.mk (Kd.C_below Ca1.out hb); clear Ca1; have Ca1 := n_a1; clear n_a1; have n_ := Aside0.mk (below_step HB.out hb); clear HB; have HB := n_; clear n_ hb)
    | (go_at_call 24; (with_reducible refine (nat_Add.calls 40 _ _ a1 _ _ a2 s _ ?s0 ?t0 ?s1 ?t1 E1.out).mono ?_); (case s0 => exact Ca1.out); (case t0 => exact La1.out); (case s1 => exact Ca2.out); (case t1 => exact La2.out); rintro e w3 ⟨v, rfl, ho, hb⟩; obtain ⟨As, cs, rfl, hc_, hl_⟩ := row_of ho; have Cs := Aside0.mk hc_; have Ls := Aside0.mk hl_; clear hc_ hl_ ho; have n_ := Aside0.mk (below_step HB.out hb); clear HB; have HB := n_; clear n_ hb)
    | ((with_reducible refine gate_dst (N := 16) rfl ?_); (try (refine gate_guard (by rfl) ?_; dsimp only)); refine Kd.R_lit (Kd.int .u32) _ 43 ?hg (N := 16) ?hd (xs := ([100] : List Int)) (inner := [.int .u32 100]) (ok := fun _ => True) (okp := fun _ => True) ?hr ?hp (fun _ hk => hk) trivial (Below.refl _ _) (Nat.le_refl _) (by simp) ?_; (case hd => rfl); (case hg => rfl); (case hr => first | (go_simp; done) | (go_simp; rfl)); (case hp => exact (Reps.one (show Kd.M (Kd.int .u32) _ _ _ 100 [.int .u32 100] from rfl) (Reps.none _ _))); intro v w4 ho hb hg_ hnew_; clear hg_ hnew_; rw [← HY.out.2.2.1] at ho; obtain ⟨Ab1, cb1, rfl, hc_, hl_⟩ := row_of ho; have Cb1 := Aside0.mk hc_; have Lb1 := Aside0.mk hl_; clear hc_ hl_ ho; have n_s := Aside0.mk (Kd.C_below Cs.out hb); clear Cs; have Cs := n_s; clear n_s; have n_ := Aside0.mk (below_step HB.out hb); clear HB; have HB := n_; clear n_ hb)
    | ((with_reducible refine gate_dst (N := 17) rfl ?_); (try (refine gate_guard (by rfl) ?_; dsimp only)); refine Kd.R_lit (Kd.int .u32) _ 43 ?hg (N := 17) ?hd (xs := ([7] : List Int)) (inner := [.int .u32 7]) (ok := fun _ => True) (okp := fun _ => True) ?hr ?hp (fun _ hk => hk) trivial (Below.refl _ _) (Nat.le_refl _) (by simp) ?_; (case hd => rfl); (case hg => rfl); (case hr => first | (go_simp; done) | (go_simp; rfl)); (case hp => exact (Reps.one (show Kd.M (Kd.int .u32) _ _ _ 7 [.int .u32 7] from rfl) (Reps.none _ _))); intro v w5 ho hb hg_ hnew_; clear hg_ hnew_; rw [← HY.out.2.2.2.1] at ho; obtain ⟨Ab2, cb2, rfl, hc_, hl_⟩ := row_of ho; have Cb2 := Aside0.mk hc_; have Lb2 := Aside0.mk hl_; clear hc_ hl_ ho; have n_s := Aside0.mk (Kd.C_below Cs.out hb); clear Cs; have Cs := n_s; clear n_s; have n_b1 := Aside0.mk (Kd.C_below Cb1.out hb); clear Cb1; have Cb1 := n_b1; clear n_b1; have n_ := Aside0.mk (below_step HB.out hb); clear HB; have HB := n_; clear n_ hb)
    | (go_at_call 13; (with_reducible refine (nat_DivMod.calls 40 _ _ b1 _ _ b2 q r 0 _ ?s0 ?t0 ?s1 ?t1 E2.out).mono ?_); (case s0 => exact Cb1.out); (case t0 => exact Lb1.out); (case s1 => exact Cb2.out); (case t1 => exact Lb2.out); rintro e w6 ⟨v, v', rfl, ho, ho', hb⟩; obtain ⟨Aq, cq, rfl, hc_, hl_⟩ := row_of ho; have Cq := Aside0.mk hc_; have Lq := Aside0.mk hl_; clear hc_ hl_ ho; obtain ⟨Ar, cr, rfl, hc_, hl_⟩ := row_of ho'; have Cr := Aside0.mk hc_; have Lr := Aside0.mk hl_; clear hc_ hl_ ho'; have n_s := Aside0.mk (Kd.C_below Cs.out hb); clear Cs; have Cs := n_s; clear n_s; have n_ := Aside0.mk (below_step HB.out hb); clear HB; have HB := n_; clear n_ hb)
    | (go_at_call 18; (with_reducible refine (nat_Parse.calls 40 (⟨#[48, 48, 55]⟩ : ByteArray) z 8 _ E3.out).mono ?_); rintro e w7 ⟨v, rfl, ho, hb⟩; obtain ⟨Az, cz, rfl, hc_, hl_⟩ := row_of ho; have Cz := Aside0.mk hc_; have Lz := Aside0.mk hl_; clear hc_ hl_ ho; have n_s := Aside0.mk (Kd.C_below Cs.out hb); clear Cs; have Cs := n_s; clear n_s; have n_q := Aside0.mk (Kd.C_below Cq.out hb); clear Cq; have Cq := n_q; clear n_q; have n_r := Aside0.mk (Kd.C_below Cr.out hb); clear Cr; have Cr := n_r; clear n_r; have n_ := Aside0.mk (below_step HB.out hb); clear HB; have HB := n_; clear n_ hb)
    | ((with_reducible refine gate_dst (N := 26) rfl ?_); (try (refine gate_guard (by rfl) ?_; dsimp only)); refine Kd.R_lit (Kd.int .u32) _ 43 ?hg (N := 26) ?hd (xs := ([12] : List Int)) (inner := [.int .u32 12]) (ok := fun _ => True) (okp := fun _ => True) ?hr ?hp (fun _ hk => hk) trivial (Below.refl _ _) (Nat.le_refl _) (by simp) ?_; (case hd => rfl); (case hg => rfl); (case hr => first | (go_simp; done) | (go_simp; rfl)); (case hp => exact (Reps.one (show Kd.M (Kd.int .u32) _ _ _ 12 [.int .u32 12] from rfl) (Reps.none _ _))); intro v w8 ho hb hg_ hnew_; clear hg_ hnew_; rw [← HY.out.2.2.2.2.1] at ho; obtain ⟨Ad1, cd1, rfl, hc_, hl_⟩ := row_of ho; have Cd1 := Aside0.mk hc_; have Ld1 := Aside0.mk hl_; clear hc_ hl_ ho; have n_s := Aside0.mk (Kd.C_below Cs.out hb); clear Cs; have Cs := n_s; clear n_s; have n_q := Aside0.mk (Kd.C_below Cq.out hb); clear Cq; have Cq := n_q; clear n_q; have n_r := Aside0.mk (Kd.C_below Cr.out hb); clear Cr; have Cr := n_r; clear n_r; have n_z := Aside0.mk (Kd.C_below Cz.out hb); clear Cz; have Cz := n_z; clear n_z; have n_ := Aside0.mk (below_step HB.out hb); clear HB; have HB := n_; clear n_ hb)
    | ((with_reducible refine gate_dst (N := 27) rfl ?_); (try (refine gate_guard (by rfl) ?_; dsimp only)); refine Kd.R_lit (Kd.int .u32) _ 43 ?hg (N := 27) ?hd (xs := ([18] : List Int)) (inner := [.int .u32 18]) (ok := fun _ => True) (okp := fun _ => True) ?hr ?hp (fun _ hk => hk) trivial (Below.refl _ _) (Nat.le_refl _) (by simp) ?_; (case hd => rfl); (case hg => rfl); (case hr => first | (go_simp; done) | (go_simp; rfl)); (case hp => exact (Reps.one (show Kd.M (Kd.int .u32) _ _ _ 18 [.int .u32 18] from rfl) (Reps.none _ _))); intro v w9 ho hb hg_ hnew_; clear hg_ hnew_; rw [← HY.out.2.2.2.2.2.1] at ho; obtain ⟨Ad2, cd2, rfl, hc_, hl_⟩ := row_of ho; have Cd2 := Aside0.mk hc_; have Ld2 := Aside0.mk hl_; clear hc_ hl_ ho; have n_s := Aside0.mk (Kd.C_below Cs.out hb); clear Cs; have Cs := n_s; clear n_s; have n_q := Aside0.mk (Kd.C_below Cq.out hb); clear Cq; have Cq := n_q; clear n_q; have n_r := Aside0.mk (Kd.C_below Cr.out hb); clear Cr; have Cr := n_r; clear n_r; have n_z := Aside0.mk (Kd.C_below Cz.out hb); clear Cz; have Cz := n_z; clear n_z; have n_d1 := Aside0.mk (Kd.C_below Cd1.out hb); clear Cd1; have Cd1 := n_d1; clear n_d1; have n_ := Aside0.mk (below_step HB.out hb); clear HB; have HB := n_; clear n_ hb)
    | (go_at_call 16; (with_reducible refine (nat_Gcd.calls 40 _ _ d1 _ _ d2 g _ ?s0 ?t0 ?s1 ?t1 E4.out).mono ?_); (case s0 => exact Cd1.out); (case t0 => exact Ld1.out); (case s1 => exact Cd2.out); (case t1 => exact Ld2.out); rintro e w10 ⟨v, rfl, ho, hb⟩; obtain ⟨Ag, cg, rfl, hc_, hl_⟩ := row_of ho; have Cg := Aside0.mk hc_; have Lg := Aside0.mk hl_; clear hc_ hl_ ho; have n_s := Aside0.mk (Kd.C_below Cs.out hb); clear Cs; have Cs := n_s; clear n_s; have n_q := Aside0.mk (Kd.C_below Cq.out hb); clear Cq; have Cq := n_q; clear n_q; have n_r := Aside0.mk (Kd.C_below Cr.out hb); clear Cr; have Cr := n_r; clear n_r; have n_ := Aside0.mk (below_step HB.out hb); clear HB; have HB := n_; clear n_ hb)
    | ((with_reducible refine gate_dst (N := 30) rfl ?_); (try (refine gate_guard (by rfl) ?_; dsimp only)); refine Kd.R_lit (Kd.int .u32) _ 43 ?hg (N := 30) ?hd (xs := ([0, 1] : List Int)) (inner := [.int .u32 0, .int .u32 1]) (ok := fun _ => True) (okp := fun _ => True) ?hr ?hp (fun _ hk => hk) trivial (Below.refl _ _) (Nat.le_refl _) (by simp) ?_; (case hd => rfl); (case hg => rfl); (case hr => first | (go_simp; done) | (go_simp; rfl)); (case hp => exact (Reps.one (show Kd.M (Kd.int .u32) _ _ _ 0 [.int .u32 0] from rfl) (Reps.one (show Kd.M (Kd.int .u32) _ _ _ 1 [.int .u32 1] from rfl) (Reps.none _ _)))); intro v w11 ho hb hg_ hnew_; clear hg_ hnew_; rw [← HY.out.2.2.2.2.2.2.1] at ho; obtain ⟨Ae1, ce1, rfl, hc_, hl_⟩ := row_of ho; have Ce1 := Aside0.mk hc_; have Le1 := Aside0.mk hl_; clear hc_ hl_ ho; have n_s := Aside0.mk (Kd.C_below Cs.out hb); clear Cs; have Cs := n_s; clear n_s; have n_q := Aside0.mk (Kd.C_below Cq.out hb); clear Cq; have Cq := n_q; clear n_q; have n_r := Aside0.mk (Kd.C_below Cr.out hb); clear Cr; have Cr := n_r; clear n_r; have n_g := Aside0.mk (Kd.C_below Cg.out hb); clear Cg; have Cg := n_g; clear n_g; have n_ := Aside0.mk (below_step HB.out hb); clear HB; have HB := n_; clear n_ hb)
    | (go_at_call 15; (with_reducible refine (gudgeonref01_Same.calls 40 _ _ s _ _ e1 true _ ?s0 ?t0 ?s1 ?t1 E5.out).mono ?_); (case s0 => exact Cs.out); (case t0 => exact Ls.out); (case s1 => exact Ce1.out); (case t1 => exact Le1.out); rintro e w12 ⟨rfl, ⟨nd, rfl⟩⟩; have n_q := Aside0.mk (Kd.C_drewN Cq.out nd); clear Cq; have Cq := n_q; clear n_q; have n_r := Aside0.mk (Kd.C_drewN Cr.out nd); clear Cr; have Cr := n_r; clear n_r; have n_g := Aside0.mk (Kd.C_drewN Cg.out nd); clear Cg; have Cg := n_g; clear n_g; have n_ := Aside0.mk (pw_below_drewN HB.out nd); clear HB; have HB := n_; clear n_)
    | ((with_reducible refine gate_dst (N := 33) rfl ?_); (try (refine gate_guard (by rfl) ?_; dsimp only)); refine Kd.R_lit (Kd.int .u32) _ 43 ?hg (N := 33) ?hd (xs := ([14] : List Int)) (inner := [.int .u32 14]) (ok := fun _ => True) (okp := fun _ => True) ?hr ?hp (fun _ hk => hk) trivial (Below.refl _ _) (Nat.le_refl _) (by simp) ?_; (case hd => rfl); (case hg => rfl); (case hr => first | (go_simp; done) | (go_simp; rfl)); (case hp => exact (Reps.one (show Kd.M (Kd.int .u32) _ _ _ 14 [.int .u32 14] from rfl) (Reps.none _ _))); intro v w13 ho hb hg_ hnew_; clear hg_ hnew_; rw [← HY.out.2.2.2.2.2.2.2.1] at ho; obtain ⟨Ae2, ce2, rfl, hc_, hl_⟩ := row_of ho; have Ce2 := Aside0.mk hc_; have Le2 := Aside0.mk hl_; clear hc_ hl_ ho; have n_q := Aside0.mk (Kd.C_below Cq.out hb); clear Cq; have Cq := n_q; clear n_q; have n_r := Aside0.mk (Kd.C_below Cr.out hb); clear Cr; have Cr := n_r; clear n_r; have n_g := Aside0.mk (Kd.C_below Cg.out hb); clear Cg; have Cg := n_g; clear n_g; have n_ := Aside0.mk (below_step HB.out hb); clear HB; have HB := n_; clear n_ hb)
    | (go_at_call 15; (with_reducible refine (gudgeonref01_Same.calls 40 _ _ q _ _ e2 true _ ?s0 ?t0 ?s1 ?t1 E6.out).mono ?_); (case s0 => exact Cq.out); (case t0 => exact Lq.out); (case s1 => exact Ce2.out); (case t1 => exact Le2.out); rintro e w14 ⟨rfl, ⟨nd, rfl⟩⟩; have n_r := Aside0.mk (Kd.C_drewN Cr.out nd); clear Cr; have Cr := n_r; clear n_r; have n_g := Aside0.mk (Kd.C_drewN Cg.out nd); clear Cg; have Cg := n_g; clear n_g; have n_ := Aside0.mk (pw_below_drewN HB.out nd); clear HB; have HB := n_; clear n_)
    | ((with_reducible refine gate_dst (N := 36) rfl ?_); (try (refine gate_guard (by rfl) ?_; dsimp only)); refine Kd.R_lit (Kd.int .u32) _ 43 ?hg (N := 36) ?hd (xs := ([2] : List Int)) (inner := [.int .u32 2]) (ok := fun _ => True) (okp := fun _ => True) ?hr ?hp (fun _ hk => hk) trivial (Below.refl _ _) (Nat.le_refl _) (by simp) ?_; (case hd => rfl); (case hg => rfl); (case hr => first | (go_simp; done) | (go_simp; rfl)); (case hp => exact (Reps.one (show Kd.M (Kd.int .u32) _ _ _ 2 [.int .u32 2] from rfl) (Reps.none _ _))); intro v w15 ho hb hg_ hnew_; clear hg_ hnew_; rw [← HY.out.2.2.2.2.2.2.2.2.1] at ho; obtain ⟨Ae3, ce3, rfl, hc_, hl_⟩ := row_of ho; have Ce3 := Aside0.mk hc_; have Le3 := Aside0.mk hl_; clear hc_ hl_ ho; have n_r := Aside0.mk (Kd.C_below Cr.out hb); clear Cr; have Cr := n_r; clear n_r; have n_g := Aside0.mk (Kd.C_below Cg.out hb); clear Cg; have Cg := n_g; clear n_g; have n_ := Aside0.mk (below_step HB.out hb); clear HB; have HB := n_; clear n_ hb)
    | (go_at_call 15; (with_reducible refine (gudgeonref01_Same.calls 40 _ _ r _ _ e3 true _ ?s0 ?t0 ?s1 ?t1 E7.out).mono ?_); (case s0 => exact Cr.out); (case t0 => exact Lr.out); (case s1 => exact Ce3.out); (case t1 => exact Le3.out); rintro e w16 ⟨rfl, ⟨nd, rfl⟩⟩; have n_g := Aside0.mk (Kd.C_drewN Cg.out nd); clear Cg; have Cg := n_g; clear n_g; have n_ := Aside0.mk (pw_below_drewN HB.out nd); clear HB; have HB := n_; clear n_)
    | ((with_reducible refine gate_dst (N := 39) rfl ?_); (try (refine gate_guard (by rfl) ?_; dsimp only)); refine Kd.R_lit (Kd.int .u32) _ 43 ?hg (N := 39) ?hd (xs := ([6] : List Int)) (inner := [.int .u32 6]) (ok := fun _ => True) (okp := fun _ => True) ?hr ?hp (fun _ hk => hk) trivial (Below.refl _ _) (Nat.le_refl _) (by simp) ?_; (case hd => rfl); (case hg => rfl); (case hr => first | (go_simp; done) | (go_simp; rfl)); (case hp => exact (Reps.one (show Kd.M (Kd.int .u32) _ _ _ 6 [.int .u32 6] from rfl) (Reps.none _ _))); intro v w17 ho hb hg_ hnew_; clear hg_ hnew_; rw [← HY.out.2.2.2.2.2.2.2.2.2.1] at ho; obtain ⟨Ae4, ce4, rfl, hc_, hl_⟩ := row_of ho; have Ce4 := Aside0.mk hc_; have Le4 := Aside0.mk hl_; clear hc_ hl_ ho; have n_g := Aside0.mk (Kd.C_below Cg.out hb); clear Cg; have Cg := n_g; clear n_g; have n_ := Aside0.mk (below_step HB.out hb); clear HB; have HB := n_; clear n_ hb)
    | (go_at_call 15; (with_reducible refine (gudgeonref01_Same.calls 40 _ _ g _ _ e4 true _ ?s0 ?t0 ?s1 ?t1 E8.out).mono ?_); (case s0 => exact Cg.out); (case t0 => exact Lg.out); (case s1 => exact Ce4.out); (case t1 => exact Le4.out); rintro e w18 ⟨rfl, ⟨nd, rfl⟩⟩; have n_ := Aside0.mk (pw_below_drewN HB.out nd); clear HB; have HB := n_; clear n_)
    | ((with_reducible refine gate_dst (N := 60) rfl ?_); (try (refine gate_guard (by rfl) ?_; dsimp only)); refine Kd.R_lit (Kd.int .u32) _ 43 ?hg (N := 60) ?hd (xs := ([0, 1] : List Int)) (inner := [.int .u32 0, .int .u32 1]) (ok := fun _ => True) (okp := fun _ => True) ?hr ?hp (fun _ hk => hk) trivial (Below.refl _ _) (Nat.le_refl _) (by simp) ?_; (case hd => rfl); (case hg => rfl); (case hr => first | (go_simp; done) | (go_simp; rfl)); (case hp => exact (Reps.one (show Kd.M (Kd.int .u32) _ _ _ 0 [.int .u32 0] from rfl) (Reps.one (show Kd.M (Kd.int .u32) _ _ _ 1 [.int .u32 1] from rfl) (Reps.none _ _)))); intro v w19 ho hb hg_ hnew_; clear hg_ hnew_; rw [← HY.out.2.2.2.2.2.2.2.2.2.2] at ho; obtain ⟨Af1, cf1, rfl, hc_, hl_⟩ := row_of ho; have Cf1 := Aside0.mk hc_; have Lf1 := Aside0.mk hl_; clear hc_ hl_ ho; have n_ := Aside0.mk (below_step HB.out hb); clear HB; have HB := n_; clear n_ hb)
    | (go_at_call 20; (with_reducible refine (nat_Text.calls 40 _ _ f1 (⟨#[52, 50, 57, 52, 57, 54, 55, 50, 57, 54]⟩ : ByteArray) _ ?s0 ?t0 E9.out).mono ?_); (case s0 => exact Cf1.out); (case t0 => exact Lf1.out); rintro e w20 ⟨rfl, hb⟩; have n_ := Aside0.mk (below_step HB.out hb); clear HB; have HB := n_; clear n_ hb))
  go_ret
  exact ⟨rfl, HB.out⟩
end Go.Proofs.YtlfpnohpcemkgaaDoor.H
/- Written by a program of this session, wip/tools/patch_print.py, over the kit's print of the loaded functions. -/
namespace Go.Proofs.YtlfpnohpcemkgaaDoor.H
end Go.Proofs.YtlfpnohpcemkgaaDoor.H
namespace Go.Proofs.YtlfpnohpcemkgaaDoor.PA
open Go.RowKit Go.Proofs.YtlfpnohpcemkgaaDoorW.PrintWords Go.Proofs.YtlfpnohpcemkgaaDoorW.PrintLast Go.Proofs.YtlfpnohpcemkgaaDoorW.PrintMore Go.Proofs.YtlfpnohpcemkgaaDoor.H
attribute [local go_sem] max2_int min2_int max_two min_two max_three min_three max_four min_four   -- for this text's walks alone
set_option linter.unusedVariables false
set_option linter.unusedSimpArgs false

/-! ### gudgeonlaw01_NatTexts: function 4 -/
def gudgeonlaw01_NatTexts.j0 : Nat → List Int → ByteArray → Bool → Bool → Option (Bool)
 | 0, _, _, _, _ => none
 | k + 1, x0, x1, x5, x23 => if x23 = true then (some x5) else ((nat_Parse.f k x1).bind fun bt638 => ((gudgeonref01_Parse.f k x1).bind fun bt642 => ((gudgeonref01_Same.f k bt638.1 bt642.1).bind fun t646 => (if t646 = true then (if bt638.2 = bt642.2 then ((nat_Text.f k x0).bind fun t647 => ((gudgeonref01_Text.f k x0).bind fun t648 => (some (t647.toList == t648.toList)))) else (some false)) else (some false)))))
def gudgeonlaw01_NatTexts.f (k : Nat) (l0 : List Int) (a1 : ByteArray) : Option (Bool) := (gudgeonlaw01_awake.f).bind fun t637 => (if t637 = true then (if (l0.length : Int) > 24 then (gudgeonlaw01_NatTexts.j0 k l0 a1 t637 true) else (gudgeonlaw01_NatTexts.j0 k l0 a1 t637 (decide ((a1.size : Int) > 200)))) else (gudgeonlaw01_NatTexts.j0 k l0 a1 t637 true))
theorem gudgeonlaw01_NatTexts.mono_l : ∀ k, (∀ y0 y1 y2 y3, LeO (gudgeonlaw01_NatTexts.j0 k y0 y1 y2 y3) (gudgeonlaw01_NatTexts.j0 (k + 1) y0 y1 y2 y3))
 | 0 => fun _ _ _ _ r h => by simp [gudgeonlaw01_NatTexts.j0] at h
 | k + 1 => by
  have ih0 := gudgeonlaw01_NatTexts.mono_l k
  ·intro y0 y1 y2 y3
   unfold gudgeonlaw01_NatTexts.j0
   repeat' first
   | (with_reducible exact ih0 _ _ _ _)
   | (with_reducible exact gudgeonref01_Parse.mono _ _)
   | (with_reducible exact gudgeonref01_Same.mono _ _ _)
   | (with_reducible exact gudgeonref01_Text.mono _ _)
   | (with_reducible exact nat_Parse.mono _ _)
   | (with_reducible exact nat_Text.mono _ _)
   | (with_reducible exact LeO.refl _)
   | (with_reducible exact LeO.none _)
   | (with_reducible refine LeO.ite ?_ ?_)
   | (with_reducible refine LeO.bind ?_ (fun _ => ?_))
   | exact ih0 _ _ _ _
   | exact gudgeonref01_Parse.mono _ _
   | exact gudgeonref01_Same.mono _ _ _
   | exact gudgeonref01_Text.mono _ _
   | exact nat_Parse.mono _ _
   | exact nat_Text.mono _ _
   | exact LeO.none _
   | refine LeO.ite ?_ ?_
   | refine LeO.bind ?_ (fun _ => ?_)
theorem gudgeonlaw01_NatTexts.mono : ∀ a0 a1 k, LeO (gudgeonlaw01_NatTexts.f k a0 a1) (gudgeonlaw01_NatTexts.f (k + 1) a0 a1) := by
 intro a0 a1 k
 have ih0 := gudgeonlaw01_NatTexts.mono_l k
 unfold gudgeonlaw01_NatTexts.f
 repeat' first
   | (with_reducible exact ih0 _ _ _ _)
   | (with_reducible exact gudgeonref01_Parse.mono _ _)
   | (with_reducible exact gudgeonref01_Same.mono _ _ _)
   | (with_reducible exact gudgeonref01_Text.mono _ _)
   | (with_reducible exact nat_Parse.mono _ _)
   | (with_reducible exact nat_Text.mono _ _)
   | (with_reducible exact LeO.refl _)
   | (with_reducible exact LeO.none _)
   | (with_reducible refine LeO.ite ?_ ?_)
   | (with_reducible refine LeO.bind ?_ (fun _ => ?_))
   | exact ih0 _ _ _ _
   | exact gudgeonref01_Parse.mono _ _
   | exact gudgeonref01_Same.mono _ _ _
   | exact gudgeonref01_Text.mono _ _
   | exact nat_Parse.mono _ _
   | exact nat_Text.mono _ _
   | exact LeO.none _
   | refine LeO.ite ?_ ?_
   | refine LeO.bind ?_ (fun _ => ?_)
set_option maxHeartbeats 8000000 in
set_option maxRecDepth 100000 in
theorem gudgeonlaw01_NatTexts.calls (k : Nat) (A0 : Option Addr) (c0 : Nat) (l0 : List Int) (a1 : ByteArray) (r : Bool) (w : World) (hr0 : Kd.C (Kd.int .u32) w A0 l0.length l0) (hc0 : l0.length ≤ c0) (h : gudgeonlaw01_NatTexts.f k l0 a1 = some r) :
  Calls Tryd.prog 4 #[.slice A0 l0.length c0, .string a1] w fun e w' => e = .returned (.bool r) ∧ Below w.heap.size w w' := by
 have HR0 := Aside0.mk hr0
 have HC0 := Aside0.mk hc0
 clear hr0 hc0
 have HB := Aside0.mk (Below.refl w.heap.size w)
 have H : ((gudgeonlaw01_awake.f).bind fun t637 => (if t637 = true then (if (l0.length : Int) > 24 then (gudgeonlaw01_NatTexts.j0 k l0 a1 t637 true) else (gudgeonlaw01_NatTexts.j0 k l0 a1 t637 (decide ((a1.size : Int) > 200)))) else (gudgeonlaw01_NatTexts.j0 k l0 a1 t637 true))) = some r := h
 clear h
 replace H := Option.bind_eq_some_iff.mp H
 obtain ⟨t637, A30, H⟩ := H
 replace H : (if t637 = true then (if (l0.length : Int) > 24 then (gudgeonlaw01_NatTexts.j0 k l0 a1 t637 true) else (gudgeonlaw01_NatTexts.j0 k l0 a1 t637 (decide ((a1.size : Int) > 200)))) else (gudgeonlaw01_NatTexts.j0 k l0 a1 t637 true)) = some r := H
 have A3 := Aside0.mk A30
 clear A30
 have HC4 := Aside0.mk H
 clear H
 go_enter Tryd.func4, Tryd.ntmps4
 go_upto_region 2 with (first | ((with_reducible refine gate_callee (f := 11) rfl ?_); refine goesL_ (some 11) rfl rfl Tryd.func11 (by kernel_rfl) rfl #[] rfl (by (try simp only [List.map_toArray, List.map_cons, List.map_nil]); first | done | rfl | (simp only [List.length_drop, List.length_take]; rfl)) ?_; (with_reducible refine (gudgeonlaw01_awake.calls  t637 _ A3.out).mono ?_); rintro e w5 ⟨rfl, hb⟩; refine ⟨_, rfl, ?_⟩; have n0_ := Aside0.mk (below_step (by repeat (first | (with_reducible first | exact HB.out | apply below_alloc | apply pw_below_drewN | apply below_drew1) | exact HB.out)) hb); clear HB; have HB := n0_; clear n0_; (try clear hb); (try clear hb2); (try clear hk); (try clear hi)))
 (try simp only [Act.put, List.setIfInBounds_toArray, List.set_cons_zero, List.set_cons_succ])
 go_cut [23] (fun v23 wc => ∃ (kq : Nat) (x23_3 : Bool), v23 = .bool x23_3 ∧ Aside0 (gudgeonlaw01_NatTexts.j0 kq l0 a1 t637 x23_3 = some r) ∧ Aside0 (kq ≤ k) ∧ Aside0 (Below w.heap.size w wc))
 case first =>
  have H := HC4.out
  clear HC4
  by_cases c6 : t637 = true
  ·subst c6
   have H1 : (if (l0.length : Int) > 24 then (gudgeonlaw01_NatTexts.j0 k l0 a1 true true) else (gudgeonlaw01_NatTexts.j0 k l0 a1 true (decide ((a1.size : Int) > 200)))) = some r := by rw [if_pos rfl] at H; exact H
   clear H
   have H := H1
   clear H1
   by_cases c7 : (l0.length : Int) > 24
   ·rw [if_pos c7] at H
    have c7b0 : decide (24 < (l0.length : Int)) = true := decide_eq_true c7
    have c7b1 : decide (24 < l0.length) = true := decide_eq_true (by omega)
    clear c7
    (first | rw [c7b0] | rw [c7b1] | (simp only [i64_w, i32_w]; rw [c7b0]) | skip)
    have H' := Aside0.mk H
    clear H
    go_wp2
    go_meet
    case rel => exact ⟨_, (true), (by first | rfl | (simp; done) | (simp [*]; done) | (refine congrArg (Value.int _) ?_; omega) | (refine congrArg Value.bool ?_; generalize ByteArray.toList _ = z_; cases z_ <;> rfl)), H', ⟨by first | omega | exact Nat.le_refl _⟩, ⟨by repeat (first | (with_reducible first | exact HB.out | apply below_alloc | apply pw_below_drewN | apply below_drew1) | exact HB.out)⟩⟩
   ·rw [if_neg c7] at H
    have c7b0 : decide (24 < (l0.length : Int)) = false := decide_eq_false c7
    have c7b1 : decide (24 < l0.length) = false := decide_eq_false (by omega)
    clear c7
    (first | rw [c7b0] | rw [c7b1] | (simp only [i64_w, i32_w]; rw [c7b0]) | skip)
    have H' := Aside0.mk H
    clear H
    go_wp2
    go_meet
    case rel => exact ⟨_, (decide ((a1.size : Int) > 200)), (by first | rfl | (simp; done) | (simp [*]; done) | (refine congrArg (Value.int _) ?_; omega) | (refine congrArg Value.bool ?_; generalize ByteArray.toList _ = z_; cases z_ <;> rfl)), H', ⟨by first | omega | exact Nat.le_refl _⟩, ⟨by repeat (first | (with_reducible first | exact HB.out | apply below_alloc | apply pw_below_drewN | apply below_drew1) | exact HB.out)⟩⟩
  ·replace c6 := Bool.eq_false_iff.mpr c6
   subst c6
   have H1 : (gudgeonlaw01_NatTexts.j0 k l0 a1 false true) = some r := by rw [if_neg (show ¬ (false = true) by decide)] at H; exact H
   clear H
   have H := H1
   clear H1
   have H' := Aside0.mk H
   clear H
   go_wp2
   go_meet
   case rel => exact ⟨_, (true), (by first | rfl | (simp; done) | (simp [*]; done) | (refine congrArg (Value.int _) ?_; omega) | (refine congrArg Value.bool ?_; generalize ByteArray.toList _ = z_; cases z_ <;> rfl)), H', ⟨by first | omega | exact Nat.le_refl _⟩, ⟨by repeat (first | (with_reducible first | exact HB.out | apply below_alloc | apply pw_below_drewN | apply below_drew1) | exact HB.out)⟩⟩
 case rest =>
  clear HC4
  try clear c1
  try clear p2
  try clear c4
  try clear c6
  try clear c7
  try clear c7b0
  try clear c7b1
  obtain ⟨kq, x23_3, rfl, HA, HJ3, HB⟩ := hcut
  cases kq with
  | zero => exact absurd HA.out (by simp [gudgeonlaw01_NatTexts.j0])
  | succ kj3 =>
   have H := HA.out
   clear HA
   simp only [gudgeonlaw01_NatTexts.j0] at H
   by_cases c8 : x23_3 = true
   ·subst c8
    have H1 : (some t637) = some r := by rw [if_pos rfl] at H; exact H
    clear H
    have H := H1
    clear H1
    obtain rfl := Option.some.inj H
    go_wp2
    go_ret
    exact ⟨by first | rfl | (simp [errW_none, errW_some] <;> rfl) | (simp [*, errW_none, errW_some] <;> rfl), by repeat (first | (with_reducible first | exact HB.out | apply below_alloc | apply pw_below_drewN | apply below_drew1) | exact HB.out)⟩
   ·replace c8 := Bool.eq_false_iff.mpr c8
    subst c8
    have H1 : ((nat_Parse.f kj3 a1).bind fun bt638 => ((gudgeonref01_Parse.f kj3 a1).bind fun bt642 => ((gudgeonref01_Same.f kj3 bt638.1 bt642.1).bind fun t646 => (if t646 = true then (if bt638.2 = bt642.2 then ((nat_Text.f kj3 l0).bind fun t647 => ((gudgeonref01_Text.f kj3 l0).bind fun t648 => (some (t647.toList == t648.toList)))) else (some false)) else (some false))))) = some r := by rw [if_neg (show ¬ (false = true) by decide)] at H; exact H
    clear H
    have H := H1
    clear H1
    replace H := Option.bind_eq_some_iff.mp H
    obtain ⟨⟨t638, t639⟩, A90, H⟩ := H
    replace H : ((gudgeonref01_Parse.f kj3 a1).bind fun bt642 => ((gudgeonref01_Same.f kj3 t638 bt642.1).bind fun t646 => (if t646 = true then (if t639 = bt642.2 then ((nat_Text.f kj3 l0).bind fun t647 => ((gudgeonref01_Text.f kj3 l0).bind fun t648 => (some (t647.toList == t648.toList)))) else (some false)) else (some false)))) = some r := H
    have A9 := Aside0.mk A90
    clear A90
    replace H := Option.bind_eq_some_iff.mp H
    obtain ⟨⟨t642, t643⟩, A100, H⟩ := H
    replace H : ((gudgeonref01_Same.f kj3 t638 t642).bind fun t646 => (if t646 = true then (if t639 = t643 then ((nat_Text.f kj3 l0).bind fun t647 => ((gudgeonref01_Text.f kj3 l0).bind fun t648 => (some (t647.toList == t648.toList)))) else (some false)) else (some false))) = some r := H
    have A10 := Aside0.mk A100
    clear A100
    replace H := Option.bind_eq_some_iff.mp H
    obtain ⟨t646, A110, H⟩ := H
    replace H : (if t646 = true then (if t639 = t643 then ((nat_Text.f kj3 l0).bind fun t647 => ((gudgeonref01_Text.f kj3 l0).bind fun t648 => (some (t647.toList == t648.toList)))) else (some false)) else (some false)) = some r := H
    have A11 := Aside0.mk A110
    clear A110
    by_cases c12 : t646 = true
    ·subst c12
     have H1 : (if t639 = t643 then ((nat_Text.f kj3 l0).bind fun t647 => ((gudgeonref01_Text.f kj3 l0).bind fun t648 => (some (t647.toList == t648.toList)))) else (some false)) = some r := by rw [if_pos rfl] at H; exact H
     clear H
     have H := H1
     clear H1
     by_cases c13 : t639 = t643
     ·rw [if_pos c13] at H
      have c13b0 : (t639 == t643) = true := beq_iff_eq.mpr c13
      have c13b1 : (t639 != t643) = false := bne_eq_false_iff_eq.mpr c13
      clear c13
      replace H := Option.bind_eq_some_iff.mp H
      obtain ⟨t647, A140, H⟩ := H
      replace H : ((gudgeonref01_Text.f kj3 l0).bind fun t648 => (some (t647.toList == t648.toList))) = some r := H
      have A14 := Aside0.mk A140
      clear A140
      replace H := Option.bind_eq_some_iff.mp H
      obtain ⟨t648, A150, H⟩ := H
      replace H : (some (t647.toList == t648.toList)) = some r := H
      have A15 := Aside0.mk A150
      clear A150
      obtain rfl := Option.some.inj H
      go_wp2_with (first | ((with_reducible refine gate_callee (f := 18) rfl ?_); refine goesL_ (some 27) rfl rfl Tryd.func18 (by kernel_rfl) rfl #[.string a1] rfl (by (try simp only [List.map_toArray, List.map_cons, List.map_nil]); first | done | rfl | (simp only [List.length_drop, List.length_take]; rfl)) ?_; (with_reducible refine (nat_Parse.calls kj3 a1 t638 t639 _ A9.out).mono ?_); rintro e w16 ⟨v640, rfl, ho0, hb⟩; refine ⟨_, rfl, ?_⟩; have n0_ := Aside0.mk (Kd.R_lower ho0 (below_size (by repeat (first | (with_reducible first | exact HB.out | apply below_alloc | apply pw_below_drewN | apply below_drew1) | exact HB.out)))); have n1_ := Aside0.mk (below_step (by repeat (first | (with_reducible first | exact HB.out | apply below_alloc | apply pw_below_drewN | apply below_drew1) | exact HB.out)) hb); clear HB; have HO641 := n0_; have HB := n1_; clear n0_ n1_; (try clear hb); (try clear hb2); (try clear hk); (try clear hi); (try clear ho0)) | ((with_reducible refine gate_callee (f := 19) rfl ?_); refine goesL_ (some 32) rfl rfl Tryd.func19 (by kernel_rfl) rfl #[.string a1] rfl (by (try simp only [List.map_toArray, List.map_cons, List.map_nil]); first | done | rfl | (simp only [List.length_drop, List.length_take]; rfl)) ?_; (with_reducible refine (gudgeonref01_Parse.calls kj3 a1 t642 t643 _ A10.out).mono ?_); rintro e w17 ⟨v644, rfl, ho0, hb⟩; refine ⟨_, rfl, ?_⟩; have n0_ := Aside0.mk (Kd.R_elder' (by (with_reducible repeat (first | apply Kd.R_alloc | apply Kd.R_drewN | apply Kd.R_drew)); exact HO641.out) (Kd.R_base ho0) hb); have n1_ := Aside0.mk (Kd.R_lower (Kd.R_new' ho0 (Kd.R_lt (by (with_reducible repeat (first | apply Kd.R_alloc | apply Kd.R_drewN | apply Kd.R_drew)); exact HO641.out))) (below_size (by repeat (first | (with_reducible first | exact HB.out | apply below_alloc | apply pw_below_drewN | apply below_drew1) | exact HB.out)))); have n2_ := Aside0.mk (below_step (by repeat (first | (with_reducible first | exact HB.out | apply below_alloc | apply pw_below_drewN | apply below_drew1) | exact HB.out)) hb); clear HO641; clear HB; have HO641 := n0_; have HO645 := n1_; have HB := n2_; clear n0_ n1_ n2_; (try clear hb); (try clear hb2); (try clear hk); (try clear hi); (try clear ho0); obtain ⟨Ao18, co18, eo18⟩ := Kd.R_slice HO641.out; subst eo18; obtain ⟨Ao19, co19, eo19⟩ := Kd.R_slice HO645.out; subst eo19) | ((with_reducible refine gate_callee (f := 15) rfl ?_); refine goesL_ (some 37) rfl rfl Tryd.func15 (by kernel_rfl) rfl #[.slice Ao18 t638.length co18, .slice Ao19 t642.length co19] rfl (by (try simp only [List.map_toArray, List.map_cons, List.map_nil]); first | done | rfl | (simp only [List.length_drop, List.length_take]; rfl)) ?_; (with_reducible refine (gudgeonref01_Same.calls kj3 _ _ t638 _ _ t642 true _ ?side1 ?side2 ?side3 ?side4 A11.out).mono ?_); (case side1 => repeat (first | exact (Kd.R_reads' HO641.out).2.2 | (with_reducible refine Kd.C_alloc ?_ _) | (with_reducible refine Kd.C_drewN ?_ _) | (with_reducible refine Kd.C_drew ?_))); (case side2 => exact (Kd.R_reads' HO641.out).2.1); (case side3 => repeat (first | exact (Kd.R_reads' HO645.out).2.2 | (with_reducible refine Kd.C_alloc ?_ _) | (with_reducible refine Kd.C_drewN ?_ _) | (with_reducible refine Kd.C_drew ?_))); (case side4 => exact (Kd.R_reads' HO645.out).2.1); rintro e w' ⟨rfl, ⟨nd, rfl⟩⟩; refine ⟨_, rfl, ?_⟩) | (go_at_call 20; (with_reducible refine (nat_Text.calls kj3 _ _ l0 t647 _ ?side1 ?side2 A14.out).mono ?_); (case side1 => repeat (first | exact (Kd.C_below HR0.out (by repeat (first | (with_reducible first | exact HB.out | apply below_alloc | apply pw_below_drewN | apply below_drew1) | exact HB.out))) | (with_reducible refine Kd.C_alloc ?_ _) | (with_reducible refine Kd.C_drewN ?_ _) | (with_reducible refine Kd.C_drew ?_))); (case side2 => exact HC0.out); rintro e w20 ⟨rfl, hb⟩; have n0_ := Aside0.mk (Kd.R_below (by (with_reducible repeat (first | apply Kd.R_alloc | apply Kd.R_drewN | apply Kd.R_drew)); exact HO641.out) hb); have n1_ := Aside0.mk (Kd.R_below (by (with_reducible repeat (first | apply Kd.R_alloc | apply Kd.R_drewN | apply Kd.R_drew)); exact HO645.out) hb); have n2_ := Aside0.mk (below_step (by repeat (first | (with_reducible first | exact HB.out | apply below_alloc | apply pw_below_drewN | apply below_drew1) | exact HB.out)) hb); clear HO641; clear HO645; clear HB; have HO641 := n0_; have HO645 := n1_; have HB := n2_; clear n0_ n1_ n2_; (try clear hb); (try clear hb2); (try clear hk); (try clear hi)) | (go_at_call 21; (with_reducible refine (gudgeonref01_Text.calls kj3 _ _ l0 t648 _ ?side1 ?side2 A15.out).mono ?_); (case side1 => repeat (first | exact (Kd.C_below HR0.out HB.out) | (with_reducible refine Kd.C_alloc ?_ _) | (with_reducible refine Kd.C_drewN ?_ _) | (with_reducible refine Kd.C_drew ?_))); (case side2 => exact HC0.out); rintro e w21 ⟨rfl, hb⟩; have n0_ := Aside0.mk (Kd.R_below (by (with_reducible repeat (first | apply Kd.R_alloc | apply Kd.R_drewN | apply Kd.R_drew)); exact HO641.out) hb); have n1_ := Aside0.mk (Kd.R_below (by (with_reducible repeat (first | apply Kd.R_alloc | apply Kd.R_drewN | apply Kd.R_drew)); exact HO645.out) hb); have n2_ := Aside0.mk (below_step (by repeat (first | (with_reducible first | exact HB.out | apply below_alloc | apply pw_below_drewN | apply below_drew1) | exact HB.out)) hb); clear HO641; clear HO645; clear HB; have HO641 := n0_; have HO645 := n1_; have HB := n2_; clear n0_ n1_ n2_; (try clear hb); (try clear hb2); (try clear hk); (try clear hi)))
      go_ret
      exact ⟨by first | rfl | (simp [errW_none, errW_some] <;> rfl) | (simp [*, errW_none, errW_some] <;> rfl), by repeat (first | (with_reducible first | exact HB.out | apply below_alloc | apply pw_below_drewN | apply below_drew1) | exact HB.out)⟩
     ·rw [if_neg c13] at H
      have c13b0 : (t639 == t643) = false := beq_eq_false_iff_ne.mpr c13
      have c13b1 : (t639 != t643) = true := bne_iff_ne.mpr c13
      obtain rfl := Option.some.inj H
      go_wp2_with (first | ((with_reducible refine gate_callee (f := 18) rfl ?_); refine goesL_ (some 27) rfl rfl Tryd.func18 (by kernel_rfl) rfl #[.string a1] rfl (by (try simp only [List.map_toArray, List.map_cons, List.map_nil]); first | done | rfl | (simp only [List.length_drop, List.length_take]; rfl)) ?_; (with_reducible refine (nat_Parse.calls kj3 a1 t638 t639 _ A9.out).mono ?_); rintro e w22 ⟨v640, rfl, ho0, hb⟩; refine ⟨_, rfl, ?_⟩; have n0_ := Aside0.mk (Kd.R_lower ho0 (below_size (by repeat (first | (with_reducible first | exact HB.out | apply below_alloc | apply pw_below_drewN | apply below_drew1) | exact HB.out)))); have n1_ := Aside0.mk (below_step (by repeat (first | (with_reducible first | exact HB.out | apply below_alloc | apply pw_below_drewN | apply below_drew1) | exact HB.out)) hb); clear HB; have HO641 := n0_; have HB := n1_; clear n0_ n1_; (try clear hb); (try clear hb2); (try clear hk); (try clear hi); (try clear ho0)) | ((with_reducible refine gate_callee (f := 19) rfl ?_); refine goesL_ (some 32) rfl rfl Tryd.func19 (by kernel_rfl) rfl #[.string a1] rfl (by (try simp only [List.map_toArray, List.map_cons, List.map_nil]); first | done | rfl | (simp only [List.length_drop, List.length_take]; rfl)) ?_; (with_reducible refine (gudgeonref01_Parse.calls kj3 a1 t642 t643 _ A10.out).mono ?_); rintro e w23 ⟨v644, rfl, ho0, hb⟩; refine ⟨_, rfl, ?_⟩; have n0_ := Aside0.mk (Kd.R_elder' (by (with_reducible repeat (first | apply Kd.R_alloc | apply Kd.R_drewN | apply Kd.R_drew)); exact HO641.out) (Kd.R_base ho0) hb); have n1_ := Aside0.mk (Kd.R_lower (Kd.R_new' ho0 (Kd.R_lt (by (with_reducible repeat (first | apply Kd.R_alloc | apply Kd.R_drewN | apply Kd.R_drew)); exact HO641.out))) (below_size (by repeat (first | (with_reducible first | exact HB.out | apply below_alloc | apply pw_below_drewN | apply below_drew1) | exact HB.out)))); have n2_ := Aside0.mk (below_step (by repeat (first | (with_reducible first | exact HB.out | apply below_alloc | apply pw_below_drewN | apply below_drew1) | exact HB.out)) hb); clear HO641; clear HB; have HO641 := n0_; have HO645 := n1_; have HB := n2_; clear n0_ n1_ n2_; (try clear hb); (try clear hb2); (try clear hk); (try clear hi); (try clear ho0); obtain ⟨Ao24, co24, eo24⟩ := Kd.R_slice HO641.out; subst eo24; obtain ⟨Ao25, co25, eo25⟩ := Kd.R_slice HO645.out; subst eo25) | ((with_reducible refine gate_callee (f := 15) rfl ?_); refine goesL_ (some 37) rfl rfl Tryd.func15 (by kernel_rfl) rfl #[.slice Ao24 t638.length co24, .slice Ao25 t642.length co25] rfl (by (try simp only [List.map_toArray, List.map_cons, List.map_nil]); first | done | rfl | (simp only [List.length_drop, List.length_take]; rfl)) ?_; (with_reducible refine (gudgeonref01_Same.calls kj3 _ _ t638 _ _ t642 true _ ?side1 ?side2 ?side3 ?side4 A11.out).mono ?_); (case side1 => repeat (first | exact (Kd.R_reads' HO641.out).2.2 | (with_reducible refine Kd.C_alloc ?_ _) | (with_reducible refine Kd.C_drewN ?_ _) | (with_reducible refine Kd.C_drew ?_))); (case side2 => exact (Kd.R_reads' HO641.out).2.1); (case side3 => repeat (first | exact (Kd.R_reads' HO645.out).2.2 | (with_reducible refine Kd.C_alloc ?_ _) | (with_reducible refine Kd.C_drewN ?_ _) | (with_reducible refine Kd.C_drew ?_))); (case side4 => exact (Kd.R_reads' HO645.out).2.1); rintro e w' ⟨rfl, ⟨nd, rfl⟩⟩; refine ⟨_, rfl, ?_⟩))
      go_ret
      exact ⟨by first | rfl | (simp [errW_none, errW_some] <;> rfl) | (simp [*, errW_none, errW_some] <;> rfl), by repeat (first | (with_reducible first | exact HB.out | apply below_alloc | apply pw_below_drewN | apply below_drew1) | exact HB.out)⟩
    ·replace c12 := Bool.eq_false_iff.mpr c12
     subst c12
     have H1 : (some false) = some r := by rw [if_neg (show ¬ (false = true) by decide)] at H; exact H
     clear H
     have H := H1
     clear H1
     obtain rfl := Option.some.inj H
     go_wp2_with (first | ((with_reducible refine gate_callee (f := 18) rfl ?_); refine goesL_ (some 27) rfl rfl Tryd.func18 (by kernel_rfl) rfl #[.string a1] rfl (by (try simp only [List.map_toArray, List.map_cons, List.map_nil]); first | done | rfl | (simp only [List.length_drop, List.length_take]; rfl)) ?_; (with_reducible refine (nat_Parse.calls kj3 a1 t638 t639 _ A9.out).mono ?_); rintro e w26 ⟨v640, rfl, ho0, hb⟩; refine ⟨_, rfl, ?_⟩; have n0_ := Aside0.mk (Kd.R_lower ho0 (below_size (by repeat (first | (with_reducible first | exact HB.out | apply below_alloc | apply pw_below_drewN | apply below_drew1) | exact HB.out)))); have n1_ := Aside0.mk (below_step (by repeat (first | (with_reducible first | exact HB.out | apply below_alloc | apply pw_below_drewN | apply below_drew1) | exact HB.out)) hb); clear HB; have HO641 := n0_; have HB := n1_; clear n0_ n1_; (try clear hb); (try clear hb2); (try clear hk); (try clear hi); (try clear ho0)) | ((with_reducible refine gate_callee (f := 19) rfl ?_); refine goesL_ (some 32) rfl rfl Tryd.func19 (by kernel_rfl) rfl #[.string a1] rfl (by (try simp only [List.map_toArray, List.map_cons, List.map_nil]); first | done | rfl | (simp only [List.length_drop, List.length_take]; rfl)) ?_; (with_reducible refine (gudgeonref01_Parse.calls kj3 a1 t642 t643 _ A10.out).mono ?_); rintro e w27 ⟨v644, rfl, ho0, hb⟩; refine ⟨_, rfl, ?_⟩; have n0_ := Aside0.mk (Kd.R_elder' (by (with_reducible repeat (first | apply Kd.R_alloc | apply Kd.R_drewN | apply Kd.R_drew)); exact HO641.out) (Kd.R_base ho0) hb); have n1_ := Aside0.mk (Kd.R_lower (Kd.R_new' ho0 (Kd.R_lt (by (with_reducible repeat (first | apply Kd.R_alloc | apply Kd.R_drewN | apply Kd.R_drew)); exact HO641.out))) (below_size (by repeat (first | (with_reducible first | exact HB.out | apply below_alloc | apply pw_below_drewN | apply below_drew1) | exact HB.out)))); have n2_ := Aside0.mk (below_step (by repeat (first | (with_reducible first | exact HB.out | apply below_alloc | apply pw_below_drewN | apply below_drew1) | exact HB.out)) hb); clear HO641; clear HB; have HO641 := n0_; have HO645 := n1_; have HB := n2_; clear n0_ n1_ n2_; (try clear hb); (try clear hb2); (try clear hk); (try clear hi); (try clear ho0); obtain ⟨Ao28, co28, eo28⟩ := Kd.R_slice HO641.out; subst eo28; obtain ⟨Ao29, co29, eo29⟩ := Kd.R_slice HO645.out; subst eo29) | ((with_reducible refine gate_callee (f := 15) rfl ?_); refine goesL_ (some 37) rfl rfl Tryd.func15 (by kernel_rfl) rfl #[.slice Ao28 t638.length co28, .slice Ao29 t642.length co29] rfl (by (try simp only [List.map_toArray, List.map_cons, List.map_nil]); first | done | rfl | (simp only [List.length_drop, List.length_take]; rfl)) ?_; (with_reducible refine (gudgeonref01_Same.calls kj3 _ _ t638 _ _ t642 false _ ?side1 ?side2 ?side3 ?side4 A11.out).mono ?_); (case side1 => repeat (first | exact (Kd.R_reads' HO641.out).2.2 | (with_reducible refine Kd.C_alloc ?_ _) | (with_reducible refine Kd.C_drewN ?_ _) | (with_reducible refine Kd.C_drew ?_))); (case side2 => exact (Kd.R_reads' HO641.out).2.1); (case side3 => repeat (first | exact (Kd.R_reads' HO645.out).2.2 | (with_reducible refine Kd.C_alloc ?_ _) | (with_reducible refine Kd.C_drewN ?_ _) | (with_reducible refine Kd.C_drew ?_))); (case side4 => exact (Kd.R_reads' HO645.out).2.1); rintro e w' ⟨rfl, ⟨nd, rfl⟩⟩; refine ⟨_, rfl, ?_⟩))
     go_ret
     exact ⟨by first | rfl | (simp [errW_none, errW_some] <;> rfl) | (simp [*, errW_none, errW_some] <;> rfl), by repeat (first | (with_reducible first | exact HB.out | apply below_alloc | apply pw_below_drewN | apply below_drew1) | exact HB.out)⟩

/-- THE ONE PURE STATEMENT of gudgeonlaw01_NatTexts: yours. -/
def gudgeonlaw01_NatTexts.Pure : Prop := ∀ (l0 : List Int) (a1 : ByteArray), l0.length ≤ maxLen → l0.length * 4 ≤ 140737488351232 → (∀ x ∈ l0, (Lit.int .u32 x).wf = true) → a1.size ≤ 140737488351232 → ∃ k, gudgeonlaw01_NatTexts.f k l0 a1 = some true
theorem gudgeonlaw01_NatTexts.walk (P : gudgeonlaw01_NatTexts.Pure) (a0 : Option Addr) (len0 cap0 : Nat) (z0 : List Int) (a1 : ByteArray) (w : World) (w0 : (a0 = none ∧ len0 = 0 ∧ cap0 = 0 ∧ z0 = []) ∨ ∃ x, a0 = some x ∧ len0 ≤ cap0 ∧ cap0 ≤ maxLen ∧ z0.length = cap0 ∧ (∀ i, i < z0.length → w.cell? (x.add i) = some (.int .u32 (z0.getD i 0))) ∧ ∀ n ∈ z0, (Lit.int .u32 n).wf = true) (y0 : len0 * 4 ≤ 140737488351232) (w1 : a1.size ≤ 140737488351232) :
  Calls Tryd.prog 4 #[.slice a0 len0 cap0, .string a1] w fun e w' => e = .returned (.bool true) ∧ Below w.heap.size w w' := by
 obtain ⟨l0, rfl, hr0, hm0, hw0, hc0⟩ := ReadsInt.ofRowC w0
 obtain ⟨k, h⟩ := P l0 a1 hm0 y0 hw0 w1
 refine (gudgeonlaw01_NatTexts.calls k _ _ l0 a1 true w (Kd.C_of_reads (d := (0 : Int)) (h1 := fun _ => rfl) hr0) hc0 h).mono ?_
 rintro e w' ⟨rfl, hd⟩
 exact ⟨rfl, hd⟩

end Go.Proofs.YtlfpnohpcemkgaaDoor.PA
