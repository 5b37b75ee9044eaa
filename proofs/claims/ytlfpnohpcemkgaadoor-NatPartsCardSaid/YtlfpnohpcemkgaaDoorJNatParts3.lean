/- Joined by wip/tools/bundle.py for the claim of NatParts: PAx17, PAx18, HNine, PAx6, HTrim, PAx7, HParse, HAwake, PAx19, NatV, NatB, NatY, NatL. -/
import Derived.Test.YtlfpnohpcemkgaaDoorJNatParts1
import Derived.Test.YtlfpnohpcemkgaaDoorJNatParts2
import Derived.Test.YtlfpnohpcemkgaaDoorWWords
import Derived.Test.YtlfpnohpcemkgaaDoorWLast
import Derived.Test.YtlfpnohpcemkgaaDoorWMore
import Derived.Test.YtlfpnohpcemkgaaDoorProg
import Derived.Lib.Strings
import Derived.Lib.Slices
import Derived.Lib.Walk
import Derived.WalkKit
import Derived.Outline
import Derived.Laws.Bits64
import Derived.WalkSpells
import Derived.WalkLawsBesides
import Derived.Laws.NewBlocks
import Derived.Lib.ConvBytes
import Derived.Laws.MakeOwn
import Derived.KernelRfl
import Derived.Laws.BitsLemmas
import Derived.OpenShut
/- Written by a program of this session, wip/tools/patch_print.py, over the kit's print of the loaded functions. -/
namespace Go.Proofs.YtlfpnohpcemkgaaDoor.H
end Go.Proofs.YtlfpnohpcemkgaaDoor.H
namespace Go.Proofs.YtlfpnohpcemkgaaDoor.PA
open Go.RowKit Go.Proofs.YtlfpnohpcemkgaaDoorW.PrintWords Go.Proofs.YtlfpnohpcemkgaaDoorW.PrintLast Go.Proofs.YtlfpnohpcemkgaaDoorW.PrintMore Go.Proofs.YtlfpnohpcemkgaaDoor.H
attribute [local go_sem] max2_int min2_int max_two min_two max_three min_three max_four min_four   -- for this text's walks alone
set_option linter.unusedVariables false
set_option linter.unusedSimpArgs false

/-! ### gudgeonref01_at: function 56 -/
def gudgeonref01_at.f (l0 : List Bool) (a1 : Int) : Option (Bool) := if a1 < (l0.length : Int) then (if 0 ≤ a1 then (some (rdOf false l0 a1)) else (none)) else (some false)
set_option maxHeartbeats 8000000 in
set_option maxRecDepth 100000 in
theorem gudgeonref01_at.calls (A0 : Option Addr) (c0 : Nat) (l0 : List Bool) (a1 : Int) (r : Bool) (w : World) (hr0 : Kd.C Kd.bool w A0 l0.length l0) (hc0 : l0.length ≤ c0) (h : gudgeonref01_at.f l0 a1 = some r) :
  Calls Tryd.prog 56 #[.slice A0 l0.length c0, .int .i64 a1] w fun e w' => e = .returned (.bool r) ∧ Drawn0 w w' := by
 have HR0 := Aside0.mk hr0
 have HC0 := Aside0.mk hc0
 clear hr0 hc0
 have H : (if a1 < (l0.length : Int) then (if 0 ≤ a1 then (some (rdOf false l0 a1)) else (none)) else (some false)) = some r := h
 clear h
 by_cases c3 : a1 < (l0.length : Int)
 ·rw [if_pos c3] at H
  have c3b0 : decide (a1 < (l0.length : Int)) = true := decide_eq_true c3
  clear c3
  by_cases c4 : 0 ≤ a1
  ·rw [if_pos c4] at H
   have c4b0 : decide (0 ≤ a1) = true := decide_eq_true c4
   clear c4
   obtain rfl := Option.some.inj H
   have p457 : 0 ≤ (a1 : Int) := of_decide_eq_true (by first | (with_reducible assumption) | assumption)
   have q457 : a1 < (l0.length : Int) := of_decide_eq_true (by first | (with_reducible assumption) | assumption)
   obtain ⟨ad457, e457, hx457_0⟩ := Kd.at_bool HR0.out a1 p457 q457
   cases e457
   replace p457 := eq_true p457
   replace q457 := eq_true q457
   go_enter Tryd.func56, Tryd.ntmps56
   go_wp2
   go_ret
   exact ⟨by first | rfl | (simp; done) | (simp [*]; done) | (refine congrArg (Value.int _) ?_; omega) | (refine congrArg Value.bool ?_; generalize ByteArray.toList _ = z_; cases z_ <;> rfl), by repeat (first | exact Drawn0.refl _ | apply Drawn0.step)⟩
  ·rw [if_neg c4] at H
   exact absurd H (by simp)
 ·rw [if_neg c3] at H
  have c3b0 : decide (a1 < (l0.length : Int)) = false := decide_eq_false c3
  clear c3
  obtain rfl := Option.some.inj H
  go_enter Tryd.func56, Tryd.ntmps56
  go_wp2
  go_ret
  exact ⟨by first | rfl | (simp; done) | (simp [*]; done) | (refine congrArg (Value.int _) ?_; omega) | (refine congrArg Value.bool ?_; generalize ByteArray.toList _ = z_; cases z_ <;> rfl), by repeat (first | exact Drawn0.refl _ | apply Drawn0.step)⟩

/-! ### gudgeonref01_cmp: function 50 -/
mutual
def gudgeonref01_cmp.j0 : Nat → List Bool → List Bool → Int → Option (Int)
 | 0, _, _, _ => none
 | k + 1, x0, x1, x5 => gudgeonref01_cmp.l0 k x0 x1 (wrap64 (x5 - 1))
def gudgeonref01_cmp.l0 : Nat → List Bool → List Bool → Int → Option (Int)
 | 0, _, _, _ => none
 | k + 1, x0, x1, x6 => if x6 ≥ 0 then ((gudgeonref01_at.f x0 x6).bind fun t458 => ((gudgeonref01_at.f x1 x6).bind fun t459 => (if (t458 != t459) = true then (gudgeonref01_cmp.j2 k x0 x1 x6 t458 t459 t458) else (gudgeonref01_cmp.j2 k x0 x1 x6 t458 t459 false)))) else (some 0)
def gudgeonref01_cmp.j2 : Nat → List Bool → List Bool → Int → Bool → Bool → Bool → Option (Int)
 | 0, _, _, _, _, _, _ => none
 | k + 1, x0, x1, x6, x7, x8, x34 => if x34 = true then (some 1) else (if (x7 != x8) = true then (some (-1)) else (gudgeonref01_cmp.l0 k x0 x1 (wrap64 (x6 - 1))))
end
def gudgeonref01_cmp.f (k : Nat) (l0 : List Bool) (l1 : List Bool) : Option (Int) := if (l1.length : Int) > (l0.length : Int) then (gudgeonref01_cmp.j0 k l0 l1 (l1.length : Int)) else (gudgeonref01_cmp.j0 k l0 l1 (l0.length : Int))
theorem gudgeonref01_cmp.mono_l : ∀ k, (∀ y0 y1 y2, LeO (gudgeonref01_cmp.j0 k y0 y1 y2) (gudgeonref01_cmp.j0 (k + 1) y0 y1 y2)) ∧ (∀ y0 y1 y2, LeO (gudgeonref01_cmp.l0 k y0 y1 y2) (gudgeonref01_cmp.l0 (k + 1) y0 y1 y2)) ∧ (∀ y0 y1 y2 y3 y4 y5, LeO (gudgeonref01_cmp.j2 k y0 y1 y2 y3 y4 y5) (gudgeonref01_cmp.j2 (k + 1) y0 y1 y2 y3 y4 y5))
 | 0 => ⟨fun _ _ _ r h => by simp [gudgeonref01_cmp.j0] at h, fun _ _ _ r h => by simp [gudgeonref01_cmp.l0] at h, fun _ _ _ _ _ _ r h => by simp [gudgeonref01_cmp.j2] at h⟩
 | k + 1 => by
  obtain ⟨ih0, ih1, ih2⟩ := gudgeonref01_cmp.mono_l k
  refine ⟨?_, ?_, ?_⟩
  ·intro y0 y1 y2
   unfold gudgeonref01_cmp.j0
   repeat' first
   | (with_reducible exact ih0 _ _ _)
   | (with_reducible exact ih1 _ _ _)
   | (with_reducible exact ih2 _ _ _ _ _ _)
   | (with_reducible exact LeO.refl _)
   | (with_reducible exact LeO.none _)
   | (with_reducible refine LeO.ite ?_ ?_)
   | (with_reducible refine LeO.bind ?_ (fun _ => ?_))
   | exact ih0 _ _ _
   | exact ih1 _ _ _
   | exact ih2 _ _ _ _ _ _
   | exact LeO.none _
   | refine LeO.ite ?_ ?_
   | refine LeO.bind ?_ (fun _ => ?_)
  ·intro y0 y1 y2
   unfold gudgeonref01_cmp.l0
   repeat' first
   | (with_reducible exact ih0 _ _ _)
   | (with_reducible exact ih1 _ _ _)
   | (with_reducible exact ih2 _ _ _ _ _ _)
   | (with_reducible exact LeO.refl _)
   | (with_reducible exact LeO.none _)
   | (with_reducible refine LeO.ite ?_ ?_)
   | (with_reducible refine LeO.bind ?_ (fun _ => ?_))
   | exact ih0 _ _ _
   | exact ih1 _ _ _
   | exact ih2 _ _ _ _ _ _
   | exact LeO.none _
   | refine LeO.ite ?_ ?_
   | refine LeO.bind ?_ (fun _ => ?_)
  ·intro y0 y1 y2 y3 y4 y5
   unfold gudgeonref01_cmp.j2
   repeat' first
   | (with_reducible exact ih0 _ _ _)
   | (with_reducible exact ih1 _ _ _)
   | (with_reducible exact ih2 _ _ _ _ _ _)
   | (with_reducible exact LeO.refl _)
   | (with_reducible exact LeO.none _)
   | (with_reducible refine LeO.ite ?_ ?_)
   | (with_reducible refine LeO.bind ?_ (fun _ => ?_))
   | exact ih0 _ _ _
   | exact ih1 _ _ _
   | exact ih2 _ _ _ _ _ _
   | exact LeO.none _
   | refine LeO.ite ?_ ?_
   | refine LeO.bind ?_ (fun _ => ?_)
theorem gudgeonref01_cmp.mono : ∀ a0 a1 k, LeO (gudgeonref01_cmp.f k a0 a1) (gudgeonref01_cmp.f (k + 1) a0 a1) := by
 intro a0 a1 k
 obtain ⟨ih0, ih1, ih2⟩ := gudgeonref01_cmp.mono_l k
 unfold gudgeonref01_cmp.f
 repeat' first
   | (with_reducible exact ih0 _ _ _)
   | (with_reducible exact ih1 _ _ _)
   | (with_reducible exact ih2 _ _ _ _ _ _)
   | (with_reducible exact LeO.refl _)
   | (with_reducible exact LeO.none _)
   | (with_reducible refine LeO.ite ?_ ?_)
   | (with_reducible refine LeO.bind ?_ (fun _ => ?_))
   | exact ih0 _ _ _
   | exact ih1 _ _ _
   | exact ih2 _ _ _ _ _ _
   | exact LeO.none _
   | refine LeO.ite ?_ ?_
   | refine LeO.bind ?_ (fun _ => ?_)
set_option maxHeartbeats 8000000 in
set_option maxRecDepth 100000 in
theorem gudgeonref01_cmp.calls (k : Nat) (A0 : Option Addr) (c0 : Nat) (l0 : List Bool) (A1 : Option Addr) (c1 : Nat) (l1 : List Bool) (r : Int) (w : World) (hr0 : Kd.C Kd.bool w A0 l0.length l0) (hc0 : l0.length ≤ c0) (hr1 : Kd.C Kd.bool w A1 l1.length l1) (hc1 : l1.length ≤ c1) (h : gudgeonref01_cmp.f k l0 l1 = some r) :
  Calls Tryd.prog 50 #[.slice A0 l0.length c0, .slice A1 l1.length c1] w fun e w' => e = .returned (.int .i64 r) ∧ Drawn0 w w' := by
 have HR0 := Aside0.mk hr0
 have HC0 := Aside0.mk hc0
 clear hr0 hc0
 have HR1 := Aside0.mk hr1
 have HC1 := Aside0.mk hc1
 clear hr1 hc1
 have H : (if (l1.length : Int) > (l0.length : Int) then (gudgeonref01_cmp.j0 k l0 l1 (l1.length : Int)) else (gudgeonref01_cmp.j0 k l0 l1 (l0.length : Int))) = some r := h
 clear h
 have HC3 := Aside0.mk H
 clear H
 go_enter Tryd.func50, Tryd.ntmps50
 go_upto_if 14 with (fail)
 go_cut [5] (fun v5 wc => ∃ (kq : Nat) (x5_2 : Int), v5 = .int .i64 x5_2 ∧ Aside0 (gudgeonref01_cmp.j0 kq l0 l1 x5_2 = some r) ∧ Aside0 (kq ≤ k) ∧ Drawn0 w wc)
 case first =>
  have H := HC3.out
  clear HC3
  by_cases c4 : (l1.length : Int) > (l0.length : Int)
  ·rw [if_pos c4] at H
   have c4b0 : decide ((l0.length : Int) < (l1.length : Int)) = true := decide_eq_true c4
   have c4b1 : decide (l0.length < l1.length) = true := decide_eq_true (Int.ofNat_lt.mp c4)
   clear c4
   (first | rw [c4b0] | rw [c4b1] | (simp only [i64_w, i32_w]; rw [c4b0]) | skip)
   have H' := Aside0.mk H
   clear H
   go_wp2
   go_meet
   case rel => exact ⟨_, ((l1.length : Int)), (by first | rfl | (simp; done) | (simp [*]; done) | (refine congrArg (Value.int _) ?_; omega) | (refine congrArg Value.bool ?_; generalize ByteArray.toList _ = z_; cases z_ <;> rfl)), H', ⟨by first | omega | exact Nat.le_refl _⟩, by repeat (first | exact Drawn0.refl _ | apply Drawn0.step)⟩
  ·rw [if_neg c4] at H
   have c4b0 : decide ((l0.length : Int) < (l1.length : Int)) = false := decide_eq_false c4
   have c4b1 : decide (l0.length < l1.length) = false := decide_eq_false (fun h => c4 (Int.ofNat_lt.mpr h))
   clear c4
   (first | rw [c4b0] | rw [c4b1] | (simp only [i64_w, i32_w]; rw [c4b0]) | skip)
   have H' := Aside0.mk H
   clear H
   go_wp2
   go_meet
   case rel => exact ⟨_, ((l0.length : Int)), (by first | rfl | (simp; done) | (simp [*]; done) | (refine congrArg (Value.int _) ?_; omega) | (refine congrArg Value.bool ?_; generalize ByteArray.toList _ = z_; cases z_ <;> rfl)), H', ⟨by first | omega | exact Nat.le_refl _⟩, by repeat (first | exact Drawn0.refl _ | apply Drawn0.step)⟩
 case rest =>
  clear HC3
  try clear c1
  try clear p2
  try clear c4
  try clear c4b0
  try clear c4b1
  obtain ⟨kq, x5_2, rfl, HA, HJ2, ⟨mc2, rfl⟩⟩ := hcut
  cases kq with
  | zero => exact absurd HA.out (by simp [gudgeonref01_cmp.j0])
  | succ kj2 =>
   have H := HA.out
   clear HA
   simp only [gudgeonref01_cmp.j0] at H
   have H' := Aside0.mk H
   clear H
   go_wp2
   go_loopg [6] kj2 (fun kq v6 w' => ∃ (x6_2 : Int), v6 = .int .i64 x6_2 ∧ Aside0 (gudgeonref01_cmp.l0 kq l0 l1 x6_2 = some r) ∧ Aside0 (kq ≤ kj2) ∧ Drawn0 w w')
   case atStart => exact ⟨(wrap64 (x5_2 - 1)), (by first | rfl | (simp; done) | (simp [*]; done) | (refine congrArg (Value.int _) ?_; omega) | (refine congrArg Value.bool ?_; generalize ByteArray.toList _ = z_; cases z_ <;> rfl)), H', ⟨Nat.le_refl _⟩, by repeat (first | exact Drawn0.refl _ | apply Drawn0.step)⟩
   case round =>
    clear H'
    try clear c1
    try clear c2
    try clear p2
    try clear c4
    try clear c4b0
    try clear c4b1
    try clear p2
    obtain ⟨x6_2, rfl, HA, HK2, ⟨m2, rfl⟩⟩ := hrel
    cases gk with
    | zero => exact absurd HA.out (by simp [gudgeonref01_cmp.l0])
    | succ k2 =>
     have H := HA.out
     clear HA
     simp only [gudgeonref01_cmp.l0] at H
     by_cases c5 : x6_2 ≥ 0
     ·rw [if_pos c5] at H
      have c5b0 : decide (0 ≤ x6_2) = true := decide_eq_true c5
      clear c5
      replace H := Option.bind_eq_some_iff.mp H
      obtain ⟨t458, A60, H⟩ := H
      replace H : ((gudgeonref01_at.f l1 x6_2).bind fun t459 => (if (t458 != t459) = true then (gudgeonref01_cmp.j2 k2 l0 l1 x6_2 t458 t459 t458) else (gudgeonref01_cmp.j2 k2 l0 l1 x6_2 t458 t459 false))) = some r := H
      have A6 := Aside0.mk A60
      clear A60
      replace H := Option.bind_eq_some_iff.mp H
      obtain ⟨t459, A70, H⟩ := H
      replace H : (if (t458 != t459) = true then (gudgeonref01_cmp.j2 k2 l0 l1 x6_2 t458 t459 t458) else (gudgeonref01_cmp.j2 k2 l0 l1 x6_2 t458 t459 false)) = some r := H
      have A7 := Aside0.mk A70
      clear A70
      have HC8 := Aside0.mk H
      clear H
      go_upto_region 9 with (first | ((with_reducible refine gate_callee (f := 56) rfl ?_); refine goesL_ (some 25) rfl rfl Tryd.func56 (by kernel_rfl) rfl #[.slice A0 l0.length c0, .int .i64 x6_2] rfl (by (try simp only [List.map_toArray, List.map_cons, List.map_nil]); first | done | rfl | (simp only [List.length_drop, List.length_take]; rfl)) ?_; (with_reducible refine (gudgeonref01_at.calls _ _ l0 x6_2 t458 _ ?side1 ?side2 A6.out).mono ?_); (case side1 => repeat (first | exact HR0.out | (with_reducible refine Kd.C_alloc ?_ _) | (with_reducible refine Kd.C_drewN ?_ _) | (with_reducible refine Kd.C_drew ?_))); (case side2 => exact HC0.out); rintro e w' ⟨rfl, ⟨nd, rfl⟩⟩; refine ⟨_, rfl, ?_⟩) | ((with_reducible refine gate_callee (f := 56) rfl ?_); refine goesL_ (some 28) rfl rfl Tryd.func56 (by kernel_rfl) rfl #[.slice A1 l1.length c1, .int .i64 x6_2] rfl (by (try simp only [List.map_toArray, List.map_cons, List.map_nil]); first | done | rfl | (simp only [List.length_drop, List.length_take]; rfl)) ?_; (with_reducible refine (gudgeonref01_at.calls _ _ l1 x6_2 t459 _ ?side1 ?side2 A7.out).mono ?_); (case side1 => repeat (first | exact HR1.out | (with_reducible refine Kd.C_alloc ?_ _) | (with_reducible refine Kd.C_drewN ?_ _) | (with_reducible refine Kd.C_drew ?_))); (case side2 => exact HC1.out); rintro e w' ⟨rfl, ⟨nd, rfl⟩⟩; refine ⟨_, rfl, ?_⟩))
      (try simp only [Act.put, List.setIfInBounds_toArray, List.set_cons_zero, List.set_cons_succ])
      go_cut [34] (fun v34 wc => ∃ (kq : Nat) (x34_7 : Bool), v34 = .bool x34_7 ∧ Aside0 (gudgeonref01_cmp.j2 kq l0 l1 x6_2 t458 t459 x34_7 = some r) ∧ Aside0 (kq ≤ k2) ∧ Drawn0 w wc)
      case first =>
       have H := HC8.out
       clear HC8
       by_cases c9 : (t458 != t459) = true
       ·rw [if_pos c9] at H
        have c9b0 : (t458 != t459) = true := c9
        (try (have c9b1 : decide (t458 = t459) = false := by simpa using c9))
        (try (have c9b2 : (t458 == t459) = false := by simpa using c9))
        (try (have c9b3 : ¬ (t458 = t459) := by simpa using c9))
        clear c9
        (first | rw [c9b0] | rw [c9b1] | (simp only [i64_w, i32_w]; rw [c9b0]) | skip)
        have H' := Aside0.mk H
        clear H
        go_wp2
        go_meet
        case rel => exact ⟨_, (t458), (by first | rfl | (simp; done) | (simp [*]; done) | (refine congrArg (Value.int _) ?_; omega) | (refine congrArg Value.bool ?_; generalize ByteArray.toList _ = z_; cases z_ <;> rfl)), H', ⟨by have := HJ2.out; have := HK2.out; first | omega | exact Nat.le_refl _⟩, by repeat (first | exact Drawn0.refl _ | apply Drawn0.step)⟩
       ·rw [if_neg c9] at H
        have c9b0 : (t458 != t459) = false := by simpa using c9
        (try (have c9b1 : decide (t458 = t459) = true := by simpa using c9))
        (try (have c9b2 : (t458 == t459) = true := by simpa using c9))
        clear c9
        (first | rw [c9b0] | rw [c9b1] | (simp only [i64_w, i32_w]; rw [c9b0]) | skip)
        have H' := Aside0.mk H
        clear H
        go_wp2
        go_meet
        case rel => exact ⟨_, (false), (by first | rfl | (simp; done) | (simp [*]; done) | (refine congrArg (Value.int _) ?_; omega) | (refine congrArg Value.bool ?_; generalize ByteArray.toList _ = z_; cases z_ <;> rfl)), H', ⟨by have := HJ2.out; have := HK2.out; first | omega | exact Nat.le_refl _⟩, by repeat (first | exact Drawn0.refl _ | apply Drawn0.step)⟩
      case rest =>
       clear HC8
       try clear c1
       try clear c2
       try clear p2
       try clear c4
       try clear c4b0
       try clear c4b1
       try clear c5
       try clear c5b0
       try clear p6
       try clear c9
       try clear c9b0
       try clear c9b1
       try clear c9b2
       try clear p2
       obtain ⟨kq, x34_7, rfl, HA, HJ7, ⟨mc7, rfl⟩⟩ := hcut
       cases kq with
       | zero => exact absurd HA.out (by simp [gudgeonref01_cmp.j2])
       | succ kj7 =>
        have H := HA.out
        clear HA
        simp only [gudgeonref01_cmp.j2] at H
        by_cases c10 : x34_7 = true
        ·subst c10
         have H1 : (some 1) = some r := by rw [if_pos rfl] at H; exact H
         clear H
         have H := H1
         clear H1
         obtain rfl := Option.some.inj H
         go_wp2
         go_ret
         exact ⟨by first | rfl | (simp; done) | (simp [*]; done) | (refine congrArg (Value.int _) ?_; omega) | (refine congrArg Value.bool ?_; generalize ByteArray.toList _ = z_; cases z_ <;> rfl), by repeat (first | exact Drawn0.refl _ | apply Drawn0.step)⟩
        ·replace c10 := Bool.eq_false_iff.mpr c10
         subst c10
         have H1 : (if (t458 != t459) = true then (some (-1)) else (gudgeonref01_cmp.l0 kj7 l0 l1 (wrap64 (x6_2 - 1)))) = some r := by rw [if_neg (show ¬ (false = true) by decide)] at H; exact H
         clear H
         have H := H1
         clear H1
         by_cases c11 : (t458 != t459) = true
         ·rw [if_pos c11] at H
          have c11b0 : (t458 != t459) = true := c11
          (try (have c11b1 : decide (t458 = t459) = false := by simpa using c11))
          (try (have c11b2 : (t458 == t459) = false := by simpa using c11))
          (try (have c11b3 : ¬ (t458 = t459) := by simpa using c11))
          clear c11
          obtain rfl := Option.some.inj H
          go_wp2
          go_ret
          exact ⟨by first | rfl | (simp; done) | (simp [*]; done) | (refine congrArg (Value.int _) ?_; omega) | (refine congrArg Value.bool ?_; generalize ByteArray.toList _ = z_; cases z_ <;> rfl), by repeat (first | exact Drawn0.refl _ | apply Drawn0.step)⟩
         ·rw [if_neg c11] at H
          have c11b0 : (t458 != t459) = false := by simpa using c11
          (try (have c11b1 : decide (t458 = t459) = true := by simpa using c11))
          (try (have c11b2 : (t458 == t459) = true := by simpa using c11))
          clear c11
          have H' := Aside0.mk H
          clear H
          go_wp2
          go_roundg kj7
          case measure => have := HJ2.out; have := HK2.out; have := HJ7.out; omega
          case rel => exact ⟨(wrap64 (x6_2 - 1)), (by first | rfl | (simp; done) | (simp [*]; done) | (refine congrArg (Value.int _) ?_; omega) | (refine congrArg Value.bool ?_; generalize ByteArray.toList _ = z_; cases z_ <;> rfl)), H', ⟨by have := HJ2.out; have := HK2.out; have := HJ7.out; omega⟩, by repeat (first | exact Drawn0.refl _ | apply Drawn0.step)⟩
     ·rw [if_neg c5] at H
      have c5b0 : decide (0 ≤ x6_2) = false := decide_eq_false c5
      clear c5
      obtain rfl := Option.some.inj H
      go_wp2
      go_ret
      exact ⟨by first | rfl | (simp; done) | (simp [*]; done) | (refine congrArg (Value.int _) ?_; omega) | (refine congrArg Value.bool ?_; generalize ByteArray.toList _ = z_; cases z_ <;> rfl), by repeat (first | exact Drawn0.refl _ | apply Drawn0.step)⟩

/-! ### gudgeonref01_sub: function 51 -/
mutual
def gudgeonref01_sub.l0 : Nat → List Bool → List Bool → List Bool → Bool → Int → Option (List Bool)
 | 0, _, _, _, _, _ => none
 | k + 1, x0, x1, x5, x6, x7 => if x7 < (x0.length : Int) then (if 0 ≤ x7 then (if rdOf false x0 x7 = true then (gudgeonref01_sub.j1 k x0 x1 x5 x6 x7 (0 + 1)) else (gudgeonref01_sub.j1 k x0 x1 x5 x6 x7 0)) else (none)) else ((gudgeonref01_trim.f k x5).bind fun t460 => (some t460))
def gudgeonref01_sub.j1 : Nat → List Bool → List Bool → List Bool → Bool → Int → Int → Option (List Bool)
 | 0, _, _, _, _, _, _ => none
 | k + 1, x0, x1, x5, x6, x7, x8 => (gudgeonref01_at.f x1 x7).bind fun t464 => (if t464 = true then (if x6 = true then (if (wrap64 ((wrap64 (x8 - 1)) - 1)) = 1 then (if x5.length < 140737488355328 then (gudgeonref01_sub.l0 k x0 x1 (x5 ++ [true]) (decide ((wrap64 ((wrap64 (x8 - 1)) - 1)) < 0)) (wrap64 (x7 + 1))) else (none)) else (if x5.length < 140737488355328 then (gudgeonref01_sub.l0 k x0 x1 (x5 ++ [((wrap64 ((wrap64 (x8 - 1)) - 1)) == (-1))]) (decide ((wrap64 ((wrap64 (x8 - 1)) - 1)) < 0)) (wrap64 (x7 + 1))) else (none))) else (if (wrap64 (x8 - 1)) = 1 then (if x5.length < 140737488355328 then (gudgeonref01_sub.l0 k x0 x1 (x5 ++ [true]) (decide ((wrap64 (x8 - 1)) < 0)) (wrap64 (x7 + 1))) else (none)) else (if x5.length < 140737488355328 then (gudgeonref01_sub.l0 k x0 x1 (x5 ++ [((wrap64 (x8 - 1)) == (-1))]) (decide ((wrap64 (x8 - 1)) < 0)) (wrap64 (x7 + 1))) else (none)))) else (if x6 = true then (if (wrap64 (x8 - 1)) = 1 then (if x5.length < 140737488355328 then (gudgeonref01_sub.l0 k x0 x1 (x5 ++ [true]) (decide ((wrap64 (x8 - 1)) < 0)) (wrap64 (x7 + 1))) else (none)) else (if x5.length < 140737488355328 then (gudgeonref01_sub.l0 k x0 x1 (x5 ++ [((wrap64 (x8 - 1)) == (-1))]) (decide ((wrap64 (x8 - 1)) < 0)) (wrap64 (x7 + 1))) else (none))) else (if x8 = 1 then (if x5.length < 140737488355328 then (gudgeonref01_sub.l0 k x0 x1 (x5 ++ [true]) (decide (x8 < 0)) (wrap64 (x7 + 1))) else (none)) else (if x5.length < 140737488355328 then (gudgeonref01_sub.l0 k x0 x1 (x5 ++ [(x8 == (-1))]) (decide (x8 < 0)) (wrap64 (x7 + 1))) else (none)))))
end
def gudgeonref01_sub.f (k : Nat) (l0 : List Bool) (l1 : List Bool) : Option (List Bool) := gudgeonref01_sub.l0 k l0 l1 ([] : List Bool) false 0
theorem gudgeonref01_sub.mono_l : ∀ k, (∀ y0 y1 y2 y3 y4, LeO (gudgeonref01_sub.l0 k y0 y1 y2 y3 y4) (gudgeonref01_sub.l0 (k + 1) y0 y1 y2 y3 y4)) ∧ (∀ y0 y1 y2 y3 y4 y5, LeO (gudgeonref01_sub.j1 k y0 y1 y2 y3 y4 y5) (gudgeonref01_sub.j1 (k + 1) y0 y1 y2 y3 y4 y5))
 | 0 => ⟨fun _ _ _ _ _ r h => by simp [gudgeonref01_sub.l0] at h, fun _ _ _ _ _ _ r h => by simp [gudgeonref01_sub.j1] at h⟩
 | k + 1 => by
  obtain ⟨ih0, ih1⟩ := gudgeonref01_sub.mono_l k
  refine ⟨?_, ?_⟩
  ·intro y0 y1 y2 y3 y4
   unfold gudgeonref01_sub.l0
   repeat' first
   | (with_reducible exact ih0 _ _ _ _ _)
   | (with_reducible exact ih1 _ _ _ _ _ _)
   | (with_reducible exact gudgeonref01_trim.mono _ _)
   | (with_reducible exact LeO.refl _)
   | (with_reducible exact LeO.none _)
   | (with_reducible refine LeO.ite ?_ ?_)
   | (with_reducible refine LeO.bind ?_ (fun _ => ?_))
   | exact ih0 _ _ _ _ _
   | exact ih1 _ _ _ _ _ _
   | exact gudgeonref01_trim.mono _ _
   | exact LeO.none _
   | refine LeO.ite ?_ ?_
   | refine LeO.bind ?_ (fun _ => ?_)
  ·intro y0 y1 y2 y3 y4 y5
   unfold gudgeonref01_sub.j1
   repeat' first
   | (with_reducible exact ih0 _ _ _ _ _)
   | (with_reducible exact ih1 _ _ _ _ _ _)
   | (with_reducible exact gudgeonref01_trim.mono _ _)
   | (with_reducible exact LeO.refl _)
   | (with_reducible exact LeO.none _)
   | (with_reducible refine LeO.ite ?_ ?_)
   | (with_reducible refine LeO.bind ?_ (fun _ => ?_))
   | exact ih0 _ _ _ _ _
   | exact ih1 _ _ _ _ _ _
   | exact gudgeonref01_trim.mono _ _
   | exact LeO.none _
   | refine LeO.ite ?_ ?_
   | refine LeO.bind ?_ (fun _ => ?_)
theorem gudgeonref01_sub.mono : ∀ a0 a1 k, LeO (gudgeonref01_sub.f k a0 a1) (gudgeonref01_sub.f (k + 1) a0 a1) := by
 intro a0 a1 k
 obtain ⟨ih0, ih1⟩ := gudgeonref01_sub.mono_l k
 unfold gudgeonref01_sub.f
 repeat' first
   | (with_reducible exact ih0 _ _ _ _ _)
   | (with_reducible exact ih1 _ _ _ _ _ _)
   | (with_reducible exact gudgeonref01_trim.mono _ _)
   | (with_reducible exact LeO.refl _)
   | (with_reducible exact LeO.none _)
   | (with_reducible refine LeO.ite ?_ ?_)
   | (with_reducible refine LeO.bind ?_ (fun _ => ?_))
   | exact ih0 _ _ _ _ _
   | exact ih1 _ _ _ _ _ _
   | exact gudgeonref01_trim.mono _ _
   | exact LeO.none _
   | refine LeO.ite ?_ ?_
   | refine LeO.bind ?_ (fun _ => ?_)
set_option maxHeartbeats 8000000 in
set_option maxRecDepth 100000 in
theorem gudgeonref01_sub.calls (k : Nat) (A0 : Option Addr) (c0 : Nat) (l0 : List Bool) (A1 : Option Addr) (c1 : Nat) (l1 : List Bool) (r : List Bool) (w : World) (hr0 : Kd.C Kd.bool w A0 l0.length l0) (hc0 : l0.length ≤ c0) (hr1 : Kd.C Kd.bool w A1 l1.length l1) (hc1 : l1.length ≤ c1) (h : gudgeonref01_sub.f k l0 l1 = some r) :
  Calls Tryd.prog 51 #[.slice A0 l0.length c0, .slice A1 l1.length c1] w fun e w' => ∃ v0_ : Value, e = .returned (v0_) ∧ Kd.R Kd.bool 4 w' w.heap.size (fun _ => True) v0_ r ∧ Below w.heap.size w w' := by
 have HR0 := Aside0.mk hr0
 have HC0 := Aside0.mk hc0
 clear hr0 hc0
 have HR1 := Aside0.mk hr1
 have HC1 := Aside0.mk hc1
 clear hr1 hc1
 have HB := Aside0.mk (Below.refl w.heap.size w)
 have H : (gudgeonref01_sub.l0 k l0 l1 ([] : List Bool) false 0) = some r := h
 clear h
 have H' := Aside0.mk H
 clear H
 go_enter Tryd.func51, Tryd.ntmps51
 go_wp2
 go_loopg [5, 6, 7] k (fun kq v5 v6 v7 w' => ∃ (x5_1 : List Bool) (x6_1 : Bool) (x7_1 : Int), v6 = .bool x6_1 ∧ v7 = .int .i64 x7_1 ∧ Aside0 (gudgeonref01_sub.l0 kq l0 l1 x5_1 x6_1 x7_1 = some r) ∧ Aside0 (kq ≤ k) ∧ Aside0 (Kd.R Kd.bool 4 w' w.heap.size (fun _ => True) v5 x5_1) ∧ Aside0 (Below w.heap.size w w'))
 case atStart => exact ⟨(([] : List Bool)), (false), (0), (by first | rfl | (simp; done) | (simp [*]; done) | (refine congrArg (Value.int _) ?_; omega) | (refine congrArg Value.bool ?_; generalize ByteArray.toList _ = z_; cases z_ <;> rfl)), (by first | rfl | (simp; done) | (simp [*]; done) | (refine congrArg (Value.int _) ?_; omega) | (refine congrArg Value.bool ?_; generalize ByteArray.toList _ = z_; cases z_ <;> rfl)), H', ⟨Nat.le_refl _⟩, ⟨by first | exact Kd.R_nil _ _ _ _ _ | exact Kd.N_nil _ _ _ _ _ | exact Kd.V_nil _ _ _ _ _ | exact Kd.Q_nil _ _ _ _ _ | exact Kd.S_nil _ _ _ _ _⟩, ⟨by repeat first | exact HB.out | apply below_alloc | apply pw_below_drewN | apply below_drew1⟩⟩
 case round =>
  clear H'
  try clear c1
  try clear p2
  obtain ⟨x5_1, x6_1, x7_1, rfl, rfl, HA, HK1, HO_5, HB⟩ := hrel
  cases gk with
  | zero => exact absurd HA.out (by simp [gudgeonref01_sub.l0])
  | succ k1 =>
   have H := HA.out
   clear HA
   simp only [gudgeonref01_sub.l0] at H
   by_cases c3 : x7_1 < (l0.length : Int)
   ·rw [if_pos c3] at H
    have c3b0 : decide (x7_1 < (l0.length : Int)) = true := decide_eq_true c3
    clear c3
    by_cases c4 : 0 ≤ x7_1
    ·rw [if_pos c4] at H
     have c4b0 : decide (0 ≤ x7_1) = true := decide_eq_true c4
     clear c4
     have HC5 := Aside0.mk H
     clear H
     have p463 : 0 ≤ (x7_1 : Int) := of_decide_eq_true (by first | (with_reducible assumption) | assumption)
     have q463 : x7_1 < (l0.length : Int) := of_decide_eq_true (by first | (with_reducible assumption) | assumption)
     obtain ⟨ad463, e463, hx463_0⟩ := Kd.at_bool HR0.out x7_1 p463 q463
     cases e463
     replace hx463_0 := (HB.out.cell (World.block_lt_of_cell? w _ hx463_0)).trans hx463_0
     replace p463 := eq_true p463
     replace q463 := eq_true q463
     go_upto_if 18 with (fail)
     go_cut [8] (fun v8 wc => ∃ (kq : Nat) (x8_4 : Int), v8 = .int .i64 x8_4 ∧ Aside0 (gudgeonref01_sub.j1 kq l0 l1 x5_1 x6_1 x7_1 x8_4 = some r) ∧ Aside0 (kq ≤ k1) ∧ Aside0 (Kd.R Kd.bool 4 wc w.heap.size (fun _ => True) u5 x5_1) ∧ Aside0 (Below w.heap.size w wc))
     case first =>
      have H := HC5.out
      clear HC5
      obtain ⟨bq6, hbq6⟩ : ∃ b_ : Bool, b_ = (rdOf false l0 x7_1) := ⟨_, rfl⟩
      replace H : (if bq6 = true then (gudgeonref01_sub.j1 k1 l0 l1 x5_1 x6_1 x7_1 (0 + 1)) else (gudgeonref01_sub.j1 k1 l0 l1 x5_1 x6_1 x7_1 0)) = some r := by rw [← hbq6] at H; exact H
      have Nbq6 := Aside0.mk hbq6
      clear hbq6
      (try rw [← Nbq6.out])
      by_cases c7 : bq6 = true
      ·subst c7
       have H1 : (gudgeonref01_sub.j1 k1 l0 l1 x5_1 x6_1 x7_1 (0 + 1)) = some r := by rw [if_pos rfl] at H; exact H
       clear H
       have H := H1
       clear H1
       have H' := Aside0.mk H
       clear H
       go_wp2
       go_meet
       case rel => exact ⟨_, (0 + 1), (by first | rfl | (simp; done) | (simp [*]; done) | (refine congrArg (Value.int _) ?_; omega) | (refine congrArg Value.bool ?_; generalize ByteArray.toList _ = z_; cases z_ <;> rfl)), H', ⟨by have := HK1.out; first | omega | exact Nat.le_refl _⟩, ⟨by (with_reducible repeat (first | apply Kd.R_alloc | apply Kd.R_drewN | apply Kd.R_drew)); exact HO_5.out⟩, ⟨by repeat first | exact HB.out | apply below_alloc | apply pw_below_drewN | apply below_drew1⟩⟩
      ·replace c7 := Bool.eq_false_iff.mpr c7
       subst c7
       have H1 : (gudgeonref01_sub.j1 k1 l0 l1 x5_1 x6_1 x7_1 0) = some r := by rw [if_neg (show ¬ (false = true) by decide)] at H; exact H
       clear H
       have H := H1
       clear H1
       have H' := Aside0.mk H
       clear H
       go_wp2
       go_meet
       case rel => exact ⟨_, (0), (by first | rfl | (simp; done) | (simp [*]; done) | (refine congrArg (Value.int _) ?_; omega) | (refine congrArg Value.bool ?_; generalize ByteArray.toList _ = z_; cases z_ <;> rfl)), H', ⟨by have := HK1.out; first | omega | exact Nat.le_refl _⟩, ⟨by (with_reducible repeat (first | apply Kd.R_alloc | apply Kd.R_drewN | apply Kd.R_drew)); exact HO_5.out⟩, ⟨by repeat first | exact HB.out | apply below_alloc | apply pw_below_drewN | apply below_drew1⟩⟩
     case rest =>
      clear HC5
      try clear c1
      try clear p2
      try clear c3
      try clear c3b0
      try clear c4
      try clear c4b0
      try clear p4
      try clear q4
      try clear hx4
      try clear c5
      try clear q6
      try clear c7
      try clear hx463_0
      try clear p2
      try clear p463
      try clear q463
      obtain ⟨kq, x8_4, rfl, HA, HJ4, HO_5, HB⟩ := hcut
      cases kq with
      | zero => exact absurd HA.out (by simp [gudgeonref01_sub.j1])
      | succ kj4 =>
       have H := HA.out
       clear HA
       simp only [gudgeonref01_sub.j1] at H
       replace H := Option.bind_eq_some_iff.mp H
       obtain ⟨t464, A80, H⟩ := H
       replace H : (if t464 = true then (if x6_1 = true then (if (wrap64 ((wrap64 (x8_4 - 1)) - 1)) = 1 then (if x5_1.length < 140737488355328 then (gudgeonref01_sub.l0 kj4 l0 l1 (x5_1 ++ [true]) (decide ((wrap64 ((wrap64 (x8_4 - 1)) - 1)) < 0)) (wrap64 (x7_1 + 1))) else (none)) else (if x5_1.length < 140737488355328 then (gudgeonref01_sub.l0 kj4 l0 l1 (x5_1 ++ [((wrap64 ((wrap64 (x8_4 - 1)) - 1)) == (-1))]) (decide ((wrap64 ((wrap64 (x8_4 - 1)) - 1)) < 0)) (wrap64 (x7_1 + 1))) else (none))) else (if (wrap64 (x8_4 - 1)) = 1 then (if x5_1.length < 140737488355328 then (gudgeonref01_sub.l0 kj4 l0 l1 (x5_1 ++ [true]) (decide ((wrap64 (x8_4 - 1)) < 0)) (wrap64 (x7_1 + 1))) else (none)) else (if x5_1.length < 140737488355328 then (gudgeonref01_sub.l0 kj4 l0 l1 (x5_1 ++ [((wrap64 (x8_4 - 1)) == (-1))]) (decide ((wrap64 (x8_4 - 1)) < 0)) (wrap64 (x7_1 + 1))) else (none)))) else (if x6_1 = true then (if (wrap64 (x8_4 - 1)) = 1 then (if x5_1.length < 140737488355328 then (gudgeonref01_sub.l0 kj4 l0 l1 (x5_1 ++ [true]) (decide ((wrap64 (x8_4 - 1)) < 0)) (wrap64 (x7_1 + 1))) else (none)) else (if x5_1.length < 140737488355328 then (gudgeonref01_sub.l0 kj4 l0 l1 (x5_1 ++ [((wrap64 (x8_4 - 1)) == (-1))]) (decide ((wrap64 (x8_4 - 1)) < 0)) (wrap64 (x7_1 + 1))) else (none))) else (if x8_4 = 1 then (if x5_1.length < 140737488355328 then (gudgeonref01_sub.l0 kj4 l0 l1 (x5_1 ++ [true]) (decide (x8_4 < 0)) (wrap64 (x7_1 + 1))) else (none)) else (if x5_1.length < 140737488355328 then (gudgeonref01_sub.l0 kj4 l0 l1 (x5_1 ++ [(x8_4 == (-1))]) (decide (x8_4 < 0)) (wrap64 (x7_1 + 1))) else (none))))) = some r := H
       have A8 := Aside0.mk A80
       clear A80
       by_cases c9 : t464 = true
       ·subst c9
        have H1 : (if x6_1 = true then (if (wrap64 ((wrap64 (x8_4 - 1)) - 1)) = 1 then (if x5_1.length < 140737488355328 then (gudgeonref01_sub.l0 kj4 l0 l1 (x5_1 ++ [true]) (decide ((wrap64 ((wrap64 (x8_4 - 1)) - 1)) < 0)) (wrap64 (x7_1 + 1))) else (none)) else (if x5_1.length < 140737488355328 then (gudgeonref01_sub.l0 kj4 l0 l1 (x5_1 ++ [((wrap64 ((wrap64 (x8_4 - 1)) - 1)) == (-1))]) (decide ((wrap64 ((wrap64 (x8_4 - 1)) - 1)) < 0)) (wrap64 (x7_1 + 1))) else (none))) else (if (wrap64 (x8_4 - 1)) = 1 then (if x5_1.length < 140737488355328 then (gudgeonref01_sub.l0 kj4 l0 l1 (x5_1 ++ [true]) (decide ((wrap64 (x8_4 - 1)) < 0)) (wrap64 (x7_1 + 1))) else (none)) else (if x5_1.length < 140737488355328 then (gudgeonref01_sub.l0 kj4 l0 l1 (x5_1 ++ [((wrap64 (x8_4 - 1)) == (-1))]) (decide ((wrap64 (x8_4 - 1)) < 0)) (wrap64 (x7_1 + 1))) else (none)))) = some r := by rw [if_pos rfl] at H; exact H
        clear H
        have H := H1
        clear H1
        by_cases c10 : x6_1 = true
        ·subst c10
         have H1 : (if (wrap64 ((wrap64 (x8_4 - 1)) - 1)) = 1 then (if x5_1.length < 140737488355328 then (gudgeonref01_sub.l0 kj4 l0 l1 (x5_1 ++ [true]) (decide ((wrap64 ((wrap64 (x8_4 - 1)) - 1)) < 0)) (wrap64 (x7_1 + 1))) else (none)) else (if x5_1.length < 140737488355328 then (gudgeonref01_sub.l0 kj4 l0 l1 (x5_1 ++ [((wrap64 ((wrap64 (x8_4 - 1)) - 1)) == (-1))]) (decide ((wrap64 ((wrap64 (x8_4 - 1)) - 1)) < 0)) (wrap64 (x7_1 + 1))) else (none))) = some r := by rw [if_pos rfl] at H; exact H
         clear H
         have H := H1
         clear H1
         by_cases c11 : (wrap64 ((wrap64 (x8_4 - 1)) - 1)) = 1
         ·rw [if_pos c11] at H
          have c11b0 : ((wrap64 ((wrap64 (x8_4 - 1)) - 1)) == 1) = true := beq_iff_eq.mpr c11
          have c11b1 : ((wrap64 ((wrap64 (x8_4 - 1)) - 1)) != 1) = false := bne_eq_false_iff_eq.mpr c11
          clear c11
          by_cases c12 : x5_1.length < 140737488355328
          ·rw [if_pos c12] at H
           have LMc12 := Aside0.mk c12
           clear c12
           obtain ⟨y465, hy465⟩ : ∃ y_ : List Bool, y_ = (x5_1 ++ [true]) := ⟨_, rfl⟩
           replace H : (gudgeonref01_sub.l0 kj4 l0 l1 y465 (decide ((wrap64 ((wrap64 (x8_4 - 1)) - 1)) < 0)) (wrap64 (x7_1 + 1))) = some r := by first | (rw [hy465]; with_reducible exact H) | (have H2_ := (Option.bind_some _ _).symm.trans H; rw [hy465]; with_reducible exact H2_) | (have H2_ := (Option.bind_some _ _).symm.trans H; with_reducible exact H2_) | with_reducible exact H | (rw [hy465]; exact H) | exact H
           have Ny465 := Aside0.mk hy465
           clear hy465
           have H' := Aside0.mk H
           clear H
           go_wp2_with (first | ((with_reducible refine gate_callee (f := 56) rfl ?_); refine goesL_ (some 23) rfl rfl Tryd.func56 (by kernel_rfl) rfl #[.slice A1 l1.length c1, .int .i64 x7_1] rfl (by (try simp only [List.map_toArray, List.map_cons, List.map_nil]); first | done | rfl | (simp only [List.length_drop, List.length_take]; rfl)) ?_; (with_reducible refine (gudgeonref01_at.calls _ _ l1 x7_1 true _ ?side1 ?side2 A8.out).mono ?_); (case side1 => repeat (first | exact (Kd.C_below HR1.out HB.out) | (with_reducible refine Kd.C_alloc ?_ _) | (with_reducible refine Kd.C_drewN ?_ _) | (with_reducible refine Kd.C_drew ?_))); (case side2 => exact HC1.out); rintro e w' ⟨rfl, ⟨nd, rfl⟩⟩; refine ⟨_, rfl, ?_⟩) | ((with_reducible refine gate_builtin (b := .append) (xs := #[.tmp 29, .tmp 36]) rfl ?_); at_builtin; refine Kd.R_append Kd.bool (w0 := w) w.heap.size rfl (.tmp 29) (.tmp 36) 49 4 (.bool false) 1 rfl Tryd.underlying49 info4 rfl (by decide) (by omega) u5 x5_1 true [.bool true] (fun _ => True) (fun _ => False) rfl rfl ?aP (fun _ hk => hk.elim) ?aF ?aO ?aB ?aS ?aL ?_; (case aP => exact rfl); (case aB => exact (by repeat first | exact HB.out | apply below_alloc | apply pw_below_drewN | apply below_drew1)); (case aF => exact (fun _ _ => trivial)); (case aO => exact HO_5.out); (case aS => exact (below_size (by repeat first | exact HB.out | apply below_alloc | apply pw_below_drewN | apply below_drew1))); (case aL => have := LMc12.out; omega); intro v466 w13 ho hb hg hat; rw [← Ny465.out] at ho; have n0_ := Aside0.mk (hb); have n1_ := Aside0.mk (ho); clear HB; clear HO_5; have HB := n0_; have HO467 := n1_; clear n0_ n1_; clear ho hb hg hat))
           go_roundg kj4
           case measure => have := HK1.out; have := HJ4.out; omega
           case rel => exact ⟨(y465), (decide ((wrap64 ((wrap64 (x8_4 - 1)) - 1)) < 0)), (wrap64 (x7_1 + 1)), (by first | rfl | (simp; done) | (simp [*]; done) | (refine congrArg (Value.int _) ?_; omega) | (refine congrArg Value.bool ?_; generalize ByteArray.toList _ = z_; cases z_ <;> rfl)), (by first | rfl | (simp; done) | (simp [*]; done) | (refine congrArg (Value.int _) ?_; omega) | (refine congrArg Value.bool ?_; generalize ByteArray.toList _ = z_; cases z_ <;> rfl)), H', ⟨by have := HK1.out; have := HJ4.out; omega⟩, ⟨by (with_reducible repeat (first | apply Kd.R_alloc | apply Kd.R_drewN | apply Kd.R_drew)); exact HO467.out⟩, ⟨by repeat first | exact HB.out | apply below_alloc | apply pw_below_drewN | apply below_drew1⟩⟩
          ·rw [if_neg c12] at H
           exact absurd H (by simp)
         ·rw [if_neg c11] at H
          have c11b0 : ((wrap64 ((wrap64 (x8_4 - 1)) - 1)) == 1) = false := beq_eq_false_iff_ne.mpr c11
          have c11b1 : ((wrap64 ((wrap64 (x8_4 - 1)) - 1)) != 1) = true := bne_iff_ne.mpr c11
          by_cases c14 : x5_1.length < 140737488355328
          ·rw [if_pos c14] at H
           have LMc14 := Aside0.mk c14
           clear c14
           obtain ⟨y468, hy468⟩ : ∃ y_ : List Bool, y_ = (x5_1 ++ [((wrap64 ((wrap64 (x8_4 - 1)) - 1)) == (-1))]) := ⟨_, rfl⟩
           replace H : (gudgeonref01_sub.l0 kj4 l0 l1 y468 (decide ((wrap64 ((wrap64 (x8_4 - 1)) - 1)) < 0)) (wrap64 (x7_1 + 1))) = some r := by first | (rw [hy468]; with_reducible exact H) | (have H2_ := (Option.bind_some _ _).symm.trans H; rw [hy468]; with_reducible exact H2_) | (have H2_ := (Option.bind_some _ _).symm.trans H; with_reducible exact H2_) | with_reducible exact H | (rw [hy468]; exact H) | exact H
           have Ny468 := Aside0.mk hy468
           clear hy468
           have H' := Aside0.mk H
           clear H
           go_wp2_with (first | ((with_reducible refine gate_callee (f := 56) rfl ?_); refine goesL_ (some 23) rfl rfl Tryd.func56 (by kernel_rfl) rfl #[.slice A1 l1.length c1, .int .i64 x7_1] rfl (by (try simp only [List.map_toArray, List.map_cons, List.map_nil]); first | done | rfl | (simp only [List.length_drop, List.length_take]; rfl)) ?_; (with_reducible refine (gudgeonref01_at.calls _ _ l1 x7_1 true _ ?side1 ?side2 A8.out).mono ?_); (case side1 => repeat (first | exact (Kd.C_below HR1.out HB.out) | (with_reducible refine Kd.C_alloc ?_ _) | (with_reducible refine Kd.C_drewN ?_ _) | (with_reducible refine Kd.C_drew ?_))); (case side2 => exact HC1.out); rintro e w' ⟨rfl, ⟨nd, rfl⟩⟩; refine ⟨_, rfl, ?_⟩) | ((with_reducible refine gate_builtin (b := .append) (xs := #[.tmp 29, .tmp 36]) rfl ?_); at_builtin; refine Kd.R_append Kd.bool (w0 := w) w.heap.size rfl (.tmp 29) (.tmp 36) 49 4 (.bool false) 1 rfl Tryd.underlying49 info4 rfl (by decide) (by omega) u5 x5_1 ((wrap64 ((wrap64 (x8_4 - 1)) - 1)) == (-1)) [.bool ((wrap64 ((wrap64 (x8_4 - 1)) - 1)) == (-1))] (fun _ => True) (fun _ => False) rfl rfl ?aP (fun _ hk => hk.elim) ?aF ?aO ?aB ?aS ?aL ?_; (case aP => exact rfl); (case aB => exact (by repeat first | exact HB.out | apply below_alloc | apply pw_below_drewN | apply below_drew1)); (case aF => exact (fun _ _ => trivial)); (case aO => exact HO_5.out); (case aS => exact (below_size (by repeat first | exact HB.out | apply below_alloc | apply pw_below_drewN | apply below_drew1))); (case aL => have := LMc14.out; omega); intro v469 w15 ho hb hg hat; rw [← Ny468.out] at ho; have n0_ := Aside0.mk (hb); have n1_ := Aside0.mk (ho); clear HB; clear HO_5; have HB := n0_; have HO470 := n1_; clear n0_ n1_; clear ho hb hg hat))
           go_roundg kj4
           case measure => have := HK1.out; have := HJ4.out; omega
           case rel => exact ⟨(y468), (decide ((wrap64 ((wrap64 (x8_4 - 1)) - 1)) < 0)), (wrap64 (x7_1 + 1)), (by first | rfl | (simp; done) | (simp [*]; done) | (refine congrArg (Value.int _) ?_; omega) | (refine congrArg Value.bool ?_; generalize ByteArray.toList _ = z_; cases z_ <;> rfl)), (by first | rfl | (simp; done) | (simp [*]; done) | (refine congrArg (Value.int _) ?_; omega) | (refine congrArg Value.bool ?_; generalize ByteArray.toList _ = z_; cases z_ <;> rfl)), H', ⟨by have := HK1.out; have := HJ4.out; omega⟩, ⟨by (with_reducible repeat (first | apply Kd.R_alloc | apply Kd.R_drewN | apply Kd.R_drew)); exact HO470.out⟩, ⟨by repeat first | exact HB.out | apply below_alloc | apply pw_below_drewN | apply below_drew1⟩⟩
          ·rw [if_neg c14] at H
           exact absurd H (by simp)
        ·replace c10 := Bool.eq_false_iff.mpr c10
         subst c10
         have H1 : (if (wrap64 (x8_4 - 1)) = 1 then (if x5_1.length < 140737488355328 then (gudgeonref01_sub.l0 kj4 l0 l1 (x5_1 ++ [true]) (decide ((wrap64 (x8_4 - 1)) < 0)) (wrap64 (x7_1 + 1))) else (none)) else (if x5_1.length < 140737488355328 then (gudgeonref01_sub.l0 kj4 l0 l1 (x5_1 ++ [((wrap64 (x8_4 - 1)) == (-1))]) (decide ((wrap64 (x8_4 - 1)) < 0)) (wrap64 (x7_1 + 1))) else (none))) = some r := by rw [if_neg (show ¬ (false = true) by decide)] at H; exact H
         clear H
         have H := H1
         clear H1
         by_cases c16 : (wrap64 (x8_4 - 1)) = 1
         ·rw [if_pos c16] at H
          have c16b0 : ((wrap64 (x8_4 - 1)) == 1) = true := beq_iff_eq.mpr c16
          have c16b1 : ((wrap64 (x8_4 - 1)) != 1) = false := bne_eq_false_iff_eq.mpr c16
          clear c16
          by_cases c17 : x5_1.length < 140737488355328
          ·rw [if_pos c17] at H
           have LMc17 := Aside0.mk c17
           clear c17
           obtain ⟨y471, hy471⟩ : ∃ y_ : List Bool, y_ = (x5_1 ++ [true]) := ⟨_, rfl⟩
           replace H : (gudgeonref01_sub.l0 kj4 l0 l1 y471 (decide ((wrap64 (x8_4 - 1)) < 0)) (wrap64 (x7_1 + 1))) = some r := by first | (rw [hy471]; with_reducible exact H) | (have H2_ := (Option.bind_some _ _).symm.trans H; rw [hy471]; with_reducible exact H2_) | (have H2_ := (Option.bind_some _ _).symm.trans H; with_reducible exact H2_) | with_reducible exact H | (rw [hy471]; exact H) | exact H
           have Ny471 := Aside0.mk hy471
           clear hy471
           have H' := Aside0.mk H
           clear H
           go_wp2_with (first | ((with_reducible refine gate_callee (f := 56) rfl ?_); refine goesL_ (some 23) rfl rfl Tryd.func56 (by kernel_rfl) rfl #[.slice A1 l1.length c1, .int .i64 x7_1] rfl (by (try simp only [List.map_toArray, List.map_cons, List.map_nil]); first | done | rfl | (simp only [List.length_drop, List.length_take]; rfl)) ?_; (with_reducible refine (gudgeonref01_at.calls _ _ l1 x7_1 true _ ?side1 ?side2 A8.out).mono ?_); (case side1 => repeat (first | exact (Kd.C_below HR1.out HB.out) | (with_reducible refine Kd.C_alloc ?_ _) | (with_reducible refine Kd.C_drewN ?_ _) | (with_reducible refine Kd.C_drew ?_))); (case side2 => exact HC1.out); rintro e w' ⟨rfl, ⟨nd, rfl⟩⟩; refine ⟨_, rfl, ?_⟩) | ((with_reducible refine gate_builtin (b := .append) (xs := #[.tmp 29, .tmp 36]) rfl ?_); at_builtin; refine Kd.R_append Kd.bool (w0 := w) w.heap.size rfl (.tmp 29) (.tmp 36) 49 4 (.bool false) 1 rfl Tryd.underlying49 info4 rfl (by decide) (by omega) u5 x5_1 true [.bool true] (fun _ => True) (fun _ => False) rfl rfl ?aP (fun _ hk => hk.elim) ?aF ?aO ?aB ?aS ?aL ?_; (case aP => exact rfl); (case aB => exact (by repeat first | exact HB.out | apply below_alloc | apply pw_below_drewN | apply below_drew1)); (case aF => exact (fun _ _ => trivial)); (case aO => exact HO_5.out); (case aS => exact (below_size (by repeat first | exact HB.out | apply below_alloc | apply pw_below_drewN | apply below_drew1))); (case aL => have := LMc17.out; omega); intro v472 w18 ho hb hg hat; rw [← Ny471.out] at ho; have n0_ := Aside0.mk (hb); have n1_ := Aside0.mk (ho); clear HB; clear HO_5; have HB := n0_; have HO473 := n1_; clear n0_ n1_; clear ho hb hg hat))
           go_roundg kj4
           case measure => have := HK1.out; have := HJ4.out; omega
           case rel => exact ⟨(y471), (decide ((wrap64 (x8_4 - 1)) < 0)), (wrap64 (x7_1 + 1)), (by first | rfl | (simp; done) | (simp [*]; done) | (refine congrArg (Value.int _) ?_; omega) | (refine congrArg Value.bool ?_; generalize ByteArray.toList _ = z_; cases z_ <;> rfl)), (by first | rfl | (simp; done) | (simp [*]; done) | (refine congrArg (Value.int _) ?_; omega) | (refine congrArg Value.bool ?_; generalize ByteArray.toList _ = z_; cases z_ <;> rfl)), H', ⟨by have := HK1.out; have := HJ4.out; omega⟩, ⟨by (with_reducible repeat (first | apply Kd.R_alloc | apply Kd.R_drewN | apply Kd.R_drew)); exact HO473.out⟩, ⟨by repeat first | exact HB.out | apply below_alloc | apply pw_below_drewN | apply below_drew1⟩⟩
          ·rw [if_neg c17] at H
           exact absurd H (by simp)
         ·rw [if_neg c16] at H
          have c16b0 : ((wrap64 (x8_4 - 1)) == 1) = false := beq_eq_false_iff_ne.mpr c16
          have c16b1 : ((wrap64 (x8_4 - 1)) != 1) = true := bne_iff_ne.mpr c16
          by_cases c19 : x5_1.length < 140737488355328
          ·rw [if_pos c19] at H
           have LMc19 := Aside0.mk c19
           clear c19
           obtain ⟨y474, hy474⟩ : ∃ y_ : List Bool, y_ = (x5_1 ++ [((wrap64 (x8_4 - 1)) == (-1))]) := ⟨_, rfl⟩
           replace H : (gudgeonref01_sub.l0 kj4 l0 l1 y474 (decide ((wrap64 (x8_4 - 1)) < 0)) (wrap64 (x7_1 + 1))) = some r := by first | (rw [hy474]; with_reducible exact H) | (have H2_ := (Option.bind_some _ _).symm.trans H; rw [hy474]; with_reducible exact H2_) | (have H2_ := (Option.bind_some _ _).symm.trans H; with_reducible exact H2_) | with_reducible exact H | (rw [hy474]; exact H) | exact H
           have Ny474 := Aside0.mk hy474
           clear hy474
           have H' := Aside0.mk H
           clear H
           go_wp2_with (first | ((with_reducible refine gate_callee (f := 56) rfl ?_); refine goesL_ (some 23) rfl rfl Tryd.func56 (by kernel_rfl) rfl #[.slice A1 l1.length c1, .int .i64 x7_1] rfl (by (try simp only [List.map_toArray, List.map_cons, List.map_nil]); first | done | rfl | (simp only [List.length_drop, List.length_take]; rfl)) ?_; (with_reducible refine (gudgeonref01_at.calls _ _ l1 x7_1 true _ ?side1 ?side2 A8.out).mono ?_); (case side1 => repeat (first | exact (Kd.C_below HR1.out HB.out) | (with_reducible refine Kd.C_alloc ?_ _) | (with_reducible refine Kd.C_drewN ?_ _) | (with_reducible refine Kd.C_drew ?_))); (case side2 => exact HC1.out); rintro e w' ⟨rfl, ⟨nd, rfl⟩⟩; refine ⟨_, rfl, ?_⟩) | ((with_reducible refine gate_builtin (b := .append) (xs := #[.tmp 29, .tmp 36]) rfl ?_); at_builtin; refine Kd.R_append Kd.bool (w0 := w) w.heap.size rfl (.tmp 29) (.tmp 36) 49 4 (.bool false) 1 rfl Tryd.underlying49 info4 rfl (by decide) (by omega) u5 x5_1 ((wrap64 (x8_4 - 1)) == (-1)) [.bool ((wrap64 (x8_4 - 1)) == (-1))] (fun _ => True) (fun _ => False) rfl rfl ?aP (fun _ hk => hk.elim) ?aF ?aO ?aB ?aS ?aL ?_; (case aP => exact rfl); (case aB => exact (by repeat first | exact HB.out | apply below_alloc | apply pw_below_drewN | apply below_drew1)); (case aF => exact (fun _ _ => trivial)); (case aO => exact HO_5.out); (case aS => exact (below_size (by repeat first | exact HB.out | apply below_alloc | apply pw_below_drewN | apply below_drew1))); (case aL => have := LMc19.out; omega); intro v475 w20 ho hb hg hat; rw [← Ny474.out] at ho; have n0_ := Aside0.mk (hb); have n1_ := Aside0.mk (ho); clear HB; clear HO_5; have HB := n0_; have HO476 := n1_; clear n0_ n1_; clear ho hb hg hat))
           go_roundg kj4
           case measure => have := HK1.out; have := HJ4.out; omega
           case rel => exact ⟨(y474), (decide ((wrap64 (x8_4 - 1)) < 0)), (wrap64 (x7_1 + 1)), (by first | rfl | (simp; done) | (simp [*]; done) | (refine congrArg (Value.int _) ?_; omega) | (refine congrArg Value.bool ?_; generalize ByteArray.toList _ = z_; cases z_ <;> rfl)), (by first | rfl | (simp; done) | (simp [*]; done) | (refine congrArg (Value.int _) ?_; omega) | (refine congrArg Value.bool ?_; generalize ByteArray.toList _ = z_; cases z_ <;> rfl)), H', ⟨by have := HK1.out; have := HJ4.out; omega⟩, ⟨by (with_reducible repeat (first | apply Kd.R_alloc | apply Kd.R_drewN | apply Kd.R_drew)); exact HO476.out⟩, ⟨by repeat first | exact HB.out | apply below_alloc | apply pw_below_drewN | apply below_drew1⟩⟩
          ·rw [if_neg c19] at H
           exact absurd H (by simp)
       ·replace c9 := Bool.eq_false_iff.mpr c9
        subst c9
        have H1 : (if x6_1 = true then (if (wrap64 (x8_4 - 1)) = 1 then (if x5_1.length < 140737488355328 then (gudgeonref01_sub.l0 kj4 l0 l1 (x5_1 ++ [true]) (decide ((wrap64 (x8_4 - 1)) < 0)) (wrap64 (x7_1 + 1))) else (none)) else (if x5_1.length < 140737488355328 then (gudgeonref01_sub.l0 kj4 l0 l1 (x5_1 ++ [((wrap64 (x8_4 - 1)) == (-1))]) (decide ((wrap64 (x8_4 - 1)) < 0)) (wrap64 (x7_1 + 1))) else (none))) else (if x8_4 = 1 then (if x5_1.length < 140737488355328 then (gudgeonref01_sub.l0 kj4 l0 l1 (x5_1 ++ [true]) (decide (x8_4 < 0)) (wrap64 (x7_1 + 1))) else (none)) else (if x5_1.length < 140737488355328 then (gudgeonref01_sub.l0 kj4 l0 l1 (x5_1 ++ [(x8_4 == (-1))]) (decide (x8_4 < 0)) (wrap64 (x7_1 + 1))) else (none)))) = some r := by rw [if_neg (show ¬ (false = true) by decide)] at H; exact H
        clear H
        have H := H1
        clear H1
        by_cases c21 : x6_1 = true
        ·subst c21
         have H1 : (if (wrap64 (x8_4 - 1)) = 1 then (if x5_1.length < 140737488355328 then (gudgeonref01_sub.l0 kj4 l0 l1 (x5_1 ++ [true]) (decide ((wrap64 (x8_4 - 1)) < 0)) (wrap64 (x7_1 + 1))) else (none)) else (if x5_1.length < 140737488355328 then (gudgeonref01_sub.l0 kj4 l0 l1 (x5_1 ++ [((wrap64 (x8_4 - 1)) == (-1))]) (decide ((wrap64 (x8_4 - 1)) < 0)) (wrap64 (x7_1 + 1))) else (none))) = some r := by rw [if_pos rfl] at H; exact H
         clear H
         have H := H1
         clear H1
         by_cases c22 : (wrap64 (x8_4 - 1)) = 1
         ·rw [if_pos c22] at H
          have c22b0 : ((wrap64 (x8_4 - 1)) == 1) = true := beq_iff_eq.mpr c22
          have c22b1 : ((wrap64 (x8_4 - 1)) != 1) = false := bne_eq_false_iff_eq.mpr c22
          clear c22
          by_cases c23 : x5_1.length < 140737488355328
          ·rw [if_pos c23] at H
           have LMc23 := Aside0.mk c23
           clear c23
           obtain ⟨y477, hy477⟩ : ∃ y_ : List Bool, y_ = (x5_1 ++ [true]) := ⟨_, rfl⟩
           replace H : (gudgeonref01_sub.l0 kj4 l0 l1 y477 (decide ((wrap64 (x8_4 - 1)) < 0)) (wrap64 (x7_1 + 1))) = some r := by first | (rw [hy477]; with_reducible exact H) | (have H2_ := (Option.bind_some _ _).symm.trans H; rw [hy477]; with_reducible exact H2_) | (have H2_ := (Option.bind_some _ _).symm.trans H; with_reducible exact H2_) | with_reducible exact H | (rw [hy477]; exact H) | exact H
           have Ny477 := Aside0.mk hy477
           clear hy477
           have H' := Aside0.mk H
           clear H
           go_wp2_with (first | ((with_reducible refine gate_callee (f := 56) rfl ?_); refine goesL_ (some 23) rfl rfl Tryd.func56 (by kernel_rfl) rfl #[.slice A1 l1.length c1, .int .i64 x7_1] rfl (by (try simp only [List.map_toArray, List.map_cons, List.map_nil]); first | done | rfl | (simp only [List.length_drop, List.length_take]; rfl)) ?_; (with_reducible refine (gudgeonref01_at.calls _ _ l1 x7_1 false _ ?side1 ?side2 A8.out).mono ?_); (case side1 => repeat (first | exact (Kd.C_below HR1.out HB.out) | (with_reducible refine Kd.C_alloc ?_ _) | (with_reducible refine Kd.C_drewN ?_ _) | (with_reducible refine Kd.C_drew ?_))); (case side2 => exact HC1.out); rintro e w' ⟨rfl, ⟨nd, rfl⟩⟩; refine ⟨_, rfl, ?_⟩) | ((with_reducible refine gate_builtin (b := .append) (xs := #[.tmp 29, .tmp 36]) rfl ?_); at_builtin; refine Kd.R_append Kd.bool (w0 := w) w.heap.size rfl (.tmp 29) (.tmp 36) 49 4 (.bool false) 1 rfl Tryd.underlying49 info4 rfl (by decide) (by omega) u5 x5_1 true [.bool true] (fun _ => True) (fun _ => False) rfl rfl ?aP (fun _ hk => hk.elim) ?aF ?aO ?aB ?aS ?aL ?_; (case aP => exact rfl); (case aB => exact (by repeat first | exact HB.out | apply below_alloc | apply pw_below_drewN | apply below_drew1)); (case aF => exact (fun _ _ => trivial)); (case aO => exact HO_5.out); (case aS => exact (below_size (by repeat first | exact HB.out | apply below_alloc | apply pw_below_drewN | apply below_drew1))); (case aL => have := LMc23.out; omega); intro v478 w24 ho hb hg hat; rw [← Ny477.out] at ho; have n0_ := Aside0.mk (hb); have n1_ := Aside0.mk (ho); clear HB; clear HO_5; have HB := n0_; have HO479 := n1_; clear n0_ n1_; clear ho hb hg hat))
           go_roundg kj4
           case measure => have := HK1.out; have := HJ4.out; omega
           case rel => exact ⟨(y477), (decide ((wrap64 (x8_4 - 1)) < 0)), (wrap64 (x7_1 + 1)), (by first | rfl | (simp; done) | (simp [*]; done) | (refine congrArg (Value.int _) ?_; omega) | (refine congrArg Value.bool ?_; generalize ByteArray.toList _ = z_; cases z_ <;> rfl)), (by first | rfl | (simp; done) | (simp [*]; done) | (refine congrArg (Value.int _) ?_; omega) | (refine congrArg Value.bool ?_; generalize ByteArray.toList _ = z_; cases z_ <;> rfl)), H', ⟨by have := HK1.out; have := HJ4.out; omega⟩, ⟨by (with_reducible repeat (first | apply Kd.R_alloc | apply Kd.R_drewN | apply Kd.R_drew)); exact HO479.out⟩, ⟨by repeat first | exact HB.out | apply below_alloc | apply pw_below_drewN | apply below_drew1⟩⟩
          ·rw [if_neg c23] at H
           exact absurd H (by simp)
         ·rw [if_neg c22] at H
          have c22b0 : ((wrap64 (x8_4 - 1)) == 1) = false := beq_eq_false_iff_ne.mpr c22
          have c22b1 : ((wrap64 (x8_4 - 1)) != 1) = true := bne_iff_ne.mpr c22
          by_cases c25 : x5_1.length < 140737488355328
          ·rw [if_pos c25] at H
           have LMc25 := Aside0.mk c25
           clear c25
           obtain ⟨y480, hy480⟩ : ∃ y_ : List Bool, y_ = (x5_1 ++ [((wrap64 (x8_4 - 1)) == (-1))]) := ⟨_, rfl⟩
           replace H : (gudgeonref01_sub.l0 kj4 l0 l1 y480 (decide ((wrap64 (x8_4 - 1)) < 0)) (wrap64 (x7_1 + 1))) = some r := by first | (rw [hy480]; with_reducible exact H) | (have H2_ := (Option.bind_some _ _).symm.trans H; rw [hy480]; with_reducible exact H2_) | (have H2_ := (Option.bind_some _ _).symm.trans H; with_reducible exact H2_) | with_reducible exact H | (rw [hy480]; exact H) | exact H
           have Ny480 := Aside0.mk hy480
           clear hy480
           have H' := Aside0.mk H
           clear H
           go_wp2_with (first | ((with_reducible refine gate_callee (f := 56) rfl ?_); refine goesL_ (some 23) rfl rfl Tryd.func56 (by kernel_rfl) rfl #[.slice A1 l1.length c1, .int .i64 x7_1] rfl (by (try simp only [List.map_toArray, List.map_cons, List.map_nil]); first | done | rfl | (simp only [List.length_drop, List.length_take]; rfl)) ?_; (with_reducible refine (gudgeonref01_at.calls _ _ l1 x7_1 false _ ?side1 ?side2 A8.out).mono ?_); (case side1 => repeat (first | exact (Kd.C_below HR1.out HB.out) | (with_reducible refine Kd.C_alloc ?_ _) | (with_reducible refine Kd.C_drewN ?_ _) | (with_reducible refine Kd.C_drew ?_))); (case side2 => exact HC1.out); rintro e w' ⟨rfl, ⟨nd, rfl⟩⟩; refine ⟨_, rfl, ?_⟩) | ((with_reducible refine gate_builtin (b := .append) (xs := #[.tmp 29, .tmp 36]) rfl ?_); at_builtin; refine Kd.R_append Kd.bool (w0 := w) w.heap.size rfl (.tmp 29) (.tmp 36) 49 4 (.bool false) 1 rfl Tryd.underlying49 info4 rfl (by decide) (by omega) u5 x5_1 ((wrap64 (x8_4 - 1)) == (-1)) [.bool ((wrap64 (x8_4 - 1)) == (-1))] (fun _ => True) (fun _ => False) rfl rfl ?aP (fun _ hk => hk.elim) ?aF ?aO ?aB ?aS ?aL ?_; (case aP => exact rfl); (case aB => exact (by repeat first | exact HB.out | apply below_alloc | apply pw_below_drewN | apply below_drew1)); (case aF => exact (fun _ _ => trivial)); (case aO => exact HO_5.out); (case aS => exact (below_size (by repeat first | exact HB.out | apply below_alloc | apply pw_below_drewN | apply below_drew1))); (case aL => have := LMc25.out; omega); intro v481 w26 ho hb hg hat; rw [← Ny480.out] at ho; have n0_ := Aside0.mk (hb); have n1_ := Aside0.mk (ho); clear HB; clear HO_5; have HB := n0_; have HO482 := n1_; clear n0_ n1_; clear ho hb hg hat))
           go_roundg kj4
           case measure => have := HK1.out; have := HJ4.out; omega
           case rel => exact ⟨(y480), (decide ((wrap64 (x8_4 - 1)) < 0)), (wrap64 (x7_1 + 1)), (by first | rfl | (simp; done) | (simp [*]; done) | (refine congrArg (Value.int _) ?_; omega) | (refine congrArg Value.bool ?_; generalize ByteArray.toList _ = z_; cases z_ <;> rfl)), (by first | rfl | (simp; done) | (simp [*]; done) | (refine congrArg (Value.int _) ?_; omega) | (refine congrArg Value.bool ?_; generalize ByteArray.toList _ = z_; cases z_ <;> rfl)), H', ⟨by have := HK1.out; have := HJ4.out; omega⟩, ⟨by (with_reducible repeat (first | apply Kd.R_alloc | apply Kd.R_drewN | apply Kd.R_drew)); exact HO482.out⟩, ⟨by repeat first | exact HB.out | apply below_alloc | apply pw_below_drewN | apply below_drew1⟩⟩
          ·rw [if_neg c25] at H
           exact absurd H (by simp)
        ·replace c21 := Bool.eq_false_iff.mpr c21
         subst c21
         have H1 : (if x8_4 = 1 then (if x5_1.length < 140737488355328 then (gudgeonref01_sub.l0 kj4 l0 l1 (x5_1 ++ [true]) (decide (x8_4 < 0)) (wrap64 (x7_1 + 1))) else (none)) else (if x5_1.length < 140737488355328 then (gudgeonref01_sub.l0 kj4 l0 l1 (x5_1 ++ [(x8_4 == (-1))]) (decide (x8_4 < 0)) (wrap64 (x7_1 + 1))) else (none))) = some r := by rw [if_neg (show ¬ (false = true) by decide)] at H; exact H
         clear H
         have H := H1
         clear H1
         by_cases c27 : x8_4 = 1
         ·rw [if_pos c27] at H
          have c27b0 : (x8_4 == 1) = true := beq_iff_eq.mpr c27
          have c27b1 : (x8_4 != 1) = false := bne_eq_false_iff_eq.mpr c27
          clear c27
          by_cases c28 : x5_1.length < 140737488355328
          ·rw [if_pos c28] at H
           have LMc28 := Aside0.mk c28
           clear c28
           obtain ⟨y483, hy483⟩ : ∃ y_ : List Bool, y_ = (x5_1 ++ [true]) := ⟨_, rfl⟩
           replace H : (gudgeonref01_sub.l0 kj4 l0 l1 y483 (decide (x8_4 < 0)) (wrap64 (x7_1 + 1))) = some r := by first | (rw [hy483]; with_reducible exact H) | (have H2_ := (Option.bind_some _ _).symm.trans H; rw [hy483]; with_reducible exact H2_) | (have H2_ := (Option.bind_some _ _).symm.trans H; with_reducible exact H2_) | with_reducible exact H | (rw [hy483]; exact H) | exact H
           have Ny483 := Aside0.mk hy483
           clear hy483
           have H' := Aside0.mk H
           clear H
           go_wp2_with (first | ((with_reducible refine gate_callee (f := 56) rfl ?_); refine goesL_ (some 23) rfl rfl Tryd.func56 (by kernel_rfl) rfl #[.slice A1 l1.length c1, .int .i64 x7_1] rfl (by (try simp only [List.map_toArray, List.map_cons, List.map_nil]); first | done | rfl | (simp only [List.length_drop, List.length_take]; rfl)) ?_; (with_reducible refine (gudgeonref01_at.calls _ _ l1 x7_1 false _ ?side1 ?side2 A8.out).mono ?_); (case side1 => repeat (first | exact (Kd.C_below HR1.out HB.out) | (with_reducible refine Kd.C_alloc ?_ _) | (with_reducible refine Kd.C_drewN ?_ _) | (with_reducible refine Kd.C_drew ?_))); (case side2 => exact HC1.out); rintro e w' ⟨rfl, ⟨nd, rfl⟩⟩; refine ⟨_, rfl, ?_⟩) | ((with_reducible refine gate_builtin (b := .append) (xs := #[.tmp 29, .tmp 36]) rfl ?_); at_builtin; refine Kd.R_append Kd.bool (w0 := w) w.heap.size rfl (.tmp 29) (.tmp 36) 49 4 (.bool false) 1 rfl Tryd.underlying49 info4 rfl (by decide) (by omega) u5 x5_1 true [.bool true] (fun _ => True) (fun _ => False) rfl rfl ?aP (fun _ hk => hk.elim) ?aF ?aO ?aB ?aS ?aL ?_; (case aP => exact rfl); (case aB => exact (by repeat first | exact HB.out | apply below_alloc | apply pw_below_drewN | apply below_drew1)); (case aF => exact (fun _ _ => trivial)); (case aO => exact HO_5.out); (case aS => exact (below_size (by repeat first | exact HB.out | apply below_alloc | apply pw_below_drewN | apply below_drew1))); (case aL => have := LMc28.out; omega); intro v484 w29 ho hb hg hat; rw [← Ny483.out] at ho; have n0_ := Aside0.mk (hb); have n1_ := Aside0.mk (ho); clear HB; clear HO_5; have HB := n0_; have HO485 := n1_; clear n0_ n1_; clear ho hb hg hat))
           go_roundg kj4
           case measure => have := HK1.out; have := HJ4.out; omega
           case rel => exact ⟨(y483), (decide (x8_4 < 0)), (wrap64 (x7_1 + 1)), (by first | rfl | (simp; done) | (simp [*]; done) | (refine congrArg (Value.int _) ?_; omega) | (refine congrArg Value.bool ?_; generalize ByteArray.toList _ = z_; cases z_ <;> rfl)), (by first | rfl | (simp; done) | (simp [*]; done) | (refine congrArg (Value.int _) ?_; omega) | (refine congrArg Value.bool ?_; generalize ByteArray.toList _ = z_; cases z_ <;> rfl)), H', ⟨by have := HK1.out; have := HJ4.out; omega⟩, ⟨by (with_reducible repeat (first | apply Kd.R_alloc | apply Kd.R_drewN | apply Kd.R_drew)); exact HO485.out⟩, ⟨by repeat first | exact HB.out | apply below_alloc | apply pw_below_drewN | apply below_drew1⟩⟩
          ·rw [if_neg c28] at H
           exact absurd H (by simp)
         ·rw [if_neg c27] at H
          have c27b0 : (x8_4 == 1) = false := beq_eq_false_iff_ne.mpr c27
          have c27b1 : (x8_4 != 1) = true := bne_iff_ne.mpr c27
          by_cases c30 : x5_1.length < 140737488355328
          ·rw [if_pos c30] at H
           have LMc30 := Aside0.mk c30
           clear c30
           obtain ⟨y486, hy486⟩ : ∃ y_ : List Bool, y_ = (x5_1 ++ [(x8_4 == (-1))]) := ⟨_, rfl⟩
           replace H : (gudgeonref01_sub.l0 kj4 l0 l1 y486 (decide (x8_4 < 0)) (wrap64 (x7_1 + 1))) = some r := by first | (rw [hy486]; with_reducible exact H) | (have H2_ := (Option.bind_some _ _).symm.trans H; rw [hy486]; with_reducible exact H2_) | (have H2_ := (Option.bind_some _ _).symm.trans H; with_reducible exact H2_) | with_reducible exact H | (rw [hy486]; exact H) | exact H
           have Ny486 := Aside0.mk hy486
           clear hy486
           have H' := Aside0.mk H
           clear H
           go_wp2_with (first | ((with_reducible refine gate_callee (f := 56) rfl ?_); refine goesL_ (some 23) rfl rfl Tryd.func56 (by kernel_rfl) rfl #[.slice A1 l1.length c1, .int .i64 x7_1] rfl (by (try simp only [List.map_toArray, List.map_cons, List.map_nil]); first | done | rfl | (simp only [List.length_drop, List.length_take]; rfl)) ?_; (with_reducible refine (gudgeonref01_at.calls _ _ l1 x7_1 false _ ?side1 ?side2 A8.out).mono ?_); (case side1 => repeat (first | exact (Kd.C_below HR1.out HB.out) | (with_reducible refine Kd.C_alloc ?_ _) | (with_reducible refine Kd.C_drewN ?_ _) | (with_reducible refine Kd.C_drew ?_))); (case side2 => exact HC1.out); rintro e w' ⟨rfl, ⟨nd, rfl⟩⟩; refine ⟨_, rfl, ?_⟩) | ((with_reducible refine gate_builtin (b := .append) (xs := #[.tmp 29, .tmp 36]) rfl ?_); at_builtin; refine Kd.R_append Kd.bool (w0 := w) w.heap.size rfl (.tmp 29) (.tmp 36) 49 4 (.bool false) 1 rfl Tryd.underlying49 info4 rfl (by decide) (by omega) u5 x5_1 (x8_4 == (-1)) [.bool (x8_4 == (-1))] (fun _ => True) (fun _ => False) rfl rfl ?aP (fun _ hk => hk.elim) ?aF ?aO ?aB ?aS ?aL ?_; (case aP => exact rfl); (case aB => exact (by repeat first | exact HB.out | apply below_alloc | apply pw_below_drewN | apply below_drew1)); (case aF => exact (fun _ _ => trivial)); (case aO => exact HO_5.out); (case aS => exact (below_size (by repeat first | exact HB.out | apply below_alloc | apply pw_below_drewN | apply below_drew1))); (case aL => have := LMc30.out; omega); intro v487 w31 ho hb hg hat; rw [← Ny486.out] at ho; have n0_ := Aside0.mk (hb); have n1_ := Aside0.mk (ho); clear HB; clear HO_5; have HB := n0_; have HO488 := n1_; clear n0_ n1_; clear ho hb hg hat))
           go_roundg kj4
           case measure => have := HK1.out; have := HJ4.out; omega
           case rel => exact ⟨(y486), (decide (x8_4 < 0)), (wrap64 (x7_1 + 1)), (by first | rfl | (simp; done) | (simp [*]; done) | (refine congrArg (Value.int _) ?_; omega) | (refine congrArg Value.bool ?_; generalize ByteArray.toList _ = z_; cases z_ <;> rfl)), (by first | rfl | (simp; done) | (simp [*]; done) | (refine congrArg (Value.int _) ?_; omega) | (refine congrArg Value.bool ?_; generalize ByteArray.toList _ = z_; cases z_ <;> rfl)), H', ⟨by have := HK1.out; have := HJ4.out; omega⟩, ⟨by (with_reducible repeat (first | apply Kd.R_alloc | apply Kd.R_drewN | apply Kd.R_drew)); exact HO488.out⟩, ⟨by repeat first | exact HB.out | apply below_alloc | apply pw_below_drewN | apply below_drew1⟩⟩
          ·rw [if_neg c30] at H
           exact absurd H (by simp)
    ·rw [if_neg c4] at H
     exact absurd H (by simp)
   ·rw [if_neg c3] at H
    have c3b0 : decide (x7_1 < (l0.length : Int)) = false := decide_eq_false c3
    clear c3
    replace H := Option.bind_eq_some_iff.mp H
    obtain ⟨t460, A320, H⟩ := H
    replace H : (some t460) = some r := H
    have A32 := Aside0.mk A320
    clear A320
    obtain rfl := Option.some.inj H
    obtain ⟨Ao33, co33, eo33⟩ := Kd.R_slice HO_5.out
    subst eo33
    go_wp2_with (first | ((with_reducible refine gate_callee (f := 55) rfl ?_); refine goesL_ (some 41) rfl rfl Tryd.func55 (by kernel_rfl) rfl #[.slice Ao33 x5_1.length co33] rfl (by (try simp only [List.map_toArray, List.map_cons, List.map_nil]); first | done | rfl | (simp only [List.length_drop, List.length_take]; rfl)) ?_; (with_reducible refine (gudgeonref01_trim.calls k1 _ _ x5_1 t460 _ ?side1 ?side2 A32.out).mono ?_); (case side1 => repeat (first | exact (Kd.R_reads' HO_5.out).2.2 | (with_reducible refine Kd.C_alloc ?_ _) | (with_reducible refine Kd.C_drewN ?_ _) | (with_reducible refine Kd.C_drew ?_))); (case side2 => exact (Kd.R_reads' HO_5.out).2.1); rintro e w34 ⟨v461, rfl, ho0, hb⟩; refine ⟨_, rfl, ?_⟩; have n0_ := Aside0.mk (Kd.R_elder' HO_5.out (Kd.R_base ho0) hb); have n1_ := Aside0.mk (Kd.R_lower (Kd.R_new' ho0 (Kd.R_lt HO_5.out)) (below_size (by repeat first | exact HB.out | apply below_alloc | apply pw_below_drewN | apply below_drew1))); have n2_ := Aside0.mk (below_step (by repeat first | exact HB.out | apply below_alloc | apply pw_below_drewN | apply below_drew1) hb); clear HO_5; clear HB; have HO_5 := n0_; have HO462 := n1_; have HB := n2_; clear n0_ n1_ n2_))
    go_ret
    exact ⟨_, by first | rfl | (simp [errW_none, errW_some] <;> rfl) | (simp [*, errW_none, errW_some] <;> rfl), by (with_reducible repeat (first | apply Kd.R_alloc | apply Kd.R_drewN | apply Kd.R_drew)); exact Kd.R_mono HO462.out (fun _ hk => trivial), by repeat first | exact HB.out | apply below_alloc | apply pw_below_drewN | apply below_drew1⟩

end Go.Proofs.YtlfpnohpcemkgaaDoor.PA
/- Written by a program of this session, wip/tools/patch_print.py, over the kit's print of the loaded functions. -/
namespace Go.Proofs.YtlfpnohpcemkgaaDoor.H
end Go.Proofs.YtlfpnohpcemkgaaDoor.H
namespace Go.Proofs.YtlfpnohpcemkgaaDoor.PA
open Go.RowKit Go.Proofs.YtlfpnohpcemkgaaDoorW.PrintWords Go.Proofs.YtlfpnohpcemkgaaDoorW.PrintLast Go.Proofs.YtlfpnohpcemkgaaDoorW.PrintMore Go.Proofs.YtlfpnohpcemkgaaDoor.H
attribute [local go_sem] max2_int min2_int max_two min_two max_three min_three max_four min_four   -- for this text's walks alone
set_option linter.unusedVariables false
set_option linter.unusedSimpArgs false

/-! ### gudgeonref01_divmod: function 42 -/
def gudgeonref01_divmod.l0 : Nat → List Bool → List Bool → List Bool → List Bool → Int → Option (List Bool × List Bool)
 | 0, _, _, _, _, _ => none
 | k + 1, x0, x1, x6, x7, x8 => if x8 ≥ 0 then (if 0 ≤ x8 then (if x8 < (x0.length : Int) then ((some (([rdOf false x0 x8] : List Bool) : List Bool)).bind fun y496 => (if y496.length + x7.length < 140737488355328 then ((gudgeonref01_trim.f k (y496 ++ x7)).bind fun t502 => ((gudgeonref01_cmp.f k t502 x1).bind fun t505 => (if t505 ≥ 0 then ((gudgeonref01_sub.f k t502 x1).bind fun t506 => (if x8 < (x6.length : Int) then (gudgeonref01_divmod.l0 k x0 x1 (x6.set (x8 : Int).toNat true) t506 (wrap64 (x8 - 1))) else (none))) else (gudgeonref01_divmod.l0 k x0 x1 x6 t502 (wrap64 (x8 - 1)))))) else (none))) else (none)) else (none)) else ((gudgeonref01_trim.f k x6).bind fun t492 => (some (t492, x7)))
def gudgeonref01_divmod.f (k : Nat) (l0 : List Bool) (l1 : List Bool) : Option (List Bool × List Bool) := if 0 ≤ (l0.length : Int) then (if ((l0.length : Int) : Int).toNat ≤ 281474976710656 then (gudgeonref01_divmod.l0 k l0 l1 (List.replicate ((l0.length : Int) : Int).toNat false) ([] : List Bool) (wrap64 ((l0.length : Int) - 1))) else (none)) else (none)
theorem gudgeonref01_divmod.mono_l : ∀ k, (∀ y0 y1 y2 y3 y4, LeO (gudgeonref01_divmod.l0 k y0 y1 y2 y3 y4) (gudgeonref01_divmod.l0 (k + 1) y0 y1 y2 y3 y4))
 | 0 => fun _ _ _ _ _ r h => by simp [gudgeonref01_divmod.l0] at h
 | k + 1 => by
  have ih0 := gudgeonref01_divmod.mono_l k
  ·intro y0 y1 y2 y3 y4
   unfold gudgeonref01_divmod.l0
   repeat' first
   | (with_reducible exact ih0 _ _ _ _ _)
   | (with_reducible exact gudgeonref01_cmp.mono _ _ _)
   | (with_reducible exact gudgeonref01_sub.mono _ _ _)
   | (with_reducible exact gudgeonref01_trim.mono _ _)
   | (with_reducible exact LeO.refl _)
   | (with_reducible exact LeO.none _)
   | (with_reducible refine LeO.ite ?_ ?_)
   | (with_reducible refine LeO.bind ?_ (fun _ => ?_))
   | exact ih0 _ _ _ _ _
   | exact gudgeonref01_cmp.mono _ _ _
   | exact gudgeonref01_sub.mono _ _ _
   | exact gudgeonref01_trim.mono _ _
   | exact LeO.none _
   | refine LeO.ite ?_ ?_
   | refine LeO.bind ?_ (fun _ => ?_)
theorem gudgeonref01_divmod.mono : ∀ a0 a1 k, LeO (gudgeonref01_divmod.f k a0 a1) (gudgeonref01_divmod.f (k + 1) a0 a1) := by
 intro a0 a1 k
 have ih0 := gudgeonref01_divmod.mono_l k
 unfold gudgeonref01_divmod.f
 repeat' first
   | (with_reducible exact ih0 _ _ _ _ _)
   | (with_reducible exact gudgeonref01_cmp.mono _ _ _)
   | (with_reducible exact gudgeonref01_sub.mono _ _ _)
   | (with_reducible exact gudgeonref01_trim.mono _ _)
   | (with_reducible exact LeO.refl _)
   | (with_reducible exact LeO.none _)
   | (with_reducible refine LeO.ite ?_ ?_)
   | (with_reducible refine LeO.bind ?_ (fun _ => ?_))
   | exact ih0 _ _ _ _ _
   | exact gudgeonref01_cmp.mono _ _ _
   | exact gudgeonref01_sub.mono _ _ _
   | exact gudgeonref01_trim.mono _ _
   | exact LeO.none _
   | refine LeO.ite ?_ ?_
   | refine LeO.bind ?_ (fun _ => ?_)
set_option maxHeartbeats 8000000 in
set_option maxRecDepth 100000 in
theorem gudgeonref01_divmod.calls (k : Nat) (A0 : Option Addr) (c0 : Nat) (l0 : List Bool) (A1 : Option Addr) (c1 : Nat) (l1 : List Bool) (r1 : List Bool) (r2 : List Bool) (w : World) (hr0 : Kd.C Kd.bool w A0 l0.length l0) (hc0 : l0.length ≤ c0) (hr1 : Kd.C Kd.bool w A1 l1.length l1) (hc1 : l1.length ≤ c1) (h : gudgeonref01_divmod.f k l0 l1 = some (r1, r2)) :
  Calls Tryd.prog 42 #[.slice A0 l0.length c0, .slice A1 l1.length c1] w fun e w' => ∃ v0_ v1_ : Value, e = .returned (.tuple #[v0_, v1_]) ∧ Kd.R Kd.bool 4 w' w.heap.size (fun k_ => some k_ ≠ (v1_ : Value).ownBlock) v0_ r1 ∧ Kd.R Kd.bool 4 w' w.heap.size (fun k_ => some k_ ≠ (v0_ : Value).ownBlock) v1_ r2 ∧ Below w.heap.size w w' := by
 have HR0 := Aside0.mk hr0
 have HC0 := Aside0.mk hc0
 clear hr0 hc0
 have HR1 := Aside0.mk hr1
 have HC1 := Aside0.mk hc1
 clear hr1 hc1
 have HB := Aside0.mk (Below.refl w.heap.size w)
 have H : (if 0 ≤ (l0.length : Int) then (if ((l0.length : Int) : Int).toNat ≤ 281474976710656 then (gudgeonref01_divmod.l0 k l0 l1 (List.replicate ((l0.length : Int) : Int).toNat false) ([] : List Bool) (wrap64 ((l0.length : Int) - 1))) else (none)) else (none)) = some (r1, r2) := h
 clear h
 by_cases c3 : 0 ≤ (l0.length : Int)
 ·rw [if_pos c3] at H
  have c3b0 := eq_true c3
  have c3b1 : decide (0 ≤ (l0.length : Int)) = true := decide_eq_true c3
  clear c3
  by_cases c4 : ((l0.length : Int) : Int).toNat ≤ 281474976710656
  ·rw [if_pos c4] at H
   have c4b0 := eq_true c4
   have c4b1 : decide (((l0.length : Int) : Int).toNat ≤ 281474976710656) = true := decide_eq_true c4
   clear c4
   obtain ⟨y489, hy489⟩ : ∃ y_ : List Bool, y_ = (List.replicate ((l0.length : Int) : Int).toNat false) := ⟨_, rfl⟩
   replace H : (gudgeonref01_divmod.l0 k l0 l1 y489 ([] : List Bool) (wrap64 ((l0.length : Int) - 1))) = some (r1, r2) := by first | (rw [hy489]; with_reducible exact H) | (have H2_ := (Option.bind_some _ _).symm.trans H; rw [hy489]; with_reducible exact H2_) | (have H2_ := (Option.bind_some _ _).symm.trans H; with_reducible exact H2_) | with_reducible exact H | (rw [hy489]; exact H) | exact H
   have Ny489 := Aside0.mk hy489
   clear hy489
   have H' := Aside0.mk H
   clear H
   go_enter Tryd.func42, Tryd.ntmps42
   go_wp2_with (first | ((with_reducible refine gate_dst (N := 11) rfl ?_); refine Kd.R_make Kd.bool _ 4 rfl (N := 11) rfl 49 _ _ rfl (l0.length : Int) rfl rfl Tryd.underlying49 (.bool false) 1 info4 rfl (by decide) (by omega) false (ok := fun _ => True) (okp := fun _ => True) rfl (fun _ hk => hk) trivial (of_decide_eq_true (by first | (with_reducible assumption) | assumption)) (Nat.le_trans (Nat.mul_le_mul_right _ (of_decide_eq_true (by first | (with_reducible assumption) | assumption) : (l0.length : Int).toNat ≤ 281474976710656)) (by omega)) (Below.refl _ _) (Nat.le_refl _) ?_; intro v490 w5 ho6 hb hg_ hnew_; clear hg_ hnew_; (first | rw [← Ny489.out] at ho6 | (simp only [Int.reduceToNat] at ho6; rw [← Ny489.out] at ho6)); have n0_ := Aside0.mk (Kd.R_lower ho6 (below_size (by repeat first | exact HB.out | apply below_alloc | apply pw_below_drewN | apply below_drew1))); have n1_ := Aside0.mk (below_step (by repeat first | exact HB.out | apply below_alloc | apply pw_below_drewN | apply below_drew1) hb); clear HB; have HO491 := n0_; have HB := n1_; clear n0_ n1_; clear hb ho6))
   go_loopg [7, 8] k (fun kq v7 v8 w' => ∃ (x6_1 : List Bool) (x7_1 : List Bool) (x8_1 : Int), v8 = .int .i64 x8_1 ∧ Aside0 (gudgeonref01_divmod.l0 kq l0 l1 x6_1 x7_1 x8_1 = some (r1, r2)) ∧ Aside0 (kq ≤ k) ∧ Aside0 (Kd.R Kd.bool 4 w' w.heap.size (fun k_ => some k_ ≠ (v7 : Value).ownBlock) v490 x6_1) ∧ Aside0 (Kd.R Kd.bool 4 w' w.heap.size (fun k_ => some k_ ≠ (v490 : Value).ownBlock) v7 x7_1) ∧ Aside0 (Below w.heap.size w w'))
   case atStart => exact ⟨(y489), (([] : List Bool)), (wrap64 ((l0.length : Int) - 1)), (by first | rfl | (simp; done) | (simp [*]; done) | (refine congrArg (Value.int _) ?_; omega) | (refine congrArg Value.bool ?_; generalize ByteArray.toList _ = z_; cases z_ <;> rfl)), H', ⟨Nat.le_refl _⟩, ⟨by (with_reducible repeat (first | apply Kd.R_alloc | apply Kd.R_drewN | apply Kd.R_drew)); exact Kd.R_mono HO491.out (fun _ hk => (by simp [Value.ownBlock]))⟩, ⟨by first | exact Kd.R_nil _ _ _ _ _ | exact Kd.N_nil _ _ _ _ _ | exact Kd.V_nil _ _ _ _ _ | exact Kd.Q_nil _ _ _ _ _ | exact Kd.S_nil _ _ _ _ _⟩, ⟨by repeat first | exact HB.out | apply below_alloc | apply pw_below_drewN | apply below_drew1⟩⟩
   case round =>
    clear H'
    try clear c1
    try clear p2
    try clear c3
    try clear c3b0
    try clear c3b1
    try clear c4
    try clear c4b0
    try clear c4b1
    try clear p6
    obtain ⟨x6_1, x7_1, x8_1, rfl, HA, HK1, HO_6, HO_7, HB⟩ := hrel
    cases gk with
    | zero => exact absurd HA.out (by simp [gudgeonref01_divmod.l0])
    | succ k1 =>
     have H := HA.out
     clear HA
     simp only [gudgeonref01_divmod.l0] at H
     by_cases c7 : x8_1 ≥ 0
     ·rw [if_pos c7] at H
      have c7b0 : decide (0 ≤ x8_1) = true := decide_eq_true c7
      clear c7
      by_cases c8 : 0 ≤ x8_1
      ·rw [if_pos c8] at H
       have c8b0 : decide (0 ≤ x8_1) = true := decide_eq_true c8
       clear c8
       by_cases c9 : x8_1 < (l0.length : Int)
       ·rw [if_pos c9] at H
        have c9b0 : decide (x8_1 < (l0.length : Int)) = true := decide_eq_true c9
        clear c9
        obtain ⟨y496, hy496⟩ : ∃ y_ : List Bool, y_ = (([rdOf false l0 x8_1] : List Bool)) := ⟨_, rfl⟩
        replace H : (if y496.length + x7_1.length < 140737488355328 then ((gudgeonref01_trim.f k1 (y496 ++ x7_1)).bind fun t502 => ((gudgeonref01_cmp.f k1 t502 l1).bind fun t505 => (if t505 ≥ 0 then ((gudgeonref01_sub.f k1 t502 l1).bind fun t506 => (if x8_1 < (x6_1.length : Int) then (gudgeonref01_divmod.l0 k1 l0 l1 (x6_1.set (x8_1 : Int).toNat true) t506 (wrap64 (x8_1 - 1))) else (none))) else (gudgeonref01_divmod.l0 k1 l0 l1 x6_1 t502 (wrap64 (x8_1 - 1)))))) else (none)) = some (r1, r2) := by first | (rw [hy496]; with_reducible exact H) | (have H2_ := (Option.bind_some _ _).symm.trans H; rw [hy496]; with_reducible exact H2_) | (have H2_ := (Option.bind_some _ _).symm.trans H; with_reducible exact H2_) | with_reducible exact H | (rw [hy496]; exact H) | exact H
        have Ny496 := Aside0.mk hy496
        clear hy496
        by_cases c10 : y496.length + x7_1.length < 140737488355328
        ·rw [if_pos c10] at H
         have LMc10 := Aside0.mk c10
         clear c10
         obtain ⟨y499, hy499⟩ : ∃ y_ : List Bool, y_ = (y496 ++ x7_1) := ⟨_, rfl⟩
         replace H : ((gudgeonref01_trim.f k1 y499).bind fun t502 => ((gudgeonref01_cmp.f k1 t502 l1).bind fun t505 => (if t505 ≥ 0 then ((gudgeonref01_sub.f k1 t502 l1).bind fun t506 => (if x8_1 < (x6_1.length : Int) then (gudgeonref01_divmod.l0 k1 l0 l1 (x6_1.set (x8_1 : Int).toNat true) t506 (wrap64 (x8_1 - 1))) else (none))) else (gudgeonref01_divmod.l0 k1 l0 l1 x6_1 t502 (wrap64 (x8_1 - 1)))))) = some (r1, r2) := by first | (rw [hy499]; with_reducible exact H) | (have H2_ := (Option.bind_some _ _).symm.trans H; rw [hy499]; with_reducible exact H2_) | (have H2_ := (Option.bind_some _ _).symm.trans H; with_reducible exact H2_) | with_reducible exact H | (rw [hy499]; exact H) | exact H
         have Ny499 := Aside0.mk hy499
         clear hy499
         replace H := Option.bind_eq_some_iff.mp H
         obtain ⟨t502, A110, H⟩ := H
         replace H : ((gudgeonref01_cmp.f k1 t502 l1).bind fun t505 => (if t505 ≥ 0 then ((gudgeonref01_sub.f k1 t502 l1).bind fun t506 => (if x8_1 < (x6_1.length : Int) then (gudgeonref01_divmod.l0 k1 l0 l1 (x6_1.set (x8_1 : Int).toNat true) t506 (wrap64 (x8_1 - 1))) else (none))) else (gudgeonref01_divmod.l0 k1 l0 l1 x6_1 t502 (wrap64 (x8_1 - 1))))) = some (r1, r2) := H
         have A11 := Aside0.mk A110
         clear A110
         replace H := Option.bind_eq_some_iff.mp H
         obtain ⟨t505, A120, H⟩ := H
         replace H : (if t505 ≥ 0 then ((gudgeonref01_sub.f k1 t502 l1).bind fun t506 => (if x8_1 < (x6_1.length : Int) then (gudgeonref01_divmod.l0 k1 l0 l1 (x6_1.set (x8_1 : Int).toNat true) t506 (wrap64 (x8_1 - 1))) else (none))) else (gudgeonref01_divmod.l0 k1 l0 l1 x6_1 t502 (wrap64 (x8_1 - 1)))) = some (r1, r2) := H
         have A12 := Aside0.mk A120
         clear A120
         by_cases c13 : t505 ≥ 0
         ·rw [if_pos c13] at H
          have c13b0 : decide (0 ≤ t505) = true := decide_eq_true c13
          clear c13
          replace H := Option.bind_eq_some_iff.mp H
          obtain ⟨t506, A140, H⟩ := H
          replace H : (if x8_1 < (x6_1.length : Int) then (gudgeonref01_divmod.l0 k1 l0 l1 (x6_1.set (x8_1 : Int).toNat true) t506 (wrap64 (x8_1 - 1))) else (none)) = some (r1, r2) := H
          have A14 := Aside0.mk A140
          clear A140
          by_cases c15 : x8_1 < (x6_1.length : Int)
          ·rw [if_pos c15] at H
           have c15b0 : decide (x8_1 < (x6_1.length : Int)) = true := decide_eq_true c15
           clear c15
           obtain ⟨y509, hy509⟩ : ∃ y_ : List Bool, y_ = (x6_1.set (x8_1 : Int).toNat true) := ⟨_, rfl⟩
           replace H : (gudgeonref01_divmod.l0 k1 l0 l1 y509 t506 (wrap64 (x8_1 - 1))) = some (r1, r2) := by first | (rw [hy509]; with_reducible exact H) | (have H2_ := (Option.bind_some _ _).symm.trans H; rw [hy509]; with_reducible exact H2_) | (have H2_ := (Option.bind_some _ _).symm.trans H; with_reducible exact H2_) | with_reducible exact H | (rw [hy509]; exact H) | exact H
           have Ny509 := Aside0.mk hy509
           clear hy509
           have H' := Aside0.mk H
           clear H
           have p495 : 0 ≤ (x8_1 : Int) := of_decide_eq_true (by first | (with_reducible assumption) | assumption)
           have q495 : x8_1 < (l0.length : Int) := of_decide_eq_true (by first | (with_reducible assumption) | assumption)
           obtain ⟨ad495, e495, hx495_0⟩ := Kd.at_bool HR0.out x8_1 p495 q495
           cases e495
           replace hx495_0 := (HB.out.cell (World.block_lt_of_cell? w _ hx495_0)).trans hx495_0
           replace p495 := eq_true p495
           replace q495 := eq_true q495
           go_wp2_with (first | ((with_reducible refine gate_dst (N := 23) rfl ?_); refine Kd.R_lit Kd.bool _ 4 ?hg (N := 23) ?hd (xs := ([rdOf false l0 x8_1] : List Bool)) (inner := [.bool (rdOf false l0 x8_1)]) (ok := fun _ => True) (okp := fun _ => True) ?hr ?hp (fun _ hk => hk) trivial (Below.refl _ _) (Nat.le_refl _) (by simp) ?_; (case hd => rfl); (case hg => rfl); (case hr => first | (go_simp; done) | (go_simp; rfl) | (go_simp; simp only [IntKind.wrap_u8, IntKind.wrap_u32]; congr 4; omega) | (go_simp; simp only [IntKind.wrap_u8, IntKind.wrap_u32]; congr 5; omega)); (case hp => exact (Reps.one (show Kd.M Kd.bool _ _ _ (rdOf false l0 x8_1) [.bool (rdOf false l0 x8_1)] from rfl) (Reps.none _ _))); intro v497 w17 ho18 hb hg_ hnew_; clear hg_ hnew_; (first | rw [← Ny496.out] at ho18 | (simp only [Int.reduceToNat] at ho18; rw [← Ny496.out] at ho18)); have n0_ := Aside0.mk (Kd.R_elder' HO_6.out (Kd.R_base ho18) hb); have n1_ := Aside0.mk (Kd.R_elder' HO_7.out (Kd.R_base ho18) hb); have n2_ := Aside0.mk (Kd.R_lower (Kd.R_new' (Kd.R_new' ho18 (Kd.R_lt HO_6.out)) (Kd.R_lt HO_7.out)) (below_size (by repeat first | exact HB.out | apply below_alloc | apply pw_below_drewN | apply below_drew1))); have n3_ := Aside0.mk (below_step (by repeat first | exact HB.out | apply below_alloc | apply pw_below_drewN | apply below_drew1) hb); clear HO_6; clear HO_7; clear HB; have HO_6 := n0_; have HO_7 := n1_; have HO498 := n2_; have HB := n3_; clear n0_ n1_ n2_ n3_; clear hb ho18; obtain ⟨Ao20, co20, eo20⟩ := Kd.R_slice HO_7.out; subst eo20) | ((with_reducible refine gate_builtin (b := .append) (xs := #[.tmp 23, .tmp 24]) rfl ?_); at_builtin; refine Kd.R_append_rows Kd.bool (w0 := w) w.heap.size rfl (.tmp 23) (.tmp 24) 49 4 (.bool false) 1 rfl Tryd.underlying49 info4 rfl (by decide) (by omega) v497 y496 x7_1 _ _ _ (fun k_ => some k_ ≠ (v490 : Value).ownBlock ∧ some k_ ≠ (.slice Ao20 x7_1.length co20 : Value).ownBlock) (fun _ => False) rfl rfl ?aO ?aR (fun _ _ h => h) (fun _ h => h.elim) ?aF ?aB ?aS ?aL ?_; (case aR => repeat (first | exact (Kd.R_reads' HO_7.out).2.2 | (with_reducible refine Kd.C_alloc ?_ _) | (with_reducible refine Kd.C_drewN ?_ _) | (with_reducible refine Kd.C_drew ?_))); (case aB => exact (by repeat first | exact HB.out | apply below_alloc | apply pw_below_drewN | apply below_drew1)); (case aF => exact (fun k_ hk => ⟨Kd.fresh' (Kd.R_lt HO_6.out) k_ hk, Kd.fresh' (Kd.R_lt HO_7.out) k_ hk⟩)); (case aO => exact (by (with_reducible repeat (first | apply Kd.R_alloc | apply Kd.R_drewN | apply Kd.R_drew)); exact Kd.R_mono HO498.out (fun _ hk => by first | exact ⟨hk.1.2, hk.2⟩ | ((repeat' refine ⟨?_, ?_⟩) <;> (first | exact hk.1 | exact hk.2 | exact hk.1.1 | exact hk.1.2 | exact hk.2.1 | exact hk.2.2 | exact hk.1.1.1 | exact hk.1.1.2 | exact hk.1.2.1 | exact hk.1.2.2 | exact hk.2.1.1 | exact hk.2.1.2 | exact hk.2.2.1 | exact hk.2.2.2 | exact hk.1.1.1.1 | exact hk.1.1.1.2 | exact hk.1.1.2.1 | exact hk.1.1.2.2 | exact hk.1.2.1.1 | exact hk.1.2.1.2 | exact hk.1.2.2.1 | exact hk.1.2.2.2 | exact hk.2.1.1.1 | exact hk.2.1.1.2 | exact hk.2.1.2.1 | exact hk.2.1.2.2 | exact hk.2.2.1.1 | exact hk.2.2.1.2 | exact hk.2.2.2.1 | exact hk.2.2.2.2))))); (case aS => exact (below_size (by repeat first | exact HB.out | apply below_alloc | apply pw_below_drewN | apply below_drew1))); (case aL => have := LMc10.out; omega); intro v500 w19 ho hb hg hat; rw [← Ny499.out] at ho; have n0_ := Aside0.mk (Kd.R_after (ok := (fun k_ => some k_ ≠ (.slice Ao20 x7_1.length co20 : Value).ownBlock)) HO_6.out hg hat); have n1_ := Aside0.mk (Kd.R_after (ok := (fun k_ => some k_ ≠ (v490 : Value).ownBlock)) HO_7.out hg hat); have n2_ := Aside0.mk (hb); have n3_ := Aside0.mk (ho); clear HO_6; clear HO_7; clear HB; clear HO498; have HO_6 := n0_; have HO_7 := n1_; have HB := n2_; have HO501 := n3_; clear n0_ n1_ n2_ n3_; clear ho hb hg hat; obtain ⟨Ao21, co21, eo21⟩ := Kd.R_slice HO501.out; subst eo21) | ((with_reducible refine gate_callee (f := 55) rfl ?_); refine goesL_ (some 26) rfl rfl Tryd.func55 (by kernel_rfl) rfl #[.slice Ao21 y499.length co21] rfl (by (try simp only [List.map_toArray, List.map_cons, List.map_nil]); first | done | rfl | (simp only [List.length_drop, List.length_take]; rfl)) ?_; (with_reducible refine (gudgeonref01_trim.calls k1 _ _ y499 t502 _ ?side1 ?side2 A11.out).mono ?_); (case side1 => repeat (first | exact (Kd.R_reads' HO501.out).2.2 | (with_reducible refine Kd.C_alloc ?_ _) | (with_reducible refine Kd.C_drewN ?_ _) | (with_reducible refine Kd.C_drew ?_))); (case side2 => exact (Kd.R_reads' HO501.out).2.1); rintro e w22 ⟨v503, rfl, ho0, hb⟩; refine ⟨_, rfl, ?_⟩; have n0_ := Aside0.mk (Kd.R_elder' HO_6.out (Kd.R_base ho0) hb); have n1_ := Aside0.mk (Kd.R_elder' HO_7.out (Kd.R_base ho0) hb); have n2_ := Aside0.mk (Kd.R_elder' HO501.out (Kd.R_base ho0) hb); have n3_ := Aside0.mk (Kd.R_lower (Kd.R_new' (Kd.R_new' (Kd.R_new' ho0 (Kd.R_lt HO_6.out)) (Kd.R_lt HO_7.out)) (Kd.R_lt HO501.out)) (below_size (by repeat first | exact HB.out | apply below_alloc | apply pw_below_drewN | apply below_drew1))); have n4_ := Aside0.mk (below_step (by repeat first | exact HB.out | apply below_alloc | apply pw_below_drewN | apply below_drew1) hb); clear HO_6; clear HO_7; clear HO501; clear HB; have HO_6 := n0_; have HO_7 := n1_; have HO501 := n2_; have HO504 := n3_; have HB := n4_; clear n0_ n1_ n2_ n3_ n4_; obtain ⟨Ao23, co23, eo23⟩ := Kd.R_slice HO504.out; subst eo23) | ((with_reducible refine gate_callee (f := 50) rfl ?_); refine goesL_ (some 29) rfl rfl Tryd.func50 (by kernel_rfl) rfl #[.slice Ao23 t502.length co23, .slice A1 l1.length c1] rfl (by (try simp only [List.map_toArray, List.map_cons, List.map_nil]); first | done | rfl | (simp only [List.length_drop, List.length_take]; rfl)) ?_; (with_reducible refine (gudgeonref01_cmp.calls k1 _ _ t502 _ _ l1 t505 _ ?side1 ?side2 ?side3 ?side4 A12.out).mono ?_); (case side1 => repeat (first | exact (Kd.R_reads' HO504.out).2.2 | (with_reducible refine Kd.C_alloc ?_ _) | (with_reducible refine Kd.C_drewN ?_ _) | (with_reducible refine Kd.C_drew ?_))); (case side2 => exact (Kd.R_reads' HO504.out).2.1); (case side3 => repeat (first | exact (Kd.C_below HR1.out HB.out) | (with_reducible refine Kd.C_alloc ?_ _) | (with_reducible refine Kd.C_drewN ?_ _) | (with_reducible refine Kd.C_drew ?_))); (case side4 => exact HC1.out); rintro e w' ⟨rfl, ⟨nd, rfl⟩⟩; refine ⟨_, rfl, ?_⟩; (try (rw [drewN_self w22]; generalize hq_ : World.drewN w22 _ = w22; have n0_ : Aside0 (Kd.R Kd.bool 4 w22 w.heap.size (fun k_ => some k_ ≠ (.slice Ao23 t502.length co23 : Value).ownBlock ∧ some k_ ≠ (v490 : Value).ownBlock ∧ some k_ ≠ (.slice Ao20 x7_1.length co20 : Value).ownBlock) (.slice Ao21 y499.length co21) y499) := ⟨by rw [← hq_]; exact (by (with_reducible repeat (first | apply Kd.R_alloc | apply Kd.R_drewN | apply Kd.R_drew)); exact Kd.R_mono HO501.out (fun _ hk => by first | exact ⟨hk.2, ⟨hk.1.1, hk.1.2⟩⟩ | ((repeat' refine ⟨?_, ?_⟩) <;> (first | exact hk.1 | exact hk.2 | exact hk.1.1 | exact hk.1.2 | exact hk.2.1 | exact hk.2.2 | exact hk.1.1.1 | exact hk.1.1.2 | exact hk.1.2.1 | exact hk.1.2.2 | exact hk.2.1.1 | exact hk.2.1.2 | exact hk.2.2.1 | exact hk.2.2.2 | exact hk.1.1.1.1 | exact hk.1.1.1.2 | exact hk.1.1.2.1 | exact hk.1.1.2.2 | exact hk.1.2.1.1 | exact hk.1.2.1.2 | exact hk.1.2.2.1 | exact hk.1.2.2.2 | exact hk.2.1.1.1 | exact hk.2.1.1.2 | exact hk.2.1.2.1 | exact hk.2.1.2.2 | exact hk.2.2.1.1 | exact hk.2.2.1.2 | exact hk.2.2.2.1 | exact hk.2.2.2.2))))⟩; have n1_ : Aside0 (Kd.R Kd.bool 4 w22 w.heap.size (fun k_ => some k_ ≠ (.slice Ao21 y499.length co21 : Value).ownBlock ∧ some k_ ≠ (v490 : Value).ownBlock ∧ some k_ ≠ (.slice Ao20 x7_1.length co20 : Value).ownBlock) (.slice Ao23 t502.length co23) t502) := ⟨by rw [← hq_]; exact (by (with_reducible repeat (first | apply Kd.R_alloc | apply Kd.R_drewN | apply Kd.R_drew)); exact Kd.R_mono HO504.out (fun _ hk => by first | exact ⟨hk.2, ⟨hk.1.1.2, hk.1.2⟩⟩ | ((repeat' refine ⟨?_, ?_⟩) <;> (first | exact hk.1 | exact hk.2 | exact hk.1.1 | exact hk.1.2 | exact hk.2.1 | exact hk.2.2 | exact hk.1.1.1 | exact hk.1.1.2 | exact hk.1.2.1 | exact hk.1.2.2 | exact hk.2.1.1 | exact hk.2.1.2 | exact hk.2.2.1 | exact hk.2.2.2 | exact hk.1.1.1.1 | exact hk.1.1.1.2 | exact hk.1.1.2.1 | exact hk.1.1.2.2 | exact hk.1.2.1.1 | exact hk.1.2.1.2 | exact hk.1.2.2.1 | exact hk.1.2.2.2 | exact hk.2.1.1.1 | exact hk.2.1.1.2 | exact hk.2.1.2.1 | exact hk.2.1.2.2 | exact hk.2.2.1.1 | exact hk.2.2.1.2 | exact hk.2.2.2.1 | exact hk.2.2.2.2))))⟩; have n2_ : Aside0 (Kd.R Kd.bool 4 w22 w.heap.size (fun k_ => some k_ ≠ (.slice Ao21 y499.length co21 : Value).ownBlock ∧ some k_ ≠ (.slice Ao23 t502.length co23 : Value).ownBlock ∧ some k_ ≠ (.slice Ao20 x7_1.length co20 : Value).ownBlock) v490 x6_1) := ⟨by rw [← hq_]; exact (by (with_reducible repeat (first | apply Kd.R_alloc | apply Kd.R_drewN | apply Kd.R_drew)); exact Kd.R_mono HO_6.out (fun _ hk => by first | exact ⟨hk.1.2, ⟨hk.2, hk.1.1⟩⟩ | ((repeat' refine ⟨?_, ?_⟩) <;> (first | exact hk.1 | exact hk.2 | exact hk.1.1 | exact hk.1.2 | exact hk.2.1 | exact hk.2.2 | exact hk.1.1.1 | exact hk.1.1.2 | exact hk.1.2.1 | exact hk.1.2.2 | exact hk.2.1.1 | exact hk.2.1.2 | exact hk.2.2.1 | exact hk.2.2.2 | exact hk.1.1.1.1 | exact hk.1.1.1.2 | exact hk.1.1.2.1 | exact hk.1.1.2.2 | exact hk.1.2.1.1 | exact hk.1.2.1.2 | exact hk.1.2.2.1 | exact hk.1.2.2.2 | exact hk.2.1.1.1 | exact hk.2.1.1.2 | exact hk.2.1.2.1 | exact hk.2.1.2.2 | exact hk.2.2.1.1 | exact hk.2.2.1.2 | exact hk.2.2.2.1 | exact hk.2.2.2.2))))⟩; have n3_ : Aside0 (Kd.R Kd.bool 4 w22 w.heap.size (fun k_ => some k_ ≠ (.slice Ao21 y499.length co21 : Value).ownBlock ∧ some k_ ≠ (.slice Ao23 t502.length co23 : Value).ownBlock ∧ some k_ ≠ (v490 : Value).ownBlock) (.slice Ao20 x7_1.length co20) x7_1) := ⟨by rw [← hq_]; exact (by (with_reducible repeat (first | apply Kd.R_alloc | apply Kd.R_drewN | apply Kd.R_drew)); exact Kd.R_mono HO_7.out (fun _ hk => by first | exact ⟨hk.1.2, ⟨hk.2, hk.1.1⟩⟩ | ((repeat' refine ⟨?_, ?_⟩) <;> (first | exact hk.1 | exact hk.2 | exact hk.1.1 | exact hk.1.2 | exact hk.2.1 | exact hk.2.2 | exact hk.1.1.1 | exact hk.1.1.2 | exact hk.1.2.1 | exact hk.1.2.2 | exact hk.2.1.1 | exact hk.2.1.2 | exact hk.2.2.1 | exact hk.2.2.2 | exact hk.1.1.1.1 | exact hk.1.1.1.2 | exact hk.1.1.2.1 | exact hk.1.1.2.2 | exact hk.1.2.1.1 | exact hk.1.2.1.2 | exact hk.1.2.2.1 | exact hk.1.2.2.2 | exact hk.2.1.1.1 | exact hk.2.1.1.2 | exact hk.2.1.2.1 | exact hk.2.1.2.2 | exact hk.2.2.1.1 | exact hk.2.2.1.2 | exact hk.2.2.2.1 | exact hk.2.2.2.2))))⟩; have n4_ : Aside0 (Below w.heap.size w w22) := ⟨by rw [← hq_]; exact (by repeat first | exact HB.out | apply below_alloc | apply pw_below_drewN | apply below_drew1)⟩; clear HO501 HO504 HO_6 HO_7 HB hq_; have HO501 := n0_; have HO504 := n1_; have HO_6 := n2_; have HO_7 := n3_; have HB := n4_; clear n0_ n1_ n2_ n3_ n4_))) | ((with_reducible refine gate_callee (f := 51) rfl ?_); refine goesL_ (some 33) rfl rfl Tryd.func51 (by kernel_rfl) rfl #[.slice Ao23 t502.length co23, .slice A1 l1.length c1] rfl (by (try simp only [List.map_toArray, List.map_cons, List.map_nil]); first | done | rfl | (simp only [List.length_drop, List.length_take]; rfl)) ?_; (with_reducible refine (gudgeonref01_sub.calls k1 _ _ t502 _ _ l1 t506 _ ?side1 ?side2 ?side3 ?side4 A14.out).mono ?_); (case side1 => repeat (first | exact (Kd.R_reads' HO504.out).2.2 | (with_reducible refine Kd.C_alloc ?_ _) | (with_reducible refine Kd.C_drewN ?_ _) | (with_reducible refine Kd.C_drew ?_))); (case side2 => exact (Kd.R_reads' HO504.out).2.1); (case side3 => repeat (first | exact (Kd.C_below HR1.out HB.out) | (with_reducible refine Kd.C_alloc ?_ _) | (with_reducible refine Kd.C_drewN ?_ _) | (with_reducible refine Kd.C_drew ?_))); (case side4 => exact HC1.out); rintro e w24 ⟨v507, rfl, ho0, hb⟩; refine ⟨_, rfl, ?_⟩; have n0_ := Aside0.mk (Kd.R_elder' HO_6.out (Kd.R_base ho0) hb); have n1_ := Aside0.mk (Kd.R_elder' HO_7.out (Kd.R_base ho0) hb); have n2_ := Aside0.mk (Kd.R_elder' HO501.out (Kd.R_base ho0) hb); have n3_ := Aside0.mk (Kd.R_elder' HO504.out (Kd.R_base ho0) hb); have n4_ := Aside0.mk (Kd.R_lower (Kd.R_new' (Kd.R_new' (Kd.R_new' (Kd.R_new' ho0 (Kd.R_lt HO_6.out)) (Kd.R_lt HO_7.out)) (Kd.R_lt HO501.out)) (Kd.R_lt HO504.out)) (below_size (by repeat first | exact HB.out | apply below_alloc | apply pw_below_drewN | apply below_drew1))); have n5_ := Aside0.mk (below_step (by repeat first | exact HB.out | apply below_alloc | apply pw_below_drewN | apply below_drew1) hb); clear HO_6; clear HO_7; clear HO501; clear HO504; clear HB; have HO_6 := n0_; have HO_7 := n1_; have HO501 := n2_; have HO504 := n3_; have HO508 := n4_; have HB := n5_; clear n0_ n1_ n2_ n3_ n4_ n5_; have p16 : 0 ≤ (x8_1 : Int) := of_decide_eq_true (by first | (with_reducible assumption) | assumption); have q16 : (x8_1 : Int) < ((x6_1.length : Int) : Int) := of_decide_eq_true (by first | (with_reducible assumption) | assumption); obtain ⟨go16, co16, eo16, gb16, gl16, cl16, HG16⟩ := Kd.R_form HO_6.out (by omega); (first | cases eo16 | (injection eo16 with ea_ en_ ec_; (first | subst ea_ | (injection ea_ with ea_; subst ea_)); subst ec_; clear en_)); have GB16 := Aside0.mk gb16; have GG16 := Aside0.mk HG16; clear gb16 gl16 HG16; obtain ⟨hx16_0, hf16_0⟩ := Kd.R_celln false HO_6.out (x8_1 : Int) p16 q16; replace p16 := eq_true p16; replace q16 := eq_true q16; have n_ := Aside0.mk (Kd.R_mono (ok' := (fun k_ => some k_ ≠ (.slice Ao20 x7_1.length co20 : Value).ownBlock ∧ some k_ ≠ (.slice Ao21 y499.length co21 : Value).ownBlock ∧ some k_ ≠ (.slice Ao23 t502.length co23 : Value).ownBlock ∧ some k_ ≠ (v507 : Value).ownBlock)) HO_6.out (fun k_ hk => by first | exact ⟨hk.1.1.1, ⟨hk.1.1.2, ⟨hk.1.2, hk.2⟩⟩⟩ | ((repeat' refine ⟨?_, ?_⟩) <;> (first | exact hk.1 | exact hk.2 | exact hk.1.1 | exact hk.1.2 | exact hk.2.1 | exact hk.2.2 | exact hk.1.1.1 | exact hk.1.1.2 | exact hk.1.2.1 | exact hk.1.2.2 | exact hk.2.1.1 | exact hk.2.1.2 | exact hk.2.2.1 | exact hk.2.2.2 | exact hk.1.1.1.1 | exact hk.1.1.1.2 | exact hk.1.1.2.1 | exact hk.1.1.2.2 | exact hk.1.2.1.1 | exact hk.1.2.1.2 | exact hk.1.2.2.1 | exact hk.1.2.2.2 | exact hk.2.1.1.1 | exact hk.2.1.1.2 | exact hk.2.1.2.1 | exact hk.2.1.2.2 | exact hk.2.2.1.1 | exact hk.2.2.1.2 | exact hk.2.2.2.1 | exact hk.2.2.2.2)))); clear HO_6; have HO_6 := n_; clear n_; obtain ⟨hy25_, hz25_⟩ := Kd.R_celln false HO_6.out (x8_1 : Int) (of_decide_eq_true (by first | (with_reducible assumption) | assumption)) (of_decide_eq_true (by first | (with_reducible assumption) | assumption)); have HP25 := Kd.R_putg HO_6.out (x8_1 : Int) true) | ((with_reducible refine gate_store (t := 4) (p := 36) rfl ?_); refine store_event (t := 4) (p := 36) (v := ?vo_w26) (w1 := (w24.setCell ⟨go16, (x8_1 : Int).toNat, none⟩ (.bool true))) ?hg ?ho ?hn ?hr ?_; (case ho => rfl); (case hg => rfl); (case hn => rfl); (case hr => first | (go_simp; done) | (go_simp; rfl) | (go_simp; simp only [IntKind.wrap_u8, IntKind.wrap_u32]; congr 4; omega) | (go_simp; simp only [IntKind.wrap_u8, IntKind.wrap_u32]; congr 5; omega)); intro w26 hw; have hg : w24.grownBy w26 (some go16) := (by rw [hw]; exact HP25.2); have hp_ : Kd.R Kd.bool 4 w26 w.heap.size (fun k_ => some k_ ≠ (.slice Ao20 x7_1.length co20 : Value).ownBlock ∧ some k_ ≠ (.slice Ao21 y499.length co21 : Value).ownBlock ∧ some k_ ≠ (.slice Ao23 t502.length co23 : Value).ownBlock ∧ some k_ ≠ (v507 : Value).ownBlock) (.slice (some ⟨go16, 0, none⟩) x6_1.length co16) y509 := (by rw [hw, Ny509.out]; exact HP25.1); clear HP25; have n0_ := Aside0.mk (hp_); have n1_ := Aside0.mk (Kd.R_after (v := (.slice (some ⟨go16, 0, none⟩) x6_1.length co16)) (v1 := (.slice (some ⟨go16, 0, none⟩) x6_1.length co16)) (ok := (fun k_ => some k_ ≠ (.slice Ao21 y499.length co21 : Value).ownBlock ∧ some k_ ≠ (.slice Ao23 t502.length co23 : Value).ownBlock ∧ some k_ ≠ (v507 : Value).ownBlock)) (by (with_reducible repeat (first | apply Kd.R_alloc | apply Kd.R_drewN | apply Kd.R_drew)); exact Kd.R_mono HO_7.out (fun _ hk => by first | exact ⟨⟨hk.1.1.2, ⟨hk.1.2, hk.2⟩⟩, hk.1.1.1⟩ | ((repeat' refine ⟨?_, ?_⟩) <;> (first | exact hk.1 | exact hk.2 | exact hk.1.1 | exact hk.1.2 | exact hk.2.1 | exact hk.2.2 | exact hk.1.1.1 | exact hk.1.1.2 | exact hk.1.2.1 | exact hk.1.2.2 | exact hk.2.1.1 | exact hk.2.1.2 | exact hk.2.2.1 | exact hk.2.2.2 | exact hk.1.1.1.1 | exact hk.1.1.1.2 | exact hk.1.1.2.1 | exact hk.1.1.2.2 | exact hk.1.2.1.1 | exact hk.1.2.1.2 | exact hk.1.2.2.1 | exact hk.1.2.2.2 | exact hk.2.1.1.1 | exact hk.2.1.1.2 | exact hk.2.1.2.1 | exact hk.2.1.2.2 | exact hk.2.2.1.1 | exact hk.2.2.1.2 | exact hk.2.2.2.1 | exact hk.2.2.2.2)))) hg (.inl rfl)); have n2_ := Aside0.mk (Kd.R_after (v := (.slice (some ⟨go16, 0, none⟩) x6_1.length co16)) (v1 := (.slice (some ⟨go16, 0, none⟩) x6_1.length co16)) (ok := (fun k_ => some k_ ≠ (.slice Ao20 x7_1.length co20 : Value).ownBlock ∧ some k_ ≠ (.slice Ao23 t502.length co23 : Value).ownBlock ∧ some k_ ≠ (v507 : Value).ownBlock)) (by (with_reducible repeat (first | apply Kd.R_alloc | apply Kd.R_drewN | apply Kd.R_drew)); exact Kd.R_mono HO501.out (fun _ hk => by first | exact ⟨⟨hk.1.1.2, ⟨hk.1.2, hk.2⟩⟩, hk.1.1.1⟩ | ((repeat' refine ⟨?_, ?_⟩) <;> (first | exact hk.1 | exact hk.2 | exact hk.1.1 | exact hk.1.2 | exact hk.2.1 | exact hk.2.2 | exact hk.1.1.1 | exact hk.1.1.2 | exact hk.1.2.1 | exact hk.1.2.2 | exact hk.2.1.1 | exact hk.2.1.2 | exact hk.2.2.1 | exact hk.2.2.2 | exact hk.1.1.1.1 | exact hk.1.1.1.2 | exact hk.1.1.2.1 | exact hk.1.1.2.2 | exact hk.1.2.1.1 | exact hk.1.2.1.2 | exact hk.1.2.2.1 | exact hk.1.2.2.2 | exact hk.2.1.1.1 | exact hk.2.1.1.2 | exact hk.2.1.2.1 | exact hk.2.1.2.2 | exact hk.2.2.1.1 | exact hk.2.2.1.2 | exact hk.2.2.2.1 | exact hk.2.2.2.2)))) hg (.inl rfl)); have n3_ := Aside0.mk (Kd.R_after (v := (.slice (some ⟨go16, 0, none⟩) x6_1.length co16)) (v1 := (.slice (some ⟨go16, 0, none⟩) x6_1.length co16)) (ok := (fun k_ => some k_ ≠ (.slice Ao20 x7_1.length co20 : Value).ownBlock ∧ some k_ ≠ (.slice Ao21 y499.length co21 : Value).ownBlock ∧ some k_ ≠ (v507 : Value).ownBlock)) (by (with_reducible repeat (first | apply Kd.R_alloc | apply Kd.R_drewN | apply Kd.R_drew)); exact Kd.R_mono HO504.out (fun _ hk => by first | exact ⟨⟨hk.1.1.2, ⟨hk.1.2, hk.2⟩⟩, hk.1.1.1.2⟩ | ((repeat' refine ⟨?_, ?_⟩) <;> (first | exact hk.1 | exact hk.2 | exact hk.1.1 | exact hk.1.2 | exact hk.2.1 | exact hk.2.2 | exact hk.1.1.1 | exact hk.1.1.2 | exact hk.1.2.1 | exact hk.1.2.2 | exact hk.2.1.1 | exact hk.2.1.2 | exact hk.2.2.1 | exact hk.2.2.2 | exact hk.1.1.1.1 | exact hk.1.1.1.2 | exact hk.1.1.2.1 | exact hk.1.1.2.2 | exact hk.1.2.1.1 | exact hk.1.2.1.2 | exact hk.1.2.2.1 | exact hk.1.2.2.2 | exact hk.2.1.1.1 | exact hk.2.1.1.2 | exact hk.2.1.2.1 | exact hk.2.1.2.2 | exact hk.2.2.1.1 | exact hk.2.2.1.2 | exact hk.2.2.2.1 | exact hk.2.2.2.2)))) hg (.inl rfl)); have n4_ := Aside0.mk (Kd.R_after (v := (.slice (some ⟨go16, 0, none⟩) x6_1.length co16)) (v1 := (.slice (some ⟨go16, 0, none⟩) x6_1.length co16)) (ok := (fun k_ => some k_ ≠ (.slice Ao20 x7_1.length co20 : Value).ownBlock ∧ some k_ ≠ (.slice Ao21 y499.length co21 : Value).ownBlock ∧ some k_ ≠ (.slice Ao23 t502.length co23 : Value).ownBlock)) (by (with_reducible repeat (first | apply Kd.R_alloc | apply Kd.R_drewN | apply Kd.R_drew)); exact Kd.R_mono HO508.out (fun _ hk => by first | exact ⟨⟨hk.1.1.2, ⟨hk.1.2, hk.2⟩⟩, hk.1.1.1.2⟩ | ((repeat' refine ⟨?_, ?_⟩) <;> (first | exact hk.1 | exact hk.2 | exact hk.1.1 | exact hk.1.2 | exact hk.2.1 | exact hk.2.2 | exact hk.1.1.1 | exact hk.1.1.2 | exact hk.1.2.1 | exact hk.1.2.2 | exact hk.2.1.1 | exact hk.2.1.2 | exact hk.2.2.1 | exact hk.2.2.2 | exact hk.1.1.1.1 | exact hk.1.1.1.2 | exact hk.1.1.2.1 | exact hk.1.1.2.2 | exact hk.1.2.1.1 | exact hk.1.2.1.2 | exact hk.1.2.2.1 | exact hk.1.2.2.2 | exact hk.2.1.1.1 | exact hk.2.1.1.2 | exact hk.2.1.2.1 | exact hk.2.1.2.2 | exact hk.2.2.1.1 | exact hk.2.2.1.2 | exact hk.2.2.2.1 | exact hk.2.2.2.2)))) hg (.inl rfl)); have n5_ := Aside0.mk ((by rw [hw]; exact below_set (HB.out) GB16.out : Below w.heap.size w w26)); clear HO_6; clear HO_7; clear HO501; clear HO504; clear HO508; clear HB; have HO_6 := n0_; have HO_7 := n1_; have HO501 := n2_; have HO504 := n3_; have HO508 := n4_; have HB := n5_; clear n0_ n1_ n2_ n3_ n4_ n5_; clear hg hw hp_))
           go_roundg k1
           case measure => have := HK1.out; omega
           case rel => exact ⟨(y509), (t506), (wrap64 (x8_1 - 1)), (by first | rfl | (simp; done) | (simp [*]; done) | (refine congrArg (Value.int _) ?_; omega) | (refine congrArg Value.bool ?_; generalize ByteArray.toList _ = z_; cases z_ <;> rfl)), H', ⟨by have := HK1.out; omega⟩, ⟨by (with_reducible repeat (first | apply Kd.R_alloc | apply Kd.R_drewN | apply Kd.R_drew)); exact Kd.R_mono HO_6.out (fun _ hk => hk.2.2.2)⟩, ⟨by (with_reducible repeat (first | apply Kd.R_alloc | apply Kd.R_drewN | apply Kd.R_drew)); exact Kd.R_mono HO508.out (fun _ hk => hk.2)⟩, ⟨by repeat first | exact HB.out | apply below_alloc | apply pw_below_drewN | apply below_drew1⟩⟩
          ·rw [if_neg c15] at H
           exact absurd H (by simp)
         ·rw [if_neg c13] at H
          have c13b0 : decide (0 ≤ t505) = false := decide_eq_false c13
          clear c13
          have H' := Aside0.mk H
          clear H
          have p495 : 0 ≤ (x8_1 : Int) := of_decide_eq_true (by first | (with_reducible assumption) | assumption)
          have q495 : x8_1 < (l0.length : Int) := of_decide_eq_true (by first | (with_reducible assumption) | assumption)
          obtain ⟨ad495, e495, hx495_0⟩ := Kd.at_bool HR0.out x8_1 p495 q495
          cases e495
          replace hx495_0 := (HB.out.cell (World.block_lt_of_cell? w _ hx495_0)).trans hx495_0
          replace p495 := eq_true p495
          replace q495 := eq_true q495
          go_wp2_with (first | ((with_reducible refine gate_dst (N := 23) rfl ?_); refine Kd.R_lit Kd.bool _ 4 ?hg (N := 23) ?hd (xs := ([rdOf false l0 x8_1] : List Bool)) (inner := [.bool (rdOf false l0 x8_1)]) (ok := fun _ => True) (okp := fun _ => True) ?hr ?hp (fun _ hk => hk) trivial (Below.refl _ _) (Nat.le_refl _) (by simp) ?_; (case hd => rfl); (case hg => rfl); (case hr => first | (go_simp; done) | (go_simp; rfl) | (go_simp; simp only [IntKind.wrap_u8, IntKind.wrap_u32]; congr 4; omega) | (go_simp; simp only [IntKind.wrap_u8, IntKind.wrap_u32]; congr 5; omega)); (case hp => exact (Reps.one (show Kd.M Kd.bool _ _ _ (rdOf false l0 x8_1) [.bool (rdOf false l0 x8_1)] from rfl) (Reps.none _ _))); intro v497 w27 ho28 hb hg_ hnew_; clear hg_ hnew_; (first | rw [← Ny496.out] at ho28 | (simp only [Int.reduceToNat] at ho28; rw [← Ny496.out] at ho28)); have n0_ := Aside0.mk (Kd.R_elder' HO_6.out (Kd.R_base ho28) hb); have n1_ := Aside0.mk (Kd.R_elder' HO_7.out (Kd.R_base ho28) hb); have n2_ := Aside0.mk (Kd.R_lower (Kd.R_new' (Kd.R_new' ho28 (Kd.R_lt HO_6.out)) (Kd.R_lt HO_7.out)) (below_size (by repeat first | exact HB.out | apply below_alloc | apply pw_below_drewN | apply below_drew1))); have n3_ := Aside0.mk (below_step (by repeat first | exact HB.out | apply below_alloc | apply pw_below_drewN | apply below_drew1) hb); clear HO_6; clear HO_7; clear HB; have HO_6 := n0_; have HO_7 := n1_; have HO498 := n2_; have HB := n3_; clear n0_ n1_ n2_ n3_; clear hb ho28; obtain ⟨Ao30, co30, eo30⟩ := Kd.R_slice HO_7.out; subst eo30) | ((with_reducible refine gate_builtin (b := .append) (xs := #[.tmp 23, .tmp 24]) rfl ?_); at_builtin; refine Kd.R_append_rows Kd.bool (w0 := w) w.heap.size rfl (.tmp 23) (.tmp 24) 49 4 (.bool false) 1 rfl Tryd.underlying49 info4 rfl (by decide) (by omega) v497 y496 x7_1 _ _ _ (fun k_ => some k_ ≠ (v490 : Value).ownBlock ∧ some k_ ≠ (.slice Ao30 x7_1.length co30 : Value).ownBlock) (fun _ => False) rfl rfl ?aO ?aR (fun _ _ h => h) (fun _ h => h.elim) ?aF ?aB ?aS ?aL ?_; (case aR => repeat (first | exact (Kd.R_reads' HO_7.out).2.2 | (with_reducible refine Kd.C_alloc ?_ _) | (with_reducible refine Kd.C_drewN ?_ _) | (with_reducible refine Kd.C_drew ?_))); (case aB => exact (by repeat first | exact HB.out | apply below_alloc | apply pw_below_drewN | apply below_drew1)); (case aF => exact (fun k_ hk => ⟨Kd.fresh' (Kd.R_lt HO_6.out) k_ hk, Kd.fresh' (Kd.R_lt HO_7.out) k_ hk⟩)); (case aO => exact (by (with_reducible repeat (first | apply Kd.R_alloc | apply Kd.R_drewN | apply Kd.R_drew)); exact Kd.R_mono HO498.out (fun _ hk => by first | exact ⟨hk.1.2, hk.2⟩ | ((repeat' refine ⟨?_, ?_⟩) <;> (first | exact hk.1 | exact hk.2 | exact hk.1.1 | exact hk.1.2 | exact hk.2.1 | exact hk.2.2 | exact hk.1.1.1 | exact hk.1.1.2 | exact hk.1.2.1 | exact hk.1.2.2 | exact hk.2.1.1 | exact hk.2.1.2 | exact hk.2.2.1 | exact hk.2.2.2 | exact hk.1.1.1.1 | exact hk.1.1.1.2 | exact hk.1.1.2.1 | exact hk.1.1.2.2 | exact hk.1.2.1.1 | exact hk.1.2.1.2 | exact hk.1.2.2.1 | exact hk.1.2.2.2 | exact hk.2.1.1.1 | exact hk.2.1.1.2 | exact hk.2.1.2.1 | exact hk.2.1.2.2 | exact hk.2.2.1.1 | exact hk.2.2.1.2 | exact hk.2.2.2.1 | exact hk.2.2.2.2))))); (case aS => exact (below_size (by repeat first | exact HB.out | apply below_alloc | apply pw_below_drewN | apply below_drew1))); (case aL => have := LMc10.out; omega); intro v500 w29 ho hb hg hat; rw [← Ny499.out] at ho; have n0_ := Aside0.mk (Kd.R_after (ok := (fun k_ => some k_ ≠ (.slice Ao30 x7_1.length co30 : Value).ownBlock)) HO_6.out hg hat); have n1_ := Aside0.mk (Kd.R_after (ok := (fun k_ => some k_ ≠ (v490 : Value).ownBlock)) HO_7.out hg hat); have n2_ := Aside0.mk (hb); have n3_ := Aside0.mk (ho); clear HO_6; clear HO_7; clear HB; clear HO498; have HO_6 := n0_; have HO_7 := n1_; have HB := n2_; have HO501 := n3_; clear n0_ n1_ n2_ n3_; clear ho hb hg hat; obtain ⟨Ao31, co31, eo31⟩ := Kd.R_slice HO501.out; subst eo31) | ((with_reducible refine gate_callee (f := 55) rfl ?_); refine goesL_ (some 26) rfl rfl Tryd.func55 (by kernel_rfl) rfl #[.slice Ao31 y499.length co31] rfl (by (try simp only [List.map_toArray, List.map_cons, List.map_nil]); first | done | rfl | (simp only [List.length_drop, List.length_take]; rfl)) ?_; (with_reducible refine (gudgeonref01_trim.calls k1 _ _ y499 t502 _ ?side1 ?side2 A11.out).mono ?_); (case side1 => repeat (first | exact (Kd.R_reads' HO501.out).2.2 | (with_reducible refine Kd.C_alloc ?_ _) | (with_reducible refine Kd.C_drewN ?_ _) | (with_reducible refine Kd.C_drew ?_))); (case side2 => exact (Kd.R_reads' HO501.out).2.1); rintro e w32 ⟨v503, rfl, ho0, hb⟩; refine ⟨_, rfl, ?_⟩; have n0_ := Aside0.mk (Kd.R_elder' HO_6.out (Kd.R_base ho0) hb); have n1_ := Aside0.mk (Kd.R_elder' HO_7.out (Kd.R_base ho0) hb); have n2_ := Aside0.mk (Kd.R_elder' HO501.out (Kd.R_base ho0) hb); have n3_ := Aside0.mk (Kd.R_lower (Kd.R_new' (Kd.R_new' (Kd.R_new' ho0 (Kd.R_lt HO_6.out)) (Kd.R_lt HO_7.out)) (Kd.R_lt HO501.out)) (below_size (by repeat first | exact HB.out | apply below_alloc | apply pw_below_drewN | apply below_drew1))); have n4_ := Aside0.mk (below_step (by repeat first | exact HB.out | apply below_alloc | apply pw_below_drewN | apply below_drew1) hb); clear HO_6; clear HO_7; clear HO501; clear HB; have HO_6 := n0_; have HO_7 := n1_; have HO501 := n2_; have HO504 := n3_; have HB := n4_; clear n0_ n1_ n2_ n3_ n4_; obtain ⟨Ao33, co33, eo33⟩ := Kd.R_slice HO504.out; subst eo33) | ((with_reducible refine gate_callee (f := 50) rfl ?_); refine goesL_ (some 29) rfl rfl Tryd.func50 (by kernel_rfl) rfl #[.slice Ao33 t502.length co33, .slice A1 l1.length c1] rfl (by (try simp only [List.map_toArray, List.map_cons, List.map_nil]); first | done | rfl | (simp only [List.length_drop, List.length_take]; rfl)) ?_; (with_reducible refine (gudgeonref01_cmp.calls k1 _ _ t502 _ _ l1 t505 _ ?side1 ?side2 ?side3 ?side4 A12.out).mono ?_); (case side1 => repeat (first | exact (Kd.R_reads' HO504.out).2.2 | (with_reducible refine Kd.C_alloc ?_ _) | (with_reducible refine Kd.C_drewN ?_ _) | (with_reducible refine Kd.C_drew ?_))); (case side2 => exact (Kd.R_reads' HO504.out).2.1); (case side3 => repeat (first | exact (Kd.C_below HR1.out HB.out) | (with_reducible refine Kd.C_alloc ?_ _) | (with_reducible refine Kd.C_drewN ?_ _) | (with_reducible refine Kd.C_drew ?_))); (case side4 => exact HC1.out); rintro e w' ⟨rfl, ⟨nd, rfl⟩⟩; refine ⟨_, rfl, ?_⟩))
          go_roundg k1
          case measure => have := HK1.out; omega
          case rel => exact ⟨(x6_1), (t502), (wrap64 (x8_1 - 1)), (by first | rfl | (simp; done) | (simp [*]; done) | (refine congrArg (Value.int _) ?_; omega) | (refine congrArg Value.bool ?_; generalize ByteArray.toList _ = z_; cases z_ <;> rfl)), H', ⟨by have := HK1.out; omega⟩, ⟨by (with_reducible repeat (first | apply Kd.R_alloc | apply Kd.R_drewN | apply Kd.R_drew)); exact Kd.R_mono HO_6.out (fun _ hk => hk.2)⟩, ⟨by (with_reducible repeat (first | apply Kd.R_alloc | apply Kd.R_drewN | apply Kd.R_drew)); exact Kd.R_mono HO504.out (fun _ hk => hk.1.1.2)⟩, ⟨by repeat first | exact HB.out | apply below_alloc | apply pw_below_drewN | apply below_drew1⟩⟩
        ·rw [if_neg c10] at H
         exact absurd H (by simp)
       ·rw [if_neg c9] at H
        exact absurd H (by simp)
      ·rw [if_neg c8] at H
       exact absurd H (by simp)
     ·rw [if_neg c7] at H
      have c7b0 : decide (0 ≤ x8_1) = false := decide_eq_false c7
      clear c7
      replace H := Option.bind_eq_some_iff.mp H
      obtain ⟨t492, A340, H⟩ := H
      replace H : (some (t492, x7_1)) = some (r1, r2) := H
      have A34 := Aside0.mk A340
      clear A340
      simp only [Option.some.injEq, Prod.mk.injEq] at H
      obtain ⟨rfl, rfl⟩ := H
      obtain ⟨Ao35, co35, eo35⟩ := Kd.R_slice HO_6.out
      subst eo35
      go_wp2_with (first | ((with_reducible refine gate_callee (f := 55) rfl ?_); refine goesL_ (some 38) rfl rfl Tryd.func55 (by kernel_rfl) rfl #[.slice Ao35 x6_1.length co35] rfl (by (try simp only [List.map_toArray, List.map_cons, List.map_nil]); first | done | rfl | (simp only [List.length_drop, List.length_take]; rfl)) ?_; (with_reducible refine (gudgeonref01_trim.calls k1 _ _ x6_1 t492 _ ?side1 ?side2 A34.out).mono ?_); (case side1 => repeat (first | exact (Kd.R_reads' HO_6.out).2.2 | (with_reducible refine Kd.C_alloc ?_ _) | (with_reducible refine Kd.C_drewN ?_ _) | (with_reducible refine Kd.C_drew ?_))); (case side2 => exact (Kd.R_reads' HO_6.out).2.1); rintro e w36 ⟨v493, rfl, ho0, hb⟩; refine ⟨_, rfl, ?_⟩; have n0_ := Aside0.mk (Kd.R_elder' HO_6.out (Kd.R_base ho0) hb); have n1_ := Aside0.mk (Kd.R_elder' HO_7.out (Kd.R_base ho0) hb); have n2_ := Aside0.mk (Kd.R_lower (Kd.R_new' (Kd.R_new' ho0 (Kd.R_lt HO_6.out)) (Kd.R_lt HO_7.out)) (below_size (by repeat first | exact HB.out | apply below_alloc | apply pw_below_drewN | apply below_drew1))); have n3_ := Aside0.mk (below_step (by repeat first | exact HB.out | apply below_alloc | apply pw_below_drewN | apply below_drew1) hb); clear HO_6; clear HO_7; clear HB; have HO_6 := n0_; have HO_7 := n1_; have HO494 := n2_; have HB := n3_; clear n0_ n1_ n2_ n3_))
      go_ret2
      exact ⟨_, _, by first | rfl | (simp [errW_none, errW_some] <;> rfl) | (simp [*, errW_none, errW_some] <;> rfl), by (with_reducible repeat (first | apply Kd.R_alloc | apply Kd.R_drewN | apply Kd.R_drew)); exact Kd.R_mono HO494.out (fun _ hk => hk.2), by (with_reducible repeat (first | apply Kd.R_alloc | apply Kd.R_drewN | apply Kd.R_drew)); exact Kd.R_mono HO_7.out (fun _ hk => hk.2), by repeat first | exact HB.out | apply below_alloc | apply pw_below_drewN | apply below_drew1⟩
  ·rw [if_neg c4] at H
   exact absurd H (by simp)
 ·rw [if_neg c3] at H
  exact absurd H (by simp)

/-! ### gudgeonref01_DivMod: function 14 -/
def gudgeonref01_DivMod.f (k : Nat) (l0 : List Int) (l1 : List Int) : Option (List Int × List Int × Int) := (gudgeonref01_Bits.f k l1).bind fun t510 => (if (t510.length : Int) = 0 then (some (([] : List Int), ([] : List Int), 7)) else ((gudgeonref01_Bits.f k l0).bind fun t513 => ((gudgeonref01_divmod.f k t513 t510).bind fun bt516 => ((gudgeonref01_Limbs.f k bt516.1).bind fun t522 => ((gudgeonref01_Limbs.f k bt516.2).bind fun t525 => (some (t522, t525, 0)))))))
theorem gudgeonref01_DivMod.mono : ∀ a0 a1 k, LeO (gudgeonref01_DivMod.f k a0 a1) (gudgeonref01_DivMod.f (k + 1) a0 a1) := by
 intro a0 a1 k
 unfold gudgeonref01_DivMod.f
 repeat' first
   | (with_reducible exact gudgeonref01_Bits.mono _ _)
   | (with_reducible exact gudgeonref01_Limbs.mono _ _)
   | (with_reducible exact gudgeonref01_divmod.mono _ _ _)
   | (with_reducible exact LeO.refl _)
   | (with_reducible exact LeO.none _)
   | (with_reducible refine LeO.ite ?_ ?_)
   | (with_reducible refine LeO.bind ?_ (fun _ => ?_))
   | exact gudgeonref01_Bits.mono _ _
   | exact gudgeonref01_Limbs.mono _ _
   | exact gudgeonref01_divmod.mono _ _ _
   | exact LeO.none _
   | refine LeO.ite ?_ ?_
   | refine LeO.bind ?_ (fun _ => ?_)
set_option maxHeartbeats 8000000 in
set_option maxRecDepth 100000 in
theorem gudgeonref01_DivMod.calls (k : Nat) (A0 : Option Addr) (c0 : Nat) (l0 : List Int) (A1 : Option Addr) (c1 : Nat) (l1 : List Int) (r1 : List Int) (r2 : List Int) (r3 : Int) (w : World) (hr0 : Kd.C (Kd.int .u32) w A0 l0.length l0) (hc0 : l0.length ≤ c0) (hr1 : Kd.C (Kd.int .u32) w A1 l1.length l1) (hc1 : l1.length ≤ c1) (h : gudgeonref01_DivMod.f k l0 l1 = some (r1, r2, r3)) :
  Calls Tryd.prog 14 #[.slice A0 l0.length c0, .slice A1 l1.length c1] w fun e w' => ∃ v0_ v1_ : Value, e = .returned (.tuple #[v0_, v1_, .int .i64 r3]) ∧ Kd.R (Kd.int .u32) 43 w' w.heap.size (fun k_ => some k_ ≠ (v1_ : Value).ownBlock) v0_ r1 ∧ Kd.R (Kd.int .u32) 43 w' w.heap.size (fun k_ => some k_ ≠ (v0_ : Value).ownBlock) v1_ r2 ∧ Below w.heap.size w w' := by
 have HR0 := Aside0.mk hr0
 have HC0 := Aside0.mk hc0
 clear hr0 hc0
 have HR1 := Aside0.mk hr1
 have HC1 := Aside0.mk hc1
 clear hr1 hc1
 have HB := Aside0.mk (Below.refl w.heap.size w)
 have H : ((gudgeonref01_Bits.f k l1).bind fun t510 => (if (t510.length : Int) = 0 then (some (([] : List Int), ([] : List Int), 7)) else ((gudgeonref01_Bits.f k l0).bind fun t513 => ((gudgeonref01_divmod.f k t513 t510).bind fun bt516 => ((gudgeonref01_Limbs.f k bt516.1).bind fun t522 => ((gudgeonref01_Limbs.f k bt516.2).bind fun t525 => (some (t522, t525, 0)))))))) = some (r1, r2, r3) := h
 clear h
 replace H := Option.bind_eq_some_iff.mp H
 obtain ⟨t510, A30, H⟩ := H
 replace H : (if (t510.length : Int) = 0 then (some (([] : List Int), ([] : List Int), 7)) else ((gudgeonref01_Bits.f k l0).bind fun t513 => ((gudgeonref01_divmod.f k t513 t510).bind fun bt516 => ((gudgeonref01_Limbs.f k bt516.1).bind fun t522 => ((gudgeonref01_Limbs.f k bt516.2).bind fun t525 => (some (t522, t525, 0))))))) = some (r1, r2, r3) := H
 have A3 := Aside0.mk A30
 clear A30
 by_cases c4 : (t510.length : Int) = 0
 ·rw [if_pos c4] at H
  have c4b0 : ((t510.length : Int) == 0) = true := beq_iff_eq.mpr c4
  have c4b1 : ((t510.length : Int) != 0) = false := bne_eq_false_iff_eq.mpr c4
  clear c4
  simp only [Option.some.injEq, Prod.mk.injEq] at H
  obtain ⟨rfl, rfl, rfl⟩ := H
  go_enter Tryd.func14, Tryd.ntmps14
  go_wp2_with (first | ((with_reducible refine gate_callee (f := 41) rfl ?_); refine goesL_ (some 11) rfl rfl Tryd.func41 (by kernel_rfl) rfl #[.slice A1 l1.length c1] rfl (by (try simp only [List.map_toArray, List.map_cons, List.map_nil]); first | done | rfl | (simp only [List.length_drop, List.length_take]; rfl)) ?_; (with_reducible refine (gudgeonref01_Bits.calls k _ _ l1 t510 _ ?side1 ?side2 A3.out).mono ?_); (case side1 => repeat (first | exact HR1.out | (with_reducible refine Kd.C_alloc ?_ _) | (with_reducible refine Kd.C_drewN ?_ _) | (with_reducible refine Kd.C_drew ?_))); (case side2 => exact HC1.out); rintro e w5 ⟨v511, rfl, ho0, hb⟩; refine ⟨_, rfl, ?_⟩; have n0_ := Aside0.mk (Kd.R_lower ho0 (below_size (by repeat first | exact HB.out | apply below_alloc | apply pw_below_drewN | apply below_drew1))); have n1_ := Aside0.mk (below_step (by repeat first | exact HB.out | apply below_alloc | apply pw_below_drewN | apply below_drew1) hb); clear HB; have HO512 := n0_; have HB := n1_; clear n0_ n1_; obtain ⟨Ao6, co6, eo6⟩ := Kd.R_slice HO512.out; subst eo6))
  go_ret3
  exact ⟨_, _, by first | rfl | (simp [errW_none, errW_some] <;> rfl) | (simp [*, errW_none, errW_some] <;> rfl), by first | exact Kd.R_nil _ _ _ _ _ | exact Kd.N_nil _ _ _ _ _ | exact Kd.V_nil _ _ _ _ _ | exact Kd.Q_nil _ _ _ _ _ | exact Kd.S_nil _ _ _ _ _, by first | exact Kd.R_nil _ _ _ _ _ | exact Kd.N_nil _ _ _ _ _ | exact Kd.V_nil _ _ _ _ _ | exact Kd.Q_nil _ _ _ _ _ | exact Kd.S_nil _ _ _ _ _, by repeat first | exact HB.out | apply below_alloc | apply pw_below_drewN | apply below_drew1⟩
 ·rw [if_neg c4] at H
  have c4b0 : ((t510.length : Int) == 0) = false := beq_eq_false_iff_ne.mpr c4
  have c4b1 : ((t510.length : Int) != 0) = true := bne_iff_ne.mpr c4
  have c4b2 : ¬ (t510 = []) := fun h_ => c4 (by rw [h_]; rfl)
  replace H := Option.bind_eq_some_iff.mp H
  obtain ⟨t513, A70, H⟩ := H
  replace H : ((gudgeonref01_divmod.f k t513 t510).bind fun bt516 => ((gudgeonref01_Limbs.f k bt516.1).bind fun t522 => ((gudgeonref01_Limbs.f k bt516.2).bind fun t525 => (some (t522, t525, 0))))) = some (r1, r2, r3) := H
  have A7 := Aside0.mk A70
  clear A70
  replace H := Option.bind_eq_some_iff.mp H
  obtain ⟨⟨t516, t517⟩, A80, H⟩ := H
  replace H : ((gudgeonref01_Limbs.f k t516).bind fun t522 => ((gudgeonref01_Limbs.f k t517).bind fun t525 => (some (t522, t525, 0)))) = some (r1, r2, r3) := H
  have A8 := Aside0.mk A80
  clear A80
  replace H := Option.bind_eq_some_iff.mp H
  obtain ⟨t522, A90, H⟩ := H
  replace H : ((gudgeonref01_Limbs.f k t517).bind fun t525 => (some (t522, t525, 0))) = some (r1, r2, r3) := H
  have A9 := Aside0.mk A90
  clear A90
  replace H := Option.bind_eq_some_iff.mp H
  obtain ⟨t525, A100, H⟩ := H
  replace H : (some (t522, t525, 0)) = some (r1, r2, r3) := H
  have A10 := Aside0.mk A100
  clear A100
  simp only [Option.some.injEq, Prod.mk.injEq] at H
  obtain ⟨rfl, rfl, rfl⟩ := H
  go_enter Tryd.func14, Tryd.ntmps14
  go_wp2_with (first | ((with_reducible refine gate_callee (f := 41) rfl ?_); refine goesL_ (some 11) rfl rfl Tryd.func41 (by kernel_rfl) rfl #[.slice A1 l1.length c1] rfl (by (try simp only [List.map_toArray, List.map_cons, List.map_nil]); first | done | rfl | (simp only [List.length_drop, List.length_take]; rfl)) ?_; (with_reducible refine (gudgeonref01_Bits.calls k _ _ l1 t510 _ ?side1 ?side2 A3.out).mono ?_); (case side1 => repeat (first | exact HR1.out | (with_reducible refine Kd.C_alloc ?_ _) | (with_reducible refine Kd.C_drewN ?_ _) | (with_reducible refine Kd.C_drew ?_))); (case side2 => exact HC1.out); rintro e w11 ⟨v511, rfl, ho0, hb⟩; refine ⟨_, rfl, ?_⟩; have n0_ := Aside0.mk (Kd.R_lower ho0 (below_size (by repeat first | exact HB.out | apply below_alloc | apply pw_below_drewN | apply below_drew1))); have n1_ := Aside0.mk (below_step (by repeat first | exact HB.out | apply below_alloc | apply pw_below_drewN | apply below_drew1) hb); clear HB; have HO512 := n0_; have HB := n1_; clear n0_ n1_; obtain ⟨Ao12, co12, eo12⟩ := Kd.R_slice HO512.out; subst eo12) | ((with_reducible refine gate_callee (f := 41) rfl ?_); refine goesL_ (some 17) rfl rfl Tryd.func41 (by kernel_rfl) rfl #[.slice A0 l0.length c0] rfl (by (try simp only [List.map_toArray, List.map_cons, List.map_nil]); first | done | rfl | (simp only [List.length_drop, List.length_take]; rfl)) ?_; (with_reducible refine (gudgeonref01_Bits.calls k _ _ l0 t513 _ ?side1 ?side2 A7.out).mono ?_); (case side1 => repeat (first | exact (Kd.C_below HR0.out HB.out) | (with_reducible refine Kd.C_alloc ?_ _) | (with_reducible refine Kd.C_drewN ?_ _) | (with_reducible refine Kd.C_drew ?_))); (case side2 => exact HC0.out); rintro e w13 ⟨v514, rfl, ho0, hb⟩; refine ⟨_, rfl, ?_⟩; have n0_ := Aside0.mk (Kd.R_elder' HO512.out (Kd.R_base ho0) hb); have n1_ := Aside0.mk (Kd.R_lower (Kd.R_new' ho0 (Kd.R_lt HO512.out)) (below_size (by repeat first | exact HB.out | apply below_alloc | apply pw_below_drewN | apply below_drew1))); have n2_ := Aside0.mk (below_step (by repeat first | exact HB.out | apply below_alloc | apply pw_below_drewN | apply below_drew1) hb); clear HO512; clear HB; have HO512 := n0_; have HO515 := n1_; have HB := n2_; clear n0_ n1_ n2_; obtain ⟨Ao14, co14, eo14⟩ := Kd.R_slice HO515.out; subst eo14) | ((with_reducible refine gate_callee (f := 42) rfl ?_); refine goesL_ (some 19) rfl rfl Tryd.func42 (by kernel_rfl) rfl #[.slice Ao14 t513.length co14, .slice Ao12 t510.length co12] rfl (by (try simp only [List.map_toArray, List.map_cons, List.map_nil]); first | done | rfl | (simp only [List.length_drop, List.length_take]; rfl)) ?_; (with_reducible refine (gudgeonref01_divmod.calls k _ _ t513 _ _ t510 t516 t517 _ ?side1 ?side2 ?side3 ?side4 A8.out).mono ?_); (case side1 => repeat (first | exact (Kd.R_reads' HO515.out).2.2 | (with_reducible refine Kd.C_alloc ?_ _) | (with_reducible refine Kd.C_drewN ?_ _) | (with_reducible refine Kd.C_drew ?_))); (case side2 => exact (Kd.R_reads' HO515.out).2.1); (case side3 => repeat (first | exact (Kd.R_reads' HO512.out).2.2 | (with_reducible refine Kd.C_alloc ?_ _) | (with_reducible refine Kd.C_drewN ?_ _) | (with_reducible refine Kd.C_drew ?_))); (case side4 => exact (Kd.R_reads' HO512.out).2.1); rintro e w15 ⟨v518, v520, rfl, ho0, ho1, hb⟩; refine ⟨_, rfl, ?_⟩; have n0_ := Aside0.mk (Kd.R_mono (Kd.R_told (Kd.R_told (Kd.R_old HO512.out hb) (Kd.R_base ho0)) (Kd.R_base ho1)) (fun _ h_ => h_.1)); have n1_ := Aside0.mk (Kd.R_mono (Kd.R_told (Kd.R_told (Kd.R_old HO515.out hb) (Kd.R_base ho0)) (Kd.R_base ho1)) (fun _ h_ => h_.1)); have n2_ := Aside0.mk (Kd.R_lower (Kd.R_new' (Kd.R_new' ho0 (Kd.R_lt HO512.out)) (Kd.R_lt HO515.out)) (below_size (by repeat first | exact HB.out | apply below_alloc | apply pw_below_drewN | apply below_drew1))); have n3_ := Aside0.mk (Kd.R_lower (Kd.R_new' (Kd.R_new' ho1 (Kd.R_lt HO512.out)) (Kd.R_lt HO515.out)) (below_size (by repeat first | exact HB.out | apply below_alloc | apply pw_below_drewN | apply below_drew1))); have n4_ := Aside0.mk (below_step (by repeat first | exact HB.out | apply below_alloc | apply pw_below_drewN | apply below_drew1) hb); clear HO512; clear HO515; clear HB; have HO512 := n0_; have HO515 := n1_; have HO519 := n2_; have HO521 := n3_; have HB := n4_; clear n0_ n1_ n2_ n3_ n4_; (try clear ho1); obtain ⟨Ao16, co16, eo16⟩ := Kd.R_slice HO519.out; subst eo16) | ((with_reducible refine gate_callee (f := 43) rfl ?_); refine goesL_ (some 23) rfl rfl Tryd.func43 (by kernel_rfl) rfl #[.slice Ao16 t516.length co16] rfl (by (try simp only [List.map_toArray, List.map_cons, List.map_nil]); first | done | rfl | (simp only [List.length_drop, List.length_take]; rfl)) ?_; (with_reducible refine (gudgeonref01_Limbs.calls k _ _ t516 t522 _ ?side1 ?side2 A9.out).mono ?_); (case side1 => repeat (first | exact (Kd.R_reads' HO519.out).2.2 | (with_reducible refine Kd.C_alloc ?_ _) | (with_reducible refine Kd.C_drewN ?_ _) | (with_reducible refine Kd.C_drew ?_))); (case side2 => exact (Kd.R_reads' HO519.out).2.1); rintro e w17 ⟨v523, rfl, ho0, hb⟩; refine ⟨_, rfl, ?_⟩; have n0_ := Aside0.mk (Kd.R_below HO512.out hb); have n1_ := Aside0.mk (Kd.R_below HO515.out hb); have n2_ := Aside0.mk (Kd.R_below HO519.out hb); have n3_ := Aside0.mk (Kd.R_below HO521.out hb); have n4_ := Aside0.mk (Kd.R_lower ho0 (below_size (by repeat first | exact HB.out | apply below_alloc | apply pw_below_drewN | apply below_drew1))); have n5_ := Aside0.mk (below_step (by repeat first | exact HB.out | apply below_alloc | apply pw_below_drewN | apply below_drew1) hb); clear HO512; clear HO515; clear HO519; clear HO521; clear HB; have HO512 := n0_; have HO515 := n1_; have HO519 := n2_; have HO521 := n3_; have HO524 := n4_; have HB := n5_; clear n0_ n1_ n2_ n3_ n4_ n5_; obtain ⟨Ao18, co18, eo18⟩ := Kd.R_slice HO521.out; subst eo18) | ((with_reducible refine gate_callee (f := 43) rfl ?_); refine goesL_ (some 25) rfl rfl Tryd.func43 (by kernel_rfl) rfl #[.slice Ao18 t517.length co18] rfl (by (try simp only [List.map_toArray, List.map_cons, List.map_nil]); first | done | rfl | (simp only [List.length_drop, List.length_take]; rfl)) ?_; (with_reducible refine (gudgeonref01_Limbs.calls k _ _ t517 t525 _ ?side1 ?side2 A10.out).mono ?_); (case side1 => repeat (first | exact (Kd.R_reads' HO521.out).2.2 | (with_reducible refine Kd.C_alloc ?_ _) | (with_reducible refine Kd.C_drewN ?_ _) | (with_reducible refine Kd.C_drew ?_))); (case side2 => exact (Kd.R_reads' HO521.out).2.1); rintro e w19 ⟨v526, rfl, ho0, hb⟩; refine ⟨_, rfl, ?_⟩; have n0_ := Aside0.mk (Kd.R_below HO512.out hb); have n1_ := Aside0.mk (Kd.R_below HO515.out hb); have n2_ := Aside0.mk (Kd.R_below HO519.out hb); have n3_ := Aside0.mk (Kd.R_below HO521.out hb); have n4_ := Aside0.mk (Kd.R_elder' HO524.out (Kd.R_base ho0) hb); have n5_ := Aside0.mk (Kd.R_lower (Kd.R_new' ho0 (Kd.R_lt HO524.out)) (below_size (by repeat first | exact HB.out | apply below_alloc | apply pw_below_drewN | apply below_drew1))); have n6_ := Aside0.mk (below_step (by repeat first | exact HB.out | apply below_alloc | apply pw_below_drewN | apply below_drew1) hb); clear HO512; clear HO515; clear HO519; clear HO521; clear HO524; clear HB; have HO512 := n0_; have HO515 := n1_; have HO519 := n2_; have HO521 := n3_; have HO524 := n4_; have HO527 := n5_; have HB := n6_; clear n0_ n1_ n2_ n3_ n4_ n5_ n6_))
  go_ret3
  exact ⟨_, _, by first | rfl | (simp [errW_none, errW_some] <;> rfl) | (simp [*, errW_none, errW_some] <;> rfl), by (with_reducible repeat (first | apply Kd.R_alloc | apply Kd.R_drewN | apply Kd.R_drew)); exact Kd.R_mono HO524.out (fun _ hk => hk.2), by (with_reducible repeat (first | apply Kd.R_alloc | apply Kd.R_drewN | apply Kd.R_drew)); exact Kd.R_mono HO527.out (fun _ hk => hk.2), by repeat first | exact HB.out | apply below_alloc | apply pw_below_drewN | apply below_drew1⟩

/-! ### gudgeonref01_Gcd: function 17 -/
def gudgeonref01_Gcd.l0 : Nat → List Bool → List Bool → Option (List Int)
 | 0, _, _ => none
 | k + 1, x5, x6 => if (x6.length : Int) > 0 then ((gudgeonref01_divmod.f k x5 x6).bind fun bt534 => (gudgeonref01_Gcd.l0 k x6 bt534.2)) else ((gudgeonref01_Limbs.f k x5).bind fun t540 => (some t540))
def gudgeonref01_Gcd.f (k : Nat) (l0 : List Int) (l1 : List Int) : Option (List Int) := (gudgeonref01_Bits.f k l0).bind fun t528 => ((gudgeonref01_Bits.f k l1).bind fun t531 => (gudgeonref01_Gcd.l0 k t528 t531))
theorem gudgeonref01_Gcd.mono_l : ∀ k, (∀ y0 y1, LeO (gudgeonref01_Gcd.l0 k y0 y1) (gudgeonref01_Gcd.l0 (k + 1) y0 y1))
 | 0 => fun _ _ r h => by simp [gudgeonref01_Gcd.l0] at h
 | k + 1 => by
  have ih0 := gudgeonref01_Gcd.mono_l k
  ·intro y0 y1
   unfold gudgeonref01_Gcd.l0
   repeat' first
   | (with_reducible exact ih0 _ _)
   | (with_reducible exact gudgeonref01_Bits.mono _ _)
   | (with_reducible exact gudgeonref01_Limbs.mono _ _)
   | (with_reducible exact gudgeonref01_divmod.mono _ _ _)
   | (with_reducible exact LeO.refl _)
   | (with_reducible exact LeO.none _)
   | (with_reducible refine LeO.ite ?_ ?_)
   | (with_reducible refine LeO.bind ?_ (fun _ => ?_))
   | exact ih0 _ _
   | exact gudgeonref01_Bits.mono _ _
   | exact gudgeonref01_Limbs.mono _ _
   | exact gudgeonref01_divmod.mono _ _ _
   | exact LeO.none _
   | refine LeO.ite ?_ ?_
   | refine LeO.bind ?_ (fun _ => ?_)
theorem gudgeonref01_Gcd.mono : ∀ a0 a1 k, LeO (gudgeonref01_Gcd.f k a0 a1) (gudgeonref01_Gcd.f (k + 1) a0 a1) := by
 intro a0 a1 k
 have ih0 := gudgeonref01_Gcd.mono_l k
 unfold gudgeonref01_Gcd.f
 repeat' first
   | (with_reducible exact ih0 _ _)
   | (with_reducible exact gudgeonref01_Bits.mono _ _)
   | (with_reducible exact gudgeonref01_Limbs.mono _ _)
   | (with_reducible exact gudgeonref01_divmod.mono _ _ _)
   | (with_reducible exact LeO.refl _)
   | (with_reducible exact LeO.none _)
   | (with_reducible refine LeO.ite ?_ ?_)
   | (with_reducible refine LeO.bind ?_ (fun _ => ?_))
   | exact ih0 _ _
   | exact gudgeonref01_Bits.mono _ _
   | exact gudgeonref01_Limbs.mono _ _
   | exact gudgeonref01_divmod.mono _ _ _
   | exact LeO.none _
   | refine LeO.ite ?_ ?_
   | refine LeO.bind ?_ (fun _ => ?_)
set_option maxHeartbeats 8000000 in
set_option maxRecDepth 100000 in
theorem gudgeonref01_Gcd.calls (k : Nat) (A0 : Option Addr) (c0 : Nat) (l0 : List Int) (A1 : Option Addr) (c1 : Nat) (l1 : List Int) (r : List Int) (w : World) (hr0 : Kd.C (Kd.int .u32) w A0 l0.length l0) (hc0 : l0.length ≤ c0) (hr1 : Kd.C (Kd.int .u32) w A1 l1.length l1) (hc1 : l1.length ≤ c1) (h : gudgeonref01_Gcd.f k l0 l1 = some r) :
  Calls Tryd.prog 17 #[.slice A0 l0.length c0, .slice A1 l1.length c1] w fun e w' => ∃ v0_ : Value, e = .returned (v0_) ∧ Kd.R (Kd.int .u32) 43 w' w.heap.size (fun _ => True) v0_ r ∧ Below w.heap.size w w' := by
 have HR0 := Aside0.mk hr0
 have HC0 := Aside0.mk hc0
 clear hr0 hc0
 have HR1 := Aside0.mk hr1
 have HC1 := Aside0.mk hc1
 clear hr1 hc1
 have HB := Aside0.mk (Below.refl w.heap.size w)
 have H : ((gudgeonref01_Bits.f k l0).bind fun t528 => ((gudgeonref01_Bits.f k l1).bind fun t531 => (gudgeonref01_Gcd.l0 k t528 t531))) = some r := h
 clear h
 replace H := Option.bind_eq_some_iff.mp H
 obtain ⟨t528, A30, H⟩ := H
 replace H : ((gudgeonref01_Bits.f k l1).bind fun t531 => (gudgeonref01_Gcd.l0 k t528 t531)) = some r := H
 have A3 := Aside0.mk A30
 clear A30
 replace H := Option.bind_eq_some_iff.mp H
 obtain ⟨t531, A40, H⟩ := H
 replace H : (gudgeonref01_Gcd.l0 k t528 t531) = some r := H
 have A4 := Aside0.mk A40
 clear A40
 have H' := Aside0.mk H
 clear H
 go_enter Tryd.func17, Tryd.ntmps17
 go_wp2_with (first | ((with_reducible refine gate_callee (f := 41) rfl ?_); refine goesL_ (some 10) rfl rfl Tryd.func41 (by kernel_rfl) rfl #[.slice A0 l0.length c0] rfl (by (try simp only [List.map_toArray, List.map_cons, List.map_nil]); first | done | rfl | (simp only [List.length_drop, List.length_take]; rfl)) ?_; (with_reducible refine (gudgeonref01_Bits.calls k _ _ l0 t528 _ ?side1 ?side2 A3.out).mono ?_); (case side1 => repeat (first | exact HR0.out | (with_reducible refine Kd.C_alloc ?_ _) | (with_reducible refine Kd.C_drewN ?_ _) | (with_reducible refine Kd.C_drew ?_))); (case side2 => exact HC0.out); rintro e w5 ⟨v529, rfl, ho0, hb⟩; refine ⟨_, rfl, ?_⟩; have n0_ := Aside0.mk (Kd.R_lower ho0 (below_size (by repeat first | exact HB.out | apply below_alloc | apply pw_below_drewN | apply below_drew1))); have n1_ := Aside0.mk (below_step (by repeat first | exact HB.out | apply below_alloc | apply pw_below_drewN | apply below_drew1) hb); clear HB; have HO530 := n0_; have HB := n1_; clear n0_ n1_) | ((with_reducible refine gate_callee (f := 41) rfl ?_); refine goesL_ (some 12) rfl rfl Tryd.func41 (by kernel_rfl) rfl #[.slice A1 l1.length c1] rfl (by (try simp only [List.map_toArray, List.map_cons, List.map_nil]); first | done | rfl | (simp only [List.length_drop, List.length_take]; rfl)) ?_; (with_reducible refine (gudgeonref01_Bits.calls k _ _ l1 t531 _ ?side1 ?side2 A4.out).mono ?_); (case side1 => repeat (first | exact (Kd.C_below HR1.out HB.out) | (with_reducible refine Kd.C_alloc ?_ _) | (with_reducible refine Kd.C_drewN ?_ _) | (with_reducible refine Kd.C_drew ?_))); (case side2 => exact HC1.out); rintro e w6 ⟨v532, rfl, ho0, hb⟩; refine ⟨_, rfl, ?_⟩; have n0_ := Aside0.mk (Kd.R_elder' HO530.out (Kd.R_base ho0) hb); have n1_ := Aside0.mk (Kd.R_lower (Kd.R_new' ho0 (Kd.R_lt HO530.out)) (below_size (by repeat first | exact HB.out | apply below_alloc | apply pw_below_drewN | apply below_drew1))); have n2_ := Aside0.mk (below_step (by repeat first | exact HB.out | apply below_alloc | apply pw_below_drewN | apply below_drew1) hb); clear HO530; clear HB; have HO530 := n0_; have HO533 := n1_; have HB := n2_; clear n0_ n1_ n2_))
 go_loopg [5, 6] k (fun kq v5 v6 w' => ∃ (x5_1 : List Bool) (x6_1 : List Bool), Aside0 (gudgeonref01_Gcd.l0 kq x5_1 x6_1 = some r) ∧ Aside0 (kq ≤ k) ∧ Aside0 (Kd.R Kd.bool 4 w' w.heap.size (fun k_ => some k_ ≠ (v6 : Value).ownBlock) v5 x5_1) ∧ Aside0 (Kd.R Kd.bool 4 w' w.heap.size (fun k_ => some k_ ≠ (v5 : Value).ownBlock) v6 x6_1) ∧ Aside0 (Below w.heap.size w w'))
 case atStart => exact ⟨(t528), (t531), H', ⟨Nat.le_refl _⟩, ⟨by (with_reducible repeat (first | apply Kd.R_alloc | apply Kd.R_drewN | apply Kd.R_drew)); exact Kd.R_mono HO530.out (fun _ hk => hk.2)⟩, ⟨by (with_reducible repeat (first | apply Kd.R_alloc | apply Kd.R_drewN | apply Kd.R_drew)); exact Kd.R_mono HO533.out (fun _ hk => hk.2)⟩, ⟨by repeat first | exact HB.out | apply below_alloc | apply pw_below_drewN | apply below_drew1⟩⟩
 case round =>
  clear H'
  try clear c1
  try clear p2
  try clear c4
  obtain ⟨x5_1, x6_1, HA, HK1, HO_5, HO_6, HB⟩ := hrel
  cases gk with
  | zero => exact absurd HA.out (by simp [gudgeonref01_Gcd.l0])
  | succ k1 =>
   have H := HA.out
   clear HA
   simp only [gudgeonref01_Gcd.l0] at H
   by_cases c7 : (x6_1.length : Int) > 0
   ·rw [if_pos c7] at H
    have c7b0 : decide (0 < (x6_1.length : Int)) = true := decide_eq_true c7
    have c7b1 : decide (0 < x6_1.length) = true := decide_eq_true (by omega)
    clear c7
    replace H := Option.bind_eq_some_iff.mp H
    obtain ⟨⟨t534, t535⟩, A80, H⟩ := H
    replace H : (gudgeonref01_Gcd.l0 k1 x6_1 t535) = some r := H
    have A8 := Aside0.mk A80
    clear A80
    have H' := Aside0.mk H
    clear H
    obtain ⟨Ao9, co9, eo9⟩ := Kd.R_slice HO_6.out
    subst eo9
    obtain ⟨Ao10, co10, eo10⟩ := Kd.R_slice HO_5.out
    subst eo10
    go_wp2_with (first | ((with_reducible refine gate_callee (f := 42) rfl ?_); refine goesL_ (some 19) rfl rfl Tryd.func42 (by kernel_rfl) rfl #[.slice Ao10 x5_1.length co10, .slice Ao9 x6_1.length co9] rfl (by (try simp only [List.map_toArray, List.map_cons, List.map_nil]); first | done | rfl | (simp only [List.length_drop, List.length_take]; rfl)) ?_; (with_reducible refine (gudgeonref01_divmod.calls k1 _ _ x5_1 _ _ x6_1 t534 t535 _ ?side1 ?side2 ?side3 ?side4 A8.out).mono ?_); (case side1 => repeat (first | exact (Kd.R_reads' HO_5.out).2.2 | (with_reducible refine Kd.C_alloc ?_ _) | (with_reducible refine Kd.C_drewN ?_ _) | (with_reducible refine Kd.C_drew ?_))); (case side2 => exact (Kd.R_reads' HO_5.out).2.1); (case side3 => repeat (first | exact (Kd.R_reads' HO_6.out).2.2 | (with_reducible refine Kd.C_alloc ?_ _) | (with_reducible refine Kd.C_drewN ?_ _) | (with_reducible refine Kd.C_drew ?_))); (case side4 => exact (Kd.R_reads' HO_6.out).2.1); rintro e w11 ⟨v536, v538, rfl, ho0, ho1, hb⟩; refine ⟨_, rfl, ?_⟩; have n0_ := Aside0.mk (Kd.R_mono (Kd.R_told (Kd.R_told (Kd.R_old HO_5.out hb) (Kd.R_base ho0)) (Kd.R_base ho1)) (fun _ h_ => h_.1)); have n1_ := Aside0.mk (Kd.R_mono (Kd.R_told (Kd.R_told (Kd.R_old HO_6.out hb) (Kd.R_base ho0)) (Kd.R_base ho1)) (fun _ h_ => h_.1)); have n2_ := Aside0.mk (Kd.R_lower (Kd.R_new' (Kd.R_new' ho0 (Kd.R_lt HO_5.out)) (Kd.R_lt HO_6.out)) (below_size (by repeat first | exact HB.out | apply below_alloc | apply pw_below_drewN | apply below_drew1))); have n3_ := Aside0.mk (Kd.R_lower (Kd.R_new' (Kd.R_new' ho1 (Kd.R_lt HO_5.out)) (Kd.R_lt HO_6.out)) (below_size (by repeat first | exact HB.out | apply below_alloc | apply pw_below_drewN | apply below_drew1))); have n4_ := Aside0.mk (below_step (by repeat first | exact HB.out | apply below_alloc | apply pw_below_drewN | apply below_drew1) hb); clear HO_5; clear HO_6; clear HB; have HO_5 := n0_; have HO_6 := n1_; have HO537 := n2_; have HO539 := n3_; have HB := n4_; clear n0_ n1_ n2_ n3_ n4_; (try clear ho1)))
    go_roundg k1
    case measure => have := HK1.out; omega
    case rel => exact ⟨(x6_1), (t535), H', ⟨by have := HK1.out; omega⟩, ⟨by (with_reducible repeat (first | apply Kd.R_alloc | apply Kd.R_drewN | apply Kd.R_drew)); exact Kd.R_mono HO_6.out (fun _ hk => hk.2)⟩, ⟨by (with_reducible repeat (first | apply Kd.R_alloc | apply Kd.R_drewN | apply Kd.R_drew)); exact Kd.R_mono HO539.out (fun _ hk => hk.2)⟩, ⟨by repeat first | exact HB.out | apply below_alloc | apply pw_below_drewN | apply below_drew1⟩⟩
   ·rw [if_neg c7] at H
    have c7b0 : decide (0 < (x6_1.length : Int)) = false := decide_eq_false c7
    have c7b1 : decide (0 < x6_1.length) = false := decide_eq_false (by omega)
    clear c7
    replace H := Option.bind_eq_some_iff.mp H
    obtain ⟨t540, A120, H⟩ := H
    replace H : (some t540) = some r := H
    have A12 := Aside0.mk A120
    clear A120
    obtain rfl := Option.some.inj H
    obtain ⟨Ao13, co13, eo13⟩ := Kd.R_slice HO_6.out
    subst eo13
    obtain ⟨Ao14, co14, eo14⟩ := Kd.R_slice HO_5.out
    subst eo14
    go_wp2_with (first | ((with_reducible refine gate_callee (f := 43) rfl ?_); refine goesL_ (some 25) rfl rfl Tryd.func43 (by kernel_rfl) rfl #[.slice Ao14 x5_1.length co14] rfl (by (try simp only [List.map_toArray, List.map_cons, List.map_nil]); first | done | rfl | (simp only [List.length_drop, List.length_take]; rfl)) ?_; (with_reducible refine (gudgeonref01_Limbs.calls k1 _ _ x5_1 t540 _ ?side1 ?side2 A12.out).mono ?_); (case side1 => repeat (first | exact (Kd.R_reads' HO_5.out).2.2 | (with_reducible refine Kd.C_alloc ?_ _) | (with_reducible refine Kd.C_drewN ?_ _) | (with_reducible refine Kd.C_drew ?_))); (case side2 => exact (Kd.R_reads' HO_5.out).2.1); rintro e w15 ⟨v541, rfl, ho0, hb⟩; refine ⟨_, rfl, ?_⟩; have n0_ := Aside0.mk (Kd.R_below HO_5.out hb); have n1_ := Aside0.mk (Kd.R_below HO_6.out hb); have n2_ := Aside0.mk (Kd.R_lower ho0 (below_size (by repeat first | exact HB.out | apply below_alloc | apply pw_below_drewN | apply below_drew1))); have n3_ := Aside0.mk (below_step (by repeat first | exact HB.out | apply below_alloc | apply pw_below_drewN | apply below_drew1) hb); clear HO_5; clear HO_6; clear HB; have HO_5 := n0_; have HO_6 := n1_; have HO542 := n2_; have HB := n3_; clear n0_ n1_ n2_ n3_))
    go_ret
    exact ⟨_, by first | rfl | (simp [errW_none, errW_some] <;> rfl) | (simp [*, errW_none, errW_some] <;> rfl), by (with_reducible repeat (first | apply Kd.R_alloc | apply Kd.R_drewN | apply Kd.R_drew)); exact HO542.out, by repeat first | exact HB.out | apply below_alloc | apply pw_below_drewN | apply below_drew1⟩

end Go.Proofs.YtlfpnohpcemkgaaDoor.PA
/- nat.nine, in the printed shape: nine digits. -/
namespace Go.Proofs.YtlfpnohpcemkgaaDoor.H
open Go.RowKit Go.Proofs.YtlfpnohpcemkgaaDoorW.PrintWords Go.Proofs.YtlfpnohpcemkgaaDoorW.PrintLast

/-- The last digits of a number. -/
def nineL : Nat → Nat → List UInt8
  | 0, _ => []
  | k + 1, u => nineL k (u / 10) ++ [UInt8.ofNat (48 + u % 10)]
def nat_nine.f (n : Int) : Option ByteArray := if 0 ≤ n ∧ n < 18446744073709551616 then some ⟨(nineL 9 n.toNat).toArray⟩ else none
theorem len9 : Tryd.prog.arrayLen 67 = 9 := by kernel_rfl
theorem slice9 (g : Nat) (W : World) :
    (Instr.sliceAt 67 (.pointer (some ⟨g, 0, none⟩)) none none none).run Tryd.prog W = .ok (.slice (some ⟨g, 0, none⟩) 9 9) W := by
  have hs : ∀ w, (sizeOf (Tryd.prog.elem 67)).run Tryd.prog w = .ok 1 w := fun w => by kernel_rfl
  have hu : Tryd.prog.underlying 67 = some (.array (Tryd.prog.arrayLen 67) (Tryd.prog.elem 67)) := by kernel_rfl
  rw [run_sliceAt_array_all W 67 ⟨g, 0, none⟩ hu, hs]
  simp only [Result.andThen, slicedAt, len9]
  rfl
theorem conv9 (g : Nat) (L : List Int) (hL : L.length = 9) (W : World) (hb : W.heap[g]? = some (.cells (L.map (Value.int .u8)).toArray 67 (0, 0))) :
    (convert 54 9 (.slice (some ⟨g, 0, none⟩) 9 9)).run Tryd.prog W = .ok (.string (strOfNums L)) W := by
  refine Kd.C_string Tryd.underlying54 Tryd.underlying5 Tryd.underlying9 ?_
  refine ⟨by simp [hL], by omega, fun _ => ⟨_, rfl, fun i p hp => ⟨[.int .u8 p], rfl, rfl, fun q u hq => ?_⟩⟩⟩
  have hq0 : q = 0 := by
    rcases q with _ | q
    · rfl
    · simp at hq
  subst hq0
  have hu : Value.int .u8 p = u := by simpa using hq
  subst hu
  have e : (⟨g, 0, none⟩ : Addr).add (i * (Kd.int .u8).sz + 0) = ⟨g, i, none⟩ := by
    rw [add_plain]
    simp [Kd.int, Kd.scalar]
  rw [e, blk_cell hb]
  simp [hp]
set_option maxHeartbeats 1000000 in
set_option maxRecDepth 100000 in
theorem nat_nine.calls (a0 : Int) (r : ByteArray) (w : World) (h : nat_nine.f a0 = some r) :
    Calls Tryd.prog 46 #[.int .u64 a0] w fun e w' => e = .returned (.string r) ∧ Below w.heap.size w w' := by
  unfold nat_nine.f at h
  split at h
  case isFalse => cases h
  case isTrue hn =>
  obtain ⟨n, rfl⟩ : ∃ n : Nat, a0 = (n : Int) := ⟨a0.toNat, by omega⟩
  have HRES := Aside0.mk (Option.some.inj h)
  have hn64 : n < 18446744073709551616 := by omega
  clear h hn
  rw [Int.toNat_natCast] at HRES
  go_enter Tryd.func46, Tryd.ntmps46
  go_wp2
  have hz0 : (w.alloc (Obj.cells #[Value.int IntKind.u8 0, Value.int IntKind.u8 0, Value.int IntKind.u8 0, Value.int IntKind.u8 0, Value.int IntKind.u8 0, Value.int IntKind.u8 0, Value.int IntKind.u8 0, Value.int IntKind.u8 0, Value.int IntKind.u8 0] 67)).heap[w.heap.size]? = some (.cells ((List.replicate 9 (0 : Int)).map (Value.int .u8)).toArray 67 (0, 0)) := (heap_alloc_new w _).trans (by kernel_rfl)
  have HZ := Aside0.mk hz0
  clear hz0
  go_loopw [0, 4] (fun v0 v4 wr => ∃ (i : Int) (j u : Nat) (L : List Int), v0 = .int .u64 (u : Int) ∧ v4 = .int .i64 i ∧ Aside0 (i = (j : Int) - 1 ∧ j ≤ 9 ∧ u < 18446744073709551616) ∧ Aside0 (nineL j u ++ (L.drop j).map (fun x => UInt8.ofNat x.toNat) = nineL 9 n ∧ L.length = 9) ∧ Aside0 (wr.heap[w.heap.size]? = some (.cells (L.map (Value.int .u8)).toArray 67 (0, 0))) ∧ Aside0 (Below w.heap.size w wr)) (fun _ v4 _ => (intOf v4 + 1).toNat)
  case atStart => exact ⟨8, 9, n, List.replicate 9 0, rfl, rfl, ⟨rfl, by omega, hn64⟩, ⟨by simp, by simp⟩, HZ, ⟨below_alloc (Below.refl _ _) _⟩⟩
  case round =>
    obtain ⟨i, j, u, L, rfl, rfl, HA, HE, HH, HB⟩ := hrel
    obtain ⟨hi, hj, hu⟩ := HA.out
    have hL := HE.out.2
    cases j with
    | zero =>
      have e0 : decide (0 ≤ i) = false := decide_eq_false (by omega)
      have hsl := slice9 w.heap.size wr
      have hcv := conv9 w.heap.size L hL wr HH.out
      go_wp2
      go_ret
      refine ⟨?_, HB.out⟩
      have e : strOfNums L = r := by
        rw [← HRES.out, ← HE.out.1]
        rfl
      rw [e]
      rfl
    | succ j =>
      obtain rfl : i = (j : Int) := by omega
      have hcell : wr.cell? ⟨w.heap.size, j, none⟩ = some (.int .u8 (L.getD j 0)) := (blk_cell HH.out j).trans (by have hl : j < L.length := (by omega); simp [List.getElem?_eq_getElem hl])
      have hfro : wr.frozen? ⟨w.heap.size, j, none⟩ = false := blk_frozen HH.out j
      have hj8 : j ≤ 8 := by omega
      clear hi hj hL
      have hl9 := Aside0.mk HE.out.2
      have heq := Aside0.mk HE.out.1
      go_wp2
      refine ⟨⟨(j : Int) - 1, j, u / 10, L.set j (48 + (u : Int) % 10), by go_num, rfl, ⟨rfl, by omega, by omega⟩, ⟨?_, by rw [List.length_set]; exact hl9.out⟩, ⟨?_⟩, ⟨Below.setCell HB.out (Nat.le_refl _) _⟩⟩, by simp [intOf]⟩
      · rw [← heq.out]
        have hl : j < L.length := by have := hl9.out; omega
        have hd : (L.set j (48 + (u : Int) % 10)).drop j = (48 + (u : Int) % 10) :: L.drop (j + 1) := by
          rw [List.drop_eq_getElem_cons (by simpa using hl)]
          simp [List.drop_set_of_lt]
        rw [hd]
        simp only [nineL, List.map_cons, List.append_assoc, List.singleton_append]
        congr 3
      · refine (blk_set HH.out j _).trans ?_
        simp [List.map_set]
end Go.Proofs.YtlfpnohpcemkgaaDoor.H
/- Written by a program of this session, wip/tools/patch_print.py, over the kit's print of the loaded functions. -/
namespace Go.Proofs.YtlfpnohpcemkgaaDoor.H
end Go.Proofs.YtlfpnohpcemkgaaDoor.H
namespace Go.Proofs.YtlfpnohpcemkgaaDoor.PA
open Go.RowKit Go.Proofs.YtlfpnohpcemkgaaDoorW.PrintWords Go.Proofs.YtlfpnohpcemkgaaDoorW.PrintLast Go.Proofs.YtlfpnohpcemkgaaDoorW.PrintMore Go.Proofs.YtlfpnohpcemkgaaDoor.H
attribute [local go_sem] max2_int min2_int max_two min_two max_three min_three max_four min_four   -- for this text's walks alone
set_option linter.unusedVariables false
set_option linter.unusedSimpArgs false

/-! ### strings_trimLeftByte: function 57 -/
def strings_trimLeftByte.l0 : Nat → ByteArray → Int → Option (ByteArray)
 | 0, _, _ => none
 | k + 1, x0, x1 => if (x0.size : Int) > 0 then (if 0 < (x0.size : Int) then (if (bt x0 0) = x1 then (if 1 ≤ (x0.size : Int) then (strings_trimLeftByte.l0 k (x0.extract 1 x0.size) x1) else (none)) else (some x0)) else (none)) else (some x0)
def strings_trimLeftByte.f (k : Nat) (a0 : ByteArray) (a1 : Int) : Option (ByteArray) := strings_trimLeftByte.l0 k a0 a1
theorem strings_trimLeftByte.mono_l : ∀ k, (∀ y0 y1, LeO (strings_trimLeftByte.l0 k y0 y1) (strings_trimLeftByte.l0 (k + 1) y0 y1))
 | 0 => fun _ _ r h => by simp [strings_trimLeftByte.l0] at h
 | k + 1 => by
  have ih0 := strings_trimLeftByte.mono_l k
  ·intro y0 y1
   unfold strings_trimLeftByte.l0
   repeat' first
   | (with_reducible exact ih0 _ _)
   | (with_reducible exact LeO.refl _)
   | (with_reducible exact LeO.none _)
   | (with_reducible refine LeO.ite ?_ ?_)
   | (with_reducible refine LeO.bind ?_ (fun _ => ?_))
   | exact ih0 _ _
   | exact LeO.none _
   | refine LeO.ite ?_ ?_
   | refine LeO.bind ?_ (fun _ => ?_)
theorem strings_trimLeftByte.mono : ∀ a0 a1 k, LeO (strings_trimLeftByte.f k a0 a1) (strings_trimLeftByte.f (k + 1) a0 a1) := by
 intro a0 a1 k
 have ih0 := strings_trimLeftByte.mono_l k
 unfold strings_trimLeftByte.f
 repeat' first
   | (with_reducible exact ih0 _ _)
   | (with_reducible exact LeO.refl _)
   | (with_reducible exact LeO.none _)
   | (with_reducible refine LeO.ite ?_ ?_)
   | (with_reducible refine LeO.bind ?_ (fun _ => ?_))
   | exact ih0 _ _
   | exact LeO.none _
   | refine LeO.ite ?_ ?_
   | refine LeO.bind ?_ (fun _ => ?_)
set_option maxHeartbeats 8000000 in
set_option maxRecDepth 100000 in
theorem strings_trimLeftByte.calls (k : Nat) (a0 : ByteArray) (a1 : Int) (r : ByteArray) (w : World) (h : strings_trimLeftByte.f k a0 a1 = some r) :
  Calls Tryd.prog 57 #[.string a0, .int .u8 a1] w fun e w' => e = .returned (.string r) ∧ Drawn0 w w' := by
 have H : (strings_trimLeftByte.l0 k a0 a1) = some r := h
 clear h
 have H' := Aside0.mk H
 clear H
 go_enter Tryd.func57, Tryd.ntmps57
 go_wp2
 go_loopg [0] k (fun kq v0 w' => ∃ (x0_1 : ByteArray), v0 = .string x0_1 ∧ Aside0 (strings_trimLeftByte.l0 kq x0_1 a1 = some r) ∧ Aside0 (kq ≤ k) ∧ Drawn0 w w')
 case atStart => exact ⟨(a0), (by first | rfl | (simp; done) | (simp [*]; done) | (refine congrArg (Value.int _) ?_; omega) | (refine congrArg Value.bool ?_; generalize ByteArray.toList _ = z_; cases z_ <;> rfl)), H', ⟨Nat.le_refl _⟩, by repeat (first | exact Drawn0.refl _ | apply Drawn0.step)⟩
 case round =>
  clear H'
  try clear p2
  obtain ⟨x0_1, rfl, HA, HK1, ⟨m1, rfl⟩⟩ := hrel
  cases gk with
  | zero => exact absurd HA.out (by simp [strings_trimLeftByte.l0])
  | succ k1 =>
   have H := HA.out
   clear HA
   simp only [strings_trimLeftByte.l0] at H
   by_cases c3 : (x0_1.size : Int) > 0
   ·rw [if_pos c3] at H
    have c3b0 : decide (0 < (x0_1.size : Int)) = true := decide_eq_true c3
    have c3b1 : decide (0 < x0_1.size) = true := decide_eq_true (by omega)
    clear c3
    by_cases c4 : 0 < (x0_1.size : Int)
    ·rw [if_pos c4] at H
     have c4b0 : decide (0 < (x0_1.size : Int)) = true := decide_eq_true c4
     have c4b1 : decide (0 < x0_1.size) = true := decide_eq_true (by omega)
     clear c4
     by_cases c6 : (bt x0_1 0) = a1
     ·rw [if_pos c6] at H
      have c6b0 : ((bt x0_1 0) == a1) = true := beq_iff_eq.mpr c6
      have c6b1 : ((bt x0_1 0) != a1) = false := bne_eq_false_iff_eq.mpr c6
      clear c6
      by_cases c7 : 1 ≤ (x0_1.size : Int)
      ·rw [if_pos c7] at H
       have c7b0 := eq_true c7
       have c7b1 : decide (1 ≤ (x0_1.size : Int)) = true := decide_eq_true c7
       clear c7
       have H' := Aside0.mk H
       clear H
       have p5 : 0 ≤ (0 : Int) := (by omega)
       have q5 : 0 < x0_1.size := (by have : (0 : Int) < (x0_1.size : Int) := of_decide_eq_true (by first | (with_reducible assumption) | assumption); omega)
       have hx5 : ∀ h : 0 < x0_1.size, ((x0_1[0]'h).toNat : Int) = bt x0_1 0 := bt_at x0_1 0
       clear p5
       have qi5 : (0 < (x0_1.size : Int)) = True := eq_true (of_decide_eq_true (by first | (with_reducible assumption) | assumption))
       replace q5 := eq_true q5
       go_wp2
       go_roundg k1
       case measure => have := HK1.out; omega
       case rel => exact ⟨(x0_1.extract 1 x0_1.size), (by first | rfl | (simp; done) | (simp [*]; done) | (refine congrArg (Value.int _) ?_; omega) | (refine congrArg Value.bool ?_; generalize ByteArray.toList _ = z_; cases z_ <;> rfl)), H', ⟨by have := HK1.out; omega⟩, by repeat (first | exact Drawn0.refl _ | apply Drawn0.step)⟩
      ·rw [if_neg c7] at H
       exact absurd H (by simp)
     ·rw [if_neg c6] at H
      have c6b0 : ((bt x0_1 0) == a1) = false := beq_eq_false_iff_ne.mpr c6
      have c6b1 : ((bt x0_1 0) != a1) = true := bne_iff_ne.mpr c6
      obtain rfl := Option.some.inj H
      have p5 : 0 ≤ (0 : Int) := (by omega)
      have q5 : 0 < x0_1.size := (by have : (0 : Int) < (x0_1.size : Int) := of_decide_eq_true (by first | (with_reducible assumption) | assumption); omega)
      have hx5 : ∀ h : 0 < x0_1.size, ((x0_1[0]'h).toNat : Int) = bt x0_1 0 := bt_at x0_1 0
      clear p5
      have qi5 : (0 < (x0_1.size : Int)) = True := eq_true (of_decide_eq_true (by first | (with_reducible assumption) | assumption))
      replace q5 := eq_true q5
      go_wp2
      go_ret
      exact ⟨by first | rfl | (simp; done) | (simp [*]; done) | (refine congrArg (Value.int _) ?_; omega) | (refine congrArg Value.bool ?_; generalize ByteArray.toList _ = z_; cases z_ <;> rfl), by repeat (first | exact Drawn0.refl _ | apply Drawn0.step)⟩
    ·rw [if_neg c4] at H
     exact absurd H (by simp)
   ·rw [if_neg c3] at H
    have c3b0 : decide (0 < (x0_1.size : Int)) = false := decide_eq_false c3
    have c3b1 : decide (0 < x0_1.size) = false := decide_eq_false (by omega)
    clear c3
    obtain rfl := Option.some.inj H
    go_wp2
    go_ret
    exact ⟨by first | rfl | (simp; done) | (simp [*]; done) | (refine congrArg (Value.int _) ?_; omega) | (refine congrArg Value.bool ?_; generalize ByteArray.toList _ = z_; cases z_ <;> rfl), by repeat (first | exact Drawn0.refl _ | apply Drawn0.step)⟩

end Go.Proofs.YtlfpnohpcemkgaaDoor.PA
/- strings.TrimLeft of noughts, in the printed shape: the other ways of TrimLeft are not gone. -/
namespace Go.Proofs.YtlfpnohpcemkgaaDoor.H
open Go.RowKit Go.Proofs.YtlfpnohpcemkgaaDoorW.PrintWords Go.Proofs.YtlfpnohpcemkgaaDoorW.PrintLast Go.Proofs.YtlfpnohpcemkgaaDoor.PA

def strings_TrimLeft.f (k : Nat) (a0 a1 : ByteArray) : Option ByteArray := if a1 = ⟨#[48]⟩ then (if a0.toList = ([] : List UInt8) then some a0 else strings_trimLeftByte.f k a0 48) else none
theorem strings_TrimLeft.mono (a0 a1 : ByteArray) (k : Nat) : LeO (strings_TrimLeft.f k a0 a1) (strings_TrimLeft.f (k + 1) a0 a1) := by
  intro r h
  unfold strings_TrimLeft.f at h ⊢
  split at h
  · rename_i h1
    rw [if_pos h1]
    split at h
    · rename_i h2; rw [if_pos h2]; exact h
    · rename_i h2; rw [if_neg h2]; exact strings_trimLeftByte.mono a0 48 k r h
  · cases h
set_option maxHeartbeats 1000000 in
set_option maxRecDepth 100000 in
theorem strings_TrimLeft.calls (k : Nat) (a0 : ByteArray) (a1 : ByteArray) (r : ByteArray) (w : World) (h : strings_TrimLeft.f k a0 a1 = some r) :
    Calls Tryd.prog 47 #[.string a0, .string a1] w fun e w' => e = .returned (.string r) ∧ Drawn0 w w' := by
  unfold strings_TrimLeft.f at h
  by_cases h1 : a1 = ⟨#[48]⟩
  · rw [if_pos h1] at h
    subst h1
    by_cases h2 : a0.toList = ([] : List UInt8)
    · rw [if_pos h2] at h
      obtain rfl := Option.some.inj h
      have e1 : (a0.toList == ([] : List UInt8)) = true := by rw [h2]; rfl
      go_enter Tryd.func47, Tryd.ntmps47
      go_wp2
      go_ret
      exact ⟨rfl, Drawn0.refl _⟩
    · rw [if_neg h2] at h
      have e1 : (a0.toList == ([] : List UInt8)) = false := by simpa using h2
      go_enter Tryd.func47, Tryd.ntmps47
      go_wp2_with (go_at_call 57; refine (strings_trimLeftByte.calls k a0 48 r _ h).mono ?_; rintro e w' ⟨rfl, hd⟩)
      go_ret
      exact ⟨rfl, hd⟩
  · rw [if_neg h1] at h; cases h
end Go.Proofs.YtlfpnohpcemkgaaDoor.H
/- Written by a program of this session, wip/tools/patch_print.py, over the kit's print of the loaded functions. -/
namespace Go.Proofs.YtlfpnohpcemkgaaDoor.H
end Go.Proofs.YtlfpnohpcemkgaaDoor.H
namespace Go.Proofs.YtlfpnohpcemkgaaDoor.PA
open Go.RowKit Go.Proofs.YtlfpnohpcemkgaaDoorW.PrintWords Go.Proofs.YtlfpnohpcemkgaaDoorW.PrintLast Go.Proofs.YtlfpnohpcemkgaaDoorW.PrintMore Go.Proofs.YtlfpnohpcemkgaaDoor.H
attribute [local go_sem] max2_int min2_int max_two min_two max_three min_three max_four min_four   -- for this text's walks alone
set_option linter.unusedVariables false
set_option linter.unusedSimpArgs false

/-! ### nat_Text: function 20 -/
def nat_Text.l0 : Nat → List Int → ByteArray → Option (ByteArray)
 | 0, _, _ => none
 | k + 1, x0, x3 => if (x0.length : Int) > 0 then ((nat_small.f k x0 1000000000).bind fun bt251 => ((nat_nine.f bt251.2).bind fun t255 => (if t255.size + x3.size ≤ 9223372036854775807 then (nat_Text.l0 k bt251.1 (t255 ++ x3)) else (none)))) else ((strings_TrimLeft.f k x3 (⟨#[48]⟩ : ByteArray)).bind fun t256 => (if t256.toList = ([] : List UInt8) then (some (⟨#[48]⟩ : ByteArray)) else (some t256)))
def nat_Text.f (k : Nat) (l0 : List Int) : Option (ByteArray) := (nat_Norm.f l0).bind fun t248 => (nat_Text.l0 k t248 (⟨#[]⟩ : ByteArray))
theorem nat_Text.mono_l : ∀ k, (∀ y0 y1, LeO (nat_Text.l0 k y0 y1) (nat_Text.l0 (k + 1) y0 y1))
 | 0 => fun _ _ r h => by simp [nat_Text.l0] at h
 | k + 1 => by
  have ih0 := nat_Text.mono_l k
  ·intro y0 y1
   unfold nat_Text.l0
   repeat' first
   | (with_reducible exact ih0 _ _)
   | (with_reducible exact nat_small.mono _ _ _)
   | (with_reducible exact strings_TrimLeft.mono _ _ _)
   | (with_reducible exact LeO.refl _)
   | (with_reducible exact LeO.none _)
   | (with_reducible refine LeO.ite ?_ ?_)
   | (with_reducible refine LeO.bind ?_ (fun _ => ?_))
   | exact ih0 _ _
   | exact nat_small.mono _ _ _
   | exact strings_TrimLeft.mono _ _ _
   | exact LeO.none _
   | refine LeO.ite ?_ ?_
   | refine LeO.bind ?_ (fun _ => ?_)
theorem nat_Text.mono : ∀ a0 k, LeO (nat_Text.f k a0) (nat_Text.f (k + 1) a0) := by
 intro a0 k
 have ih0 := nat_Text.mono_l k
 unfold nat_Text.f
 repeat' first
   | (with_reducible exact ih0 _ _)
   | (with_reducible exact nat_small.mono _ _ _)
   | (with_reducible exact strings_TrimLeft.mono _ _ _)
   | (with_reducible exact LeO.refl _)
   | (with_reducible exact LeO.none _)
   | (with_reducible refine LeO.ite ?_ ?_)
   | (with_reducible refine LeO.bind ?_ (fun _ => ?_))
   | exact ih0 _ _
   | exact nat_small.mono _ _ _
   | exact strings_TrimLeft.mono _ _ _
   | exact LeO.none _
   | refine LeO.ite ?_ ?_
   | refine LeO.bind ?_ (fun _ => ?_)
set_option maxHeartbeats 8000000 in
set_option maxRecDepth 100000 in
theorem nat_Text.calls (k : Nat) (A0 : Option Addr) (c0 : Nat) (l0 : List Int) (r : ByteArray) (w : World) (hr0 : Kd.C (Kd.int .u32) w A0 l0.length l0) (hc0 : l0.length ≤ c0) (h : nat_Text.f k l0 = some r) :
  Calls Tryd.prog 20 #[.slice A0 l0.length c0] w fun e w' => e = .returned (.string r) ∧ Below w.heap.size w w' := by
 have HR0 := Aside0.mk hr0
 have HC0 := Aside0.mk hc0
 clear hr0 hc0
 have HB := Aside0.mk (Below.refl w.heap.size w)
 have H : ((nat_Norm.f l0).bind fun t248 => (nat_Text.l0 k t248 (⟨#[]⟩ : ByteArray))) = some r := h
 clear h
 replace H := Option.bind_eq_some_iff.mp H
 obtain ⟨t248, A20, H⟩ := H
 replace H : (nat_Text.l0 k t248 (⟨#[]⟩ : ByteArray)) = some r := H
 have A2 := Aside0.mk A20
 clear A20
 have H' := Aside0.mk H
 clear H
 go_enter Tryd.func20, Tryd.ntmps20
 go_wp2_with (first | ((with_reducible refine gate_callee (f := 22) rfl ?_); refine goesL_ (some 7) rfl rfl Tryd.func22 (by kernel_rfl) rfl #[.slice A0 l0.length c0] rfl (by (try simp only [List.map_toArray, List.map_cons, List.map_nil]); first | done | rfl | (simp only [List.length_drop, List.length_take]; rfl)) ?_; (with_reducible refine (nat_Norm.calls _ _ l0 t248 _ ?side1 ?side2 A2.out).mono ?_); (case side1 => repeat (first | exact HR0.out | (with_reducible refine Kd.C_alloc ?_ _) | (with_reducible refine Kd.C_drewN ?_ _) | (with_reducible refine Kd.C_drew ?_))); (case side2 => exact HC0.out); rintro e w3 ⟨v249, rfl, ho0, hb⟩; refine ⟨_, rfl, ?_⟩; have n0_ := Aside0.mk (Kd.R_lower ho0 (below_size (by repeat first | exact HB.out | apply below_alloc | apply pw_below_drewN | apply below_drew1))); have n1_ := Aside0.mk (below_step (by repeat first | exact HB.out | apply below_alloc | apply pw_below_drewN | apply below_drew1) hb); clear HB; have HO250 := n0_; have HB := n1_; clear n0_ n1_))
 go_loopg [0, 3] k (fun kq v0 v3 w' => ∃ (x0_1 : List Int) (x3_1 : ByteArray), v3 = .string x3_1 ∧ Aside0 (nat_Text.l0 kq x0_1 x3_1 = some r) ∧ Aside0 (kq ≤ k) ∧ Aside0 (Kd.R (Kd.int .u32) 43 w' w.heap.size (fun _ => True) v0 x0_1) ∧ Aside0 (Below w.heap.size w w'))
 case atStart => exact ⟨(t248), ((⟨#[]⟩ : ByteArray)), (by first | rfl | (simp; done) | (simp [*]; done) | (refine congrArg (Value.int _) ?_; omega) | (refine congrArg Value.bool ?_; generalize ByteArray.toList _ = z_; cases z_ <;> rfl)), H', ⟨Nat.le_refl _⟩, ⟨by (with_reducible repeat (first | apply Kd.R_alloc | apply Kd.R_drewN | apply Kd.R_drew)); exact HO250.out⟩, ⟨by repeat first | exact HB.out | apply below_alloc | apply pw_below_drewN | apply below_drew1⟩⟩
 case round =>
  clear H'
  try clear c2
  try clear p2
  obtain ⟨x0_1, x3_1, rfl, HA, HK1, HO_0, HB⟩ := hrel
  cases gk with
  | zero => exact absurd HA.out (by simp [nat_Text.l0])
  | succ k1 =>
   have H := HA.out
   clear HA
   simp only [nat_Text.l0] at H
   by_cases c4 : (x0_1.length : Int) > 0
   ·rw [if_pos c4] at H
    have c4b0 : decide (0 < (x0_1.length : Int)) = true := decide_eq_true c4
    have c4b1 : decide (0 < x0_1.length) = true := decide_eq_true (by omega)
    clear c4
    replace H := Option.bind_eq_some_iff.mp H
    obtain ⟨⟨t251, t252⟩, A50, H⟩ := H
    replace H : ((nat_nine.f t252).bind fun t255 => (if t255.size + x3_1.size ≤ 9223372036854775807 then (nat_Text.l0 k1 t251 (t255 ++ x3_1)) else (none))) = some r := H
    have A5 := Aside0.mk A50
    clear A50
    replace H := Option.bind_eq_some_iff.mp H
    obtain ⟨t255, A60, H⟩ := H
    replace H : (if t255.size + x3_1.size ≤ 9223372036854775807 then (nat_Text.l0 k1 t251 (t255 ++ x3_1)) else (none)) = some r := H
    have A6 := Aside0.mk A60
    clear A60
    by_cases c7 : t255.size + x3_1.size ≤ 9223372036854775807
    ·rw [if_pos c7] at H
     have c7b0 := eq_true c7
     have c7b1 : decide (t255.size + x3_1.size ≤ 9223372036854775807) = true := decide_eq_true c7
     try have c7b2 : (9223372036854775807 < t255.size + x3_1.size) = False := eq_false (Nat.not_lt.2 c7)
     have H' := Aside0.mk H
     clear H
     obtain ⟨Ao8, co8, eo8⟩ := Kd.R_slice HO_0.out
     subst eo8
     go_wp2_with (first | ((with_reducible refine gate_callee (f := 36) rfl ?_); refine goesL_ (some 13) rfl rfl Tryd.func36 (by kernel_rfl) rfl #[.slice Ao8 x0_1.length co8, .int .u64 1000000000] rfl (by (try simp only [List.map_toArray, List.map_cons, List.map_nil]); first | done | rfl | (simp only [List.length_drop, List.length_take]; rfl)) ?_; (with_reducible refine (nat_small.calls k1 _ _ x0_1 1000000000 t251 t252 _ ?side1 ?side2 A5.out).mono ?_); (case side1 => repeat (first | exact (Kd.R_reads' HO_0.out).2.2 | (with_reducible refine Kd.C_alloc ?_ _) | (with_reducible refine Kd.C_drewN ?_ _) | (with_reducible refine Kd.C_drew ?_))); (case side2 => exact (Kd.R_reads' HO_0.out).2.1); rintro e w9 ⟨v253, rfl, ho0, hb⟩; refine ⟨_, rfl, ?_⟩; have n0_ := Aside0.mk (Kd.R_elder' HO_0.out (Kd.R_base ho0) hb); have n1_ := Aside0.mk (Kd.R_lower (Kd.R_new' ho0 (Kd.R_lt HO_0.out)) (below_size (by repeat first | exact HB.out | apply below_alloc | apply pw_below_drewN | apply below_drew1))); have n2_ := Aside0.mk (below_step (by repeat first | exact HB.out | apply below_alloc | apply pw_below_drewN | apply below_drew1) hb); clear HO_0; clear HB; have HO_0 := n0_; have HO254 := n1_; have HB := n2_; clear n0_ n1_ n2_) | ((with_reducible refine gate_callee (f := 46) rfl ?_); refine goesL_ (some 17) rfl rfl Tryd.func46 (by kernel_rfl) rfl #[.int .u64 t252] rfl (by (try simp only [List.map_toArray, List.map_cons, List.map_nil]); first | done | rfl | (simp only [List.length_drop, List.length_take]; rfl)) ?_; (with_reducible refine (nat_nine.calls t252 t255 _ A6.out).mono ?_); rintro e w10 ⟨rfl, hb⟩; refine ⟨_, rfl, ?_⟩; have n0_ := Aside0.mk (Kd.R_below HO_0.out hb); have n1_ := Aside0.mk (Kd.R_below HO254.out hb); have n2_ := Aside0.mk (below_step (by repeat first | exact HB.out | apply below_alloc | apply pw_below_drewN | apply below_drew1) hb); clear HO_0; clear HO254; clear HB; have HO_0 := n0_; have HO254 := n1_; have HB := n2_; clear n0_ n1_ n2_; (try clear hb); (try clear hb2); (try clear hk); (try clear hi)))
     go_roundg k1
     case measure => have := HK1.out; omega
     case rel => exact ⟨(t251), (t255 ++ x3_1), (by first | rfl | (simp; done) | (simp [*]; done) | (refine congrArg (Value.int _) ?_; omega) | (refine congrArg Value.bool ?_; generalize ByteArray.toList _ = z_; cases z_ <;> rfl)), H', ⟨by have := HK1.out; omega⟩, ⟨by (with_reducible repeat (first | apply Kd.R_alloc | apply Kd.R_drewN | apply Kd.R_drew)); exact Kd.R_mono HO254.out (fun _ hk => trivial)⟩, ⟨by repeat first | exact HB.out | apply below_alloc | apply pw_below_drewN | apply below_drew1⟩⟩
    ·rw [if_neg c7] at H
     exact absurd H (by simp)
   ·rw [if_neg c4] at H
    have c4b0 : decide (0 < (x0_1.length : Int)) = false := decide_eq_false c4
    have c4b1 : decide (0 < x0_1.length) = false := decide_eq_false (by omega)
    clear c4
    replace H := Option.bind_eq_some_iff.mp H
    obtain ⟨t256, A110, H⟩ := H
    replace H : (if t256.toList = ([] : List UInt8) then (some (⟨#[48]⟩ : ByteArray)) else (some t256)) = some r := H
    have A11 := Aside0.mk A110
    clear A110
    by_cases c12 : t256.toList = ([] : List UInt8)
    ·rw [if_pos c12] at H
     have c12b0 : (t256.toList == ([] : List UInt8)) = true := beq_iff_eq.mpr c12
     have c12b1 : (t256.toList != ([] : List UInt8)) = false := bne_eq_false_iff_eq.mpr c12
     clear c12
     obtain rfl := Option.some.inj H
     obtain ⟨Ao13, co13, eo13⟩ := Kd.R_slice HO_0.out
     subst eo13
     go_wp2_with (first | ((with_reducible refine gate_callee (f := 47) rfl ?_); refine goesL_ (some 22) rfl rfl Tryd.func47 (by kernel_rfl) rfl #[.string x3_1, .string (⟨#[48]⟩ : ByteArray)] rfl (by (try simp only [List.map_toArray, List.map_cons, List.map_nil]); first | done | rfl | (simp only [List.length_drop, List.length_take]; rfl)) ?_; (with_reducible refine (strings_TrimLeft.calls k1 x3_1 (⟨#[48]⟩ : ByteArray) t256 _ A11.out).mono ?_); rintro e w' ⟨rfl, ⟨nd, rfl⟩⟩; refine ⟨_, rfl, ?_⟩))
     go_ret
     exact ⟨by first | rfl | (simp [errW_none, errW_some] <;> rfl) | (simp [*, errW_none, errW_some] <;> rfl), by repeat first | exact HB.out | apply below_alloc | apply pw_below_drewN | apply below_drew1⟩
    ·rw [if_neg c12] at H
     have c12b0 : (t256.toList == ([] : List UInt8)) = false := beq_eq_false_iff_ne.mpr c12
     have c12b1 : (t256.toList != ([] : List UInt8)) = true := bne_iff_ne.mpr c12
     obtain rfl := Option.some.inj H
     obtain ⟨Ao14, co14, eo14⟩ := Kd.R_slice HO_0.out
     subst eo14
     go_wp2_with (first | ((with_reducible refine gate_callee (f := 47) rfl ?_); refine goesL_ (some 22) rfl rfl Tryd.func47 (by kernel_rfl) rfl #[.string x3_1, .string (⟨#[48]⟩ : ByteArray)] rfl (by (try simp only [List.map_toArray, List.map_cons, List.map_nil]); first | done | rfl | (simp only [List.length_drop, List.length_take]; rfl)) ?_; (with_reducible refine (strings_TrimLeft.calls k1 x3_1 (⟨#[48]⟩ : ByteArray) t256 _ A11.out).mono ?_); rintro e w' ⟨rfl, ⟨nd, rfl⟩⟩; refine ⟨_, rfl, ?_⟩))
     go_ret
     exact ⟨by first | rfl | (simp [errW_none, errW_some] <;> rfl) | (simp [*, errW_none, errW_some] <;> rfl), by repeat first | exact HB.out | apply below_alloc | apply pw_below_drewN | apply below_drew1⟩

end Go.Proofs.YtlfpnohpcemkgaaDoor.PA
/- nat.Parse, in the printed shape: the number of a text's digits. -/
namespace Go.Proofs.YtlfpnohpcemkgaaDoor.H
open Go.RowKit Go.Proofs.YtlfpnohpcemkgaaDoorW.PrintWords Go.Proofs.YtlfpnohpcemkgaaDoorW.PrintLast Go.Proofs.YtlfpnohpcemkgaaDoor.PA

/-- The loop over the text's bytes. -/
def nat_Parse.l0 : Nat → ByteArray → List Int → Int → Option (List Int × Int)
  | 0, _, _, _ => none
  | k + 1, s, a, i => if i < (s.size : Int) then (if bt s i < 48 then some ([], 8) else if bt s i > 57 then some ([], 8) else (nat_Mul.f k a [10]).bind fun m => (nat_Add.f k m [bt s i - 48]).bind fun t => nat_Parse.l0 k s t (i + 1)) else (nat_Norm.f a).bind fun t => some (t, 0)
def nat_Parse.f (k : Nat) (s : ByteArray) : Option (List Int × Int) := if s.toList = ([] : List UInt8) then some ([], 8) else if (s.size : Int) > 2000 then some ([], 8) else if bt s 0 = 48 ∧ ¬ s.toList = ([48] : List UInt8) then some ([], 8) else nat_Parse.l0 k s [] 0
theorem nat_Parse.mono_l (s : ByteArray) : ∀ k a i, LeO (nat_Parse.l0 k s a i) (nat_Parse.l0 (k + 1) s a i)
  | 0, _, _, r, h => by simp [nat_Parse.l0] at h
  | k + 1, a, i, r, h => by
    unfold nat_Parse.l0 at h ⊢
    split at h
    · rename_i h1
      rw [if_pos h1]
      split at h
      · rename_i h2; rw [if_pos h2]; exact h
      · rename_i h2
        rw [if_neg h2]
        split at h
        · rename_i h3; rw [if_pos h3]; exact h
        · rename_i h3
          rw [if_neg h3]
          obtain ⟨m, hm, h⟩ := Option.bind_eq_some_iff.1 h
          obtain ⟨t, ht, h⟩ := Option.bind_eq_some_iff.1 h
          rw [nat_Mul.mono _ _ k m hm, Option.bind_some, nat_Add.mono _ _ k t ht, Option.bind_some]
          exact nat_Parse.mono_l s k t (i + 1) r h
    · rename_i h1; rw [if_neg h1]; exact h
theorem nat_Parse.mono (s : ByteArray) (k : Nat) : LeO (nat_Parse.f k s) (nat_Parse.f (k + 1) s) := by
  intro r h
  unfold nat_Parse.f at h ⊢
  split at h
  · rename_i h1; rw [if_pos h1]; exact h
  · rename_i h1
    rw [if_neg h1]
    split at h
    · rename_i h2; rw [if_pos h2]; exact h
    · rename_i h2
      rw [if_neg h2]
      split at h
      · rename_i h3; rw [if_pos h3]; exact h
      · rename_i h3; rw [if_neg h3]; exact nat_Parse.mono_l s k [] 0 r h
theorem below_frozen {b : Nat} {W0 W : World} (h : Below b W0 W) {p : Addr} (hp : b ≤ p.block) (n : Nat) : Below b W0 (W.freeze p n) := by
  by_cases hn : n = 0
  · simp only [World.freeze, hn, if_true]; exact h
  · refine ⟨?_, ?_, ?_, ?_, fun i hi => ?_⟩
    · simp only [World.freeze, hn, if_false]; exact h.os
    · simp only [World.freeze, hn, if_false]; exact h.tape
    · simp only [World.freeze, hn, if_false]; exact h.output
    · have := h.size
      simp only [World.freeze, hn, if_false, Array.size_modify]
      exact this
    · have := h.block i hi
      simp only [World.freeze, hn, if_false]
      rw [Array.getElem?_modify, if_neg (by omega)]
      exact this
theorem conv_run (W : World) (s : ByteArray) : (convert 9 54 (.string s)).run Tryd.prog W = .ok (.slice (some ⟨W.heap.size, 0, none⟩) s.size (grownCap W s.size 0 5)) (Lib.bytesWorld W 5 s) :=
  Lib.run_convert_string_bytes W 9 54 5 s Tryd.underlying9 Tryd.underlying54 Tryd.underlying5
theorem bytesWorld_below {W0 W : World} {b : Nat} (h : Below b W0 W) (hb : b ≤ W.heap.size) (e : TypeId) (s : ByteArray) : Below b W0 (Lib.bytesWorld W e s) := by
  unfold Lib.bytesWorld
  exact below_frozen ((below_drew1 h).alloc (by simpa using hb) _) (by simpa using hb) _
theorem bytesWorld_C (W : World) (s : ByteArray) (h : s.size ≤ 2000) : Kd.C (Kd.int .u8) (Lib.bytesWorld W 5 s) (some ⟨W.heap.size, 0, none⟩) (bytesOf s).length (bytesOf s) := by
  refine ⟨rfl, by rw [bytesOf_length]; omega, fun _ => ⟨_, rfl, fun j p hp => ⟨[.int .u8 p], rfl, rfl, fun i u hu => ?_⟩⟩⟩
  have hi0 : i = 0 := by
    rcases i with _ | i
    · rfl
    · simp at hu
  subst hi0
  have hu' : Value.int .u8 p = u := by simpa using hu
  subst hu'
  obtain ⟨hj, rfl⟩ := List.getElem?_eq_some_iff.1 hp
  have hjs : j < s.size := by rw [← bytesOf_length]; exact hj
  have e : (⟨W.heap.size, 0, none⟩ : Addr).add (j * (Kd.int .u8).sz + 0) = ⟨W.heap.size, j, none⟩ := by
    rw [add_plain]; simp [Kd.int, Kd.scalar]
  rw [e, Lib.bytesWorld_cell W _ s j hjs]
  simp [bytesOf, List.getD_eq_getElem?_getD, hjs]
set_option maxHeartbeats 4000000 in
set_option maxRecDepth 100000 in
theorem nat_Parse.calls (k : Nat) (a0 : ByteArray) (r1 : List Int) (r2 : Int) (w : World) (h : nat_Parse.f k a0 = some (r1, r2)) :
    Calls Tryd.prog 18 #[.string a0] w fun e w' => ∃ v0_ : Value, e = .returned (.tuple #[v0_, .int .i64 r2]) ∧ Kd.R (Kd.int .u32) 43 w' w.heap.size (fun _ => True) v0_ r1 ∧ Below w.heap.size w w' := by
  have HB := Aside0.mk (Below.refl w.heap.size w)
  unfold nat_Parse.f at h
  by_cases c3 : a0.toList = ([] : List UInt8)
  · rw [if_pos c3] at h
    obtain ⟨rfl, rfl⟩ := Prod.mk.inj (Option.some.inj h)
    have c3b0 : (a0.toList == ([] : List UInt8)) = true := beq_iff_eq.mpr c3
    clear c3
    go_enter Tryd.func18, Tryd.ntmps18
    go_wp2
    go_ret2
    exact ⟨_, rfl, Kd.R_nil _ _ _ _ _, HB.out⟩
  · rw [if_neg c3] at h
    have hs0 : a0.size ≠ 0 := by
      intro e
      apply c3
      rw [Lib.toList_data]
      exact List.eq_nil_of_length_eq_zero (by rw [data_length]; exact e)
    have c3b0 : (a0.toList == ([] : List UInt8)) = false := beq_eq_false_iff_ne.mpr c3
    clear c3
    by_cases c4 : (a0.size : Int) > 2000
    · rw [if_pos c4] at h
      obtain ⟨rfl, rfl⟩ := Prod.mk.inj (Option.some.inj h)
      have c4b0 : decide (2000 < (a0.size : Int)) = true := decide_eq_true c4
      have c4b1 : decide (2000 < a0.size) = true := decide_eq_true (by omega)
      clear c4 hs0
      go_enter Tryd.func18, Tryd.ntmps18
      go_wp2
      go_ret2
      exact ⟨_, rfl, Kd.R_nil _ _ _ _ _, HB.out⟩
    · rw [if_neg c4] at h
      have hsz : a0.size ≤ 2000 := by omega
      have c4b0 : decide (2000 < (a0.size : Int)) = false := decide_eq_false c4
      have c4b1 : decide (2000 < a0.size) = false := decide_eq_false (by omega)
      clear c4
      have q6 : (0 < a0.size) = True := eq_true (by omega)
      have qi6 : (0 < (a0.size : Int)) = True := eq_true (by omega)
      have hx6 : ∀ h : 0 < a0.size, ((a0[0]'h).toNat : Int) = bt a0 0 := bt_at a0 0
      clear hs0
      by_cases c5 : bt a0 0 = 48 ∧ ¬ a0.toList = ([48] : List UInt8)
      · rw [if_pos c5] at h
        obtain ⟨rfl, rfl⟩ := Prod.mk.inj (Option.some.inj h)
        have c5b0 : ((bt a0 0) == 48) = true := beq_iff_eq.mpr c5.1
        have c5b1 : (a0.toList != ([48] : List UInt8)) = true := bne_iff_ne.mpr c5.2
        have c5b2 : (a0.toList == ([48] : List UInt8)) = false := beq_eq_false_iff_ne.mpr c5.2
        clear c5 hsz
        go_enter Tryd.func18, Tryd.ntmps18
        go_wp2
        go_ret2
        exact ⟨_, rfl, Kd.R_nil _ _ _ _ _, HB.out⟩
      · rw [if_neg c5] at h
        have H' := Aside0.mk h
        have HSZ := Aside0.mk hsz
        clear h hsz
        have c5c : (bt a0 0 == 48) = false ∨ ((bt a0 0 == 48) = true ∧ (a0.toList == ([48] : List UInt8)) = true ∧ (a0.toList != ([48] : List UInt8)) = false) := by
          by_cases z : bt a0 0 = 48
          · right
            have z2 : a0.toList = ([48] : List UInt8) := by
              by_cases z2 : a0.toList = ([48] : List UInt8)
              · exact z2
              · exact absurd ⟨z, z2⟩ c5
            exact ⟨beq_iff_eq.mpr z, beq_iff_eq.mpr z2, bne_eq_false_iff_eq.mpr z2⟩
          · left; exact beq_eq_false_iff_ne.mpr z
        clear c5
        have hcv := conv_run w a0
        rcases c5c with c5b | ⟨c5b, c5d, c5e⟩
        all_goals
          go_enter Tryd.func18, Tryd.ntmps18
          go_wp2
          clear hcv
          have HC := Aside0.mk (bytesWorld_C w a0 HSZ.out)
          have HB1 := Aside0.mk (bytesWorld_below HB.out (Nat.le_refl _) 5 a0)
          generalize Lib.bytesWorld w 5 a0 = wB at HC HB1 ⊢
          generalize grownCap w a0.size 0 5 = cB
          generalize w.heap.size = gB at HC
          clear HB q6 qi6 hx6
          go_loopg [4, 26] k (fun kq v4 v26 w' => ∃ (a : List Int) (i : Nat), v26 = .int .i64 (i : Int) ∧ Aside0 (nat_Parse.l0 kq a0 a (i : Int) = some (r1, r2)) ∧ Aside0 (kq ≤ k) ∧ Aside0 (i ≤ a0.size) ∧ Aside0 (Kd.R (Kd.int .u32) 43 w' w.heap.size (fun _ => True) v4 a) ∧ Aside0 (Kd.C (Kd.int .u8) w' (some ⟨gB, 0, none⟩) (bytesOf a0).length (bytesOf a0)) ∧ Aside0 (Below w.heap.size w w'))
          case atStart => exact ⟨[], 0, rfl, H', ⟨Nat.le_refl _⟩, ⟨Nat.zero_le _⟩, ⟨Kd.R_nil _ _ _ _ _⟩, HC, HB1⟩
          case round =>
            clear H'
            obtain ⟨a, i, rfl, HA, HK, HI, HO, HC, HB⟩ := hrel
            cases gk with
            | zero => exact absurd HA.out (by simp [nat_Parse.l0])
            | succ k1 =>
              have H := HA.out
              clear HA
              simp only [nat_Parse.l0] at H
              by_cases c1 : (i : Int) < (a0.size : Int)
              · rw [if_pos c1] at H
                have hin : i < a0.size := by omega
                obtain ⟨ad, had, hcell⟩ := Kd.at_int HC.out (i : Int) (by omega) (by rw [bytesOf_length]; omega)
                injection had with had
                subst had
                rw [rd_bytesOf, Int.toNat_natCast, add_plain] at hcell
                have c1b : decide ((i : Int) < (a0.size : Int)) = true := decide_eq_true c1
                have c1n : decide (i < a0.size) = true := decide_eq_true hin
                have hbr := bt_range a0 (i : Int)
                have hkl : (i : Int) < (a0.size : Int) := c1
                have hk0 : (0 : Int) ≤ (i : Int) := by omega
                clear c1
                by_cases c2 : bt a0 (i : Int) < 48
                · rw [if_pos c2] at H
                  obtain ⟨rfl, rfl⟩ := Prod.mk.inj (Option.some.inj H)
                  have c2b : decide (bt a0 (i : Int) < 48) = true := decide_eq_true c2
                  clear c2 H hbr hin
                  go_wp2
                  go_ret2
                  exact ⟨_, rfl, Kd.R_nil _ _ _ _ _, HB.out⟩
                · rw [if_neg c2] at H
                  have c2b : decide (bt a0 (i : Int) < 48) = false := decide_eq_false c2
                  by_cases c3 : bt a0 (i : Int) > 57
                  · rw [if_pos c3] at H
                    obtain ⟨rfl, rfl⟩ := Prod.mk.inj (Option.some.inj H)
                    have c3b : decide (57 < bt a0 (i : Int)) = true := decide_eq_true c3
                    clear c2 c3 H hbr hin
                    go_wp2
                    go_ret2
                    exact ⟨_, rfl, Kd.R_nil _ _ _ _ _, HB.out⟩
                  · rw [if_neg c3] at H
                    have c3b : decide (57 < bt a0 (i : Int)) = false := decide_eq_false c3
                    obtain ⟨y1, hy1⟩ : ∃ y_ : List Int, y_ = [10] := ⟨_, rfl⟩
                    obtain ⟨y2, hy2⟩ : ∃ y_ : List Int, y_ = [bt a0 (i : Int) - 48] := ⟨_, rfl⟩
                    rw [← hy1, ← hy2] at H
                    obtain ⟨m, HM, H⟩ := Option.bind_eq_some_iff.1 H
                    obtain ⟨t, HT, H⟩ := Option.bind_eq_some_iff.1 H
                    have NY1 := Aside0.mk hy1
                    have NY2 := Aside0.mk hy2
                    have HM1 := Aside0.mk HM
                    have HT1 := Aside0.mk HT
                    have H1 := Aside0.mk H
                    have hlo : 48 ≤ bt a0 (i : Int) := by omega
                    have hhi : bt a0 (i : Int) ≤ 57 := by omega
                    have hi2 : (i : Int) < 2000 := by have := HSZ.out; omega
                    have HIN := Aside0.mk hin
                    clear hy1 hy2 HM HT H c2 c3 hbr hin
                    obtain ⟨A4, c4, rfl⟩ := Kd.R_slice HO.out
                    go_wp2_with (first | ((with_reducible refine gate_dst (N := 37) rfl ?_); refine Kd.R_lit (Kd.int .u32) _ 43 ?hg (N := 37) ?hd (xs := ([10] : List Int)) (inner := [.int .u32 (10)]) (ok := fun _ => True) (okp := fun _ => True) ?hr ?hp (fun _ hk => hk) trivial (Below.refl _ _) (Nat.le_refl _) (by simp) ?_; (case hd => rfl); (case hg => rfl); (case hr => first | (go_simp; done) | (go_simp; rfl)); (case hp => exact (Reps.one (show Kd.M (Kd.int .u32) _ _ _ (10) [.int .u32 (10)] from rfl) (Reps.none _ _))); intro v1 w1 ho1 hb1 hg_ hnew_; clear hg_ hnew_; rw [← NY1.out] at ho1; have n0 := Aside0.mk (Kd.R_mono (ok' := fun _ => True) (Kd.R_elder' HO.out (Kd.R_base ho1) hb1) (fun _ _ => trivial)); have n1 := Aside0.mk ho1; have n2 := Aside0.mk (Kd.C_below HC.out hb1); have n3 := Aside0.mk (below_step HB.out hb1); clear HO HC HB hb1 ho1; obtain ⟨A1, d1, rfl⟩ := Kd.R_slice n1.out) | ((with_reducible refine gate_callee (f := 25) rfl ?_); refine goesL_ (some 38) rfl rfl Tryd.func25 (by kernel_rfl) rfl #[.slice A4 a.length c4, .slice A1 y1.length d1] rfl (by (try simp only [List.map_toArray, List.map_cons, List.map_nil]); first | done | rfl) ?_; (with_reducible refine (nat_Mul.calls k1 _ _ a _ _ y1 m _ ?s1 ?s2 ?s3 ?s4 HM1.out).mono ?_); (case s1 => exact (Kd.R_reads' n0.out).2.2); (case s2 => exact (Kd.R_reads' n0.out).2.1); (case s3 => exact (Kd.R_reads' n1.out).2.2); (case s4 => exact (Kd.R_reads' n1.out).2.1); rintro e w2 ⟨v2, rfl, ho2, hb2⟩; refine ⟨_, rfl, ?_⟩; have m1 := Aside0.mk ho2; have m2 := Aside0.mk (Kd.C_below n2.out hb2); have m3 := Aside0.mk (below_step n3.out hb2); clear n0 n1 n2 n3 hb2 ho2; obtain ⟨A2, d2, rfl⟩ := Kd.R_slice m1.out) | ((with_reducible refine gate_dst (N := 42) rfl ?_); refine Kd.R_lit (Kd.int .u32) _ 43 ?hg (N := 42) ?hd (xs := ([bt a0 (i : Int) - 48] : List Int)) (inner := [.int .u32 (bt a0 (i : Int) - 48)]) (ok := fun _ => True) (okp := fun _ => True) ?hr ?hp (fun _ hk => hk) trivial (Below.refl _ _) (Nat.le_refl _) (by simp) ?_; (case hd => rfl); (case hg => rfl); (case hr => first | (go_simp; done) | (go_simp; rfl)); (case hp => exact (Reps.one (show Kd.M (Kd.int .u32) _ _ _ (bt a0 (i : Int) - 48) [.int .u32 (bt a0 (i : Int) - 48)] from rfl) (Reps.none _ _))); intro v3 w3 ho3 hb3 hg_ hnew_; clear hg_ hnew_; rw [← NY2.out] at ho3; have p0 := Aside0.mk (Kd.R_mono (ok' := fun _ => True) (Kd.R_elder' m1.out (Kd.R_base ho3) hb3) (fun _ _ => trivial)); have p1 := Aside0.mk ho3; have p2 := Aside0.mk (Kd.C_below m2.out hb3); have p3 := Aside0.mk (below_step m3.out hb3); clear m1 m2 m3 hb3 ho3; obtain ⟨A3, d3, rfl⟩ := Kd.R_slice p1.out) | ((with_reducible refine gate_callee (f := 24) rfl ?_); refine goesL_ (some 43) rfl rfl Tryd.func24 (by kernel_rfl) rfl #[.slice A2 m.length d2, .slice A3 y2.length d3] rfl (by (try simp only [List.map_toArray, List.map_cons, List.map_nil]); first | done | rfl) ?_; (with_reducible refine (nat_Add.calls k1 _ _ m _ _ y2 t _ ?s1 ?s2 ?s3 ?s4 HT1.out).mono ?_); (case s1 => exact (Kd.R_reads' p0.out).2.2); (case s2 => exact (Kd.R_reads' p0.out).2.1); (case s3 => exact (Kd.R_reads' p1.out).2.2); (case s4 => exact (Kd.R_reads' p1.out).2.1); rintro e w4 ⟨v4, rfl, ho4, hb4⟩; refine ⟨_, rfl, ?_⟩; have q1 := Aside0.mk (Kd.R_lower ho4 (below_size p3.out)); have q2 := Aside0.mk (Kd.C_below p2.out hb4); have q3 := Aside0.mk (below_step p3.out hb4); clear p0 p1 p2 p3 hb4 ho4))
                    go_roundg k1
                    case measure => have := HK.out; omega
                    case rel => exact ⟨t, i + 1, by go_num, H1, ⟨by have := HK.out; omega⟩, ⟨HIN.out⟩, q1, q2, q3⟩
              · rw [if_neg c1] at H
                obtain ⟨t, HT, H⟩ := Option.bind_eq_some_iff.1 H
                obtain ⟨rfl, rfl⟩ := Prod.mk.inj (Option.some.inj H)
                have HT1 := Aside0.mk HT
                have c1b : decide ((i : Int) < (a0.size : Int)) = false := decide_eq_false c1
                have c1n : decide (i < a0.size) = false := decide_eq_false (by omega)
                clear c1 H HT
                obtain ⟨A4, c4, rfl⟩ := Kd.R_slice HO.out
                go_wp2_with (first | ((with_reducible refine gate_callee (f := 22) rfl ?_); refine goesL_ (some 46) rfl rfl Tryd.func22 (by kernel_rfl) rfl #[.slice A4 a.length c4] rfl (by (try simp only [List.map_toArray, List.map_cons, List.map_nil]); first | done | rfl) ?_; (with_reducible refine (nat_Norm.calls _ _ a t _ ?s1 ?s2 HT1.out).mono ?_); (case s1 => exact (Kd.R_reads' HO.out).2.2); (case s2 => exact (Kd.R_reads' HO.out).2.1); rintro e w2 ⟨v2, rfl, ho2, hb2⟩; refine ⟨_, rfl, ?_⟩; have q1 := Aside0.mk (Kd.R_lower ho2 (below_size HB.out)); have q3 := Aside0.mk (below_step HB.out hb2); clear hb2 ho2))
                go_ret2
                exact ⟨_, rfl, q1.out, q3.out⟩
end Go.Proofs.YtlfpnohpcemkgaaDoor.H
/- gudgeonlaw01.awake, in the printed shape: the chapter's examples hold (written by wip/tools/straight.py). -/
namespace Go.Proofs.YtlfpnohpcemkgaaDoor.H
open Go.RowKit Go.Proofs.YtlfpnohpcemkgaaDoorW.PrintWords Go.Proofs.YtlfpnohpcemkgaaDoorW.PrintLast Go.Proofs.YtlfpnohpcemkgaaDoor.PA
def gudgeonlaw01_awake.f : Option Bool := some true
theorem row_of {v : Value} {w : World} {b : Nat} {ok : Nat → Prop} {l : List Int} (h : Kd.R (Kd.int .u32) 43 w b ok v l) : ∃ A c, v = .slice A l.length c ∧ Kd.C (Kd.int .u32) w A l.length l ∧ l.length ≤ c := by
  obtain ⟨A, c, rfl⟩ := Kd.R_slice h
  exact ⟨A, c, rfl, (Kd.R_reads' h).2.2, (Kd.R_reads' h).2.1⟩
set_option maxHeartbeats 4000000 in
set_option maxRecDepth 100000 in
theorem gudgeonlaw01_awake.calls (r : Bool) (w : World) (h : gudgeonlaw01_awake.f = some r) :
    Calls Tryd.prog 11 #[] w fun e w' => e = .returned (.bool r) ∧ Below w.heap.size w w' := by
  obtain rfl : true = r := Option.some.inj h
  clear h
  have HB := Aside0.mk (Below.refl w.heap.size w)
  obtain ⟨a1, ha1⟩ : ∃ y_ : List Int, y_ = [4294967295] := ⟨_, rfl⟩
  obtain ⟨a2, ha2⟩ : ∃ y_ : List Int, y_ = [1] := ⟨_, rfl⟩
  obtain ⟨s, hs⟩ : ∃ y_ : List Int, y_ = [0, 1] := ⟨_, rfl⟩
  obtain ⟨b1, hb1⟩ : ∃ y_ : List Int, y_ = [100] := ⟨_, rfl⟩
  obtain ⟨b2, hb2⟩ : ∃ y_ : List Int, y_ = [7] := ⟨_, rfl⟩
  obtain ⟨q, hq⟩ : ∃ y_ : List Int, y_ = [14] := ⟨_, rfl⟩
  obtain ⟨r, hr⟩ : ∃ y_ : List Int, y_ = [2] := ⟨_, rfl⟩
  obtain ⟨z, hz⟩ : ∃ y_ : List Int, y_ = [] := ⟨_, rfl⟩
  obtain ⟨d1, hd1⟩ : ∃ y_ : List Int, y_ = [12] := ⟨_, rfl⟩
  obtain ⟨d2, hd2⟩ : ∃ y_ : List Int, y_ = [18] := ⟨_, rfl⟩
  obtain ⟨g, hg⟩ : ∃ y_ : List Int, y_ = [6] := ⟨_, rfl⟩
  obtain ⟨e1, he1⟩ : ∃ y_ : List Int, y_ = [0, 1] := ⟨_, rfl⟩
  obtain ⟨e2, he2⟩ : ∃ y_ : List Int, y_ = [14] := ⟨_, rfl⟩
  obtain ⟨e3, he3⟩ : ∃ y_ : List Int, y_ = [2] := ⟨_, rfl⟩
  obtain ⟨e4, he4⟩ : ∃ y_ : List Int, y_ = [6] := ⟨_, rfl⟩
  obtain ⟨f1, hf1⟩ : ∃ y_ : List Int, y_ = [0, 1] := ⟨_, rfl⟩
  have E1 : Aside0 (nat_Add.f 40 a1 a2 = some s) := ⟨by rw [ha1, ha2, hs]; kernel_rfl⟩
  have E2 : Aside0 (nat_DivMod.f 40 b1 b2 = some (q, r, 0)) := ⟨by rw [hb1, hb2, hq, hr]; kernel_rfl⟩
  have E3 : Aside0 (nat_Parse.f 40 (⟨#[48, 48, 55]⟩ : ByteArray) = some (z, 8)) := ⟨by rw [hz]; kernel_rfl⟩
  have E4 : Aside0 (nat_Gcd.f 40 d1 d2 = some g) := ⟨by rw [hd1, hd2, hg]; kernel_rfl⟩
  have E5 : Aside0 (gudgeonref01_Same.f 40 s e1 = some true) := ⟨by rw [hs, he1]; kernel_rfl⟩
  have E6 : Aside0 (gudgeonref01_Same.f 40 q e2 = some true) := ⟨by rw [hq, he2]; kernel_rfl⟩
  have E7 : Aside0 (gudgeonref01_Same.f 40 r e3 = some true) := ⟨by rw [hr, he3]; kernel_rfl⟩
  have E8 : Aside0 (gudgeonref01_Same.f 40 g e4 = some true) := ⟨by rw [hg, he4]; kernel_rfl⟩
  have E9 : Aside0 (nat_Text.f 40 f1 = some (⟨#[52, 50, 57, 52, 57, 54, 55, 50, 57, 54]⟩ : ByteArray)) := ⟨by rw [hf1]; kernel_rfl⟩
  have HY := Aside0.mk (show a1 = [4294967295] ∧ a2 = [1] ∧ b1 = [100] ∧ b2 = [7] ∧ d1 = [12] ∧ d2 = [18] ∧ e1 = [0, 1] ∧ e2 = [14] ∧ e3 = [2] ∧ e4 = [6] ∧ f1 = [0, 1] from ⟨ha1, ha2, hb1, hb2, hd1, hd2, he1, he2, he3, he4, hf1⟩)
  clear ha1 ha2 hs hb1 hb2 hq hr hz hd1 hd2 hg he1 he2 he3 he4 hf1
  go_enter Tryd.func11, Tryd.ntmps11
  go_wp2_with (first
    | ((with_reducible refine gate_dst (N := 12) rfl ?_); (try (refine gate_guard (by rfl) ?_; dsimp only)); refine Kd.R_lit (Kd.int .u32) _ 43 ?hg (N := 12) ?hd (xs := ([4294967295] : List Int)) (inner := [.int .u32 4294967295]) (ok := fun _ => True) (okp := fun _ => True) ?hr ?hp (fun _ hk => hk) trivial (Below.refl _ _) (Nat.le_refl _) (by simp) ?_; (case hd => rfl); (case hg => rfl); (case hr => first | (go_simp; done) | (go_simp; rfl)); (case hp => exact (Reps.one (show Kd.M (Kd.int .u32) _ _ _ 4294967295 [.int .u32 4294967295] from rfl) (Reps.none _ _))); intro v w1 ho hb hg_ hnew_; clear hg_ hnew_; rw [← HY.out.1] at ho; obtain ⟨Aa1, ca1, rfl, hc_, hl_⟩ := row_of ho; have Ca1 := Aside0.mk hc_; have La1 := Aside0.mk hl_; clear hc_ hl_ ho; have n_ := Aside0.mk (below_step HB.out hb); clear HB; have HB := n_; clear n_ hb)
    | ((with_reducible refine gate_dst (N := 13) rfl ?_); (try (refine gate_guard (by rfl) ?_; dsimp only)); refine Kd.R_lit (Kd.int .u32) _ 43 ?hg (N := 13) ?hd (xs := ([1] : List Int)) (inner := [.int .u32 1]) (ok := fun _ => True) (okp := fun _ => True) ?hr ?hp (fun _ hk => hk) trivial (Below.refl _ _) (Nat.le_refl _) (by simp) ?_; (case hd => rfl); (case hg => rfl); (case hr => first | (go_simp; done) | (go_simp; rfl)); (case hp => exact (Reps.one (show Kd.M (Kd.int .u32) _ _ _ 1 [.int .u32 1] from rfl) (Reps.none _ _))); intro v w2 ho hb hg_ hnew_; clear hg_ hnew_; rw [← HY.out.2.1] at ho; obtain ⟨Aa2, ca2, rfl, hc_, hl_⟩ := row_of ho; have Ca2 := Aside0.mk hc_; have La2 := Aside0.mk hl_; clear hc_ hl_ ho; have n_a1 := Aside0.mk (Kd.C_below Ca1.out hb); clear Ca1; have Ca1 := n_a1; clear n_a1; have n_ := Aside0.mk (below_step HB.out hb); clear HB; have HB := n_; clear n_ hb)
    | (go_at_call 24; (with_reducible refine (nat_Add.calls 40 _ _ a1 _ _ a2 s _ ?s0 ?t0 ?s1 ?t1 E1.out).mono ?_); (case s0 => exact Ca1.out); (case t0 => exact La1.out); (case s1 => exact Ca2.out); (case t1 => exact La2.out); rintro e w3 ⟨v, rfl, ho, hb⟩; obtain ⟨As, cs, rfl, hc_, hl_⟩ := row_of ho; have Cs := Aside0.mk hc_; have Ls := Aside0.mk hl_; clear hc_ hl_ ho; have n_ := Aside0.mk (below_step HB.out hb); clear HB; have HB := n_; clear n_ hb)
    | ((with_reducible refine gate_dst (N := 16) rfl ?_); (try (refine gate_guard (by rfl) ?_; dsimp only)); refine Kd.R_lit (Kd.int .u32) _ 43 ?hg (N := 16) ?hd (xs := ([100] : List Int)) (inner := [.int .u32 100]) (ok := fun _ => True) (okp := fun _ => True) ?hr ?hp (fun _ hk => hk) trivial (Below.refl _ _) (Nat.le_refl _) (by simp) ?_; (case hd => rfl); (case hg => rfl); (case hr => first | (go_simp; done) | (go_simp; rfl)); (case hp => exact (Reps.one (show Kd.M (Kd.int .u32) _ _ _ 100 [.int .u32 100] from rfl) (Reps.none _ _))); intro v w4 ho hb hg_ hnew_; clear hg_ hnew_; rw [← HY.out.2.2.1] at ho; obtain ⟨Ab1, cb1, rfl, hc_, hl_⟩ := row_of ho; have Cb1 := Aside0.mk hc_; have Lb1 := Aside0.mk hl_; clear hc_ hl_ ho; have n_s := Aside0.mk (Kd.C_below Cs.out hb); clear Cs; have Cs := n_s; clear n_s; have n_ := Aside0.mk (below_step HB.out hb); clear HB; have HB := n_; clear n_ hb)
    | ((with_reducible refine gate_dst (N := 17) rfl ?_); (try (refine gate_guard (by rfl) ?_; dsimp only)); refine Kd.R_lit (Kd.int .u32) _ 43 ?hg (N := 17) ?hd (xs := ([7] : List Int)) (inner := [.int .u32 7]) (ok := fun _ => True) (okp := fun _ => True) ?hr ?hp (fun _ hk => hk) trivial (Below.refl _ _) (Nat.le_refl _) (by simp) ?_; (case hd => rfl); (case hg => rfl); (case hr => first | (go_simp; done) | (go_simp; rfl)); (case hp => exact (Reps.one (show Kd.M (Kd.int .u32) _ _ _ 7 [.int .u32 7] from rfl) (Reps.none _ _))); intro v w5 ho hb hg_ hnew_; clear hg_ hnew_; rw [← HY.out.2.2.2.1] at ho; obtain ⟨Ab2, cb2, rfl, hc_, hl_⟩ := row_of ho; have Cb2 := Aside0.mk hc_; have Lb2 := Aside0.mk hl_; clear hc_ hl_ ho; have n_s := Aside0.mk (Kd.C_below Cs.out hb); clear Cs; have Cs := n_s; clear n_s; have n_b1 := Aside0.mk (Kd.C_below Cb1.out hb); clear Cb1; have Cb1 := n_b1; clear n_b1; have n_ := Aside0.mk (below_step HB.out hb); clear HB; have HB := n_; clear n_ hb)
    | (go_at_call 13; (with_reducible refine (nat_DivMod.calls 40 _ _ b1 _ _ b2 q r 0 _ ?s0 ?t0 ?s1 ?t1 E2.out).mono ?_); (case s0 => exact Cb1.out); (case t0 => exact Lb1.out); (case s1 => exact Cb2.out); (case t1 => exact Lb2.out); rintro e w6 ⟨v, v', rfl, ho, ho', hb⟩; obtain ⟨Aq, cq, rfl, hc_, hl_⟩ := row_of ho; have Cq := Aside0.mk hc_; have Lq := Aside0.mk hl_; clear hc_ hl_ ho; obtain ⟨Ar, cr, rfl, hc_, hl_⟩ := row_of ho'; have Cr := Aside0.mk hc_; have Lr := Aside0.mk hl_; clear hc_ hl_ ho'; have n_s := Aside0.mk (Kd.C_below Cs.out hb); clear Cs; have Cs := n_s; clear n_s; have n_ := Aside0.mk (below_step HB.out hb); clear HB; have HB := n_; clear n_ hb)
    | (go_at_call 18; (with_reducible refine (nat_Parse.calls 40 (⟨#[48, 48, 55]⟩ : ByteArray) z 8 _ E3.out).mono ?_); rintro e w7 ⟨v, rfl, ho, hb⟩; obtain ⟨Az, cz, rfl, hc_, hl_⟩ := row_of ho; have Cz := Aside0.mk hc_; have Lz := Aside0.mk hl_; clear hc_ hl_ ho; have n_s := Aside0.mk (Kd.C_below Cs.out hb); clear Cs; have Cs := n_s; clear n_s; have n_q := Aside0.mk (Kd.C_below Cq.out hb); clear Cq; have Cq := n_q; clear n_q; have n_r := Aside0.mk (Kd.C_below Cr.out hb); clear Cr; have Cr := n_r; clear n_r; have n_ := Aside0.mk (below_step HB.out hb); clear HB; have HB := n_; clear n_ hb)
    | ((with_reducible refine gate_dst (N := 26) rfl ?_); (try (refine gate_guard (by rfl) ?_; dsimp only)); refine Kd.R_lit (Kd.int .u32) _ 43 ?hg (N := 26) ?hd (xs := ([12] : List Int)) (inner := [.int .u32 12]) (ok := fun _ => True) (okp := fun _ => True) ?hr ?hp (fun _ hk => hk) trivial (Below.refl _ _) (Nat.le_refl _) (by simp) ?_; (case hd => rfl); (case hg => rfl); (case hr => first | (go_simp; done) | (go_simp; rfl)); (case hp => exact (Reps.one (show Kd.M (Kd.int .u32) _ _ _ 12 [.int .u32 12] from rfl) (Reps.none _ _))); intro v w8 ho hb hg_ hnew_; clear hg_ hnew_; rw [← HY.out.2.2.2.2.1] at ho; obtain ⟨Ad1, cd1, rfl, hc_, hl_⟩ := row_of ho; have Cd1 := Aside0.mk hc_; have Ld1 := Aside0.mk hl_; clear hc_ hl_ ho; have n_s := Aside0.mk (Kd.C_below Cs.out hb); clear Cs; have Cs := n_s; clear n_s; have n_q := Aside0.mk (Kd.C_below Cq.out hb); clear Cq; have Cq := n_q; clear n_q; have n_r := Aside0.mk (Kd.C_below Cr.out hb); clear Cr; have Cr := n_r; clear n_r; have n_z := Aside0.mk (Kd.C_below Cz.out hb); clear Cz; have Cz := n_z; clear n_z; have n_ := Aside0.mk (below_step HB.out hb); clear HB; have HB := n_; clear n_ hb)
    | ((with_reducible refine gate_dst (N := 27) rfl ?_); (try (refine gate_guard (by rfl) ?_; dsimp only)); refine Kd.R_lit (Kd.int .u32) _ 43 ?hg (N := 27) ?hd (xs := ([18] : List Int)) (inner := [.int .u32 18]) (ok := fun _ => True) (okp := fun _ => True) ?hr ?hp (fun _ hk => hk) trivial (Below.refl _ _) (Nat.le_refl _) (by simp) ?_; (case hd => rfl); (case hg => rfl); (case hr => first | (go_simp; done) | (go_simp; rfl)); (case hp => exact (Reps.one (show Kd.M (Kd.int .u32) _ _ _ 18 [.int .u32 18] from rfl) (Reps.none _ _))); intro v w9 ho hb hg_ hnew_; clear hg_ hnew_; rw [← HY.out.2.2.2.2.2.1] at ho; obtain ⟨Ad2, cd2, rfl, hc_, hl_⟩ := row_of ho; have Cd2 := Aside0.mk hc_; have Ld2 := Aside0.mk hl_; clear hc_ hl_ ho; have n_s := Aside0.mk (Kd.C_below Cs.out hb); clear Cs; have Cs := n_s; clear n_s; have n_q := Aside0.mk (Kd.C_below Cq.out hb); clear Cq; have Cq := n_q; clear n_q; have n_r := Aside0.mk (Kd.C_below Cr.out hb); clear Cr; have Cr := n_r; clear n_r; have n_z := Aside0.mk (Kd.C_below Cz.out hb); clear Cz; have Cz := n_z; clear n_z; have n_d1 := Aside0.mk (Kd.C_below Cd1.out hb); clear Cd1; have Cd1 := n_d1; clear n_d1; have n_ := Aside0.mk (below_step HB.out hb); clear HB; have HB := n_; clear n_ hb)
    | (go_at_call 16; (with_reducible refine (nat_Gcd.calls 40 _ _ d1 _ _ d2 g _ ?s0 ?t0 ?s1 ?t1 E4.out).mono ?_); (case s0 => exact Cd1.out); (case t0 => exact Ld1.out); (case s1 => exact Cd2.out); (case t1 => exact Ld2.out); rintro e w10 ⟨v, rfl, ho, hb⟩; obtain ⟨Ag, cg, rfl, hc_, hl_⟩ := row_of ho; have Cg := Aside0.mk hc_; have Lg := Aside0.mk hl_; clear hc_ hl_ ho; have n_s := Aside0.mk (Kd.C_below Cs.out hb); clear Cs; have Cs := n_s; clear n_s; have n_q := Aside0.mk (Kd.C_below Cq.out hb); clear Cq; have Cq := n_q; clear n_q; have n_r := Aside0.mk (Kd.C_below Cr.out hb); clear Cr; have Cr := n_r; clear n_r; have n_ := Aside0.mk (below_step HB.out hb); clear HB; have HB := n_; clear n_ hb)
    | ((with_reducible refine gate_dst (N := 30) rfl ?_); (try (refine gate_guard (by rfl) ?_; dsimp only)); refine Kd.R_lit (Kd.int .u32) _ 43 ?hg (N := 30) ?hd (xs := ([0, 1] : List Int)) (inner := [.int .u32 0, .int .u32 1]) (ok := fun _ => True) (okp := fun _ => True) ?hr ?hp (fun _ hk => hk) trivial (Below.refl _ _) (Nat.le_refl _) (by simp) ?_; (case hd => rfl); (case hg => rfl); (case hr => first | (go_simp; done) | (go_simp; rfl)); (case hp => exact (Reps.one (show Kd.M (Kd.int .u32) _ _ _ 0 [.int .u32 0] from rfl) (Reps.one (show Kd.M (Kd.int .u32) _ _ _ 1 [.int .u32 1] from rfl) (Reps.none _ _)))); intro v w11 ho hb hg_ hnew_; clear hg_ hnew_; rw [← HY.out.2.2.2.2.2.2.1] at ho; obtain ⟨Ae1, ce1, rfl, hc_, hl_⟩ := row_of ho; have Ce1 := Aside0.mk hc_; have Le1 := Aside0.mk hl_; clear hc_ hl_ ho; have n_s := Aside0.mk (Kd.C_below Cs.out hb); clear Cs; have Cs := n_s; clear n_s; have n_q := Aside0.mk (Kd.C_below Cq.out hb); clear Cq; have Cq := n_q; clear n_q; have n_r := Aside0.mk (Kd.C_below Cr.out hb); clear Cr; have Cr := n_r; clear n_r; have n_g := Aside0.mk (Kd.C_below Cg.out hb); clear Cg; have Cg := n_g; clear n_g; have n_ := Aside0.mk (below_step HB.out hb); clear HB; have HB := n_; clear n_ hb)
    | (go_at_call 15; (with_reducible refine (gudgeonref01_Same.calls 40 _ _ s _ _ e1 true _ ?s0 ?t0 ?s1 ?t1 E5.out).mono ?_); (case s0 => exact Cs.out); (case t0 => exact Ls.out); (case s1 => exact Ce1.out); (case t1 => exact Le1.out); rintro e w12 ⟨rfl, ⟨nd, rfl⟩⟩; have n_q := Aside0.mk (Kd.C_drewN Cq.out nd); clear Cq; have Cq := n_q; clear n_q; have n_r := Aside0.mk (Kd.C_drewN Cr.out nd); clear Cr; have Cr := n_r; clear n_r; have n_g := Aside0.mk (Kd.C_drewN Cg.out nd); clear Cg; have Cg := n_g; clear n_g; have n_ := Aside0.mk (pw_below_drewN HB.out nd); clear HB; have HB := n_; clear n_)
    | ((with_reducible refine gate_dst (N := 33) rfl ?_); (try (refine gate_guard (by rfl) ?_; dsimp only)); refine Kd.R_lit (Kd.int .u32) _ 43 ?hg (N := 33) ?hd (xs := ([14] : List Int)) (inner := [.int .u32 14]) (ok := fun _ => True) (okp := fun _ => True) ?hr ?hp (fun _ hk => hk) trivial (Below.refl _ _) (Nat.le_refl _) (by simp) ?_; (case hd => rfl); (case hg => rfl); (case hr => first | (go_simp; done) | (go_simp; rfl)); (case hp => exact (Reps.one (show Kd.M (Kd.int .u32) _ _ _ 14 [.int .u32 14] from rfl) (Reps.none _ _))); intro v w13 ho hb hg_ hnew_; clear hg_ hnew_; rw [← HY.out.2.2.2.2.2.2.2.1] at ho; obtain ⟨Ae2, ce2, rfl, hc_, hl_⟩ := row_of ho; have Ce2 := Aside0.mk hc_; have Le2 := Aside0.mk hl_; clear hc_ hl_ ho; have n_q := Aside0.mk (Kd.C_below Cq.out hb); clear Cq; have Cq := n_q; clear n_q; have n_r := Aside0.mk (Kd.C_below Cr.out hb); clear Cr; have Cr := n_r; clear n_r; have n_g := Aside0.mk (Kd.C_below Cg.out hb); clear Cg; have Cg := n_g; clear n_g; have n_ := Aside0.mk (below_step HB.out hb); clear HB; have HB := n_; clear n_ hb)
    | (go_at_call 15; (with_reducible refine (gudgeonref01_Same.calls 40 _ _ q _ _ e2 true _ ?s0 ?t0 ?s1 ?t1 E6.out).mono ?_); (case s0 => exact Cq.out); (case t0 => exact Lq.out); (case s1 => exact Ce2.out); (case t1 => exact Le2.out); rintro e w14 ⟨rfl, ⟨nd, rfl⟩⟩; have n_r := Aside0.mk (Kd.C_drewN Cr.out nd); clear Cr; have Cr := n_r; clear n_r; have n_g := Aside0.mk (Kd.C_drewN Cg.out nd); clear Cg; have Cg := n_g; clear n_g; have n_ := Aside0.mk (pw_below_drewN HB.out nd); clear HB; have HB := n_; clear n_)
    | ((with_reducible refine gate_dst (N := 36) rfl ?_); (try (refine gate_guard (by rfl) ?_; dsimp only)); refine Kd.R_lit (Kd.int .u32) _ 43 ?hg (N := 36) ?hd (xs := ([2] : List Int)) (inner := [.int .u32 2]) (ok := fun _ => True) (okp := fun _ => True) ?hr ?hp (fun _ hk => hk) trivial (Below.refl _ _) (Nat.le_refl _) (by simp) ?_; (case hd => rfl); (case hg => rfl); (case hr => first | (go_simp; done) | (go_simp; rfl)); (case hp => exact (Reps.one (show Kd.M (Kd.int .u32) _ _ _ 2 [.int .u32 2] from rfl) (Reps.none _ _))); intro v w15 ho hb hg_ hnew_; clear hg_ hnew_; rw [← HY.out.2.2.2.2.2.2.2.2.1] at ho; obtain ⟨Ae3, ce3, rfl, hc_, hl_⟩ := row_of ho; have Ce3 := Aside0.mk hc_; have Le3 := Aside0.mk hl_; clear hc_ hl_ ho; have n_r := Aside0.mk (Kd.C_below Cr.out hb); clear Cr; have Cr := n_r; clear n_r; have n_g := Aside0.mk (Kd.C_below Cg.out hb); clear Cg; have Cg := n_g; clear n_g; have n_ := Aside0.mk (below_step HB.out hb); clear HB; have HB := n_; clear n_ hb)
    | (go_at_call 15; (with_reducible refine (gudgeonref01_Same.calls 40 _ _ r _ _ e3 true _ ?s0 ?t0 ?s1 ?t1 E7.out).mono ?_); (case s0 => exact Cr.out); (case t0 => exact Lr.out); (case s1 => exact Ce3.out); (case t1 => exact Le3.out); rintro e w16 ⟨rfl, ⟨nd, rfl⟩⟩; have n_g := Aside0.mk (Kd.C_drewN Cg.out nd); clear Cg; have Cg := n_g; clear n_g; have n_ := Aside0.mk (pw_below_drewN HB.out nd); clear HB; have HB := n_; clear n_)
    | ((with_reducible refine gate_dst (N := 39) rfl ?_); (try (refine gate_guard (by rfl) ?_; dsimp only)); refine Kd.R_lit (Kd.int .u32) _ 43 ?hg (N := 39) ?hd (xs := ([6] : List Int)) (inner := [.int .u32 6]) (ok := fun _ => True) (okp := fun _ => True) ?hr ?hp (fun _ hk => hk) trivial (Below.refl _ _) (Nat.le_refl _) (by simp) ?_; (case hd => rfl); (case hg => rfl); (case hr => first | (go_simp; done) | (go_simp; rfl)); (case hp => exact (Reps.one (show Kd.M (Kd.int .u32) _ _ _ 6 [.int .u32 6] from rfl) (Reps.none _ _))); intro v w17 ho hb hg_ hnew_; clear hg_ hnew_; rw [← HY.out.2.2.2.2.2.2.2.2.2.1] at ho; obtain ⟨Ae4, ce4, rfl, hc_, hl_⟩ := row_of ho; have Ce4 := Aside0.mk hc_; have Le4 := Aside0.mk hl_; clear hc_ hl_ ho; have n_g := Aside0.mk (Kd.C_below Cg.out hb); clear Cg; have Cg := n_g; clear n_g; have n_ := Aside0.mk (below_step HB.out hb); clear HB; have HB := n_; clear n_ hb)
    | (go_at_call 15; (with_reducible refine (gudgeonref01_Same.calls 40 _ _ g _ _ e4 true _ ?s0 ?t0 ?s1 ?t1 E8.out).mono ?_); (case s0 => exact Cg.out); (case t0 => exact Lg.out); (case s1 => exact Ce4.out); (case t1 => exact Le4.out); rintro e w18 ⟨rfl, ⟨nd, rfl⟩⟩; have n_ := Aside0.mk (pw_below_drewN HB.out nd); clear HB; have HB := n_; clear n_)
    | ((with_reducible refine gate_dst (N := 60) rfl ?_); (try (refine gate_guard (by rfl) ?_; dsimp only)); refine Kd.R_lit (Kd.int .u32) _ 43 ?hg (N := 60) ?hd (xs := ([0, 1] : List Int)) (inner := [.int .u32 0, .int .u32 1]) (ok := fun _ => True) (okp := fun _ => True) ?hr ?hp (fun _ hk => hk) trivial (Below.refl _ _) (Nat.le_refl _) (by simp) ?_; (case hd => rfl); (case hg => rfl); (case hr => first | (go_simp; done) | (go_simp; rfl)); (case hp => exact (Reps.one (show Kd.M (Kd.int .u32) _ _ _ 0 [.int .u32 0] from rfl) (Reps.one (show Kd.M (Kd.int .u32) _ _ _ 1 [.int .u32 1] from rfl) (Reps.none _ _)))); intro v w19 ho hb hg_ hnew_; clear hg_ hnew_; rw [← HY.out.2.2.2.2.2.2.2.2.2.2] at ho; obtain ⟨Af1, cf1, rfl, hc_, hl_⟩ := row_of ho; have Cf1 := Aside0.mk hc_; have Lf1 := Aside0.mk hl_; clear hc_ hl_ ho; have n_ := Aside0.mk (below_step HB.out hb); clear HB; have HB := n_; clear n_ hb)
    | (go_at_call 20; (with_reducible refine (nat_Text.calls 40 _ _ f1 (⟨#[52, 50, 57, 52, 57, 54, 55, 50, 57, 54]⟩ : ByteArray) _ ?s0 ?t0 E9.out).mono ?_); (case s0 => exact Cf1.out); (case t0 => exact Lf1.out); rintro e w20 ⟨rfl, hb⟩; have n_ := Aside0.mk (below_step HB.out hb); clear HB; have HB := n_; clear n_ hb))
  go_ret
  exact ⟨rfl, HB.out⟩
end Go.Proofs.YtlfpnohpcemkgaaDoor.H
/- Written by a program of this session, wip/tools/patch_print.py, over the kit's print of the loaded functions. -/
namespace Go.Proofs.YtlfpnohpcemkgaaDoor.H
end Go.Proofs.YtlfpnohpcemkgaaDoor.H
namespace Go.Proofs.YtlfpnohpcemkgaaDoor.PA
open Go.RowKit Go.Proofs.YtlfpnohpcemkgaaDoorW.PrintWords Go.Proofs.YtlfpnohpcemkgaaDoorW.PrintLast Go.Proofs.YtlfpnohpcemkgaaDoorW.PrintMore Go.Proofs.YtlfpnohpcemkgaaDoor.H
attribute [local go_sem] max2_int min2_int max_two min_two max_three min_three max_four min_four   -- for this text's walks alone
set_option linter.unusedVariables false
set_option linter.unusedSimpArgs false

/-! ### gudgeonlaw01_NatParts: function 3 -/
def gudgeonlaw01_NatParts.j0 : Nat → List Int → List Int → Bool → Bool → Option (Bool)
 | 0, _, _, _, _ => none
 | k + 1, x0, x1, x5, x29 => if x29 = true then (some x5) else (if ([] : List Int).length + x0.length < 35184372088832 then ((some (([] : List Int) ++ x0 : List Int)).bind fun y545 => (if ([] : List Int).length + x1.length < 35184372088832 then ((some (([] : List Int) ++ x1 : List Int)).bind fun y548 => ((nat_DivMod.f k x0 x1).bind fun bt551 => ((gudgeonref01_DivMod.f k y545 y548).bind fun bt558 => ((gudgeonref01_Same.f k bt551.1 bt558.1).bind fun t565 => ((gudgeonref01_Same.f k bt551.2.1 bt558.2.1).bind fun t566 => ((nat_Gcd.f k x0 x1).bind fun t567 => ((gudgeonref01_Gcd.f k y545 y548).bind fun t570 => ((gudgeonref01_Same.f k t567 t570).bind fun t573 => ((gudgeonref01_Same.f k x0 y545).bind fun t574 => ((gudgeonref01_Same.f k x1 y548).bind fun t575 => (if t565 = true then (if t566 = true then (if t573 = true then (if bt551.2.2 = bt558.2.2 then (if t574 = true then (some t575) else (none)) else (none)) else (none)) else (none)) else (none)))))))))))) else (none))) else (none))
def gudgeonlaw01_NatParts.f (k : Nat) (l0 : List Int) (l1 : List Int) : Option (Bool) := (gudgeonlaw01_awake.f).bind fun t543 => ((gudgeonlaw01_few.f l0 l1 24).bind fun t544 => (if t543 = true then (gudgeonlaw01_NatParts.j0 k l0 l1 t543 (!t544)) else (gudgeonlaw01_NatParts.j0 k l0 l1 t543 true)))
theorem gudgeonlaw01_NatParts.mono_l : ∀ k, (∀ y0 y1 y2 y3, LeO (gudgeonlaw01_NatParts.j0 k y0 y1 y2 y3) (gudgeonlaw01_NatParts.j0 (k + 1) y0 y1 y2 y3))
 | 0 => fun _ _ _ _ r h => by simp [gudgeonlaw01_NatParts.j0] at h
 | k + 1 => by
  have ih0 := gudgeonlaw01_NatParts.mono_l k
  ·intro y0 y1 y2 y3
   unfold gudgeonlaw01_NatParts.j0
   repeat' first
   | (with_reducible exact ih0 _ _ _ _)
   | (with_reducible exact gudgeonref01_DivMod.mono _ _ _)
   | (with_reducible exact gudgeonref01_Gcd.mono _ _ _)
   | (with_reducible exact gudgeonref01_Same.mono _ _ _)
   | (with_reducible exact nat_DivMod.mono _ _ _)
   | (with_reducible exact nat_Gcd.mono _ _ _)
   | (with_reducible exact LeO.refl _)
   | (with_reducible exact LeO.none _)
   | (with_reducible refine LeO.ite ?_ ?_)
   | (with_reducible refine LeO.bind ?_ (fun _ => ?_))
   | exact ih0 _ _ _ _
   | exact gudgeonref01_DivMod.mono _ _ _
   | exact gudgeonref01_Gcd.mono _ _ _
   | exact gudgeonref01_Same.mono _ _ _
   | exact nat_DivMod.mono _ _ _
   | exact nat_Gcd.mono _ _ _
   | exact LeO.none _
   | refine LeO.ite ?_ ?_
   | refine LeO.bind ?_ (fun _ => ?_)
theorem gudgeonlaw01_NatParts.mono : ∀ a0 a1 k, LeO (gudgeonlaw01_NatParts.f k a0 a1) (gudgeonlaw01_NatParts.f (k + 1) a0 a1) := by
 intro a0 a1 k
 have ih0 := gudgeonlaw01_NatParts.mono_l k
 unfold gudgeonlaw01_NatParts.f
 repeat' first
   | (with_reducible exact ih0 _ _ _ _)
   | (with_reducible exact gudgeonref01_DivMod.mono _ _ _)
   | (with_reducible exact gudgeonref01_Gcd.mono _ _ _)
   | (with_reducible exact gudgeonref01_Same.mono _ _ _)
   | (with_reducible exact nat_DivMod.mono _ _ _)
   | (with_reducible exact nat_Gcd.mono _ _ _)
   | (with_reducible exact LeO.refl _)
   | (with_reducible exact LeO.none _)
   | (with_reducible refine LeO.ite ?_ ?_)
   | (with_reducible refine LeO.bind ?_ (fun _ => ?_))
   | exact ih0 _ _ _ _
   | exact gudgeonref01_DivMod.mono _ _ _
   | exact gudgeonref01_Gcd.mono _ _ _
   | exact gudgeonref01_Same.mono _ _ _
   | exact nat_DivMod.mono _ _ _
   | exact nat_Gcd.mono _ _ _
   | exact LeO.none _
   | refine LeO.ite ?_ ?_
   | refine LeO.bind ?_ (fun _ => ?_)
set_option maxHeartbeats 8000000 in
set_option maxRecDepth 100000 in
theorem gudgeonlaw01_NatParts.calls (k : Nat) (A0 : Option Addr) (c0 : Nat) (l0 : List Int) (A1 : Option Addr) (c1 : Nat) (l1 : List Int) (r : Bool) (w : World) (hr0 : Kd.C (Kd.int .u32) w A0 l0.length l0) (hc0 : l0.length ≤ c0) (hr1 : Kd.C (Kd.int .u32) w A1 l1.length l1) (hc1 : l1.length ≤ c1) (h : gudgeonlaw01_NatParts.f k l0 l1 = some r) :
  Calls Tryd.prog 3 #[.slice A0 l0.length c0, .slice A1 l1.length c1] w fun e w' => e = .returned (.bool r) ∧ Below w.heap.size w w' := by
 have HR0 := Aside0.mk hr0
 have HC0 := Aside0.mk hc0
 clear hr0 hc0
 have HR1 := Aside0.mk hr1
 have HC1 := Aside0.mk hc1
 clear hr1 hc1
 have HB := Aside0.mk (Below.refl w.heap.size w)
 have H : ((gudgeonlaw01_awake.f).bind fun t543 => ((gudgeonlaw01_few.f l0 l1 24).bind fun t544 => (if t543 = true then (gudgeonlaw01_NatParts.j0 k l0 l1 t543 (!t544)) else (gudgeonlaw01_NatParts.j0 k l0 l1 t543 true)))) = some r := h
 clear h
 replace H := Option.bind_eq_some_iff.mp H
 obtain ⟨t543, A30, H⟩ := H
 replace H : ((gudgeonlaw01_few.f l0 l1 24).bind fun t544 => (if t543 = true then (gudgeonlaw01_NatParts.j0 k l0 l1 t543 (!t544)) else (gudgeonlaw01_NatParts.j0 k l0 l1 t543 true))) = some r := H
 have A3 := Aside0.mk A30
 clear A30
 replace H := Option.bind_eq_some_iff.mp H
 obtain ⟨t544, A40, H⟩ := H
 replace H : (if t543 = true then (gudgeonlaw01_NatParts.j0 k l0 l1 t543 (!t544)) else (gudgeonlaw01_NatParts.j0 k l0 l1 t543 true)) = some r := H
 have A4 := Aside0.mk A40
 clear A40
 have HC5 := Aside0.mk H
 clear H
 go_enter Tryd.func3, Tryd.ntmps3
 go_upto_region 3 with (first | ((with_reducible refine gate_callee (f := 11) rfl ?_); refine goesL_ (some 20) rfl rfl Tryd.func11 (by kernel_rfl) rfl #[] rfl (by (try simp only [List.map_toArray, List.map_cons, List.map_nil]); first | done | rfl | (simp only [List.length_drop, List.length_take]; rfl)) ?_; (with_reducible refine (gudgeonlaw01_awake.calls  t543 _ A3.out).mono ?_); rintro e w6 ⟨rfl, hb⟩; refine ⟨_, rfl, ?_⟩; have n0_ := Aside0.mk (below_step (by repeat (first | (with_reducible first | exact HB.out | apply below_alloc | apply pw_below_drewN | apply below_drew1) | exact HB.out)) hb); clear HB; have HB := n0_; clear n0_; (try clear hb); (try clear hb2); (try clear hk); (try clear hi)) | ((with_reducible refine gate_callee (f := 12) rfl ?_); refine goesL_ (some 23) rfl rfl Tryd.func12 (by kernel_rfl) rfl #[.slice A0 l0.length c0, .slice A1 l1.length c1, .int .i64 24] rfl (by (try simp only [List.map_toArray, List.map_cons, List.map_nil]); first | done | rfl | (simp only [List.length_drop, List.length_take]; rfl)) ?_; (with_reducible refine (gudgeonlaw01_few.calls _ _ l0 _ _ l1 24 t544 _ ?side1 ?side2 ?side3 ?side4 A4.out).mono ?_); (case side1 => repeat (first | exact (Kd.C_below HR0.out HB.out) | (with_reducible refine Kd.C_alloc ?_ _) | (with_reducible refine Kd.C_drewN ?_ _) | (with_reducible refine Kd.C_drew ?_))); (case side2 => exact HC0.out); (case side3 => repeat (first | exact (Kd.C_below HR1.out HB.out) | (with_reducible refine Kd.C_alloc ?_ _) | (with_reducible refine Kd.C_drewN ?_ _) | (with_reducible refine Kd.C_drew ?_))); (case side4 => exact HC1.out); rintro e w' ⟨rfl, ⟨nd, rfl⟩⟩; refine ⟨_, rfl, ?_⟩))
 (try simp only [Act.put, List.setIfInBounds_toArray, List.set_cons_zero, List.set_cons_succ])
 go_cut [29] (fun v29 wc => ∃ (kq : Nat) (x29_4 : Bool), v29 = .bool x29_4 ∧ Aside0 (gudgeonlaw01_NatParts.j0 kq l0 l1 t543 x29_4 = some r) ∧ Aside0 (kq ≤ k) ∧ Aside0 (Below w.heap.size w wc))
 case first =>
  have H := HC5.out
  clear HC5
  by_cases c7 : t543 = true
  ·subst c7
   have H1 : (gudgeonlaw01_NatParts.j0 k l0 l1 true (!t544)) = some r := by rw [if_pos rfl] at H; exact H
   clear H
   have H := H1
   clear H1
   have H' := Aside0.mk H
   clear H
   go_wp2
   go_meet
   case rel => exact ⟨_, (!t544), (by first | rfl | (simp; done) | (simp [*]; done) | (refine congrArg (Value.int _) ?_; omega) | (refine congrArg Value.bool ?_; generalize ByteArray.toList _ = z_; cases z_ <;> rfl)), H', ⟨by first | omega | exact Nat.le_refl _⟩, ⟨by repeat (first | (with_reducible first | exact HB.out | apply below_alloc | apply pw_below_drewN | apply below_drew1) | exact HB.out)⟩⟩
  ·replace c7 := Bool.eq_false_iff.mpr c7
   subst c7
   have H1 : (gudgeonlaw01_NatParts.j0 k l0 l1 false true) = some r := by rw [if_neg (show ¬ (false = true) by decide)] at H; exact H
   clear H
   have H := H1
   clear H1
   have H' := Aside0.mk H
   clear H
   go_wp2
   go_meet
   case rel => exact ⟨_, (true), (by first | rfl | (simp; done) | (simp [*]; done) | (refine congrArg (Value.int _) ?_; omega) | (refine congrArg Value.bool ?_; generalize ByteArray.toList _ = z_; cases z_ <;> rfl)), H', ⟨by first | omega | exact Nat.le_refl _⟩, ⟨by repeat (first | (with_reducible first | exact HB.out | apply below_alloc | apply pw_below_drewN | apply below_drew1) | exact HB.out)⟩⟩
 case rest =>
  clear HC5
  try clear c1
  try clear p2
  try clear c3
  try clear c7
  obtain ⟨kq, x29_4, rfl, HA, HJ4, HB⟩ := hcut
  cases kq with
  | zero => exact absurd HA.out (by simp [gudgeonlaw01_NatParts.j0])
  | succ kj4 =>
   have H := HA.out
   clear HA
   simp only [gudgeonlaw01_NatParts.j0] at H
   by_cases c8 : x29_4 = true
   ·subst c8
    have H1 : (some t543) = some r := by rw [if_pos rfl] at H; exact H
    clear H
    have H := H1
    clear H1
    obtain rfl := Option.some.inj H
    go_wp2
    go_ret
    exact ⟨by first | rfl | (simp [errW_none, errW_some] <;> rfl) | (simp [*, errW_none, errW_some] <;> rfl), by repeat (first | (with_reducible first | exact HB.out | apply below_alloc | apply pw_below_drewN | apply below_drew1) | exact HB.out)⟩
   ·replace c8 := Bool.eq_false_iff.mpr c8
    subst c8
    have H1 : (if ([] : List Int).length + l0.length < 35184372088832 then ((some (([] : List Int) ++ l0 : List Int)).bind fun y545 => (if ([] : List Int).length + l1.length < 35184372088832 then ((some (([] : List Int) ++ l1 : List Int)).bind fun y548 => ((nat_DivMod.f kj4 l0 l1).bind fun bt551 => ((gudgeonref01_DivMod.f kj4 y545 y548).bind fun bt558 => ((gudgeonref01_Same.f kj4 bt551.1 bt558.1).bind fun t565 => ((gudgeonref01_Same.f kj4 bt551.2.1 bt558.2.1).bind fun t566 => ((nat_Gcd.f kj4 l0 l1).bind fun t567 => ((gudgeonref01_Gcd.f kj4 y545 y548).bind fun t570 => ((gudgeonref01_Same.f kj4 t567 t570).bind fun t573 => ((gudgeonref01_Same.f kj4 l0 y545).bind fun t574 => ((gudgeonref01_Same.f kj4 l1 y548).bind fun t575 => (if t565 = true then (if t566 = true then (if t573 = true then (if bt551.2.2 = bt558.2.2 then (if t574 = true then (some t575) else (none)) else (none)) else (none)) else (none)) else (none)))))))))))) else (none))) else (none)) = some r := by rw [if_neg (show ¬ (false = true) by decide)] at H; exact H
    clear H
    have H := H1
    clear H1
    by_cases c9 : ([] : List Int).length + l0.length < 35184372088832
    ·rw [if_pos c9] at H
     have LMc9 := Aside0.mk c9
     clear c9
     obtain ⟨y545, hy545⟩ : ∃ y_ : List Int, y_ = (([] : List Int) ++ l0) := ⟨_, rfl⟩
     replace H : (if ([] : List Int).length + l1.length < 35184372088832 then ((some (([] : List Int) ++ l1 : List Int)).bind fun y548 => ((nat_DivMod.f kj4 l0 l1).bind fun bt551 => ((gudgeonref01_DivMod.f kj4 y545 y548).bind fun bt558 => ((gudgeonref01_Same.f kj4 bt551.1 bt558.1).bind fun t565 => ((gudgeonref01_Same.f kj4 bt551.2.1 bt558.2.1).bind fun t566 => ((nat_Gcd.f kj4 l0 l1).bind fun t567 => ((gudgeonref01_Gcd.f kj4 y545 y548).bind fun t570 => ((gudgeonref01_Same.f kj4 t567 t570).bind fun t573 => ((gudgeonref01_Same.f kj4 l0 y545).bind fun t574 => ((gudgeonref01_Same.f kj4 l1 y548).bind fun t575 => (if t565 = true then (if t566 = true then (if t573 = true then (if bt551.2.2 = bt558.2.2 then (if t574 = true then (some t575) else (none)) else (none)) else (none)) else (none)) else (none)))))))))))) else (none)) = some r := by first | (rw [hy545]; with_reducible exact H) | (have H2_ := (Option.bind_some _ _).symm.trans H; rw [hy545]; with_reducible exact H2_) | (have H2_ := (Option.bind_some _ _).symm.trans H; with_reducible exact H2_) | with_reducible exact H | (rw [hy545]; exact H) | exact H
     have Ny545 := Aside0.mk hy545
     clear hy545
     by_cases c10 : ([] : List Int).length + l1.length < 35184372088832
     ·rw [if_pos c10] at H
      have LMc10 := Aside0.mk c10
      clear c10
      obtain ⟨y548, hy548⟩ : ∃ y_ : List Int, y_ = (([] : List Int) ++ l1) := ⟨_, rfl⟩
      replace H : ((nat_DivMod.f kj4 l0 l1).bind fun bt551 => ((gudgeonref01_DivMod.f kj4 y545 y548).bind fun bt558 => ((gudgeonref01_Same.f kj4 bt551.1 bt558.1).bind fun t565 => ((gudgeonref01_Same.f kj4 bt551.2.1 bt558.2.1).bind fun t566 => ((nat_Gcd.f kj4 l0 l1).bind fun t567 => ((gudgeonref01_Gcd.f kj4 y545 y548).bind fun t570 => ((gudgeonref01_Same.f kj4 t567 t570).bind fun t573 => ((gudgeonref01_Same.f kj4 l0 y545).bind fun t574 => ((gudgeonref01_Same.f kj4 l1 y548).bind fun t575 => (if t565 = true then (if t566 = true then (if t573 = true then (if bt551.2.2 = bt558.2.2 then (if t574 = true then (some t575) else (none)) else (none)) else (none)) else (none)) else (none))))))))))) = some r := by first | (rw [hy548]; with_reducible exact H) | (have H2_ := (Option.bind_some _ _).symm.trans H; rw [hy548]; with_reducible exact H2_) | (have H2_ := (Option.bind_some _ _).symm.trans H; with_reducible exact H2_) | with_reducible exact H | (rw [hy548]; exact H) | exact H
      have Ny548 := Aside0.mk hy548
      clear hy548
      replace H := Option.bind_eq_some_iff.mp H
      obtain ⟨⟨t551, t552, t553⟩, A110, H⟩ := H
      replace H : ((gudgeonref01_DivMod.f kj4 y545 y548).bind fun bt558 => ((gudgeonref01_Same.f kj4 t551 bt558.1).bind fun t565 => ((gudgeonref01_Same.f kj4 t552 bt558.2.1).bind fun t566 => ((nat_Gcd.f kj4 l0 l1).bind fun t567 => ((gudgeonref01_Gcd.f kj4 y545 y548).bind fun t570 => ((gudgeonref01_Same.f kj4 t567 t570).bind fun t573 => ((gudgeonref01_Same.f kj4 l0 y545).bind fun t574 => ((gudgeonref01_Same.f kj4 l1 y548).bind fun t575 => (if t565 = true then (if t566 = true then (if t573 = true then (if t553 = bt558.2.2 then (if t574 = true then (some t575) else (none)) else (none)) else (none)) else (none)) else (none)))))))))) = some r := H
      have A11 := Aside0.mk A110
      clear A110
      replace H := Option.bind_eq_some_iff.mp H
      obtain ⟨⟨t558, t559, t560⟩, A120, H⟩ := H
      replace H : ((gudgeonref01_Same.f kj4 t551 t558).bind fun t565 => ((gudgeonref01_Same.f kj4 t552 t559).bind fun t566 => ((nat_Gcd.f kj4 l0 l1).bind fun t567 => ((gudgeonref01_Gcd.f kj4 y545 y548).bind fun t570 => ((gudgeonref01_Same.f kj4 t567 t570).bind fun t573 => ((gudgeonref01_Same.f kj4 l0 y545).bind fun t574 => ((gudgeonref01_Same.f kj4 l1 y548).bind fun t575 => (if t565 = true then (if t566 = true then (if t573 = true then (if t553 = t560 then (if t574 = true then (some t575) else (none)) else (none)) else (none)) else (none)) else (none))))))))) = some r := H
      have A12 := Aside0.mk A120
      clear A120
      replace H := Option.bind_eq_some_iff.mp H
      obtain ⟨t565, A130, H⟩ := H
      replace H : ((gudgeonref01_Same.f kj4 t552 t559).bind fun t566 => ((nat_Gcd.f kj4 l0 l1).bind fun t567 => ((gudgeonref01_Gcd.f kj4 y545 y548).bind fun t570 => ((gudgeonref01_Same.f kj4 t567 t570).bind fun t573 => ((gudgeonref01_Same.f kj4 l0 y545).bind fun t574 => ((gudgeonref01_Same.f kj4 l1 y548).bind fun t575 => (if t565 = true then (if t566 = true then (if t573 = true then (if t553 = t560 then (if t574 = true then (some t575) else (none)) else (none)) else (none)) else (none)) else (none)))))))) = some r := H
      have A13 := Aside0.mk A130
      clear A130
      replace H := Option.bind_eq_some_iff.mp H
      obtain ⟨t566, A140, H⟩ := H
      replace H : ((nat_Gcd.f kj4 l0 l1).bind fun t567 => ((gudgeonref01_Gcd.f kj4 y545 y548).bind fun t570 => ((gudgeonref01_Same.f kj4 t567 t570).bind fun t573 => ((gudgeonref01_Same.f kj4 l0 y545).bind fun t574 => ((gudgeonref01_Same.f kj4 l1 y548).bind fun t575 => (if t565 = true then (if t566 = true then (if t573 = true then (if t553 = t560 then (if t574 = true then (some t575) else (none)) else (none)) else (none)) else (none)) else (none))))))) = some r := H
      have A14 := Aside0.mk A140
      clear A140
      replace H := Option.bind_eq_some_iff.mp H
      obtain ⟨t567, A150, H⟩ := H
      replace H : ((gudgeonref01_Gcd.f kj4 y545 y548).bind fun t570 => ((gudgeonref01_Same.f kj4 t567 t570).bind fun t573 => ((gudgeonref01_Same.f kj4 l0 y545).bind fun t574 => ((gudgeonref01_Same.f kj4 l1 y548).bind fun t575 => (if t565 = true then (if t566 = true then (if t573 = true then (if t553 = t560 then (if t574 = true then (some t575) else (none)) else (none)) else (none)) else (none)) else (none)))))) = some r := H
      have A15 := Aside0.mk A150
      clear A150
      replace H := Option.bind_eq_some_iff.mp H
      obtain ⟨t570, A160, H⟩ := H
      replace H : ((gudgeonref01_Same.f kj4 t567 t570).bind fun t573 => ((gudgeonref01_Same.f kj4 l0 y545).bind fun t574 => ((gudgeonref01_Same.f kj4 l1 y548).bind fun t575 => (if t565 = true then (if t566 = true then (if t573 = true then (if t553 = t560 then (if t574 = true then (some t575) else (none)) else (none)) else (none)) else (none)) else (none))))) = some r := H
      have A16 := Aside0.mk A160
      clear A160
      replace H := Option.bind_eq_some_iff.mp H
      obtain ⟨t573, A170, H⟩ := H
      replace H : ((gudgeonref01_Same.f kj4 l0 y545).bind fun t574 => ((gudgeonref01_Same.f kj4 l1 y548).bind fun t575 => (if t565 = true then (if t566 = true then (if t573 = true then (if t553 = t560 then (if t574 = true then (some t575) else (none)) else (none)) else (none)) else (none)) else (none)))) = some r := H
      have A17 := Aside0.mk A170
      clear A170
      replace H := Option.bind_eq_some_iff.mp H
      obtain ⟨t574, A180, H⟩ := H
      replace H : ((gudgeonref01_Same.f kj4 l1 y548).bind fun t575 => (if t565 = true then (if t566 = true then (if t573 = true then (if t553 = t560 then (if t574 = true then (some t575) else (none)) else (none)) else (none)) else (none)) else (none))) = some r := H
      have A18 := Aside0.mk A180
      clear A180
      replace H := Option.bind_eq_some_iff.mp H
      obtain ⟨t575, A190, H⟩ := H
      replace H : (if t565 = true then (if t566 = true then (if t573 = true then (if t553 = t560 then (if t574 = true then (some t575) else (none)) else (none)) else (none)) else (none)) else (none)) = some r := H
      have A19 := Aside0.mk A190
      clear A190
      by_cases c20 : t565 = true
      ·subst c20
       have H1 : (if t566 = true then (if t573 = true then (if t553 = t560 then (if t574 = true then (some t575) else (none)) else (none)) else (none)) else (none)) = some r := by rw [if_pos rfl] at H; exact H
       clear H
       have H := H1
       clear H1
       by_cases c21 : t566 = true
       ·subst c21
        have H1 : (if t573 = true then (if t553 = t560 then (if t574 = true then (some t575) else (none)) else (none)) else (none)) = some r := by rw [if_pos rfl] at H; exact H
        clear H
        have H := H1
        clear H1
        by_cases c22 : t573 = true
        ·subst c22
         have H1 : (if t553 = t560 then (if t574 = true then (some t575) else (none)) else (none)) = some r := by rw [if_pos rfl] at H; exact H
         clear H
         have H := H1
         clear H1
         by_cases c23 : t553 = t560
         ·rw [if_pos c23] at H
          have c23b0 : (t553 == t560) = true := beq_iff_eq.mpr c23
          have c23b1 : (t553 != t560) = false := bne_eq_false_iff_eq.mpr c23
          clear c23
          by_cases c24 : t574 = true
          ·subst c24
           have H1 : (some t575) = some r := by rw [if_pos rfl] at H; exact H
           clear H
           have H := H1
           clear H1
           obtain rfl := Option.some.inj H
           go_wp2_with (first | ((with_reducible refine gate_builtin (b := .append) (xs := #[.const (.slice none 0 0), .tmp 31]) rfl ?_); at_builtin; refine Kd.R_append_rows (Kd.int .u32) (w0 := w) w.heap.size rfl (.const (.slice none 0 0)) (.tmp 31) 22 43 (.int .u32 0) 4 rfl Tryd.underlying22 info43 rfl (by decide) (by omega) (.slice none 0 0) ([] : List Int) l0 _ _ _ (fun _ => True) (fun _ => False) rfl rfl ?aO ?aR (fun _ _ h => h) (fun _ h => h.elim) ?aF ?aB ?aS ?aL ?_; (case aR => repeat (first | exact (Kd.C_below HR0.out HB.out) | (with_reducible refine Kd.C_alloc ?_ _) | (with_reducible refine Kd.C_drewN ?_ _) | (with_reducible refine Kd.C_drew ?_))); (case aB => exact (by repeat (first | (with_reducible first | exact HB.out | apply below_alloc | apply pw_below_drewN | apply below_drew1) | exact HB.out))); (case aF => exact (fun _ _ => trivial)); (case aO => exact ((Kd.R_nil _ _ _ _ (fun _ => True)))); (case aS => exact (below_size (by repeat (first | (with_reducible first | exact HB.out | apply below_alloc | apply pw_below_drewN | apply below_drew1) | exact HB.out)))); (case aL => have := LMc9.out; omega); intro v546 w25 ho hb hg hat; rw [← Ny545.out] at ho; have n0_ := Aside0.mk (hb); have n1_ := Aside0.mk (ho); clear HB; have HB := n0_; have HO547 := n1_; clear n0_ n1_; clear ho hb hg hat) | ((with_reducible refine gate_builtin (b := .append) (xs := #[.const (.slice none 0 0), .tmp 33]) rfl ?_); at_builtin; refine Kd.R_append_rows (Kd.int .u32) (w0 := w) w.heap.size rfl (.const (.slice none 0 0)) (.tmp 33) 22 43 (.int .u32 0) 4 rfl Tryd.underlying22 info43 rfl (by decide) (by omega) (.slice none 0 0) ([] : List Int) l1 _ _ _ (fun k_ => some k_ ≠ (v546 : Value).ownBlock) (fun _ => False) rfl rfl ?aO ?aR (fun _ _ h => h) (fun _ h => h.elim) ?aF ?aB ?aS ?aL ?_; (case aR => repeat (first | exact (Kd.C_below HR1.out HB.out) | (with_reducible refine Kd.C_alloc ?_ _) | (with_reducible refine Kd.C_drewN ?_ _) | (with_reducible refine Kd.C_drew ?_))); (case aB => exact (by repeat (first | (with_reducible first | exact HB.out | apply below_alloc | apply pw_below_drewN | apply below_drew1) | exact HB.out))); (case aF => exact (fun k_ hk => Kd.fresh' (Kd.R_lt (by (with_reducible repeat (first | apply Kd.R_alloc | apply Kd.R_drewN | apply Kd.R_drew)); exact HO547.out)) k_ hk)); (case aO => exact ((Kd.R_nil _ _ _ _ (fun k_ => some k_ ≠ (v546 : Value).ownBlock)))); (case aS => exact (below_size (by repeat (first | (with_reducible first | exact HB.out | apply below_alloc | apply pw_below_drewN | apply below_drew1) | exact HB.out)))); (case aL => have := LMc10.out; omega); intro v549 w26 ho hb hg hat; rw [← Ny548.out] at ho; have n0_ := Aside0.mk (Kd.R_after (Kd.R_apart_nil (by (with_reducible repeat (first | apply Kd.R_alloc | apply Kd.R_drewN | apply Kd.R_drew)); exact HO547.out)) hg hat); have n1_ := Aside0.mk (hb); have n2_ := Aside0.mk (ho); clear HO547; clear HB; have HO547 := n0_; have HB := n1_; have HO550 := n2_; clear n0_ n1_ n2_; clear ho hb hg hat) | ((with_reducible refine gate_callee (f := 13) rfl ?_); refine goesL_ (some 38) rfl rfl Tryd.func13 (by kernel_rfl) rfl #[.slice A0 l0.length c0, .slice A1 l1.length c1] rfl (by (try simp only [List.map_toArray, List.map_cons, List.map_nil]); first | done | rfl | (simp only [List.length_drop, List.length_take]; rfl)) ?_; (with_reducible refine (nat_DivMod.calls kj4 _ _ l0 _ _ l1 t551 t552 t553 _ ?side1 ?side2 ?side3 ?side4 A11.out).mono ?_); (case side1 => repeat (first | exact (Kd.C_below HR0.out HB.out) | (with_reducible refine Kd.C_alloc ?_ _) | (with_reducible refine Kd.C_drewN ?_ _) | (with_reducible refine Kd.C_drew ?_))); (case side2 => exact HC0.out); (case side3 => repeat (first | exact (Kd.C_below HR1.out HB.out) | (with_reducible refine Kd.C_alloc ?_ _) | (with_reducible refine Kd.C_drewN ?_ _) | (with_reducible refine Kd.C_drew ?_))); (case side4 => exact HC1.out); rintro e w27 ⟨v554, v556, rfl, ho0, ho1, hb⟩; refine ⟨_, rfl, ?_⟩; have n0_ := Aside0.mk (Kd.R_mono (Kd.R_told (Kd.R_told (Kd.R_old (by (with_reducible repeat (first | apply Kd.R_alloc | apply Kd.R_drewN | apply Kd.R_drew)); exact HO547.out) hb) (Kd.R_base ho0)) (Kd.R_base ho1)) (fun _ h_ => h_.1)); have n1_ := Aside0.mk (Kd.R_mono (Kd.R_told (Kd.R_told (Kd.R_old (by (with_reducible repeat (first | apply Kd.R_alloc | apply Kd.R_drewN | apply Kd.R_drew)); exact HO550.out) hb) (Kd.R_base ho0)) (Kd.R_base ho1)) (fun _ h_ => h_.1)); have n2_ := Aside0.mk (Kd.R_lower (Kd.R_new' (Kd.R_new' ho0 (Kd.R_lt (by (with_reducible repeat (first | apply Kd.R_alloc | apply Kd.R_drewN | apply Kd.R_drew)); exact HO547.out))) (Kd.R_lt (by (with_reducible repeat (first | apply Kd.R_alloc | apply Kd.R_drewN | apply Kd.R_drew)); exact HO550.out))) (below_size (by repeat (first | (with_reducible first | exact HB.out | apply below_alloc | apply pw_below_drewN | apply below_drew1) | exact HB.out)))); have n3_ := Aside0.mk (Kd.R_lower (Kd.R_new' (Kd.R_new' ho1 (Kd.R_lt (by (with_reducible repeat (first | apply Kd.R_alloc | apply Kd.R_drewN | apply Kd.R_drew)); exact HO547.out))) (Kd.R_lt (by (with_reducible repeat (first | apply Kd.R_alloc | apply Kd.R_drewN | apply Kd.R_drew)); exact HO550.out))) (below_size (by repeat (first | (with_reducible first | exact HB.out | apply below_alloc | apply pw_below_drewN | apply below_drew1) | exact HB.out)))); have n4_ := Aside0.mk (below_step (by repeat (first | (with_reducible first | exact HB.out | apply below_alloc | apply pw_below_drewN | apply below_drew1) | exact HB.out)) hb); clear HO547; clear HO550; clear HB; have HO547 := n0_; have HO550 := n1_; have HO555 := n2_; have HO557 := n3_; have HB := n4_; clear n0_ n1_ n2_ n3_ n4_; (try clear hb); (try clear hb2); (try clear hk); (try clear hi); (try clear ho0); (try clear ho1); obtain ⟨Ao28, co28, eo28⟩ := Kd.R_slice HO547.out; subst eo28; obtain ⟨Ao29, co29, eo29⟩ := Kd.R_slice HO550.out; subst eo29) | ((with_reducible refine gate_callee (f := 14) rfl ?_); refine goesL_ (some 45) rfl rfl Tryd.func14 (by kernel_rfl) rfl #[.slice Ao28 y545.length co28, .slice Ao29 y548.length co29] rfl (by (try simp only [List.map_toArray, List.map_cons, List.map_nil]); first | done | rfl | (simp only [List.length_drop, List.length_take]; rfl)) ?_; (with_reducible refine (gudgeonref01_DivMod.calls kj4 _ _ y545 _ _ y548 t558 t559 t560 _ ?side1 ?side2 ?side3 ?side4 A12.out).mono ?_); (case side1 => repeat (first | exact (Kd.R_reads' HO547.out).2.2 | (with_reducible refine Kd.C_alloc ?_ _) | (with_reducible refine Kd.C_drewN ?_ _) | (with_reducible refine Kd.C_drew ?_))); (case side2 => exact (Kd.R_reads' HO547.out).2.1); (case side3 => repeat (first | exact (Kd.R_reads' HO550.out).2.2 | (with_reducible refine Kd.C_alloc ?_ _) | (with_reducible refine Kd.C_drewN ?_ _) | (with_reducible refine Kd.C_drew ?_))); (case side4 => exact (Kd.R_reads' HO550.out).2.1); rintro e w30 ⟨v561, v563, rfl, ho0, ho1, hb⟩; refine ⟨_, rfl, ?_⟩; have n0_ := Aside0.mk (Kd.R_mono (Kd.R_told (Kd.R_told (Kd.R_old (by (with_reducible repeat (first | apply Kd.R_alloc | apply Kd.R_drewN | apply Kd.R_drew)); exact HO547.out) hb) (Kd.R_base ho0)) (Kd.R_base ho1)) (fun _ h_ => h_.1)); have n1_ := Aside0.mk (Kd.R_mono (Kd.R_told (Kd.R_told (Kd.R_old (by (with_reducible repeat (first | apply Kd.R_alloc | apply Kd.R_drewN | apply Kd.R_drew)); exact HO550.out) hb) (Kd.R_base ho0)) (Kd.R_base ho1)) (fun _ h_ => h_.1)); have n2_ := Aside0.mk (Kd.R_mono (Kd.R_told (Kd.R_told (Kd.R_old (by (with_reducible repeat (first | apply Kd.R_alloc | apply Kd.R_drewN | apply Kd.R_drew)); exact HO555.out) hb) (Kd.R_base ho0)) (Kd.R_base ho1)) (fun _ h_ => h_.1)); have n3_ := Aside0.mk (Kd.R_mono (Kd.R_told (Kd.R_told (Kd.R_old (by (with_reducible repeat (first | apply Kd.R_alloc | apply Kd.R_drewN | apply Kd.R_drew)); exact HO557.out) hb) (Kd.R_base ho0)) (Kd.R_base ho1)) (fun _ h_ => h_.1)); have n4_ := Aside0.mk (Kd.R_lower (Kd.R_new' (Kd.R_new' (Kd.R_new' (Kd.R_new' ho0 (Kd.R_lt (by (with_reducible repeat (first | apply Kd.R_alloc | apply Kd.R_drewN | apply Kd.R_drew)); exact HO547.out))) (Kd.R_lt (by (with_reducible repeat (first | apply Kd.R_alloc | apply Kd.R_drewN | apply Kd.R_drew)); exact HO550.out))) (Kd.R_lt (by (with_reducible repeat (first | apply Kd.R_alloc | apply Kd.R_drewN | apply Kd.R_drew)); exact HO555.out))) (Kd.R_lt (by (with_reducible repeat (first | apply Kd.R_alloc | apply Kd.R_drewN | apply Kd.R_drew)); exact HO557.out))) (below_size (by repeat (first | (with_reducible first | exact HB.out | apply below_alloc | apply pw_below_drewN | apply below_drew1) | exact HB.out)))); have n5_ := Aside0.mk (Kd.R_lower (Kd.R_new' (Kd.R_new' (Kd.R_new' (Kd.R_new' ho1 (Kd.R_lt (by (with_reducible repeat (first | apply Kd.R_alloc | apply Kd.R_drewN | apply Kd.R_drew)); exact HO547.out))) (Kd.R_lt (by (with_reducible repeat (first | apply Kd.R_alloc | apply Kd.R_drewN | apply Kd.R_drew)); exact HO550.out))) (Kd.R_lt (by (with_reducible repeat (first | apply Kd.R_alloc | apply Kd.R_drewN | apply Kd.R_drew)); exact HO555.out))) (Kd.R_lt (by (with_reducible repeat (first | apply Kd.R_alloc | apply Kd.R_drewN | apply Kd.R_drew)); exact HO557.out))) (below_size (by repeat (first | (with_reducible first | exact HB.out | apply below_alloc | apply pw_below_drewN | apply below_drew1) | exact HB.out)))); have n6_ := Aside0.mk (below_step (by repeat (first | (with_reducible first | exact HB.out | apply below_alloc | apply pw_below_drewN | apply below_drew1) | exact HB.out)) hb); clear HO547; clear HO550; clear HO555; clear HO557; clear HB; have HO547 := n0_; have HO550 := n1_; have HO555 := n2_; have HO557 := n3_; have HO562 := n4_; have HO564 := n5_; have HB := n6_; clear n0_ n1_ n2_ n3_ n4_ n5_ n6_; (try clear hb); (try clear hb2); (try clear hk); (try clear hi); (try clear ho0); (try clear ho1); obtain ⟨Ao31, co31, eo31⟩ := Kd.R_slice HO555.out; subst eo31; obtain ⟨Ao32, co32, eo32⟩ := Kd.R_slice HO562.out; subst eo32) | ((with_reducible refine gate_callee (f := 15) rfl ?_); refine goesL_ (some 51) rfl rfl Tryd.func15 (by kernel_rfl) rfl #[.slice Ao31 t551.length co31, .slice Ao32 t558.length co32] rfl (by (try simp only [List.map_toArray, List.map_cons, List.map_nil]); first | done | rfl | (simp only [List.length_drop, List.length_take]; rfl)) ?_; (with_reducible refine (gudgeonref01_Same.calls kj4 _ _ t551 _ _ t558 true _ ?side1 ?side2 ?side3 ?side4 A13.out).mono ?_); (case side1 => repeat (first | exact (Kd.R_reads' HO555.out).2.2 | (with_reducible refine Kd.C_alloc ?_ _) | (with_reducible refine Kd.C_drewN ?_ _) | (with_reducible refine Kd.C_drew ?_))); (case side2 => exact (Kd.R_reads' HO555.out).2.1); (case side3 => repeat (first | exact (Kd.R_reads' HO562.out).2.2 | (with_reducible refine Kd.C_alloc ?_ _) | (with_reducible refine Kd.C_drewN ?_ _) | (with_reducible refine Kd.C_drew ?_))); (case side4 => exact (Kd.R_reads' HO562.out).2.1); rintro e w' ⟨rfl, ⟨nd, rfl⟩⟩; refine ⟨_, rfl, ?_⟩; obtain ⟨Ao33, co33, eo33⟩ := Kd.R_slice HO557.out; subst eo33; obtain ⟨Ao34, co34, eo34⟩ := Kd.R_slice HO564.out; subst eo34) | ((with_reducible refine gate_callee (f := 15) rfl ?_); refine goesL_ (some 54) rfl rfl Tryd.func15 (by kernel_rfl) rfl #[.slice Ao33 t552.length co33, .slice Ao34 t559.length co34] rfl (by (try simp only [List.map_toArray, List.map_cons, List.map_nil]); first | done | rfl | (simp only [List.length_drop, List.length_take]; rfl)) ?_; (with_reducible refine (gudgeonref01_Same.calls kj4 _ _ t552 _ _ t559 true _ ?side1 ?side2 ?side3 ?side4 A14.out).mono ?_); (case side1 => repeat (first | exact (Kd.R_reads' HO557.out).2.2 | (with_reducible refine Kd.C_alloc ?_ _) | (with_reducible refine Kd.C_drewN ?_ _) | (with_reducible refine Kd.C_drew ?_))); (case side2 => exact (Kd.R_reads' HO557.out).2.1); (case side3 => repeat (first | exact (Kd.R_reads' HO564.out).2.2 | (with_reducible refine Kd.C_alloc ?_ _) | (with_reducible refine Kd.C_drewN ?_ _) | (with_reducible refine Kd.C_drew ?_))); (case side4 => exact (Kd.R_reads' HO564.out).2.1); rintro e w' ⟨rfl, ⟨nd, rfl⟩⟩; refine ⟨_, rfl, ?_⟩) | ((with_reducible refine gate_callee (f := 16) rfl ?_); refine goesL_ (some 57) rfl rfl Tryd.func16 (by kernel_rfl) rfl #[.slice A0 l0.length c0, .slice A1 l1.length c1] rfl (by (try simp only [List.map_toArray, List.map_cons, List.map_nil]); first | done | rfl | (simp only [List.length_drop, List.length_take]; rfl)) ?_; (with_reducible refine (nat_Gcd.calls kj4 _ _ l0 _ _ l1 t567 _ ?side1 ?side2 ?side3 ?side4 A15.out).mono ?_); (case side1 => repeat (first | exact (Kd.C_below HR0.out (by repeat (first | (with_reducible first | exact HB.out | apply below_alloc | apply pw_below_drewN | apply below_drew1) | exact HB.out))) | (with_reducible refine Kd.C_alloc ?_ _) | (with_reducible refine Kd.C_drewN ?_ _) | (with_reducible refine Kd.C_drew ?_))); (case side2 => exact HC0.out); (case side3 => repeat (first | exact (Kd.C_below HR1.out (by repeat (first | (with_reducible first | exact HB.out | apply below_alloc | apply pw_below_drewN | apply below_drew1) | exact HB.out))) | (with_reducible refine Kd.C_alloc ?_ _) | (with_reducible refine Kd.C_drewN ?_ _) | (with_reducible refine Kd.C_drew ?_))); (case side4 => exact HC1.out); rintro e w35 ⟨v568, rfl, ho0, hb⟩; refine ⟨_, rfl, ?_⟩; have n0_ := Aside0.mk (Kd.R_elder' (by (with_reducible repeat (first | apply Kd.R_alloc | apply Kd.R_drewN | apply Kd.R_drew)); exact HO547.out) (Kd.R_base ho0) hb); have n1_ := Aside0.mk (Kd.R_elder' (by (with_reducible repeat (first | apply Kd.R_alloc | apply Kd.R_drewN | apply Kd.R_drew)); exact HO550.out) (Kd.R_base ho0) hb); have n2_ := Aside0.mk (Kd.R_elder' (by (with_reducible repeat (first | apply Kd.R_alloc | apply Kd.R_drewN | apply Kd.R_drew)); exact HO555.out) (Kd.R_base ho0) hb); have n3_ := Aside0.mk (Kd.R_elder' (by (with_reducible repeat (first | apply Kd.R_alloc | apply Kd.R_drewN | apply Kd.R_drew)); exact HO557.out) (Kd.R_base ho0) hb); have n4_ := Aside0.mk (Kd.R_elder' (by (with_reducible repeat (first | apply Kd.R_alloc | apply Kd.R_drewN | apply Kd.R_drew)); exact HO562.out) (Kd.R_base ho0) hb); have n5_ := Aside0.mk (Kd.R_elder' (by (with_reducible repeat (first | apply Kd.R_alloc | apply Kd.R_drewN | apply Kd.R_drew)); exact HO564.out) (Kd.R_base ho0) hb); have n6_ := Aside0.mk (Kd.R_lower (Kd.R_new' (Kd.R_new' (Kd.R_new' (Kd.R_new' (Kd.R_new' (Kd.R_new' ho0 (Kd.R_lt (by (with_reducible repeat (first | apply Kd.R_alloc | apply Kd.R_drewN | apply Kd.R_drew)); exact HO547.out))) (Kd.R_lt (by (with_reducible repeat (first | apply Kd.R_alloc | apply Kd.R_drewN | apply Kd.R_drew)); exact HO550.out))) (Kd.R_lt (by (with_reducible repeat (first | apply Kd.R_alloc | apply Kd.R_drewN | apply Kd.R_drew)); exact HO555.out))) (Kd.R_lt (by (with_reducible repeat (first | apply Kd.R_alloc | apply Kd.R_drewN | apply Kd.R_drew)); exact HO557.out))) (Kd.R_lt (by (with_reducible repeat (first | apply Kd.R_alloc | apply Kd.R_drewN | apply Kd.R_drew)); exact HO562.out))) (Kd.R_lt (by (with_reducible repeat (first | apply Kd.R_alloc | apply Kd.R_drewN | apply Kd.R_drew)); exact HO564.out))) (below_size (by repeat (first | (with_reducible first | exact HB.out | apply below_alloc | apply pw_below_drewN | apply below_drew1) | exact HB.out)))); have n7_ := Aside0.mk (below_step (by repeat (first | (with_reducible first | exact HB.out | apply below_alloc | apply pw_below_drewN | apply below_drew1) | exact HB.out)) hb); clear HO547; clear HO550; clear HO555; clear HO557; clear HO562; clear HO564; clear HB; have HO547 := n0_; have HO550 := n1_; have HO555 := n2_; have HO557 := n3_; have HO562 := n4_; have HO564 := n5_; have HO569 := n6_; have HB := n7_; clear n0_ n1_ n2_ n3_ n4_ n5_ n6_ n7_; (try clear hb); (try clear hb2); (try clear hk); (try clear hi); (try clear ho0)) | ((with_reducible refine gate_callee (f := 17) rfl ?_); refine goesL_ (some 60) rfl rfl Tryd.func17 (by kernel_rfl) rfl #[.slice Ao28 y545.length co28, .slice Ao29 y548.length co29] rfl (by (try simp only [List.map_toArray, List.map_cons, List.map_nil]); first | done | rfl | (simp only [List.length_drop, List.length_take]; rfl)) ?_; (with_reducible refine (gudgeonref01_Gcd.calls kj4 _ _ y545 _ _ y548 t570 _ ?side1 ?side2 ?side3 ?side4 A16.out).mono ?_); (case side1 => repeat (first | exact (Kd.R_reads' HO547.out).2.2 | (with_reducible refine Kd.C_alloc ?_ _) | (with_reducible refine Kd.C_drewN ?_ _) | (with_reducible refine Kd.C_drew ?_))); (case side2 => exact (Kd.R_reads' HO547.out).2.1); (case side3 => repeat (first | exact (Kd.R_reads' HO550.out).2.2 | (with_reducible refine Kd.C_alloc ?_ _) | (with_reducible refine Kd.C_drewN ?_ _) | (with_reducible refine Kd.C_drew ?_))); (case side4 => exact (Kd.R_reads' HO550.out).2.1); rintro e w36 ⟨v571, rfl, ho0, hb⟩; refine ⟨_, rfl, ?_⟩; have n0_ := Aside0.mk (Kd.R_elder' (by (with_reducible repeat (first | apply Kd.R_alloc | apply Kd.R_drewN | apply Kd.R_drew)); exact HO547.out) (Kd.R_base ho0) hb); have n1_ := Aside0.mk (Kd.R_elder' (by (with_reducible repeat (first | apply Kd.R_alloc | apply Kd.R_drewN | apply Kd.R_drew)); exact HO550.out) (Kd.R_base ho0) hb); have n2_ := Aside0.mk (Kd.R_elder' (by (with_reducible repeat (first | apply Kd.R_alloc | apply Kd.R_drewN | apply Kd.R_drew)); exact HO555.out) (Kd.R_base ho0) hb); have n3_ := Aside0.mk (Kd.R_elder' (by (with_reducible repeat (first | apply Kd.R_alloc | apply Kd.R_drewN | apply Kd.R_drew)); exact HO557.out) (Kd.R_base ho0) hb); have n4_ := Aside0.mk (Kd.R_elder' (by (with_reducible repeat (first | apply Kd.R_alloc | apply Kd.R_drewN | apply Kd.R_drew)); exact HO562.out) (Kd.R_base ho0) hb); have n5_ := Aside0.mk (Kd.R_elder' (by (with_reducible repeat (first | apply Kd.R_alloc | apply Kd.R_drewN | apply Kd.R_drew)); exact HO564.out) (Kd.R_base ho0) hb); have n6_ := Aside0.mk (Kd.R_elder' (by (with_reducible repeat (first | apply Kd.R_alloc | apply Kd.R_drewN | apply Kd.R_drew)); exact HO569.out) (Kd.R_base ho0) hb); have n7_ := Aside0.mk (Kd.R_lower (Kd.R_new' (Kd.R_new' (Kd.R_new' (Kd.R_new' (Kd.R_new' (Kd.R_new' (Kd.R_new' ho0 (Kd.R_lt (by (with_reducible repeat (first | apply Kd.R_alloc | apply Kd.R_drewN | apply Kd.R_drew)); exact HO547.out))) (Kd.R_lt (by (with_reducible repeat (first | apply Kd.R_alloc | apply Kd.R_drewN | apply Kd.R_drew)); exact HO550.out))) (Kd.R_lt (by (with_reducible repeat (first | apply Kd.R_alloc | apply Kd.R_drewN | apply Kd.R_drew)); exact HO555.out))) (Kd.R_lt (by (with_reducible repeat (first | apply Kd.R_alloc | apply Kd.R_drewN | apply Kd.R_drew)); exact HO557.out))) (Kd.R_lt (by (with_reducible repeat (first | apply Kd.R_alloc | apply Kd.R_drewN | apply Kd.R_drew)); exact HO562.out))) (Kd.R_lt (by (with_reducible repeat (first | apply Kd.R_alloc | apply Kd.R_drewN | apply Kd.R_drew)); exact HO564.out))) (Kd.R_lt (by (with_reducible repeat (first | apply Kd.R_alloc | apply Kd.R_drewN | apply Kd.R_drew)); exact HO569.out))) (below_size (by repeat (first | (with_reducible first | exact HB.out | apply below_alloc | apply pw_below_drewN | apply below_drew1) | exact HB.out)))); have n8_ := Aside0.mk (below_step (by repeat (first | (with_reducible first | exact HB.out | apply below_alloc | apply pw_below_drewN | apply below_drew1) | exact HB.out)) hb); clear HO547; clear HO550; clear HO555; clear HO557; clear HO562; clear HO564; clear HO569; clear HB; have HO547 := n0_; have HO550 := n1_; have HO555 := n2_; have HO557 := n3_; have HO562 := n4_; have HO564 := n5_; have HO569 := n6_; have HO572 := n7_; have HB := n8_; clear n0_ n1_ n2_ n3_ n4_ n5_ n6_ n7_ n8_; (try clear hb); (try clear hb2); (try clear hk); (try clear hi); (try clear ho0); obtain ⟨Ao37, co37, eo37⟩ := Kd.R_slice HO569.out; subst eo37; obtain ⟨Ao38, co38, eo38⟩ := Kd.R_slice HO572.out; subst eo38) | ((with_reducible refine gate_callee (f := 15) rfl ?_); refine goesL_ (some 61) rfl rfl Tryd.func15 (by kernel_rfl) rfl #[.slice Ao37 t567.length co37, .slice Ao38 t570.length co38] rfl (by (try simp only [List.map_toArray, List.map_cons, List.map_nil]); first | done | rfl | (simp only [List.length_drop, List.length_take]; rfl)) ?_; (with_reducible refine (gudgeonref01_Same.calls kj4 _ _ t567 _ _ t570 true _ ?side1 ?side2 ?side3 ?side4 A17.out).mono ?_); (case side1 => repeat (first | exact (Kd.R_reads' HO569.out).2.2 | (with_reducible refine Kd.C_alloc ?_ _) | (with_reducible refine Kd.C_drewN ?_ _) | (with_reducible refine Kd.C_drew ?_))); (case side2 => exact (Kd.R_reads' HO569.out).2.1); (case side3 => repeat (first | exact (Kd.R_reads' HO572.out).2.2 | (with_reducible refine Kd.C_alloc ?_ _) | (with_reducible refine Kd.C_drewN ?_ _) | (with_reducible refine Kd.C_drew ?_))); (case side4 => exact (Kd.R_reads' HO572.out).2.1); rintro e w' ⟨rfl, ⟨nd, rfl⟩⟩; refine ⟨_, rfl, ?_⟩) | ((with_reducible refine gate_callee (f := 15) rfl ?_); refine goesL_ (some 64) rfl rfl Tryd.func15 (by kernel_rfl) rfl #[.slice A0 l0.length c0, .slice Ao28 y545.length co28] rfl (by (try simp only [List.map_toArray, List.map_cons, List.map_nil]); first | done | rfl | (simp only [List.length_drop, List.length_take]; rfl)) ?_; (with_reducible refine (gudgeonref01_Same.calls kj4 _ _ l0 _ _ y545 true _ ?side1 ?side2 ?side3 ?side4 A18.out).mono ?_); (case side1 => repeat (first | exact (Kd.C_below HR0.out (by repeat (first | (with_reducible first | exact HB.out | apply below_alloc | apply pw_below_drewN | apply below_drew1) | exact HB.out))) | (with_reducible refine Kd.C_alloc ?_ _) | (with_reducible refine Kd.C_drewN ?_ _) | (with_reducible refine Kd.C_drew ?_))); (case side2 => exact HC0.out); (case side3 => repeat (first | exact (Kd.R_reads' HO547.out).2.2 | (with_reducible refine Kd.C_alloc ?_ _) | (with_reducible refine Kd.C_drewN ?_ _) | (with_reducible refine Kd.C_drew ?_))); (case side4 => exact (Kd.R_reads' HO547.out).2.1); rintro e w' ⟨rfl, ⟨nd, rfl⟩⟩; refine ⟨_, rfl, ?_⟩) | ((with_reducible refine gate_callee (f := 15) rfl ?_); refine goesL_ (some 67) rfl rfl Tryd.func15 (by kernel_rfl) rfl #[.slice A1 l1.length c1, .slice Ao29 y548.length co29] rfl (by (try simp only [List.map_toArray, List.map_cons, List.map_nil]); first | done | rfl | (simp only [List.length_drop, List.length_take]; rfl)) ?_; (with_reducible refine (gudgeonref01_Same.calls kj4 _ _ l1 _ _ y548 t575 _ ?side1 ?side2 ?side3 ?side4 A19.out).mono ?_); (case side1 => repeat (first | exact (Kd.C_below HR1.out (by repeat (first | (with_reducible first | exact HB.out | apply below_alloc | apply pw_below_drewN | apply below_drew1) | exact HB.out))) | (with_reducible refine Kd.C_alloc ?_ _) | (with_reducible refine Kd.C_drewN ?_ _) | (with_reducible refine Kd.C_drew ?_))); (case side2 => exact HC1.out); (case side3 => repeat (first | exact (Kd.R_reads' HO550.out).2.2 | (with_reducible refine Kd.C_alloc ?_ _) | (with_reducible refine Kd.C_drewN ?_ _) | (with_reducible refine Kd.C_drew ?_))); (case side4 => exact (Kd.R_reads' HO550.out).2.1); rintro e w' ⟨rfl, ⟨nd, rfl⟩⟩; refine ⟨_, rfl, ?_⟩))
           go_ret
           exact ⟨by first | rfl | (simp [errW_none, errW_some] <;> rfl) | (simp [*, errW_none, errW_some] <;> rfl), by repeat (first | (with_reducible first | exact HB.out | apply below_alloc | apply pw_below_drewN | apply below_drew1) | exact HB.out)⟩
          ·replace c24 := Bool.eq_false_iff.mpr c24
           subst c24
           have H1 : (none) = some r := by rw [if_neg (show ¬ (false = true) by decide)] at H; exact H
           clear H
           have H := H1
           clear H1
           exact absurd H (by simp)
         ·rw [if_neg c23] at H
          exact absurd H (by simp)
        ·replace c22 := Bool.eq_false_iff.mpr c22
         subst c22
         have H1 : (none) = some r := by rw [if_neg (show ¬ (false = true) by decide)] at H; exact H
         clear H
         have H := H1
         clear H1
         exact absurd H (by simp)
       ·replace c21 := Bool.eq_false_iff.mpr c21
        subst c21
        have H1 : (none) = some r := by rw [if_neg (show ¬ (false = true) by decide)] at H; exact H
        clear H
        have H := H1
        clear H1
        exact absurd H (by simp)
      ·replace c20 := Bool.eq_false_iff.mpr c20
       subst c20
       have H1 : (none) = some r := by rw [if_neg (show ¬ (false = true) by decide)] at H; exact H
       clear H
       have H := H1
       clear H1
       exact absurd H (by simp)
     ·rw [if_neg c10] at H
      exact absurd H (by simp)
    ·rw [if_neg c9] at H
     exact absurd H (by simp)

/-- THE ONE PURE STATEMENT of gudgeonlaw01_NatParts: yours. -/
def gudgeonlaw01_NatParts.Pure : Prop := ∀ (l0 : List Int) (l1 : List Int), l0.length ≤ maxLen → l0.length * 4 ≤ 140737488351232 → (∀ x ∈ l0, (Lit.int .u32 x).wf = true) → l1.length ≤ maxLen → l1.length * 4 ≤ 140737488351232 → (∀ x ∈ l1, (Lit.int .u32 x).wf = true) → ∃ k, gudgeonlaw01_NatParts.f k l0 l1 = some true
theorem gudgeonlaw01_NatParts.walk (P : gudgeonlaw01_NatParts.Pure) (a0 : Option Addr) (len0 cap0 : Nat) (z0 : List Int) (a1 : Option Addr) (len1 cap1 : Nat) (z1 : List Int) (w : World) (w0 : (a0 = none ∧ len0 = 0 ∧ cap0 = 0 ∧ z0 = []) ∨ ∃ x, a0 = some x ∧ len0 ≤ cap0 ∧ cap0 ≤ maxLen ∧ z0.length = cap0 ∧ (∀ i, i < z0.length → w.cell? (x.add i) = some (.int .u32 (z0.getD i 0))) ∧ ∀ n ∈ z0, (Lit.int .u32 n).wf = true) (y0 : len0 * 4 ≤ 140737488351232) (w1 : (a1 = none ∧ len1 = 0 ∧ cap1 = 0 ∧ z1 = []) ∨ ∃ x, a1 = some x ∧ len1 ≤ cap1 ∧ cap1 ≤ maxLen ∧ z1.length = cap1 ∧ (∀ i, i < z1.length → w.cell? (x.add i) = some (.int .u32 (z1.getD i 0))) ∧ ∀ n ∈ z1, (Lit.int .u32 n).wf = true) (y1 : len1 * 4 ≤ 140737488351232) :
  Calls Tryd.prog 3 #[.slice a0 len0 cap0, .slice a1 len1 cap1] w fun e w' => e = .returned (.bool true) ∧ Below w.heap.size w w' := by
 obtain ⟨l0, rfl, hr0, hm0, hw0, hc0⟩ := ReadsInt.ofRowC w0
 obtain ⟨l1, rfl, hr1, hm1, hw1, hc1⟩ := ReadsInt.ofRowC w1
 obtain ⟨k, h⟩ := P l0 l1 hm0 y0 hw0 hm1 y1 hw1
 refine (gudgeonlaw01_NatParts.calls k _ _ l0 _ _ l1 true w (Kd.C_of_reads (d := (0 : Int)) (h1 := fun _ => rfl) hr0) hc0 (Kd.C_of_reads (d := (0 : Int)) (h1 := fun _ => rfl) hr1) hc1 h).mono ?_
 rintro e w' ⟨rfl, hd⟩
 exact ⟨rfl, hd⟩

end Go.Proofs.YtlfpnohpcemkgaaDoor.PA
/- Numbers by limbs: what a list of limbs is worth, and its own form. -/
namespace Go.Proofs.YtlfpnohpcemkgaaDoor.V
set_option linter.unusedVariables false
set_option linter.unusedSimpArgs false

def bB : Int := 4294967296
/-- What limbs are worth. -/
def val : List Int → Int
  | [] => 0
  | x :: r => x + 4294967296 * val r
/-- Limbs of 32 bits. -/
def Lim (l : List Int) : Prop := ∀ x ∈ l, 0 ≤ x ∧ x < 4294967296
theorem Lim.nil : Lim [] := fun _ h => by cases h
theorem Lim.cons {x : Int} {l : List Int} (h0 : 0 ≤ x) (h1 : x < 4294967296) (h : Lim l) : Lim (x :: l) := fun y hy => by
  rcases List.mem_cons.1 hy with rfl | hy
  · exact ⟨h0, h1⟩
  · exact h y hy
theorem Lim.head {x : Int} {l : List Int} (h : Lim (x :: l)) : 0 ≤ x ∧ x < 4294967296 := h x List.mem_cons_self
theorem Lim.tail {x : Int} {l : List Int} (h : Lim (x :: l)) : Lim l := fun y hy => h y (List.mem_cons_of_mem _ hy)
theorem Lim.append {a b : List Int} (ha : Lim a) (hb : Lim b) : Lim (a ++ b) := fun y hy => by
  rcases List.mem_append.1 hy with hy | hy
  · exact ha y hy
  · exact hb y hy
theorem Lim.left {a b : List Int} (h : Lim (a ++ b)) : Lim a := fun y hy => h y (List.mem_append_left _ hy)
theorem Lim.right {a b : List Int} (h : Lim (a ++ b)) : Lim b := fun y hy => h y (List.mem_append_right _ hy)
theorem Lim.take {a : List Int} (n : Nat) (h : Lim a) : Lim (a.take n) := fun y hy => h y (List.mem_of_mem_take hy)
theorem Lim.drop {a : List Int} (n : Nat) (h : Lim a) : Lim (a.drop n) := fun y hy => h y (List.mem_of_mem_drop hy)
theorem Lim.get {l : List Int} (h : Lim l) (i : Nat) (hi : i < l.length) : 0 ≤ l[i] ∧ l[i] < 4294967296 := h _ (List.getElem_mem hi)
theorem Lim.set {l : List Int} (h : Lim l) (i : Nat) {x : Int} (h0 : 0 ≤ x) (h1 : x < 4294967296) : Lim (l.set i x) := fun y hy => by
  rcases List.mem_or_eq_of_mem_set hy with hy | rfl
  · exact h y hy
  · exact ⟨h0, h1⟩
theorem Lim.zeros (n : Nat) : Lim (List.replicate n 0) := fun y hy => by
  obtain rfl := List.eq_of_mem_replicate hy
  omega
theorem val_nonneg {l : List Int} (h : Lim l) : 0 ≤ val l := by
  induction l with
  | nil => simp [val]
  | cons x l ih =>
    have := ih h.tail
    have := h.head
    simp only [val]; omega
/-- The weight of the limb at a place. -/
def pw (n : Nat) : Int := 4294967296 ^ n
theorem pw_zero : pw 0 = 1 := rfl
theorem pw_succ (n : Nat) : pw (n + 1) = 4294967296 * pw n := by unfold pw; rw [Int.pow_succ]; omega
theorem pw_pos (n : Nat) : 0 < pw n := by
  induction n with
  | zero => decide
  | succ n ih => rw [pw_succ]; omega
theorem pw_add (m n : Nat) : pw (m + n) = pw m * pw n := by unfold pw; exact Int.pow_add ..
theorem val_lt {l : List Int} (h : Lim l) : val l < pw l.length := by
  induction l with
  | nil => simp [val, pw_zero]
  | cons x l ih =>
    have := ih h.tail
    have := h.head
    simp only [val, List.length_cons, pw_succ]; omega
theorem val_append (a b : List Int) : val (a ++ b) = val a + pw a.length * val b := by
  induction a with
  | nil => simp [val, pw_zero]
  | cons x a ih => simp only [List.cons_append, val, ih, List.length_cons, pw_succ]; grind
theorem val_zeros (n : Nat) : val (List.replicate n 0) = 0 := by
  induction n with
  | zero => rfl
  | succ n ih => simp only [List.replicate_succ, val, ih]; omega
/-- The limbs of a number, without noughts behind. -/
def digN (n : Nat) : List Int := if h : n = 0 then [] else ((n % 4294967296 : Nat) : Int) :: digN (n / 4294967296)
termination_by n
decreasing_by omega
def dig (n : Int) : List Int := digN n.toNat
theorem digN_lim (n : Nat) : Lim (digN n) := by
  induction n using Nat.strongRecOn with
  | _ n ih =>
    rw [digN]
    split
    · exact Lim.nil
    · exact Lim.cons (by omega) (by omega) (ih _ (by omega))
theorem val_digN (n : Nat) : val (digN n) = n := by
  induction n using Nat.strongRecOn with
  | _ n ih =>
    rw [digN]
    split
    · rename_i h; simp [val, h]
    · simp only [val]; rw [ih _ (by omega)]; omega
theorem dig_lim (n : Int) : Lim (dig n) := digN_lim _
theorem val_dig {n : Int} (h : 0 ≤ n) : val (dig n) = n := by unfold dig; rw [val_digN]; omega
theorem dig_zero : dig 0 = [] := by unfold dig; rw [digN]; rfl
theorem dig_eq_nil {n : Int} (h : 0 ≤ n) : dig n = [] ↔ n = 0 := by
  constructor
  · intro e
    have := val_dig h
    rw [e] at this
    exact this.symm
  · rintro rfl; exact dig_zero
theorem dig_cons {x n : Int} (h0 : 0 ≤ x) (h1 : x < 4294967296) (hn : 0 ≤ n) (h : x + 4294967296 * n ≠ 0) : dig (x + 4294967296 * n) = x :: dig n := by
  unfold dig
  rw [digN]
  rw [dif_neg (by omega)]
  have e1 : (((x + 4294967296 * n).toNat % 4294967296 : Nat) : Int) = x := by omega
  have e2 : (x + 4294967296 * n).toNat / 4294967296 = n.toNat := by omega
  rw [e1, e2]
theorem dig_length_le {n : Int} {k : Nat} (h0 : 0 ≤ n) (h : n < pw k) : (dig n).length ≤ k := by
  induction k generalizing n with
  | zero => rw [pw_zero] at h; rw [show n = 0 by omega, dig_zero]; simp
  | succ k ih =>
    rw [pw_succ] at h
    by_cases hn : n = 0
    · rw [hn, dig_zero]; simp
    · have e : n = n % 4294967296 + 4294967296 * (n / 4294967296) := by omega
      rw [e, dig_cons (by omega) (by omega) (by omega) (by omega)]
      have := ih (n := n / 4294967296) (by omega) (by omega)
      simp; omega
theorem lt_of_dig_length {n : Int} {k : Nat} (h0 : 0 ≤ n) (h : (dig n).length ≤ k) : n < pw k := by
  have := val_lt (dig_lim n)
  rw [val_dig h0] at this
  have hp : pw (dig n).length ≤ pw k := by
    obtain ⟨d, hd⟩ := Nat.exists_eq_add_of_le h
    rw [hd, pw_add]
    have := pw_pos (dig n).length
    have := pw_pos d
    calc pw (dig n).length = pw (dig n).length * 1 := by omega
      _ ≤ _ := Int.mul_le_mul_of_nonneg_left (by omega) (by omega)
  omega
/-- Without the noughts behind: as the machine's Norm. -/
theorem dropWhile_zeros (l : List Int) (h : Lim l) : (l.reverse.dropWhile (fun x => x == 0)).reverse = dig (val l) := by
  induction l with
  | nil => simp [val, dig_zero]
  | cons x l ih =>
    have ih := ih h.tail
    have hx := h.head
    have hv := val_nonneg h.tail
    simp only [val, List.reverse_cons]
    rw [List.dropWhile_append]
    by_cases hz : val l = 0
    · rw [hz, dig_zero] at ih
      have e : (List.dropWhile (fun x => x == 0) l.reverse) = [] := by simpa using ih
      rw [e, hz]
      by_cases h0 : x = 0
      · subst h0; simp [dig_zero]
      · have : dig (x + 4294967296 * 0) = x :: dig 0 := dig_cons (by omega) (by omega) (by omega) (by omega)
        rw [this, dig_zero]
        simp [h0]
    · have hne : dig (val l) ≠ [] := by rw [Ne, dig_eq_nil hv]; exact hz
      rw [dig_cons (by omega) (by omega) hv (by omega), ← ih]
      have e : (List.dropWhile (fun x => x == 0) l.reverse).isEmpty = false := by
        rw [← ih] at hne
        cases hd : List.dropWhile (fun x => x == 0) l.reverse with
        | nil => rw [hd] at hne; simp at hne
        | cons _ _ => rfl
      rw [e]; simp
theorem dig_val_of_last {l : List Int} (h : Lim l) (hl : ∀ hne : l ≠ [], l.getLast hne ≠ 0) : dig (val l) = l := by
  rw [← dropWhile_zeros l h]
  cases hr : l.reverse with
  | nil => simp [List.reverse_eq_nil_iff.1 hr]
  | cons x r =>
    obtain rfl : l = r.reverse ++ [x] := by rw [← List.reverse_reverse l, hr]; simp
    have hx : x ≠ 0 := by
      have := hl (by simp)
      simpa using this
    rw [List.dropWhile_cons_of_neg (by simpa using hx), ← hr, List.reverse_reverse]
theorem dig_last {n : Int} (hne : dig n ≠ []) : (dig n).getLast hne ≠ 0 := by
  have key : ∀ (m : Nat) (hne : digN m ≠ []), (digN m).getLast hne ≠ 0 := by
    intro m
    induction m using Nat.strongRecOn with
    | _ m ih =>
      rw [digN]
      split
      · intro h; exact absurd rfl h
      · intro _
        by_cases hd : digN (m / 4294967296) = []
        · have : m / 4294967296 = 0 := by
            have hv := val_digN (m / 4294967296)
            rw [hd] at hv
            simp only [val] at hv
            omega
          simp only [hd, List.getLast_singleton]
          omega
        · rw [List.getLast_cons hd]
          exact ih _ (by omega) hd
  exact key _ hne
theorem dig_inj {a b : Int} (ha : 0 ≤ a) (hb : 0 ≤ b) (h : dig a = dig b) : a = b := by
  rw [← val_dig ha, ← val_dig hb, h]
theorem val_take_getD (l : List Int) (i : Nat) : val (l.take (i + 1)) = val (l.take i) + pw i * l.getD i 0 := by
  by_cases h : i < l.length
  · rw [List.take_succ_eq_append_getElem h, val_append, List.length_take, Nat.min_eq_left (Nat.le_of_lt h)]
    simp [val, h]
  · rw [List.take_of_length_le (by omega), List.take_of_length_le (by omega), List.getD_eq_getElem?_getD, List.getElem?_eq_none (by omega)]
    simp
theorem val_set_take (l : List Int) (i : Nat) (x : Int) (h : i < l.length) : val ((l.set i x).take (i + 1)) = val (l.take i) + pw i * x := by
  rw [val_take_getD, List.take_set_of_le (Nat.le_refl i)]
  simp [List.getD_eq_getElem?_getD, h]
theorem val_set (l : List Int) (i : Nat) (x : Int) (h : i < l.length) : val (l.set i x) = val l + pw i * (x - l[i]) := by
  induction l generalizing i with
  | nil => simp at h
  | cons y l ih =>
    cases i with
    | zero => simp [val, pw_zero]; omega
    | succ i =>
      have := ih i (by simpa using h)
      simp only [List.set_cons_succ, val, this, pw_succ, List.getElem_cons_succ]
      grind
theorem val_take_le {l : List Int} (h : Lim l) (i : Nat) : val (l.take i) ≤ val l := by
  by_cases hi : i ≤ l.length
  · have e : val l = val (l.take i) + pw i * val (l.drop i) := by
      have := val_append (l.take i) (l.drop i)
      rwa [List.take_append_drop, List.length_take, Nat.min_eq_left hi] at this
    have := Int.mul_nonneg (Int.le_of_lt (pw_pos i)) (val_nonneg (h.drop i))
    omega
  · rw [List.take_of_length_le (by omega)]; exact Int.le_refl _
theorem lim_one {x : Int} (h0 : 0 ≤ x) (h1 : x < 4294967296) : Lim [x] := Lim.cons h0 h1 Lim.nil
theorem val_one (x : Int) : val [x] = x := by simp [val]
theorem val_take_drop (l : List Int) (i : Nat) (h : i ≤ l.length) : val l = val (l.take i) + pw i * val (l.drop i) := by
  have := val_append (l.take i) (l.drop i)
  rwa [List.take_append_drop, List.length_take, Nat.min_eq_left h] at this
theorem val_take_succ (l : List Int) (i : Nat) (h : i < l.length) : val (l.take (i + 1)) = val (l.take i) + pw i * l[i] := by
  rw [List.take_succ_eq_append_getElem h, val_append, List.length_take, Nat.min_eq_left (Nat.le_of_lt h)]
  simp [val]
theorem val_drop_cons (l : List Int) (i : Nat) (h : i < l.length) : val (l.drop i) = l[i] + 4294967296 * val (l.drop (i + 1)) := by
  rw [List.drop_eq_getElem_cons h]; rfl
end Go.Proofs.YtlfpnohpcemkgaaDoor.V
/- What nat's functions compute, as numbers: the order, sums, differences, products, a number by a small one, moved bits. -/
namespace Go.Proofs.YtlfpnohpcemkgaaDoor.V
set_option linter.unusedVariables false
set_option linter.unusedSimpArgs false
open Go.RowKit Go.Proofs.YtlfpnohpcemkgaaDoor.PA Go.Proofs.YtlfpnohpcemkgaaDoor.H Go.Proofs.YtlfpnohpcemkgaaDoorW.PrintWords Go.Proofs.YtlfpnohpcemkgaaDoorW.PrintLast Go.Proofs.YtlfpnohpcemkgaaDoorW.PrintMore

theorem w64 {x : Int} (h0 : -9223372036854775808 ≤ x) (h1 : x ≤ 9223372036854775807) : wrap64 x = x := by unfold wrap64; omega
theorem w01 : wrap64 1 = 1 := w64 (by omega) (by omega)
theorem w11 : wrap64 2 = 2 := w64 (by omega) (by omega)
theorem w21 : wrap64 3 = 3 := w64 (by omega) (by omega)
theorem wm1 : wrap64 (-1) = -1 := w64 (by omega) (by omega)
theorem wm2 : wrap64 (-2) = -2 := w64 (by omega) (by omega)
theorem wm0 : wrap64 0 = 0 := w64 (by omega) (by omega)
theorem u64 {x : Int} (h0 : 0 ≤ x) (h1 : x < 18446744073709551616) : IntKind.u64.wrap x = x := by rw [IntKind.wrap_u64]; omega
theorem u64e (x : Int) : IntKind.u64.wrap x = x % 18446744073709551616 := IntKind.wrap_u64 x
theorem rd_get (l : List Int) (i : Nat) (h : i < l.length) : rd l (i : Int) = l[i] := by simp [rd, h]
theorem rd_D (l : List Int) (i : Nat) : rd l (i : Int) = l.getD i 0 := by simp [rd]
theorem Lim.getD {l : List Int} (h : Lim l) (i : Nat) : 0 ≤ l.getD i 0 ∧ l.getD i 0 < 4294967296 := by
  by_cases hi : i < l.length
  · have := h.get i hi
    simpa [List.getD_eq_getElem?_getD, hi] using this
  · rw [List.getD_eq_getElem?_getD, List.getElem?_eq_none (by omega)]
    simp
theorem norm_ev (l : List Int) (h : Lim l) (hn : l.length ≤ 1000000000000) : nat_Norm.f l = some (dig (val l)) := by
  unfold nat_Norm.f
  rw [if_pos hn]
  unfold normL
  rw [dropWhile_zeros l h]
theorem limb_ev (l : List Int) (i : Nat) (h : Lim l) : nat_limb.f l (i : Int) = some (l.getD i 0) := by
  have hg := h.getD i
  unfold nat_limb.f
  by_cases hi : i < l.length
  · rw [if_neg (by omega), if_pos (by omega), if_pos (by omega), rd_D, u64 hg.1 (by omega)]
  · rw [if_pos (by omega), List.getD_eq_getElem?_getD, List.getElem?_eq_none (by omega)]
    rfl
theorem sign_ev (n : Int) : nat_sign.f n = some (if n < 0 then -1 else if n > 0 then 1 else 0) := by
  unfold nat_sign.f
  split
  · rfl
  · split <;> rfl
/-- The order of two numbers. -/
def cmpI (a b : Int) : Int := if a < b then -1 else if b < a then 1 else 0
theorem val_lt_of_length {a b : List Int} (ha : Lim a) (hb : Lim b) (hl : a.length < b.length) (hne : ∀ h : b ≠ [], b.getLast h ≠ 0) : val a < val b := by
  have h1 := val_lt ha
  obtain ⟨b', x, rfl⟩ : ∃ b' x, b = b' ++ [x] := by
    have hb0 : b ≠ [] := by rintro rfl; simp at hl
    exact ⟨b.dropLast, b.getLast hb0, (List.dropLast_concat_getLast hb0).symm⟩
  have hx : x ≠ 0 := by simpa using hne (by simp)
  have hx0 := (hb x (by simp)).1
  rw [val_append]
  have h2 := val_nonneg hb.left
  have h3 : pw a.length ≤ pw b'.length := by
    simp at hl
    obtain ⟨d, hd⟩ := Nat.exists_eq_add_of_le (show a.length ≤ b'.length by omega)
    rw [hd, pw_add]
    have := pw_pos a.length
    have := pw_pos d
    calc pw a.length = pw a.length * 1 := by omega
      _ ≤ _ := Int.mul_le_mul_of_nonneg_left (by omega) (by omega)
  have h4 : pw b'.length * 1 ≤ pw b'.length * val [x] := Int.mul_le_mul_of_nonneg_left (by simp [val]; omega) (Int.le_of_lt (pw_pos _))
  omega
theorem cmp_l0 (a b : List Int) (ha : Lim a) (hb : Lim b) (hl : a.length = b.length) (hn : a.length ≤ 1000000000000) (d : Nat) (hd : d ≤ a.length) (he : a.drop d = b.drop d) :
    Ev (fun k => nat_Cmp.l0 k a b ((d : Int) - 1)) (cmpI (val a) (val b)) := by
  induction d with
  | zero =>
    simp only [List.drop_zero] at he
    refine Ev.step (f := fun _ => some _) (fun k => ?_) (Ev.now _)
    simp only [nat_Cmp.l0]
    rw [if_neg (by omega), he]
    unfold cmpI
    rw [if_neg (by omega), if_neg (by omega)]
  | succ d ih =>
    have hda : d < a.length := by omega
    have hdb : d < b.length := by omega
    have e0 : ((d + 1 : Nat) : Int) - 1 = (d : Int) := by omega
    rw [e0]
    have xa := ha.get d hda
    have xb := hb.get d hdb
    by_cases hx : a[d] = b[d]
    · refine Ev.step (fun k => ?_) (ih (by omega) (by rw [List.drop_eq_getElem_cons hda, List.drop_eq_getElem_cons hdb, he, hx]))
      simp only [nat_Cmp.l0]
      rw [if_pos (by omega), if_pos (by omega), if_pos (by omega), if_pos (by omega), rd_get _ _ hda, rd_get _ _ hdb, if_pos hx, w64 (by omega) (by omega)]
    · refine Ev.step (f := fun _ => some _) (fun k => ?_) (Ev.now _)
      simp only [nat_Cmp.l0]
      rw [if_pos (by omega), if_pos (by omega), if_pos (by omega), if_pos (by omega), rd_get _ _ hda, rd_get _ _ hdb, if_neg hx, w64 (x := a[d]) (by omega) (by omega), w64 (x := b[d]) (by omega) (by omega), w64 (by omega) (by omega), sign_ev]
      simp only [Option.bind_some]
      have e1 := val_take_drop a (d + 1) hd
      have e2 := val_take_drop b (d + 1) (by omega)
      rw [he] at e1
      rw [val_take_succ a d hda] at e1
      rw [val_take_succ b d hdb] at e2
      have b1 := val_nonneg (ha.take d)
      have b2 := val_nonneg (hb.take d)
      have b3 := val_lt (ha.take d)
      have b4 := val_lt (hb.take d)
      rw [List.length_take, Nat.min_eq_left (by omega)] at b3 b4
      unfold cmpI
      congr 1
      by_cases hlt : a[d] < b[d]
      · have h5 : pw d * (a[d] + 1) ≤ pw d * b[d] := Int.mul_le_mul_of_nonneg_left (by omega) (Int.le_of_lt (pw_pos _))
        rw [Int.mul_add, Int.mul_one] at h5
        rw [if_pos (by omega), if_pos (by omega)]
      · have h5 : pw d * (b[d] + 1) ≤ pw d * a[d] := Int.mul_le_mul_of_nonneg_left (by omega) (Int.le_of_lt (pw_pos _))
        rw [Int.mul_add, Int.mul_one] at h5
        rw [if_neg (by omega), if_pos (by omega), if_neg (by omega), if_pos (by omega)]
theorem dig_length (l : List Int) (h : Lim l) : (dig (val l)).length ≤ l.length := dig_length_le (val_nonneg h) (val_lt h)
theorem cmp_ev (a b : List Int) (ha : Lim a) (hb : Lim b) (hna : a.length ≤ 1000000000000) (hnb : b.length ≤ 1000000000000) : Ev (fun k => nat_Cmp.f k a b) (cmpI (val a) (val b)) := by
  have va := val_nonneg ha
  have vb := val_nonneg hb
  have la := dig_length a ha
  have lb := dig_length b hb
  by_cases hl : (dig (val a)).length = (dig (val b)).length
  · have := cmp_l0 (dig (val a)) (dig (val b)) (dig_lim _) (dig_lim _) hl (by omega) _ (Nat.le_refl _) (by rw [List.drop_eq_nil_of_le (by omega), List.drop_eq_nil_of_le (by omega)])
    rw [val_dig va, val_dig vb] at this
    refine Ev.congr (fun k => ?_) this
    unfold nat_Cmp.f
    rw [norm_ev a ha hna, norm_ev b hb hnb]
    simp only [Option.bind_some]
    rw [if_pos (by omega), w64 (by omega) (by omega)]
  · refine Ev.congr (f := fun _ => some _) (fun k => ?_) (Ev.now _)
    unfold nat_Cmp.f
    rw [norm_ev a ha hna, norm_ev b hb hnb]
    simp only [Option.bind_some]
    rw [if_neg (by omega), w64 (by omega) (by omega), sign_ev]
    simp only [Option.bind_some]
    congr 1
    unfold cmpI
    by_cases hlt : (dig (val a)).length < (dig (val b)).length
    · have := val_lt_of_length (dig_lim _) (dig_lim _) hlt (fun h => dig_last h)
      rw [val_dig va, val_dig vb] at this
      rw [if_pos (by omega), if_pos (by omega)]
    · have := val_lt_of_length (dig_lim _) (dig_lim _) (show (dig (val b)).length < (dig (val a)).length by omega) (fun h => dig_last h)
      rw [val_dig va, val_dig vb] at this
      rw [if_neg (by omega), if_pos (by omega), if_neg (by omega), if_pos (by omega)]
theorem of_ev (n : Int) (h0 : 0 ≤ n) (h1 : n < 18446744073709551616) : nat_Of.f n = some (dig n) := by
  unfold nat_Of.f
  rw [norm_ev _ (Lim.cons (by omega) (by omega) (Lim.cons (by omega) (by omega) Lim.nil)) (by simp)]
  simp only [Option.bind_some, val]
  congr 2
  omega
theorem pw_le_pw {a b : Nat} (h : a ≤ b) : pw a ≤ pw b := by
  obtain ⟨d, rfl⟩ := Nat.exists_eq_add_of_le h
  rw [pw_add]
  have := pw_pos a
  have := pw_pos d
  calc pw a = pw a * 1 := by omega
    _ ≤ _ := Int.mul_le_mul_of_nonneg_left (by omega) (by omega)

/-! ### sums -/
theorem step_add {P V A Bv c x y q r : Int} (h : V + P * c = A + Bv) (e : r + 4294967296 * q = c + (x + y)) : V + P * r + (4294967296 * P) * q = A + P * x + (Bv + P * y) := by grind
theorem add_l0 (a b : List Int) (ha : Lim a) (hb : Lim b) (n : Nat) (hna : a.length < n) (hnb : b.length < n) (hn : n ≤ 1000000000000) (d : Nat) : ∀ (i : Nat) (out : List Int) (c : Int), i + d = n → out.length = n → Lim out → 0 ≤ c → c ≤ 1 → val (out.take i) + pw i * c = val (a.take i) + val (b.take i) →
    Ev (fun k => nat_Add.l0 k a b out c (n : Int) (i : Int)) (dig (val a + val b)) := by
  induction d with
  | zero =>
    intro i out c hi ho hL c0 c1 hv
    obtain rfl : i = n := by omega
    refine Ev.step (f := fun _ => some _) (fun k => ?_) (Ev.now _)
    simp only [nat_Add.l0]
    rw [if_neg (by omega), norm_ev out hL (by omega)]
    simp only [Option.bind_some]
    rw [List.take_of_length_le (by omega), List.take_of_length_le (by omega), List.take_of_length_le (by omega)] at hv
    have h1 := val_lt ha
    have h2 := val_lt hb
    have h3 := val_nonneg hL
    obtain ⟨m, rfl⟩ : ∃ m, i = m + 1 := ⟨i - 1, by omega⟩
    have h4 := pw_le_pw (show a.length ≤ m by omega)
    have h5 := pw_le_pw (show b.length ≤ m by omega)
    have h6 := pw_succ m
    have h7 := pw_pos m
    have hc : c = 0 := by
      by_cases hc : c = 0
      · exact hc
      · have : c = 1 := by omega
        subst this
        omega
    subst hc
    congr 2
    omega
  | succ d ih =>
    intro i out c hi ho hL c0 c1 hv
    have ga := ha.getD i
    have gb := hb.getD i
    have hio : i < out.length := by omega
    refine Ev.step (fun k => ?_) (ih (i + 1) (out.set i ((c + (a.getD i 0 + b.getD i 0)) % 4294967296)) ((c + (a.getD i 0 + b.getD i 0)) / 4294967296) (by omega) (by simpa using ho) (hL.set i (by omega) (by omega)) (by omega) (by omega) ?_)
    · simp only [nat_Add.l0]
      rw [if_pos (by omega), limb_ev a i ha, limb_ev b i hb]
      simp only [Option.bind_some]
      rw [if_pos (by omega), if_pos (by omega), u64 (x := a.getD i 0 + b.getD i 0) (by omega) (by omega), u64 (by omega) (by omega), w64 (by omega) (by omega), Int.toNat_natCast]
      rfl
    · rw [val_set_take _ _ _ hio, val_take_getD a, val_take_getD b, pw_succ]
      exact step_add hv (by omega)
theorem mx_len (a b : List Int) : mx (a.length : Int) (b.length : Int) = ((max a.length b.length : Nat) : Int) := by unfold mx; split <;> omega
theorem add_ev (a b : List Int) (ha : Lim a) (hb : Lim b) (hna : a.length < 1000000000) (hnb : b.length < 1000000000) : Ev (fun k => nat_Add.f k a b) (dig (val a + val b)) := by
  have := add_l0 a b ha hb (max a.length b.length + 1) (by omega) (by omega) (by omega) (max a.length b.length + 1) 0 (List.replicate (max a.length b.length + 1) 0) 0 (by omega) (by simp) (Lim.zeros _) (by omega) (by omega) (by simp [val])
  refine Ev.congr (fun k => ?_) this
  unfold nat_Add.f
  rw [mx_len, w64 (by omega) (by omega), if_pos (by omega), if_pos (by omega)]
  congr 1 <;> omega

end Go.Proofs.YtlfpnohpcemkgaaDoor.V
/- Are two lists the same? -/
namespace Go.Proofs.YtlfpnohpcemkgaaDoor.V
set_option linter.unusedVariables false
set_option linter.unusedSimpArgs false
open Go.RowKit Go.Proofs.YtlfpnohpcemkgaaDoor.PA Go.Proofs.YtlfpnohpcemkgaaDoor.H Go.Proofs.YtlfpnohpcemkgaaDoorW.PrintWords Go.Proofs.YtlfpnohpcemkgaaDoorW.PrintLast Go.Proofs.YtlfpnohpcemkgaaDoorW.PrintMore

/-! ### equality -/
theorem same_l0 (a b : List Int) (hl : a.length = b.length) (hn : a.length ≤ 1000000000) (d : Nat) : ∀ i : Nat, i + d = a.length → a.take i = b.take i → Ev (fun k => gudgeonref01_Same.l0 k a b (i : Int)) (decide (a = b)) := by
  induction d with
  | zero =>
    intro i hi he
    rw [List.take_of_length_le (by omega), List.take_of_length_le (by omega)] at he
    refine Ev.step (f := fun _ => some _) (fun k => ?_) (Ev.now _)
    simp only [gudgeonref01_Same.l0]
    rw [if_neg (by omega), decide_eq_true he]
  | succ d ih =>
    intro i hi he
    have hia : i < a.length := by omega
    have hib : i < b.length := by omega
    by_cases hx : a[i] = b[i]
    · refine Ev.step (fun k => ?_) (ih (i + 1) (by omega) (by rw [List.take_succ_eq_append_getElem hia, List.take_succ_eq_append_getElem hib, he, hx]))
      simp only [gudgeonref01_Same.l0]
      rw [if_pos (by omega), if_pos (by omega), if_pos (by omega), rd_get _ _ hia, rd_get _ _ hib, if_pos hx, w64 (by omega) (by omega)]
      rfl
    · refine Ev.step (f := fun _ => some _) (fun k => ?_) (Ev.now _)
      simp only [gudgeonref01_Same.l0]
      rw [if_pos (by omega), if_pos (by omega), if_pos (by omega), rd_get _ _ hia, rd_get _ _ hib, if_neg hx, decide_eq_false]
      intro h
      subst h
      exact hx rfl
theorem same_ev (a b : List Int) (hn : a.length ≤ 1000000000) : Ev (fun k => gudgeonref01_Same.f k a b) (decide (a = b)) := by
  by_cases hl : a.length = b.length
  · refine Ev.congr (fun k => ?_) (same_l0 a b hl hn a.length 0 (by omega) rfl)
    unfold gudgeonref01_Same.f
    rw [if_pos (by omega)]
    rfl
  · refine Ev.congr (f := fun _ => some _) (fun k => ?_) (Ev.now _)
    unfold gudgeonref01_Same.f
    rw [if_neg (by omega), decide_eq_false]
    intro h
    exact hl (by rw [h])
theorem same_self (a b : List Int) (h : a = b) (hn : a.length ≤ 1000000000) : Ev (fun k => gudgeonref01_Same.f k a b) true := by
  have := same_ev a b hn
  rwa [decide_eq_true h] at this
end Go.Proofs.YtlfpnohpcemkgaaDoor.V
/- What the laws of nat have in common. -/
namespace Go.Proofs.YtlfpnohpcemkgaaDoor.S
set_option linter.unusedVariables false
set_option linter.unusedSimpArgs false
open Go.RowKit Go.Proofs.YtlfpnohpcemkgaaDoor.V Go.Proofs.YtlfpnohpcemkgaaDoor.PA Go.Proofs.YtlfpnohpcemkgaaDoor.H Go.Proofs.YtlfpnohpcemkgaaDoorW.PrintWords Go.Proofs.YtlfpnohpcemkgaaDoorW.PrintLast Go.Proofs.YtlfpnohpcemkgaaDoorW.PrintMore

theorem evC {α β : Type} {o : Option α} {f : Nat → α → Option β} {a : α} {r : β} (h : o = some a) (k : Ev (fun n => f n a) r) : Ev (fun n => o.bind (f n)) r := by
  subst h; exact k
theorem evP {α : Type} {c : Prop} [Decidable c] {f g : Nat → Option α} {r : α} (h : c) (k : Ev f r) : Ev (fun n => if c then f n else g n) r := by
  simp only [if_pos h]; exact k
theorem evN {α : Type} {c : Prop} [Decidable c] {f g : Nat → Option α} {r : α} (h : ¬ c) (k : Ev g r) : Ev (fun n => if c then f n else g n) r := by
  simp only [if_neg h]; exact k
theorem evR {α : Type} {a r : α} (h : a = r) : Ev (fun _ => some a) r := by subst h; exact Ev.now _
theorem lim_wf {l : List Int} (h : ∀ x ∈ l, (Lit.int .u32 x).wf = true) : Lim l := fun x hx => by have := bounds_u32 (h x hx); omega
theorem len_add {x y : Int} (hx : 0 ≤ x) (hy : 0 ≤ y) : (dig (x + y)).length ≤ max (dig x).length (dig y).length + 1 := by
  have h1 := lt_of_dig_length hx (Nat.le_max_left (dig x).length (dig y).length)
  have h2 := lt_of_dig_length hy (Nat.le_max_right (dig x).length (dig y).length)
  exact dig_length_le (by omega) (by rw [pw_succ]; omega)
theorem len_mul {x y : Int} (hx : 0 ≤ x) (hy : 0 ≤ y) : (dig (x * y)).length ≤ (dig x).length + (dig y).length := by
  have h1 := lt_of_dig_length hx (Nat.le_refl _)
  have h2 := lt_of_dig_length hy (Nat.le_refl _)
  refine dig_length_le (Int.mul_nonneg hx hy) ?_
  rw [pw_add]
  have a1 : x * y ≤ x * pw (dig y).length := Int.mul_le_mul_of_nonneg_left (by omega) hx
  have a2 : x * pw (dig y).length < pw (dig x).length * pw (dig y).length := Int.mul_lt_mul_of_pos_right h1 (pw_pos _)
  omega
theorem len_le {x y : Int} (hx : 0 ≤ x) (h : x ≤ y) : (dig x).length ≤ (dig y).length := by
  have h1 := lt_of_dig_length (n := y) (by omega) (Nat.le_refl _)
  exact dig_length_le hx (by omega)
theorem digs {l : List Int} (h : Lim l) (hl : ∀ hne : l ≠ [], l.getLast hne ≠ 0) {v : Int} (hv : val l = v) : dig v = l := by rw [← hv]; exact dig_val_of_last h hl
theorem dig_one {x : Int} (h0 : 0 < x) (h1 : x < 4294967296) : dig x = [x] := digs (lim_one (by omega) h1) (by intro _; simp; omega) (val_one x)
theorem lim01 : Lim [0, 1] := Lim.cons (by omega) (by omega) (lim_one (by omega) (by omega))
theorem dig01 : dig 4294967296 = [0, 1] := digs lim01 (by intro _; simp) (by simp [val])
theorem awake_ev : Ev (fun _ => gudgeonlaw01_awake.f) true := Ev.now _
theorem few_ev (a b : List Int) (n : Nat) : gudgeonlaw01_few.f a b (n : Int) = some (decide (a.length ≤ n) && decide (b.length ≤ n)) := by
  unfold gudgeonlaw01_few.f
  by_cases h : a.length ≤ n
  · rw [if_pos (by omega), decide_eq_true h, Bool.true_and]
    congr 1
    rw [Bool.eq_iff_iff]
    simp
  · rw [if_neg (by omega), decide_eq_false h, Bool.false_and]
theorem few_no {a b : List Int} {n : Nat} (h : ¬ (a.length ≤ n ∧ b.length ≤ n)) : (decide (a.length ≤ n) && decide (b.length ≤ n)) = false := by
  rw [Bool.and_eq_false_iff]
  simp only [decide_eq_false_iff_not]
  omega
end Go.Proofs.YtlfpnohpcemkgaaDoor.S
