/- Joined by wip/tools/shake.py for the claim of WordPuts: PAx7, PAx8, PAx9, WrdA, WrdB, WrdC, WrdD, LawWordPuts. -/
import Derived.Test.YtbigeaknbhmniaaJWordPuts2
import Derived.Test.YtbigeaknbhmniaaJWordPuts4
import Derived.KernelRfl
import Derived.Test.YtbigeaknbhmniaaRows
import Derived.WalkKit
import Derived.ProofKit
import Derived.OpenShut
import Derived.ShutString
import Derived.ChangeOld
import Derived.Below
import Derived.SizedLaws
import Derived.Lib.SmallJoins
import Derived.ChangeSlices
import Derived.Deep.SlicePairs
/- Written by a program of this session, wip/tools/patch_print.py, over the kit's print of the loaded functions. -/
namespace Go.Proofs.Ytbigeaknbhmniaa.H
end Go.Proofs.Ytbigeaknbhmniaa.H
namespace Go.Proofs.Ytbigeaknbhmniaa.PA
open Go.RowKit Go.Proofs.YtbigeaknbhmniaaW.PrintWords Go.Proofs.YtbigeaknbhmniaaW.PrintLast Go.Proofs.YtbigeaknbhmniaaW.PrintMore Go.Proofs.Ytbigeaknbhmniaa.H
attribute [local go_sem] max2_int min2_int max_two min_two max_three min_three max_four min_four   -- for this text's walks alone
attribute [local go_sem] box_twice
set_option linter.unusedVariables false
set_option linter.unusedSimpArgs false

/-! ### gudgeonref08_Len: function 41 -/
def gudgeonref08_Len.l0 : Nat → List (S71) → Int → Int → Option (Int)
 | 0, _, _, _ => none
 | k + 1, x0, x4, x5 => if x5 < (x0.length : Int) then (if 0 ≤ x5 then (gudgeonref08_Len.l0 k x0 (wrap64 (x4 + ((rd_T71 x0 x5).f1))) (wrap64 (x5 + 1))) else (none)) else (some x4)
def gudgeonref08_Len.f (k : Nat) (l0 : List (S71)) : Option (Int) := (gudgeonref08_May.f k l0).bind fun t287 => (if t287 = true then (gudgeonref08_Len.l0 k l0 0 0) else (some 0))
set_option maxHeartbeats 8000000 in
set_option maxRecDepth 100000 in
theorem gudgeonref08_Len.calls (k : Nat) (A0 : Option Addr) (c0 : Nat) (l0 : List (S71)) (r : Int) (w : World) (hr0 : Kd.C k71 w A0 l0.length l0) (hc0 : l0.length ≤ c0) (h : gudgeonref08_Len.f k l0 = some r) :
  Calls Try.prog 41 #[.slice A0 l0.length c0] w fun e w' => e = .returned (.int .i64 r) ∧ Drawn0 w w' := by
 have HR0 := Aside0.mk hr0
 have HC0 := Aside0.mk hc0
 clear hr0 hc0
 have H : ((gudgeonref08_May.f k l0).bind fun t287 => (if t287 = true then (gudgeonref08_Len.l0 k l0 0 0) else (some 0))) = some r := h
 clear h
 replace H := Option.bind_eq_some_iff.mp H
 obtain ⟨t287, A20, H⟩ := H
 replace H : (if t287 = true then (gudgeonref08_Len.l0 k l0 0 0) else (some 0)) = some r := H
 have A2 := Aside0.mk A20
 clear A20
 by_cases c3 : t287 = true
 ·subst c3
  have H1 : (gudgeonref08_Len.l0 k l0 0 0) = some r := by rw [if_pos rfl] at H; exact H
  clear H
  have H := H1
  clear H1
  have H' := Aside0.mk H
  clear H
  go_enter Try.func41, Try.ntmps41
  go_wp2_with (first | ((with_reducible refine gate_callee (f := 40) rfl ?_); refine goesL_ (some 7) rfl rfl Try.func40 (by kernel_rfl) rfl #[.slice A0 l0.length c0] rfl (by (try simp only [List.map_toArray, List.map_cons, List.map_nil]); first | done | rfl | (simp only [List.length_drop, List.length_take]; rfl)) ?_; (with_reducible refine (gudgeonref08_May.calls k _ _ l0 true _ ?side1 ?side2 A2.out).mono ?_); (case side1 => repeat (first | exact HR0.out | (with_reducible refine Kd.C_alloc ?_ _) | (with_reducible refine Kd.C_drewN ?_ _) | (with_reducible refine Kd.C_drew ?_))); (case side2 => exact HC0.out); rintro e w' ⟨rfl, ⟨nd, rfl⟩⟩; refine ⟨_, rfl, ?_⟩))
  go_loopg [4, 5] k (fun kq v4 v5 w' => ∃ (x4_1 : Int) (x5_1 : Int), v4 = .int .i64 x4_1 ∧ v5 = .int .i64 x5_1 ∧ Aside0 (gudgeonref08_Len.l0 kq l0 x4_1 x5_1 = some r) ∧ Aside0 (kq ≤ k) ∧ Drawn0 w w')
  case atStart => exact ⟨(0), (0), (by first | rfl | (simp; done) | (simp [*]; done) | (refine congrArg (Value.int _) ?_; omega) | (refine congrArg Value.bool ?_; generalize ByteArray.toList _ = z_; cases z_ <;> rfl)), (by first | rfl | (simp; done) | (simp [*]; done) | (refine congrArg (Value.int _) ?_; omega) | (refine congrArg Value.bool ?_; generalize ByteArray.toList _ = z_; cases z_ <;> rfl)), H', ⟨Nat.le_refl _⟩, by repeat (first | exact Drawn0.refl _ | apply Drawn0.step)⟩
  case round =>
   clear H'
   try clear p2
   try clear c3
   obtain ⟨x4_1, x5_1, rfl, rfl, HA, HK1, ⟨m1, rfl⟩⟩ := hrel
   cases gk with
   | zero => exact absurd HA.out (by simp [gudgeonref08_Len.l0])
   | succ k1 =>
    have H := HA.out
    clear HA
    simp only [gudgeonref08_Len.l0] at H
    by_cases c4 : x5_1 < (l0.length : Int)
    ·rw [if_pos c4] at H
     have c4b0 : decide (x5_1 < (l0.length : Int)) = true := decide_eq_true c4
     clear c4
     by_cases c5 : 0 ≤ x5_1
     ·rw [if_pos c5] at H
      have c5b0 : decide (0 ≤ x5_1) = true := decide_eq_true c5
      clear c5
      have H' := Aside0.mk H
      clear H
      have p288 : 0 ≤ (x5_1 : Int) := of_decide_eq_true (by first | (with_reducible assumption) | assumption)
      have q288 : x5_1 < (l0.length : Int) := of_decide_eq_true (by first | (with_reducible assumption) | assumption)
      obtain ⟨ad288, e288, hx288_0, hx288_1⟩ := at_T71 HR0.out x5_1 p288 q288
      cases e288
      replace p288 := eq_true p288
      replace q288 := eq_true q288
      go_wp2
      go_roundg k1
      case measure => have := HK1.out; omega
      case rel => exact ⟨(wrap64 (x4_1 + ((rd_T71 l0 x5_1).f1))), (wrap64 (x5_1 + 1)), (by first | rfl | (simp; done) | (simp [*]; done) | (refine congrArg (Value.int _) ?_; omega) | (refine congrArg Value.bool ?_; generalize ByteArray.toList _ = z_; cases z_ <;> rfl)), (by first | rfl | (simp; done) | (simp [*]; done) | (refine congrArg (Value.int _) ?_; omega) | (refine congrArg Value.bool ?_; generalize ByteArray.toList _ = z_; cases z_ <;> rfl)), H', ⟨by have := HK1.out; omega⟩, by repeat (first | exact Drawn0.refl _ | apply Drawn0.step)⟩
     ·rw [if_neg c5] at H
      exact absurd H (by simp)
    ·rw [if_neg c4] at H
     have c4b0 : decide (x5_1 < (l0.length : Int)) = false := decide_eq_false c4
     clear c4
     obtain rfl := Option.some.inj H
     go_wp2
     go_ret
     exact ⟨by first | rfl | (simp; done) | (simp [*]; done) | (refine congrArg (fun z_ => Ending.returned (Value.bool z_)) ?_; generalize ByteArray.toList _ = z_; cases z_ <;> rfl) | (refine congrArg (Value.int _) ?_; omega) | (refine congrArg Value.bool ?_; generalize ByteArray.toList _ = z_; cases z_ <;> rfl), by repeat (first | exact Drawn0.refl _ | apply Drawn0.step)⟩
 ·replace c3 := Bool.eq_false_iff.mpr c3
  subst c3
  have H1 : (some 0) = some r := by rw [if_neg (show ¬ (false = true) by decide)] at H; exact H
  clear H
  have H := H1
  clear H1
  obtain rfl := Option.some.inj H
  go_enter Try.func41, Try.ntmps41
  go_wp2_with (first | ((with_reducible refine gate_callee (f := 40) rfl ?_); refine goesL_ (some 7) rfl rfl Try.func40 (by kernel_rfl) rfl #[.slice A0 l0.length c0] rfl (by (try simp only [List.map_toArray, List.map_cons, List.map_nil]); first | done | rfl | (simp only [List.length_drop, List.length_take]; rfl)) ?_; (with_reducible refine (gudgeonref08_May.calls k _ _ l0 false _ ?side1 ?side2 A2.out).mono ?_); (case side1 => repeat (first | exact HR0.out | (with_reducible refine Kd.C_alloc ?_ _) | (with_reducible refine Kd.C_drewN ?_ _) | (with_reducible refine Kd.C_drew ?_))); (case side2 => exact HC0.out); rintro e w' ⟨rfl, ⟨nd, rfl⟩⟩; refine ⟨_, rfl, ?_⟩))
  go_ret
  exact ⟨by first | rfl | (simp; done) | (simp [*]; done) | (refine congrArg (fun z_ => Ending.returned (Value.bool z_)) ?_; generalize ByteArray.toList _ = z_; cases z_ <;> rfl) | (refine congrArg (Value.int _) ?_; omega) | (refine congrArg Value.bool ?_; generalize ByteArray.toList _ = z_; cases z_ <;> rfl), by repeat (first | exact Drawn0.refl _ | apply Drawn0.step)⟩

/-! ### gudgeonref17_Of: function 12 -/
mutual
def gudgeonref17_Of.l0 : Nat → List (S71) → List (S69) → Int → Option ((List (S69)) × Int)
 | 0, _, _, _ => none
 | k + 1, x0, x5, x6 => if x6 < (x0.length : Int) then (gudgeonref17_Of.l1 k x0 x5 x6 0) else (some (x5, 0))
def gudgeonref17_Of.l1 : Nat → List (S71) → List (S69) → Int → Int → Option ((List (S69)) × Int)
 | 0, _, _, _, _ => none
 | k + 1, x0, x5, x6, x7 => if 0 ≤ x6 then (if x6 < (x0.length : Int) then (if x7 < ((rd_T71 x0 x6).f1) then (if x5.length < 8796093022208 then (gudgeonref17_Of.l1 k x0 (x5 ++ [(⟨(-1), (rd_T71 x0 x6).f0⟩ : S69)]) x6 (wrap64 (x7 + 1))) else (none)) else (gudgeonref17_Of.l0 k x0 x5 (wrap64 (x6 + 1)))) else (none)) else (none)
end
def gudgeonref17_Of.f (k : Nat) (l0 : List (S71)) : Option ((List (S69)) × Int) := (gudgeonref08_May.f k l0).bind fun t289 => (if t289 = true then ((gudgeonref08_Len.f k l0).bind fun t290 => (if t290 > 4000 then (some (([] : List (S69)), 2)) else (gudgeonref17_Of.l0 k l0 ([] : List (S69)) 0))) else (some (([] : List (S69)), 1)))
set_option maxHeartbeats 8000000 in
set_option maxRecDepth 100000 in
theorem gudgeonref17_Of.calls (k : Nat) (A0 : Option Addr) (c0 : Nat) (l0 : List (S71)) (r1 : List (S69)) (r2 : Int) (w : World) (hr0 : Kd.C k71 w A0 l0.length l0) (hc0 : l0.length ≤ c0) (h : gudgeonref17_Of.f k l0 = some (r1, r2)) :
  Calls Try.prog 12 #[.slice A0 l0.length c0] w fun e w' => ∃ v0_ : Value, e = .returned (.tuple #[v0_, .int .i64 r2]) ∧ Kd.R k69 69 w' w.heap.size (fun _ => True) v0_ r1 ∧ Below w.heap.size w w' := by
 have hu69 := Try.underlying69
 have HR0 := Aside0.mk hr0
 have HC0 := Aside0.mk hc0
 clear hr0 hc0
 have HB := Aside0.mk (Below.refl w.heap.size w)
 have H : ((gudgeonref08_May.f k l0).bind fun t289 => (if t289 = true then ((gudgeonref08_Len.f k l0).bind fun t290 => (if t290 > 4000 then (some (([] : List (S69)), 2)) else (gudgeonref17_Of.l0 k l0 ([] : List (S69)) 0))) else (some (([] : List (S69)), 1)))) = some (r1, r2) := h
 clear h
 replace H := Option.bind_eq_some_iff.mp H
 obtain ⟨t289, A20, H⟩ := H
 replace H : (if t289 = true then ((gudgeonref08_Len.f k l0).bind fun t290 => (if t290 > 4000 then (some (([] : List (S69)), 2)) else (gudgeonref17_Of.l0 k l0 ([] : List (S69)) 0))) else (some (([] : List (S69)), 1))) = some (r1, r2) := H
 have A2 := Aside0.mk A20
 clear A20
 by_cases c3 : t289 = true
 ·subst c3
  have H1 : ((gudgeonref08_Len.f k l0).bind fun t290 => (if t290 > 4000 then (some (([] : List (S69)), 2)) else (gudgeonref17_Of.l0 k l0 ([] : List (S69)) 0))) = some (r1, r2) := by rw [if_pos rfl] at H; exact H
  clear H
  have H := H1
  clear H1
  replace H := Option.bind_eq_some_iff.mp H
  obtain ⟨t290, A40, H⟩ := H
  replace H : (if t290 > 4000 then (some (([] : List (S69)), 2)) else (gudgeonref17_Of.l0 k l0 ([] : List (S69)) 0)) = some (r1, r2) := H
  have A4 := Aside0.mk A40
  clear A40
  by_cases c5 : t290 > 4000
  ·rw [if_pos c5] at H
   have c5b0 : decide (4000 < t290) = true := decide_eq_true c5
   clear c5
   simp only [Option.some.injEq, Prod.mk.injEq] at H
   obtain ⟨rfl, rfl⟩ := H
   go_enter Try.func12, Try.ntmps12
   go_wp2_with (first | ((with_reducible refine gate_callee (f := 40) rfl ?_); refine goesL_ (some 9) rfl rfl Try.func40 (by kernel_rfl) rfl #[.slice A0 l0.length c0] rfl (by (try simp only [List.map_toArray, List.map_cons, List.map_nil]); first | done | rfl | (simp only [List.length_drop, List.length_take]; rfl)) ?_; (with_reducible refine (gudgeonref08_May.calls k _ _ l0 true _ ?side1 ?side2 A2.out).mono ?_); (case side1 => repeat (first | exact HR0.out | (with_reducible refine Kd.C_alloc ?_ _) | (with_reducible refine Kd.C_drewN ?_ _) | (with_reducible refine Kd.C_drew ?_))); (case side2 => exact HC0.out); rintro e w' ⟨rfl, ⟨nd, rfl⟩⟩; refine ⟨_, rfl, ?_⟩) | ((with_reducible refine gate_callee (f := 41) rfl ?_); refine goesL_ (some 13) rfl rfl Try.func41 (by kernel_rfl) rfl #[.slice A0 l0.length c0] rfl (by (try simp only [List.map_toArray, List.map_cons, List.map_nil]); first | done | rfl | (simp only [List.length_drop, List.length_take]; rfl)) ?_; (with_reducible refine (gudgeonref08_Len.calls k _ _ l0 t290 _ ?side1 ?side2 A4.out).mono ?_); (case side1 => repeat (first | exact HR0.out | (with_reducible refine Kd.C_alloc ?_ _) | (with_reducible refine Kd.C_drewN ?_ _) | (with_reducible refine Kd.C_drew ?_))); (case side2 => exact HC0.out); rintro e w' ⟨rfl, ⟨nd, rfl⟩⟩; refine ⟨_, rfl, ?_⟩))
   go_ret2
   exact ⟨_, by first | rfl | (simp [errW_none, errW_some] <;> rfl) | (simp [*, errW_none, errW_some] <;> rfl), by first | exact Kd.R_nil _ _ _ _ _ | exact Kd.N_nil _ _ _ _ _ | exact Kd.V_nil _ _ _ _ _ | exact Kd.Q_nil _ _ _ _ _ | exact Kd.S_nil _ _ _ _ _, by repeat (first | (with_reducible first | exact HB.out | apply below_alloc | apply pw_below_drewN | apply below_drew1) | exact HB.out)⟩
  ·rw [if_neg c5] at H
   have c5b0 : decide (4000 < t290) = false := decide_eq_false c5
   clear c5
   have H' := Aside0.mk H
   clear H
   go_enter Try.func12, Try.ntmps12
   go_wp2_with (first | ((with_reducible refine gate_callee (f := 40) rfl ?_); refine goesL_ (some 9) rfl rfl Try.func40 (by kernel_rfl) rfl #[.slice A0 l0.length c0] rfl (by (try simp only [List.map_toArray, List.map_cons, List.map_nil]); first | done | rfl | (simp only [List.length_drop, List.length_take]; rfl)) ?_; (with_reducible refine (gudgeonref08_May.calls k _ _ l0 true _ ?side1 ?side2 A2.out).mono ?_); (case side1 => repeat (first | exact HR0.out | (with_reducible refine Kd.C_alloc ?_ _) | (with_reducible refine Kd.C_drewN ?_ _) | (with_reducible refine Kd.C_drew ?_))); (case side2 => exact HC0.out); rintro e w' ⟨rfl, ⟨nd, rfl⟩⟩; refine ⟨_, rfl, ?_⟩) | ((with_reducible refine gate_callee (f := 41) rfl ?_); refine goesL_ (some 13) rfl rfl Try.func41 (by kernel_rfl) rfl #[.slice A0 l0.length c0] rfl (by (try simp only [List.map_toArray, List.map_cons, List.map_nil]); first | done | rfl | (simp only [List.length_drop, List.length_take]; rfl)) ?_; (with_reducible refine (gudgeonref08_Len.calls k _ _ l0 t290 _ ?side1 ?side2 A4.out).mono ?_); (case side1 => repeat (first | exact HR0.out | (with_reducible refine Kd.C_alloc ?_ _) | (with_reducible refine Kd.C_drewN ?_ _) | (with_reducible refine Kd.C_drew ?_))); (case side2 => exact HC0.out); rintro e w' ⟨rfl, ⟨nd, rfl⟩⟩; refine ⟨_, rfl, ?_⟩))
   go_loopg [5, 6] k (fun kq v5 v6 w' => ∃ (x5_1 : List (S69)) (x6_1 : Int), v6 = .int .i64 x6_1 ∧ Aside0 (gudgeonref17_Of.l0 kq l0 x5_1 x6_1 = some (r1, r2)) ∧ Aside0 (kq ≤ k) ∧ Aside0 (Kd.R k69 69 w' w.heap.size (fun _ => True) v5 x5_1) ∧ Aside0 (Below w.heap.size w w'))
   case atStart => exact ⟨(([] : List (S69))), (0), (by first | rfl | (simp; done) | (simp [*]; done) | (refine congrArg (Value.int _) ?_; omega) | (refine congrArg Value.bool ?_; generalize ByteArray.toList _ = z_; cases z_ <;> rfl)), H', ⟨Nat.le_refl _⟩, ⟨by first | exact Kd.R_nil _ _ _ _ _ | exact Kd.N_nil _ _ _ _ _ | exact Kd.V_nil _ _ _ _ _ | exact Kd.Q_nil _ _ _ _ _ | exact Kd.S_nil _ _ _ _ _⟩, ⟨by repeat (first | (with_reducible first | exact HB.out | apply below_alloc | apply pw_below_drewN | apply below_drew1) | exact HB.out)⟩⟩
   case round =>
    clear H'
    try clear c1
    try clear p2
    try clear c3
    try clear c4
    try clear c5
    try clear c5b0
    obtain ⟨x5_1, x6_1, rfl, HA, HK1, HO_5, HB⟩ := hrel
    cases gk with
    | zero => exact absurd HA.out (by simp [gudgeonref17_Of.l0])
    | succ k1 =>
     have H := HA.out
     clear HA
     simp only [gudgeonref17_Of.l0] at H
     by_cases c6 : x6_1 < (l0.length : Int)
     ·rw [if_pos c6] at H
      have c6b0 : decide (x6_1 < (l0.length : Int)) = true := decide_eq_true c6
      clear c6
      have H' := Aside0.mk H
      clear H
      go_wp2
      go_loopg [5, 7] k1 (fun kq v5 v7 w' => ∃ (x5_2 : List (S69)) (x7_2 : Int), v7 = .int .i64 x7_2 ∧ Aside0 (gudgeonref17_Of.l1 kq l0 x5_2 x6_1 x7_2 = some (r1, r2)) ∧ Aside0 (kq ≤ k1) ∧ Aside0 (Kd.R k69 69 w' w.heap.size (fun _ => True) v5 x5_2) ∧ Aside0 (Below w.heap.size w w'))
      case atStart => exact ⟨(x5_1), (0), (by first | rfl | (simp; done) | (simp [*]; done) | (refine congrArg (Value.int _) ?_; omega) | (refine congrArg Value.bool ?_; generalize ByteArray.toList _ = z_; cases z_ <;> rfl)), H', ⟨Nat.le_refl _⟩, ⟨by (with_reducible repeat (first | apply Kd.R_alloc | apply Kd.R_drewN | apply Kd.R_drew)); exact HO_5.out⟩, ⟨by repeat (first | (with_reducible first | exact HB.out | apply below_alloc | apply pw_below_drewN | apply below_drew1) | exact HB.out)⟩⟩
      case round =>
       clear H'
       try clear c1
       try clear p2
       try clear c3
       try clear c4
       try clear c5
       try clear c5b0
       try clear c6
       try clear c6b0
       try clear p2
       obtain ⟨x5_2, x7_2, rfl, HA, HK2, HO_5, HB⟩ := hrel
       cases gk with
       | zero => exact absurd HA.out (by simp [gudgeonref17_Of.l1])
       | succ k2 =>
        have H := HA.out
        clear HA
        simp only [gudgeonref17_Of.l1] at H
        by_cases c7 : 0 ≤ x6_1
        ·rw [if_pos c7] at H
         have c7b0 : decide (0 ≤ x6_1) = true := decide_eq_true c7
         clear c7
         by_cases c8 : x6_1 < (l0.length : Int)
         ·rw [if_pos c8] at H
          have c8b0 : decide (x6_1 < (l0.length : Int)) = true := decide_eq_true c8
          clear c8
          by_cases c9 : x7_2 < ((rd_T71 l0 x6_1).f1)
          ·rw [if_pos c9] at H
           have c9b0 : decide (x7_2 < ((rd_T71 l0 x6_1).f1)) = true := decide_eq_true c9
           clear c9
           by_cases c10 : x5_2.length < 8796093022208
           ·rw [if_pos c10] at H
            have LMc10 := Aside0.mk c10
            clear c10
            obtain ⟨y293, hy293⟩ : ∃ y_ : List (S69), y_ = (x5_2 ++ [(⟨(-1), (rd_T71 l0 x6_1).f0⟩ : S69)]) := ⟨_, rfl⟩
            replace H : (gudgeonref17_Of.l1 k2 l0 y293 x6_1 (wrap64 (x7_2 + 1))) = some (r1, r2) := by first | (rw [hy293]; with_reducible exact H) | (have H2_ := (Option.bind_some _ _).symm.trans H; rw [hy293]; with_reducible exact H2_) | (have H2_ := (Option.bind_some _ _).symm.trans H; with_reducible exact H2_) | with_reducible exact H | (rw [hy293]; exact H) | exact H
            have Ny293 := Aside0.mk hy293
            clear hy293
            have H' := Aside0.mk H
            clear H
            have p291 : 0 ≤ (x6_1 : Int) := of_decide_eq_true (by first | (with_reducible assumption) | assumption)
            have q291 : x6_1 < (l0.length : Int) := of_decide_eq_true (by first | (with_reducible assumption) | assumption)
            obtain ⟨ad291, e291, hx291_0, hx291_1⟩ := at_T71 HR0.out x6_1 p291 q291
            cases e291
            replace hx291_0 := (HB.out.cell (World.block_lt_of_cell? w _ hx291_0)).trans hx291_0
            replace hx291_1 := (HB.out.cell (World.block_lt_of_cell? w _ hx291_1)).trans hx291_1
            replace p291 := eq_true p291
            replace q291 := eq_true q291
            have p292 : 0 ≤ (x6_1 : Int) := of_decide_eq_true (by first | (with_reducible assumption) | assumption)
            have q292 : x6_1 < (l0.length : Int) := of_decide_eq_true (by first | (with_reducible assumption) | assumption)
            obtain ⟨ad292, e292, hx292_0, hx292_1⟩ := at_T71 HR0.out x6_1 p292 q292
            obtain rfl : ad291 = ad292 := (by injection e292)
            replace hx292_0 := (HB.out.cell (World.block_lt_of_cell? w _ hx292_0)).trans hx292_0
            replace hx292_1 := (HB.out.cell (World.block_lt_of_cell? w _ hx292_1)).trans hx292_1
            replace p292 := eq_true p292
            replace q292 := eq_true q292
            go_wp2_with (first | ((with_reducible refine gate_builtin (b := .append) (xs := #[.tmp 30, .tmp 37]) rfl ?_); at_builtin; refine Kd.R_append k69 (w0 := w) w.heap.size rfl (.tmp 30) (.tmp 37) 23 69 (.agg #[(.int .i64 0), (.int .i64 0)]) 16 rfl Try.underlying23 info69 rfl (by decide) (by omega) u5 x5_2 (⟨(-1), (rd_T71 l0 x6_1).f0⟩ : S69) [.int .i64 (-1), .int .i64 ((rd_T71 l0 x6_1).f0)] (fun _ => True) (fun _ => False) rfl rfl ?aP (fun _ hk => hk.elim) ?aF ?aO ?aB ?aS ?aL ?_; (case aP => exact k69_mkM _ _ _ (⟨(-1), (rd_T71 l0 x6_1).f0⟩ : S69)); (case aB => exact (by repeat (first | (with_reducible first | exact HB.out | apply below_alloc | apply pw_below_drewN | apply below_drew1) | exact HB.out))); (case aF => exact (fun _ _ => trivial)); (case aO => exact (by (with_reducible repeat (first | apply Kd.R_alloc | apply Kd.R_drewN | apply Kd.R_drew)); exact HO_5.out)); (case aS => exact (below_size (by repeat (first | (with_reducible first | exact HB.out | apply below_alloc | apply pw_below_drewN | apply below_drew1) | exact HB.out)))); (case aL => have := LMc10.out; omega); intro v294 w11 ho hb hg hat; rw [← Ny293.out] at ho; have n0_ := Aside0.mk (hb); have n1_ := Aside0.mk (ho); clear HB; clear HO_5; have HB := n0_; have HO295 := n1_; clear n0_ n1_; clear ho hb hg hat))
            go_roundg k2
            case measure => have := HK1.out; have := HK2.out; omega
            case rel => exact ⟨(y293), (wrap64 (x7_2 + 1)), (by first | rfl | (simp; done) | (simp [*]; done) | (refine congrArg (Value.int _) ?_; omega) | (refine congrArg Value.bool ?_; generalize ByteArray.toList _ = z_; cases z_ <;> rfl)), H', ⟨by have := HK1.out; have := HK2.out; omega⟩, ⟨by (with_reducible repeat (first | apply Kd.R_alloc | apply Kd.R_drewN | apply Kd.R_drew)); exact HO295.out⟩, ⟨by repeat (first | (with_reducible first | exact HB.out | apply below_alloc | apply pw_below_drewN | apply below_drew1) | exact HB.out)⟩⟩
           ·rw [if_neg c10] at H
            exact absurd H (by simp)
          ·rw [if_neg c9] at H
           have c9b0 : decide (x7_2 < ((rd_T71 l0 x6_1).f1)) = false := decide_eq_false c9
           clear c9
           have H' := Aside0.mk H
           clear H
           have p291 : 0 ≤ (x6_1 : Int) := of_decide_eq_true (by first | (with_reducible assumption) | assumption)
           have q291 : x6_1 < (l0.length : Int) := of_decide_eq_true (by first | (with_reducible assumption) | assumption)
           obtain ⟨ad291, e291, hx291_0, hx291_1⟩ := at_T71 HR0.out x6_1 p291 q291
           cases e291
           replace hx291_0 := (HB.out.cell (World.block_lt_of_cell? w _ hx291_0)).trans hx291_0
           replace hx291_1 := (HB.out.cell (World.block_lt_of_cell? w _ hx291_1)).trans hx291_1
           replace p291 := eq_true p291
           replace q291 := eq_true q291
           go_wp2
           go_roundg k2
           case measure => have := HK1.out; have := HK2.out; omega
           case rel => exact ⟨(x5_2), (wrap64 (x6_1 + 1)), (by first | rfl | (simp; done) | (simp [*]; done) | (refine congrArg (Value.int _) ?_; omega) | (refine congrArg Value.bool ?_; generalize ByteArray.toList _ = z_; cases z_ <;> rfl)), H', ⟨by have := HK1.out; have := HK2.out; omega⟩, ⟨by (with_reducible repeat (first | apply Kd.R_alloc | apply Kd.R_drewN | apply Kd.R_drew)); exact HO_5.out⟩, ⟨by repeat (first | (with_reducible first | exact HB.out | apply below_alloc | apply pw_below_drewN | apply below_drew1) | exact HB.out)⟩⟩
         ·rw [if_neg c8] at H
          exact absurd H (by simp)
        ·rw [if_neg c7] at H
         exact absurd H (by simp)
     ·rw [if_neg c6] at H
      have c6b0 : decide (x6_1 < (l0.length : Int)) = false := decide_eq_false c6
      clear c6
      simp only [Option.some.injEq, Prod.mk.injEq] at H
      obtain ⟨rfl, rfl⟩ := H
      go_wp2
      go_ret2
      exact ⟨_, by first | rfl | (simp [errW_none, errW_some] <;> rfl) | (simp [*, errW_none, errW_some] <;> rfl), by (with_reducible repeat (first | apply Kd.R_alloc | apply Kd.R_drewN | apply Kd.R_drew)); exact HO_5.out, by repeat (first | (with_reducible first | exact HB.out | apply below_alloc | apply pw_below_drewN | apply below_drew1) | exact HB.out)⟩
 ·replace c3 := Bool.eq_false_iff.mpr c3
  subst c3
  have H1 : (some (([] : List (S69)), 1)) = some (r1, r2) := by rw [if_neg (show ¬ (false = true) by decide)] at H; exact H
  clear H
  have H := H1
  clear H1
  simp only [Option.some.injEq, Prod.mk.injEq] at H
  obtain ⟨rfl, rfl⟩ := H
  go_enter Try.func12, Try.ntmps12
  go_wp2_with (first | ((with_reducible refine gate_callee (f := 40) rfl ?_); refine goesL_ (some 9) rfl rfl Try.func40 (by kernel_rfl) rfl #[.slice A0 l0.length c0] rfl (by (try simp only [List.map_toArray, List.map_cons, List.map_nil]); first | done | rfl | (simp only [List.length_drop, List.length_take]; rfl)) ?_; (with_reducible refine (gudgeonref08_May.calls k _ _ l0 false _ ?side1 ?side2 A2.out).mono ?_); (case side1 => repeat (first | exact HR0.out | (with_reducible refine Kd.C_alloc ?_ _) | (with_reducible refine Kd.C_drewN ?_ _) | (with_reducible refine Kd.C_drew ?_))); (case side2 => exact HC0.out); rintro e w' ⟨rfl, ⟨nd, rfl⟩⟩; refine ⟨_, rfl, ?_⟩))
  go_ret2
  exact ⟨_, by first | rfl | (simp [errW_none, errW_some] <;> rfl) | (simp [*, errW_none, errW_some] <;> rfl), by first | exact Kd.R_nil _ _ _ _ _ | exact Kd.N_nil _ _ _ _ _ | exact Kd.V_nil _ _ _ _ _ | exact Kd.Q_nil _ _ _ _ _ | exact Kd.S_nil _ _ _ _ _, by repeat (first | (with_reducible first | exact HB.out | apply below_alloc | apply pw_below_drewN | apply below_drew1) | exact HB.out)⟩

/-! ### word_Put: function 13 -/
mutual
def word_Put.j0 : Nat → List (S69) → Int → List (S69) → Bool → Option ((List (S69)) × Int)
 | 0, _, _, _, _ => none
 | k + 1, x0, x1, x2, x22 => if x22 = true then (some (([] : List (S69)), 1)) else (word_Put.l0 k x1 x2 ([] : List (S69)) x0 (x0.length : Int) 0)
def word_Put.l0 : Nat → Int → List (S69) → List (S69) → List (S69) → Int → Int → Option ((List (S69)) × Int)
 | 0, _, _, _, _, _, _ => none
 | k + 1, x1, x2, x8, x23, x24, x25 => if x25 < x24 then (if 0 ≤ x25 then (if x25 < (x23.length : Int) then (if ((rd_T69 x23 x25).f0) = x1 then (if x8.length + x2.length < 8796093022208 then ((some (x8 ++ x2 : List (S69))).bind fun y300 => (if (y300.length : Int) > 4000 then (some (([] : List (S69)), 2)) else (word_Put.l0 k x1 x2 y300 x23 x24 (wrap64 (x25 + 1))))) else (none)) else (if x8.length < 8796093022208 then ((some (x8 ++ [(⟨(rd_T69 x23 x25).f0, (rd_T69 x23 x25).f1⟩ : S69)] : List (S69))).bind fun y303 => (if (y303.length : Int) > 4000 then (some (([] : List (S69)), 2)) else (word_Put.l0 k x1 x2 y303 x23 x24 (wrap64 (x25 + 1))))) else (none))) else (none)) else (none)) else (some (x8, 0))
end
def word_Put.f (k : Nat) (l0 : List (S69)) (a1 : Int) (l2 : List (S69)) : Option ((List (S69)) × Int) := (word_may.f k l0).bind fun t296 => (if t296 = true then ((word_may.f k l2).bind fun t297 => (if t297 = true then (word_Put.j0 k l0 a1 l2 (decide (a1 < 0))) else (word_Put.j0 k l0 a1 l2 true))) else (word_Put.j0 k l0 a1 l2 true))
set_option maxHeartbeats 8000000 in
set_option maxRecDepth 100000 in
theorem word_Put.calls (k : Nat) (A0 : Option Addr) (c0 : Nat) (l0 : List (S69)) (a1 : Int) (A2 : Option Addr) (c2 : Nat) (l2 : List (S69)) (r1 : List (S69)) (r2 : Int) (w : World) (hr0 : Kd.C k69 w A0 l0.length l0) (hc0 : l0.length ≤ c0) (hr2 : Kd.C k69 w A2 l2.length l2) (hc2 : l2.length ≤ c2) (h : word_Put.f k l0 a1 l2 = some (r1, r2)) :
  Calls Try.prog 13 #[.slice A0 l0.length c0, .int .i64 a1, .slice A2 l2.length c2] w fun e w' => ∃ v0_ : Value, e = .returned (.tuple #[v0_, .int .i64 r2]) ∧ Kd.R k69 69 w' w.heap.size (fun _ => True) v0_ r1 ∧ Below w.heap.size w w' := by
 have hu69 := Try.underlying69
 have HR0 := Aside0.mk hr0
 have HC0 := Aside0.mk hc0
 clear hr0 hc0
 have HR2 := Aside0.mk hr2
 have HC2 := Aside0.mk hc2
 clear hr2 hc2
 have HB := Aside0.mk (Below.refl w.heap.size w)
 have H : ((word_may.f k l0).bind fun t296 => (if t296 = true then ((word_may.f k l2).bind fun t297 => (if t297 = true then (word_Put.j0 k l0 a1 l2 (decide (a1 < 0))) else (word_Put.j0 k l0 a1 l2 true))) else (word_Put.j0 k l0 a1 l2 true))) = some (r1, r2) := h
 clear h
 have HC4 := Aside0.mk H
 clear H
 go_enter Try.func13, Try.ntmps13
 go_upto_region 1 with (fail)
 go_cut [22] (fun v22 wc => ∃ (kq : Nat) (x22_3 : Bool), v22 = .bool x22_3 ∧ Aside0 (word_Put.j0 kq l0 a1 l2 x22_3 = some (r1, r2)) ∧ Aside0 (kq ≤ k) ∧ Aside0 (Below w.heap.size w wc))
 case first =>
  have H := HC4.out
  clear HC4
  replace H := Option.bind_eq_some_iff.mp H
  obtain ⟨t296, A50, H⟩ := H
  replace H : (if t296 = true then ((word_may.f k l2).bind fun t297 => (if t297 = true then (word_Put.j0 k l0 a1 l2 (decide (a1 < 0))) else (word_Put.j0 k l0 a1 l2 true))) else (word_Put.j0 k l0 a1 l2 true)) = some (r1, r2) := H
  have A5 := Aside0.mk A50
  clear A50
  by_cases c6 : t296 = true
  ·subst c6
   have H1 : ((word_may.f k l2).bind fun t297 => (if t297 = true then (word_Put.j0 k l0 a1 l2 (decide (a1 < 0))) else (word_Put.j0 k l0 a1 l2 true))) = some (r1, r2) := by rw [if_pos rfl] at H; exact H
   clear H
   have H := H1
   clear H1
   replace H := Option.bind_eq_some_iff.mp H
   obtain ⟨t297, A70, H⟩ := H
   replace H : (if t297 = true then (word_Put.j0 k l0 a1 l2 (decide (a1 < 0))) else (word_Put.j0 k l0 a1 l2 true)) = some (r1, r2) := H
   have A7 := Aside0.mk A70
   clear A70
   by_cases c8 : t297 = true
   ·subst c8
    have H1 : (word_Put.j0 k l0 a1 l2 (decide (a1 < 0))) = some (r1, r2) := by rw [if_pos rfl] at H; exact H
    clear H
    have H := H1
    clear H1
    have H' := Aside0.mk H
    clear H
    go_wp2_with (first | ((with_reducible refine gate_callee (f := 42) rfl ?_); refine goesL_ (some 12) rfl rfl Try.func42 (by kernel_rfl) rfl #[.slice A0 l0.length c0] rfl (by (try simp only [List.map_toArray, List.map_cons, List.map_nil]); first | done | rfl | (simp only [List.length_drop, List.length_take]; rfl)) ?_; (with_reducible refine (word_may.calls k _ _ l0 true _ ?side1 ?side2 A5.out).mono ?_); (case side1 => repeat (first | exact (Kd.C_below HR0.out HB.out) | (with_reducible refine Kd.C_alloc ?_ _) | (with_reducible refine Kd.C_drewN ?_ _) | (with_reducible refine Kd.C_drew ?_))); (case side2 => exact HC0.out); rintro e w9 ⟨rfl, hb⟩; refine ⟨_, rfl, ?_⟩; have n0_ := Aside0.mk (below_step (by repeat (first | (with_reducible first | exact HB.out | apply below_alloc | apply pw_below_drewN | apply below_drew1) | exact HB.out)) hb); clear HB; have HB := n0_; clear n0_; (try clear hb); (try clear hb2); (try clear hk); (try clear hi)) | (go_at_call 42; (with_reducible refine (word_may.calls k _ _ l2 true _ ?side1 ?side2 A7.out).mono ?_); (case side1 => repeat (first | exact (Kd.C_below HR2.out HB.out) | (with_reducible refine Kd.C_alloc ?_ _) | (with_reducible refine Kd.C_drewN ?_ _) | (with_reducible refine Kd.C_drew ?_))); (case side2 => exact HC2.out); rintro e w10 ⟨rfl, hb⟩; have n0_ := Aside0.mk (below_step (by repeat (first | (with_reducible first | exact HB.out | apply below_alloc | apply pw_below_drewN | apply below_drew1) | exact HB.out)) hb); clear HB; have HB := n0_; clear n0_; (try clear hb); (try clear hb2); (try clear hk); (try clear hi)))
    go_meet
    case rel => exact ⟨_, (decide (a1 < 0)), (by first | rfl | (simp; done) | (simp [*]; done) | (refine congrArg (Value.int _) ?_; omega) | (refine congrArg Value.bool ?_; generalize ByteArray.toList _ = z_; cases z_ <;> rfl)), H', ⟨by first | omega | exact Nat.le_refl _⟩, ⟨by repeat (first | (with_reducible first | exact HB.out | apply below_alloc | apply pw_below_drewN | apply below_drew1) | exact HB.out)⟩⟩
   ·replace c8 := Bool.eq_false_iff.mpr c8
    subst c8
    have H1 : (word_Put.j0 k l0 a1 l2 true) = some (r1, r2) := by rw [if_neg (show ¬ (false = true) by decide)] at H; exact H
    clear H
    have H := H1
    clear H1
    have H' := Aside0.mk H
    clear H
    go_wp2_with (first | ((with_reducible refine gate_callee (f := 42) rfl ?_); refine goesL_ (some 12) rfl rfl Try.func42 (by kernel_rfl) rfl #[.slice A0 l0.length c0] rfl (by (try simp only [List.map_toArray, List.map_cons, List.map_nil]); first | done | rfl | (simp only [List.length_drop, List.length_take]; rfl)) ?_; (with_reducible refine (word_may.calls k _ _ l0 true _ ?side1 ?side2 A5.out).mono ?_); (case side1 => repeat (first | exact (Kd.C_below HR0.out HB.out) | (with_reducible refine Kd.C_alloc ?_ _) | (with_reducible refine Kd.C_drewN ?_ _) | (with_reducible refine Kd.C_drew ?_))); (case side2 => exact HC0.out); rintro e w11 ⟨rfl, hb⟩; refine ⟨_, rfl, ?_⟩; have n0_ := Aside0.mk (below_step (by repeat (first | (with_reducible first | exact HB.out | apply below_alloc | apply pw_below_drewN | apply below_drew1) | exact HB.out)) hb); clear HB; have HB := n0_; clear n0_; (try clear hb); (try clear hb2); (try clear hk); (try clear hi)) | (go_at_call 42; (with_reducible refine (word_may.calls k _ _ l2 false _ ?side1 ?side2 A7.out).mono ?_); (case side1 => repeat (first | exact (Kd.C_below HR2.out HB.out) | (with_reducible refine Kd.C_alloc ?_ _) | (with_reducible refine Kd.C_drewN ?_ _) | (with_reducible refine Kd.C_drew ?_))); (case side2 => exact HC2.out); rintro e w12 ⟨rfl, hb⟩; have n0_ := Aside0.mk (below_step (by repeat (first | (with_reducible first | exact HB.out | apply below_alloc | apply pw_below_drewN | apply below_drew1) | exact HB.out)) hb); clear HB; have HB := n0_; clear n0_; (try clear hb); (try clear hb2); (try clear hk); (try clear hi)))
    go_meet
    case rel => exact ⟨_, (true), (by first | rfl | (simp; done) | (simp [*]; done) | (refine congrArg (Value.int _) ?_; omega) | (refine congrArg Value.bool ?_; generalize ByteArray.toList _ = z_; cases z_ <;> rfl)), H', ⟨by first | omega | exact Nat.le_refl _⟩, ⟨by repeat (first | (with_reducible first | exact HB.out | apply below_alloc | apply pw_below_drewN | apply below_drew1) | exact HB.out)⟩⟩
  ·replace c6 := Bool.eq_false_iff.mpr c6
   subst c6
   have H1 : (word_Put.j0 k l0 a1 l2 true) = some (r1, r2) := by rw [if_neg (show ¬ (false = true) by decide)] at H; exact H
   clear H
   have H := H1
   clear H1
   have H' := Aside0.mk H
   clear H
   go_wp2_with (first | ((with_reducible refine gate_callee (f := 42) rfl ?_); refine goesL_ (some 12) rfl rfl Try.func42 (by kernel_rfl) rfl #[.slice A0 l0.length c0] rfl (by (try simp only [List.map_toArray, List.map_cons, List.map_nil]); first | done | rfl | (simp only [List.length_drop, List.length_take]; rfl)) ?_; (with_reducible refine (word_may.calls k _ _ l0 false _ ?side1 ?side2 A5.out).mono ?_); (case side1 => repeat (first | exact (Kd.C_below HR0.out HB.out) | (with_reducible refine Kd.C_alloc ?_ _) | (with_reducible refine Kd.C_drewN ?_ _) | (with_reducible refine Kd.C_drew ?_))); (case side2 => exact HC0.out); rintro e w13 ⟨rfl, hb⟩; refine ⟨_, rfl, ?_⟩; have n0_ := Aside0.mk (below_step (by repeat (first | (with_reducible first | exact HB.out | apply below_alloc | apply pw_below_drewN | apply below_drew1) | exact HB.out)) hb); clear HB; have HB := n0_; clear n0_; (try clear hb); (try clear hb2); (try clear hk); (try clear hi)))
   go_meet
   case rel => exact ⟨_, (true), (by first | rfl | (simp; done) | (simp [*]; done) | (refine congrArg (Value.int _) ?_; omega) | (refine congrArg Value.bool ?_; generalize ByteArray.toList _ = z_; cases z_ <;> rfl)), H', ⟨by first | omega | exact Nat.le_refl _⟩, ⟨by repeat (first | (with_reducible first | exact HB.out | apply below_alloc | apply pw_below_drewN | apply below_drew1) | exact HB.out)⟩⟩
 case rest =>
  clear HC4
  try clear c1
  try clear c2
  try clear p2
  try clear c4
  try clear c6
  try clear c8
  try clear c13
  obtain ⟨kq, x22_3, rfl, HA, HJ3, HB⟩ := hcut
  cases kq with
  | zero => exact absurd HA.out (by simp [word_Put.j0])
  | succ kj3 =>
   have H := HA.out
   clear HA
   simp only [word_Put.j0] at H
   by_cases c14 : x22_3 = true
   ·subst c14
    have H1 : (some (([] : List (S69)), 1)) = some (r1, r2) := by rw [if_pos rfl] at H; exact H
    clear H
    have H := H1
    clear H1
    simp only [Option.some.injEq, Prod.mk.injEq] at H
    obtain ⟨rfl, rfl⟩ := H
    go_wp2
    go_ret2
    exact ⟨_, by first | rfl | (simp [errW_none, errW_some] <;> rfl) | (simp [*, errW_none, errW_some] <;> rfl), by first | exact Kd.R_nil _ _ _ _ _ | exact Kd.N_nil _ _ _ _ _ | exact Kd.V_nil _ _ _ _ _ | exact Kd.Q_nil _ _ _ _ _ | exact Kd.S_nil _ _ _ _ _, by repeat (first | (with_reducible first | exact HB.out | apply below_alloc | apply pw_below_drewN | apply below_drew1) | exact HB.out)⟩
   ·replace c14 := Bool.eq_false_iff.mpr c14
    subst c14
    have H1 : (word_Put.l0 kj3 a1 l2 ([] : List (S69)) l0 (l0.length : Int) 0) = some (r1, r2) := by rw [if_neg (show ¬ (false = true) by decide)] at H; exact H
    clear H
    have H := H1
    clear H1
    have H' := Aside0.mk H
    clear H
    go_wp2
    go_loopg [8, 25] kj3 (fun kq v8 v25 w' => ∃ (x8_2 : List (S69)) (x25_2 : Int), v25 = .int .i64 x25_2 ∧ Aside0 (word_Put.l0 kq a1 l2 x8_2 l0 (l0.length : Int) x25_2 = some (r1, r2)) ∧ Aside0 (kq ≤ kj3) ∧ Aside0 (Kd.R k69 69 w' w.heap.size (fun _ => True) v8 x8_2) ∧ Aside0 (Below w.heap.size w w'))
    case atStart => exact ⟨(([] : List (S69))), (0), (by first | rfl | (simp; done) | (simp [*]; done) | (refine congrArg (Value.int _) ?_; omega) | (refine congrArg Value.bool ?_; generalize ByteArray.toList _ = z_; cases z_ <;> rfl)), H', ⟨Nat.le_refl _⟩, ⟨by first | exact Kd.R_nil _ _ _ _ _ | exact Kd.N_nil _ _ _ _ _ | exact Kd.V_nil _ _ _ _ _ | exact Kd.Q_nil _ _ _ _ _ | exact Kd.S_nil _ _ _ _ _⟩, ⟨by repeat (first | (with_reducible first | exact HB.out | apply below_alloc | apply pw_below_drewN | apply below_drew1) | exact HB.out)⟩⟩
    case round =>
     clear H'
     try clear c1
     try clear c2
     try clear p2
     try clear c4
     try clear c6
     try clear c8
     try clear c13
     try clear c14
     try clear p2
     obtain ⟨x8_2, x25_2, rfl, HA, HK2, HO_8, HB⟩ := hrel
     cases gk with
     | zero => exact absurd HA.out (by simp [word_Put.l0])
     | succ k2 =>
      have H := HA.out
      clear HA
      simp only [word_Put.l0] at H
      by_cases c15 : x25_2 < (l0.length : Int)
      ·rw [if_pos c15] at H
       have c15b0 : decide (x25_2 < (l0.length : Int)) = true := decide_eq_true c15
       clear c15
       by_cases c16 : 0 ≤ x25_2
       ·rw [if_pos c16] at H
        have c16b0 : decide (0 ≤ x25_2) = true := decide_eq_true c16
        clear c16
        by_cases c17 : x25_2 < (l0.length : Int)
        ·rw [if_pos c17] at H
         have c17b0 : decide (x25_2 < (l0.length : Int)) = true := decide_eq_true c17
         clear c17
         by_cases c18 : ((rd_T69 l0 x25_2).f0) = a1
         ·rw [if_pos c18] at H
          have c18b0 : (((rd_T69 l0 x25_2).f0) == a1) = true := beq_iff_eq.mpr c18
          have c18b1 : (((rd_T69 l0 x25_2).f0) != a1) = false := bne_eq_false_iff_eq.mpr c18
          clear c18
          by_cases c19 : x8_2.length + l2.length < 8796093022208
          ·rw [if_pos c19] at H
           have LMc19 := Aside0.mk c19
           clear c19
           obtain ⟨y300, hy300⟩ : ∃ y_ : List (S69), y_ = (x8_2 ++ l2) := ⟨_, rfl⟩
           replace H : (if (y300.length : Int) > 4000 then (some (([] : List (S69)), 2)) else (word_Put.l0 k2 a1 l2 y300 l0 (l0.length : Int) (wrap64 (x25_2 + 1)))) = some (r1, r2) := by first | (rw [hy300]; with_reducible exact H) | (have H2_ := (Option.bind_some _ _).symm.trans H; rw [hy300]; with_reducible exact H2_) | (have H2_ := (Option.bind_some _ _).symm.trans H; with_reducible exact H2_) | with_reducible exact H | (rw [hy300]; exact H) | exact H
           have Ny300 := Aside0.mk hy300
           clear hy300
           by_cases c20 : (y300.length : Int) > 4000
           ·rw [if_pos c20] at H
            have c20b0 : decide (4000 < (y300.length : Int)) = true := decide_eq_true c20
            have c20b1 : decide (4000 < y300.length) = true := decide_eq_true (by omega)
            clear c20
            simp only [Option.some.injEq, Prod.mk.injEq] at H
            obtain ⟨rfl, rfl⟩ := H
            have p298 : 0 ≤ (x25_2 : Int) := of_decide_eq_true (by first | (with_reducible assumption) | assumption)
            have q298 : x25_2 < (l0.length : Int) := of_decide_eq_true (by first | (with_reducible assumption) | assumption)
            obtain ⟨ad298, e298, hx298_0, hx298_1⟩ := at_T69 HR0.out x25_2 p298 q298
            cases e298
            replace hx298_0 := (HB.out.cell (World.block_lt_of_cell? w _ hx298_0)).trans hx298_0
            replace hx298_1 := (HB.out.cell (World.block_lt_of_cell? w _ hx298_1)).trans hx298_1
            replace p298 := eq_true p298
            replace q298 := eq_true q298
            go_wp2_with (first | ((with_reducible refine gate_dst (N := 10) rfl ?_); refine box_event ?hg (N := 10) ?hd (cs := #[.int .i64 0, .int .i64 0]) (t := 69) ?hr ?_; (case hd => rfl); (case hg => rfl); (case hr => first | (go_simp; done) | (go_simp; rfl) | (go_simp; simp only [IntKind.wrap_u8, IntKind.wrap_u32]; congr 4; omega) | (go_simp; simp only [IntKind.wrap_u8, IntKind.wrap_u32]; congr 5; omega)); intro gb299 hg w21 hbox hb; have n0_ := Aside0.mk (Kd.R_below (Kd.R_elderB (by (with_reducible repeat (first | apply Kd.R_alloc | apply Kd.R_drewN | apply Kd.R_drew)); exact HO_8.out) gb299 (Nat.le_of_eq hg.symm)) hb); have n1_ := Aside0.mk (below_step (by repeat (first | (with_reducible first | exact HB.out | apply below_alloc | apply pw_below_drewN | apply below_drew1) | exact HB.out)) hb); have n2_ := Aside0.mk (hbox); have n3_ := Aside0.mk ((by rw [hg]; exact (below_size (by repeat (first | (with_reducible first | exact HB.out | apply below_alloc | apply pw_below_drewN | apply below_drew1) | exact HB.out))) : w.heap.size ≤ gb299)); have n4_ := Aside0.mk ((by rw [hg]; exact (below_size (by repeat (first | (with_reducible first | exact HB.out | apply below_alloc | apply pw_below_drewN | apply below_drew1) | exact HB.out))) : w.heap.size ≤ gb299)); clear HO_8; clear HB; have HO_8 := n0_; have HB := n1_; have BK299 := n2_; have GW299 := n3_; have GE299 := n4_; clear n0_ n1_ n2_ n3_ n4_; clear hb hbox hg; have hcz22_0 : w21.cell? ⟨gb299, 0, none⟩ = some (.int .i64 0) := (blk_cell BK299.out 0).trans rfl; have hcz22_1 : w21.cell? ⟨gb299, 1, none⟩ = some (.int .i64 0) := (blk_cell BK299.out 1).trans rfl; have hfz22_0 := blk_frozen BK299.out 0; have hfz22_1 := blk_frozen BK299.out 1) | ((with_reducible refine gate_builtin (b := .append) (xs := #[.tmp 33, .tmp 34]) rfl ?_); at_builtin; refine Kd.R_append_rows k69 (w0 := w) w.heap.size rfl (.tmp 33) (.tmp 34) 23 69 (.agg #[(.int .i64 0), (.int .i64 0)]) 16 rfl Try.underlying23 info69 rfl (by decide) (by omega) u8 x8_2 l2 _ _ _ (fun k_ => k_ ≠ gb299) (fun _ => False) rfl rfl ?aO ?aR (fun _ _ h => h) (fun _ h => h.elim) ?aF ?aB ?aS ?aL ?_; (case aR => exact Kd.C_below HR2.out (by repeat (first | (with_reducible first | exact HB.out | apply below_alloc | apply pw_below_drewN | apply below_drew1 | refine below_set ?_ GE299.out) | exact HB.out))); (case aB => exact (by repeat (first | (with_reducible first | exact HB.out | apply below_alloc | apply pw_below_drewN | apply below_drew1 | refine below_set ?_ GE299.out) | exact HB.out))); (case aF => exact (fun k_ hk => Kd.freshB (g := gb299) (o := .cells #[.int .i64 ((rd_T69 l0 x25_2).f0), .int .i64 ((rd_T69 l0 x25_2).f1)] 69 (0, 0)) (by (with_reducible repeat (first | refine blk_drewN ?_ _ | refine blk_drew ?_ | refine blk_alloc ?_ _)); refine blk_put (cs := #[.int .i64 ((rd_T69 l0 x25_2).f0), .int .i64 0]) ?_ 1 _ rfl; (with_reducible repeat (first | refine blk_drewN ?_ _ | refine blk_drew ?_ | refine blk_alloc ?_ _)); refine blk_put (cs := #[.int .i64 0, .int .i64 0]) ?_ 0 _ rfl; (with_reducible repeat (first | refine blk_drewN ?_ _ | refine blk_drew ?_ | refine blk_alloc ?_ _)); exact BK299.out) k_ hk)); (case aO => exact (by (with_reducible repeat (first | apply Kd.R_alloc | apply Kd.R_drewN | apply Kd.R_drew)); exact Kd.R_mono (Kd.R_far (p := ⟨gb299, 1, none⟩) (Kd.R_far (p := ⟨gb299, 0, none⟩) (Kd.R_mono HO_8.out (fun k_ hk => (⟨hk, hk.2⟩ : _ ∧ k_ ≠ gb299))) (fun _ hk => hk.2) (.int .i64 ((rd_T69 l0 x25_2).f0))) (fun _ hk => hk.2) (.int .i64 ((rd_T69 l0 x25_2).f1))) (fun _ hk => hk.1.2))); (case aS => exact (below_size (by repeat (first | (with_reducible first | exact HB.out | apply below_alloc | apply pw_below_drewN | apply below_drew1 | refine below_set ?_ GE299.out) | exact HB.out)))); (case aL => have := LMc19.out; omega); intro v301 w23 ho hb hg hat; rw [← Ny300.out] at ho; have n0_ := Aside0.mk (blk_grown (g := gb299) (o := .cells #[.int .i64 ((rd_T69 l0 x25_2).f0), .int .i64 ((rd_T69 l0 x25_2).f1)] 69 (0, 0)) (by (with_reducible repeat (first | refine blk_drewN ?_ _ | refine blk_drew ?_ | refine blk_alloc ?_ _)); refine blk_put (cs := #[.int .i64 ((rd_T69 l0 x25_2).f0), .int .i64 0]) ?_ 1 _ rfl; (with_reducible repeat (first | refine blk_drewN ?_ _ | refine blk_drew ?_ | refine blk_alloc ?_ _)); refine blk_put (cs := #[.int .i64 0, .int .i64 0]) ?_ 0 _ rfl; (with_reducible repeat (first | refine blk_drewN ?_ _ | refine blk_drew ?_ | refine blk_alloc ?_ _)); exact BK299.out) hg (Kd.R_away HO_8.out (fun _ hk => hk.2))); have n1_ := Aside0.mk (hb); have n2_ := Aside0.mk (ho); clear BK299; clear HB; clear HO_8; have BK299 := n0_; have HB := n1_; have HO302 := n2_; clear n0_ n1_ n2_; clear ho hb hg hat; obtain ⟨Ao24, co24, eo24⟩ := Kd.R_slice HO302.out; subst eo24))
            go_ret2
            exact ⟨_, by first | rfl | (simp [errW_none, errW_some] <;> rfl) | (simp [*, errW_none, errW_some] <;> rfl), by first | exact Kd.R_nil _ _ _ _ _ | exact Kd.N_nil _ _ _ _ _ | exact Kd.V_nil _ _ _ _ _ | exact Kd.Q_nil _ _ _ _ _ | exact Kd.S_nil _ _ _ _ _, by repeat (first | (with_reducible first | exact HB.out | apply below_alloc | apply pw_below_drewN | apply below_drew1 | refine below_set ?_ GE299.out) | exact HB.out)⟩
           ·rw [if_neg c20] at H
            have c20b0 : decide (4000 < (y300.length : Int)) = false := decide_eq_false c20
            have c20b1 : decide (4000 < y300.length) = false := decide_eq_false (by omega)
            clear c20
            have H' := Aside0.mk H
            clear H
            have p298 : 0 ≤ (x25_2 : Int) := of_decide_eq_true (by first | (with_reducible assumption) | assumption)
            have q298 : x25_2 < (l0.length : Int) := of_decide_eq_true (by first | (with_reducible assumption) | assumption)
            obtain ⟨ad298, e298, hx298_0, hx298_1⟩ := at_T69 HR0.out x25_2 p298 q298
            cases e298
            replace hx298_0 := (HB.out.cell (World.block_lt_of_cell? w _ hx298_0)).trans hx298_0
            replace hx298_1 := (HB.out.cell (World.block_lt_of_cell? w _ hx298_1)).trans hx298_1
            replace p298 := eq_true p298
            replace q298 := eq_true q298
            go_wp2_with (first | ((with_reducible refine gate_dst (N := 10) rfl ?_); refine box_event ?hg (N := 10) ?hd (cs := #[.int .i64 0, .int .i64 0]) (t := 69) ?hr ?_; (case hd => rfl); (case hg => rfl); (case hr => first | (go_simp; done) | (go_simp; rfl) | (go_simp; simp only [IntKind.wrap_u8, IntKind.wrap_u32]; congr 4; omega) | (go_simp; simp only [IntKind.wrap_u8, IntKind.wrap_u32]; congr 5; omega)); intro gb299 hg w25 hbox hb; have n0_ := Aside0.mk (Kd.R_below (Kd.R_elderB (by (with_reducible repeat (first | apply Kd.R_alloc | apply Kd.R_drewN | apply Kd.R_drew)); exact HO_8.out) gb299 (Nat.le_of_eq hg.symm)) hb); have n1_ := Aside0.mk (below_step (by repeat (first | (with_reducible first | exact HB.out | apply below_alloc | apply pw_below_drewN | apply below_drew1) | exact HB.out)) hb); have n2_ := Aside0.mk (hbox); have n3_ := Aside0.mk ((by rw [hg]; exact (below_size (by repeat (first | (with_reducible first | exact HB.out | apply below_alloc | apply pw_below_drewN | apply below_drew1) | exact HB.out))) : w.heap.size ≤ gb299)); have n4_ := Aside0.mk ((by rw [hg]; exact (below_size (by repeat (first | (with_reducible first | exact HB.out | apply below_alloc | apply pw_below_drewN | apply below_drew1) | exact HB.out))) : w.heap.size ≤ gb299)); clear HO_8; clear HB; have HO_8 := n0_; have HB := n1_; have BK299 := n2_; have GW299 := n3_; have GE299 := n4_; clear n0_ n1_ n2_ n3_ n4_; clear hb hbox hg; have hcz26_0 : w25.cell? ⟨gb299, 0, none⟩ = some (.int .i64 0) := (blk_cell BK299.out 0).trans rfl; have hcz26_1 : w25.cell? ⟨gb299, 1, none⟩ = some (.int .i64 0) := (blk_cell BK299.out 1).trans rfl; have hfz26_0 := blk_frozen BK299.out 0; have hfz26_1 := blk_frozen BK299.out 1) | ((with_reducible refine gate_builtin (b := .append) (xs := #[.tmp 33, .tmp 34]) rfl ?_); at_builtin; refine Kd.R_append_rows k69 (w0 := w) w.heap.size rfl (.tmp 33) (.tmp 34) 23 69 (.agg #[(.int .i64 0), (.int .i64 0)]) 16 rfl Try.underlying23 info69 rfl (by decide) (by omega) u8 x8_2 l2 _ _ _ (fun k_ => k_ ≠ gb299) (fun _ => False) rfl rfl ?aO ?aR (fun _ _ h => h) (fun _ h => h.elim) ?aF ?aB ?aS ?aL ?_; (case aR => exact Kd.C_below HR2.out (by repeat (first | (with_reducible first | exact HB.out | apply below_alloc | apply pw_below_drewN | apply below_drew1 | refine below_set ?_ GE299.out) | exact HB.out))); (case aB => exact (by repeat (first | (with_reducible first | exact HB.out | apply below_alloc | apply pw_below_drewN | apply below_drew1 | refine below_set ?_ GE299.out) | exact HB.out))); (case aF => exact (fun k_ hk => Kd.freshB (g := gb299) (o := .cells #[.int .i64 ((rd_T69 l0 x25_2).f0), .int .i64 ((rd_T69 l0 x25_2).f1)] 69 (0, 0)) (by (with_reducible repeat (first | refine blk_drewN ?_ _ | refine blk_drew ?_ | refine blk_alloc ?_ _)); refine blk_put (cs := #[.int .i64 ((rd_T69 l0 x25_2).f0), .int .i64 0]) ?_ 1 _ rfl; (with_reducible repeat (first | refine blk_drewN ?_ _ | refine blk_drew ?_ | refine blk_alloc ?_ _)); refine blk_put (cs := #[.int .i64 0, .int .i64 0]) ?_ 0 _ rfl; (with_reducible repeat (first | refine blk_drewN ?_ _ | refine blk_drew ?_ | refine blk_alloc ?_ _)); exact BK299.out) k_ hk)); (case aO => exact (by (with_reducible repeat (first | apply Kd.R_alloc | apply Kd.R_drewN | apply Kd.R_drew)); exact Kd.R_mono (Kd.R_far (p := ⟨gb299, 1, none⟩) (Kd.R_far (p := ⟨gb299, 0, none⟩) (Kd.R_mono HO_8.out (fun k_ hk => (⟨hk, hk.2⟩ : _ ∧ k_ ≠ gb299))) (fun _ hk => hk.2) (.int .i64 ((rd_T69 l0 x25_2).f0))) (fun _ hk => hk.2) (.int .i64 ((rd_T69 l0 x25_2).f1))) (fun _ hk => hk.1.2))); (case aS => exact (below_size (by repeat (first | (with_reducible first | exact HB.out | apply below_alloc | apply pw_below_drewN | apply below_drew1 | refine below_set ?_ GE299.out) | exact HB.out)))); (case aL => have := LMc19.out; omega); intro v301 w27 ho hb hg hat; rw [← Ny300.out] at ho; have n0_ := Aside0.mk (blk_grown (g := gb299) (o := .cells #[.int .i64 ((rd_T69 l0 x25_2).f0), .int .i64 ((rd_T69 l0 x25_2).f1)] 69 (0, 0)) (by (with_reducible repeat (first | refine blk_drewN ?_ _ | refine blk_drew ?_ | refine blk_alloc ?_ _)); refine blk_put (cs := #[.int .i64 ((rd_T69 l0 x25_2).f0), .int .i64 0]) ?_ 1 _ rfl; (with_reducible repeat (first | refine blk_drewN ?_ _ | refine blk_drew ?_ | refine blk_alloc ?_ _)); refine blk_put (cs := #[.int .i64 0, .int .i64 0]) ?_ 0 _ rfl; (with_reducible repeat (first | refine blk_drewN ?_ _ | refine blk_drew ?_ | refine blk_alloc ?_ _)); exact BK299.out) hg (Kd.R_away HO_8.out (fun _ hk => hk.2))); have n1_ := Aside0.mk (hb); have n2_ := Aside0.mk (ho); clear BK299; clear HB; clear HO_8; have BK299 := n0_; have HB := n1_; have HO302 := n2_; clear n0_ n1_ n2_; clear ho hb hg hat; obtain ⟨Ao28, co28, eo28⟩ := Kd.R_slice HO302.out; subst eo28))
            go_roundg k2
            case measure => have := HJ3.out; have := HK2.out; omega
            case rel => exact ⟨(y300), (wrap64 (x25_2 + 1)), (by first | rfl | (simp; done) | (simp [*]; done) | (refine congrArg (Value.int _) ?_; omega) | (refine congrArg Value.bool ?_; generalize ByteArray.toList _ = z_; cases z_ <;> rfl)), H', ⟨by have := HJ3.out; have := HK2.out; omega⟩, ⟨by (with_reducible repeat (first | apply Kd.R_alloc | apply Kd.R_drewN | apply Kd.R_drew)); exact Kd.R_mono HO302.out (fun _ hk => trivial)⟩, ⟨by repeat (first | (with_reducible first | exact HB.out | apply below_alloc | apply pw_below_drewN | apply below_drew1 | refine below_set ?_ GE299.out) | exact HB.out)⟩⟩
          ·rw [if_neg c19] at H
           exact absurd H (by simp)
         ·rw [if_neg c18] at H
          have c18b0 : (((rd_T69 l0 x25_2).f0) == a1) = false := beq_eq_false_iff_ne.mpr c18
          have c18b1 : (((rd_T69 l0 x25_2).f0) != a1) = true := bne_iff_ne.mpr c18
          by_cases c29 : x8_2.length < 8796093022208
          ·rw [if_pos c29] at H
           have LMc29 := Aside0.mk c29
           clear c29
           obtain ⟨y303, hy303⟩ : ∃ y_ : List (S69), y_ = (x8_2 ++ [(⟨(rd_T69 l0 x25_2).f0, (rd_T69 l0 x25_2).f1⟩ : S69)]) := ⟨_, rfl⟩
           replace H : (if (y303.length : Int) > 4000 then (some (([] : List (S69)), 2)) else (word_Put.l0 k2 a1 l2 y303 l0 (l0.length : Int) (wrap64 (x25_2 + 1)))) = some (r1, r2) := by first | (rw [hy303]; with_reducible exact H) | (have H2_ := (Option.bind_some _ _).symm.trans H; rw [hy303]; with_reducible exact H2_) | (have H2_ := (Option.bind_some _ _).symm.trans H; with_reducible exact H2_) | with_reducible exact H | (rw [hy303]; exact H) | exact H
           have Ny303 := Aside0.mk hy303
           clear hy303
           by_cases c30 : (y303.length : Int) > 4000
           ·rw [if_pos c30] at H
            have c30b0 : decide (4000 < (y303.length : Int)) = true := decide_eq_true c30
            have c30b1 : decide (4000 < y303.length) = true := decide_eq_true (by omega)
            clear c30
            simp only [Option.some.injEq, Prod.mk.injEq] at H
            obtain ⟨rfl, rfl⟩ := H
            have p298 : 0 ≤ (x25_2 : Int) := of_decide_eq_true (by first | (with_reducible assumption) | assumption)
            have q298 : x25_2 < (l0.length : Int) := of_decide_eq_true (by first | (with_reducible assumption) | assumption)
            obtain ⟨ad298, e298, hx298_0, hx298_1⟩ := at_T69 HR0.out x25_2 p298 q298
            cases e298
            replace hx298_0 := (HB.out.cell (World.block_lt_of_cell? w _ hx298_0)).trans hx298_0
            replace hx298_1 := (HB.out.cell (World.block_lt_of_cell? w _ hx298_1)).trans hx298_1
            replace p298 := eq_true p298
            replace q298 := eq_true q298
            go_wp2_with (first | ((with_reducible refine gate_dst (N := 10) rfl ?_); refine box_event ?hg (N := 10) ?hd (cs := #[.int .i64 0, .int .i64 0]) (t := 69) ?hr ?_; (case hd => rfl); (case hg => rfl); (case hr => first | (go_simp; done) | (go_simp; rfl) | (go_simp; simp only [IntKind.wrap_u8, IntKind.wrap_u32]; congr 4; omega) | (go_simp; simp only [IntKind.wrap_u8, IntKind.wrap_u32]; congr 5; omega)); intro gb299 hg w31 hbox hb; have n0_ := Aside0.mk (Kd.R_below (Kd.R_elderB (by (with_reducible repeat (first | apply Kd.R_alloc | apply Kd.R_drewN | apply Kd.R_drew)); exact HO_8.out) gb299 (Nat.le_of_eq hg.symm)) hb); have n1_ := Aside0.mk (below_step (by repeat (first | (with_reducible first | exact HB.out | apply below_alloc | apply pw_below_drewN | apply below_drew1) | exact HB.out)) hb); have n2_ := Aside0.mk (hbox); have n3_ := Aside0.mk ((by rw [hg]; exact (below_size (by repeat (first | (with_reducible first | exact HB.out | apply below_alloc | apply pw_below_drewN | apply below_drew1) | exact HB.out))) : w.heap.size ≤ gb299)); have n4_ := Aside0.mk ((by rw [hg]; exact (below_size (by repeat (first | (with_reducible first | exact HB.out | apply below_alloc | apply pw_below_drewN | apply below_drew1) | exact HB.out))) : w.heap.size ≤ gb299)); clear HO_8; clear HB; have HO_8 := n0_; have HB := n1_; have BK299 := n2_; have GW299 := n3_; have GE299 := n4_; clear n0_ n1_ n2_ n3_ n4_; clear hb hbox hg; have hcz32_0 : w31.cell? ⟨gb299, 0, none⟩ = some (.int .i64 0) := (blk_cell BK299.out 0).trans rfl; have hcz32_1 : w31.cell? ⟨gb299, 1, none⟩ = some (.int .i64 0) := (blk_cell BK299.out 1).trans rfl; have hfz32_0 := blk_frozen BK299.out 0; have hfz32_1 := blk_frozen BK299.out 1) | ((with_reducible refine gate_builtin (b := .append) (xs := #[.tmp 36, .tmp 38]) rfl ?_); at_builtin; refine Kd.R_append k69 (w0 := w) w.heap.size rfl (.tmp 36) (.tmp 38) 23 69 (.agg #[(.int .i64 0), (.int .i64 0)]) 16 rfl Try.underlying23 info69 rfl (by decide) (by omega) u8 x8_2 (⟨(rd_T69 l0 x25_2).f0, (rd_T69 l0 x25_2).f1⟩ : S69) [.int .i64 ((rd_T69 l0 x25_2).f0), .int .i64 ((rd_T69 l0 x25_2).f1)] (fun k_ => k_ ≠ gb299) (fun _ => False) rfl (by first | (go_simp; done) | (go_simp; rfl)) ?aP (fun _ hk => hk.elim) ?aF ?aO ?aB ?aS ?aL ?_; (case aP => exact k69_mkM _ _ _ (⟨(rd_T69 l0 x25_2).f0, (rd_T69 l0 x25_2).f1⟩ : S69)); (case aB => exact (by repeat (first | (with_reducible first | exact HB.out | apply below_alloc | apply pw_below_drewN | apply below_drew1 | refine below_set ?_ GE299.out) | exact HB.out))); (case aF => exact (fun k_ hk => Kd.freshB (g := gb299) (o := .cells #[.int .i64 ((rd_T69 l0 x25_2).f0), .int .i64 ((rd_T69 l0 x25_2).f1)] 69 (0, 0)) (by (with_reducible repeat (first | refine blk_drewN ?_ _ | refine blk_drew ?_ | refine blk_alloc ?_ _)); refine blk_put (cs := #[.int .i64 ((rd_T69 l0 x25_2).f0), .int .i64 0]) ?_ 1 _ rfl; (with_reducible repeat (first | refine blk_drewN ?_ _ | refine blk_drew ?_ | refine blk_alloc ?_ _)); refine blk_put (cs := #[.int .i64 0, .int .i64 0]) ?_ 0 _ rfl; (with_reducible repeat (first | refine blk_drewN ?_ _ | refine blk_drew ?_ | refine blk_alloc ?_ _)); exact BK299.out) k_ hk)); (case aO => exact (by (with_reducible repeat (first | apply Kd.R_alloc | apply Kd.R_drewN | apply Kd.R_drew)); exact Kd.R_mono (Kd.R_far (p := ⟨gb299, 1, none⟩) (Kd.R_far (p := ⟨gb299, 0, none⟩) (Kd.R_mono HO_8.out (fun k_ hk => (⟨hk, hk.2⟩ : _ ∧ k_ ≠ gb299))) (fun _ hk => hk.2) (.int .i64 ((rd_T69 l0 x25_2).f0))) (fun _ hk => hk.2) (.int .i64 ((rd_T69 l0 x25_2).f1))) (fun _ hk => hk.1.2))); (case aS => exact (below_size (by repeat (first | (with_reducible first | exact HB.out | apply below_alloc | apply pw_below_drewN | apply below_drew1 | refine below_set ?_ GE299.out) | exact HB.out)))); (case aL => have := LMc29.out; omega); intro v304 w33 ho hb hg hat; rw [← Ny303.out] at ho; have n0_ := Aside0.mk (blk_grown (g := gb299) (o := .cells #[.int .i64 ((rd_T69 l0 x25_2).f0), .int .i64 ((rd_T69 l0 x25_2).f1)] 69 (0, 0)) (by (with_reducible repeat (first | refine blk_drewN ?_ _ | refine blk_drew ?_ | refine blk_alloc ?_ _)); refine blk_put (cs := #[.int .i64 ((rd_T69 l0 x25_2).f0), .int .i64 0]) ?_ 1 _ rfl; (with_reducible repeat (first | refine blk_drewN ?_ _ | refine blk_drew ?_ | refine blk_alloc ?_ _)); refine blk_put (cs := #[.int .i64 0, .int .i64 0]) ?_ 0 _ rfl; (with_reducible repeat (first | refine blk_drewN ?_ _ | refine blk_drew ?_ | refine blk_alloc ?_ _)); exact BK299.out) hg (Kd.R_away HO_8.out (fun _ hk => hk.2))); have n1_ := Aside0.mk (hb); have n2_ := Aside0.mk (ho); clear BK299; clear HB; clear HO_8; have BK299 := n0_; have HB := n1_; have HO305 := n2_; clear n0_ n1_ n2_; clear ho hb hg hat; obtain ⟨Ao34, co34, eo34⟩ := Kd.R_slice HO305.out; subst eo34))
            go_ret2
            exact ⟨_, by first | rfl | (simp [errW_none, errW_some] <;> rfl) | (simp [*, errW_none, errW_some] <;> rfl), by first | exact Kd.R_nil _ _ _ _ _ | exact Kd.N_nil _ _ _ _ _ | exact Kd.V_nil _ _ _ _ _ | exact Kd.Q_nil _ _ _ _ _ | exact Kd.S_nil _ _ _ _ _, by repeat (first | (with_reducible first | exact HB.out | apply below_alloc | apply pw_below_drewN | apply below_drew1 | refine below_set ?_ GE299.out) | exact HB.out)⟩
           ·rw [if_neg c30] at H
            have c30b0 : decide (4000 < (y303.length : Int)) = false := decide_eq_false c30
            have c30b1 : decide (4000 < y303.length) = false := decide_eq_false (by omega)
            clear c30
            have H' := Aside0.mk H
            clear H
            have p298 : 0 ≤ (x25_2 : Int) := of_decide_eq_true (by first | (with_reducible assumption) | assumption)
            have q298 : x25_2 < (l0.length : Int) := of_decide_eq_true (by first | (with_reducible assumption) | assumption)
            obtain ⟨ad298, e298, hx298_0, hx298_1⟩ := at_T69 HR0.out x25_2 p298 q298
            cases e298
            replace hx298_0 := (HB.out.cell (World.block_lt_of_cell? w _ hx298_0)).trans hx298_0
            replace hx298_1 := (HB.out.cell (World.block_lt_of_cell? w _ hx298_1)).trans hx298_1
            replace p298 := eq_true p298
            replace q298 := eq_true q298
            go_wp2_with (first | ((with_reducible refine gate_dst (N := 10) rfl ?_); refine box_event ?hg (N := 10) ?hd (cs := #[.int .i64 0, .int .i64 0]) (t := 69) ?hr ?_; (case hd => rfl); (case hg => rfl); (case hr => first | (go_simp; done) | (go_simp; rfl) | (go_simp; simp only [IntKind.wrap_u8, IntKind.wrap_u32]; congr 4; omega) | (go_simp; simp only [IntKind.wrap_u8, IntKind.wrap_u32]; congr 5; omega)); intro gb299 hg w35 hbox hb; have n0_ := Aside0.mk (Kd.R_below (Kd.R_elderB (by (with_reducible repeat (first | apply Kd.R_alloc | apply Kd.R_drewN | apply Kd.R_drew)); exact HO_8.out) gb299 (Nat.le_of_eq hg.symm)) hb); have n1_ := Aside0.mk (below_step (by repeat (first | (with_reducible first | exact HB.out | apply below_alloc | apply pw_below_drewN | apply below_drew1) | exact HB.out)) hb); have n2_ := Aside0.mk (hbox); have n3_ := Aside0.mk ((by rw [hg]; exact (below_size (by repeat (first | (with_reducible first | exact HB.out | apply below_alloc | apply pw_below_drewN | apply below_drew1) | exact HB.out))) : w.heap.size ≤ gb299)); have n4_ := Aside0.mk ((by rw [hg]; exact (below_size (by repeat (first | (with_reducible first | exact HB.out | apply below_alloc | apply pw_below_drewN | apply below_drew1) | exact HB.out))) : w.heap.size ≤ gb299)); clear HO_8; clear HB; have HO_8 := n0_; have HB := n1_; have BK299 := n2_; have GW299 := n3_; have GE299 := n4_; clear n0_ n1_ n2_ n3_ n4_; clear hb hbox hg; have hcz36_0 : w35.cell? ⟨gb299, 0, none⟩ = some (.int .i64 0) := (blk_cell BK299.out 0).trans rfl; have hcz36_1 : w35.cell? ⟨gb299, 1, none⟩ = some (.int .i64 0) := (blk_cell BK299.out 1).trans rfl; have hfz36_0 := blk_frozen BK299.out 0; have hfz36_1 := blk_frozen BK299.out 1) | ((with_reducible refine gate_builtin (b := .append) (xs := #[.tmp 36, .tmp 38]) rfl ?_); at_builtin; refine Kd.R_append k69 (w0 := w) w.heap.size rfl (.tmp 36) (.tmp 38) 23 69 (.agg #[(.int .i64 0), (.int .i64 0)]) 16 rfl Try.underlying23 info69 rfl (by decide) (by omega) u8 x8_2 (⟨(rd_T69 l0 x25_2).f0, (rd_T69 l0 x25_2).f1⟩ : S69) [.int .i64 ((rd_T69 l0 x25_2).f0), .int .i64 ((rd_T69 l0 x25_2).f1)] (fun k_ => k_ ≠ gb299) (fun _ => False) rfl (by first | (go_simp; done) | (go_simp; rfl)) ?aP (fun _ hk => hk.elim) ?aF ?aO ?aB ?aS ?aL ?_; (case aP => exact k69_mkM _ _ _ (⟨(rd_T69 l0 x25_2).f0, (rd_T69 l0 x25_2).f1⟩ : S69)); (case aB => exact (by repeat (first | (with_reducible first | exact HB.out | apply below_alloc | apply pw_below_drewN | apply below_drew1 | refine below_set ?_ GE299.out) | exact HB.out))); (case aF => exact (fun k_ hk => Kd.freshB (g := gb299) (o := .cells #[.int .i64 ((rd_T69 l0 x25_2).f0), .int .i64 ((rd_T69 l0 x25_2).f1)] 69 (0, 0)) (by (with_reducible repeat (first | refine blk_drewN ?_ _ | refine blk_drew ?_ | refine blk_alloc ?_ _)); refine blk_put (cs := #[.int .i64 ((rd_T69 l0 x25_2).f0), .int .i64 0]) ?_ 1 _ rfl; (with_reducible repeat (first | refine blk_drewN ?_ _ | refine blk_drew ?_ | refine blk_alloc ?_ _)); refine blk_put (cs := #[.int .i64 0, .int .i64 0]) ?_ 0 _ rfl; (with_reducible repeat (first | refine blk_drewN ?_ _ | refine blk_drew ?_ | refine blk_alloc ?_ _)); exact BK299.out) k_ hk)); (case aO => exact (by (with_reducible repeat (first | apply Kd.R_alloc | apply Kd.R_drewN | apply Kd.R_drew)); exact Kd.R_mono (Kd.R_far (p := ⟨gb299, 1, none⟩) (Kd.R_far (p := ⟨gb299, 0, none⟩) (Kd.R_mono HO_8.out (fun k_ hk => (⟨hk, hk.2⟩ : _ ∧ k_ ≠ gb299))) (fun _ hk => hk.2) (.int .i64 ((rd_T69 l0 x25_2).f0))) (fun _ hk => hk.2) (.int .i64 ((rd_T69 l0 x25_2).f1))) (fun _ hk => hk.1.2))); (case aS => exact (below_size (by repeat (first | (with_reducible first | exact HB.out | apply below_alloc | apply pw_below_drewN | apply below_drew1 | refine below_set ?_ GE299.out) | exact HB.out)))); (case aL => have := LMc29.out; omega); intro v304 w37 ho hb hg hat; rw [← Ny303.out] at ho; have n0_ := Aside0.mk (blk_grown (g := gb299) (o := .cells #[.int .i64 ((rd_T69 l0 x25_2).f0), .int .i64 ((rd_T69 l0 x25_2).f1)] 69 (0, 0)) (by (with_reducible repeat (first | refine blk_drewN ?_ _ | refine blk_drew ?_ | refine blk_alloc ?_ _)); refine blk_put (cs := #[.int .i64 ((rd_T69 l0 x25_2).f0), .int .i64 0]) ?_ 1 _ rfl; (with_reducible repeat (first | refine blk_drewN ?_ _ | refine blk_drew ?_ | refine blk_alloc ?_ _)); refine blk_put (cs := #[.int .i64 0, .int .i64 0]) ?_ 0 _ rfl; (with_reducible repeat (first | refine blk_drewN ?_ _ | refine blk_drew ?_ | refine blk_alloc ?_ _)); exact BK299.out) hg (Kd.R_away HO_8.out (fun _ hk => hk.2))); have n1_ := Aside0.mk (hb); have n2_ := Aside0.mk (ho); clear BK299; clear HB; clear HO_8; have BK299 := n0_; have HB := n1_; have HO305 := n2_; clear n0_ n1_ n2_; clear ho hb hg hat; obtain ⟨Ao38, co38, eo38⟩ := Kd.R_slice HO305.out; subst eo38))
            go_roundg k2
            case measure => have := HJ3.out; have := HK2.out; omega
            case rel => exact ⟨(y303), (wrap64 (x25_2 + 1)), (by first | rfl | (simp; done) | (simp [*]; done) | (refine congrArg (Value.int _) ?_; omega) | (refine congrArg Value.bool ?_; generalize ByteArray.toList _ = z_; cases z_ <;> rfl)), H', ⟨by have := HJ3.out; have := HK2.out; omega⟩, ⟨by (with_reducible repeat (first | apply Kd.R_alloc | apply Kd.R_drewN | apply Kd.R_drew)); exact Kd.R_mono HO305.out (fun _ hk => trivial)⟩, ⟨by repeat (first | (with_reducible first | exact HB.out | apply below_alloc | apply pw_below_drewN | apply below_drew1 | refine below_set ?_ GE299.out) | exact HB.out)⟩⟩
          ·rw [if_neg c29] at H
           exact absurd H (by simp)
        ·rw [if_neg c17] at H
         exact absurd H (by simp)
       ·rw [if_neg c16] at H
        exact absurd H (by simp)
      ·rw [if_neg c15] at H
       have c15b0 : decide (x25_2 < (l0.length : Int)) = false := decide_eq_false c15
       clear c15
       simp only [Option.some.injEq, Prod.mk.injEq] at H
       obtain ⟨rfl, rfl⟩ := H
       go_wp2
       go_ret2
       exact ⟨_, by first | rfl | (simp [errW_none, errW_some] <;> rfl) | (simp [*, errW_none, errW_some] <;> rfl), by (with_reducible repeat (first | apply Kd.R_alloc | apply Kd.R_drewN | apply Kd.R_drew)); exact HO_8.out, by repeat (first | (with_reducible first | exact HB.out | apply below_alloc | apply pw_below_drewN | apply below_drew1) | exact HB.out)⟩

/-! ### gudgeonref17_May: function 43 -/
def gudgeonref17_May.l0 : Nat → List (S69) → Int → Option (Bool)
 | 0, _, _ => none
 | k + 1, x0, x3 => if x3 < (x0.length : Int) then (if 0 ≤ x3 then ((gudgeonref07_Point.f ((rd_T69 x0 x3).f1)).bind fun t307 => (if ((rd_T69 x0 x3).f0) < (-1) then (some false) else (if ((rd_T69 x0 x3).f0) = (-1) then (if t307 = true then (gudgeonref17_May.l0 k x0 (wrap64 (x3 + 1))) else (some false)) else (gudgeonref17_May.l0 k x0 (wrap64 (x3 + 1)))))) else (none)) else (some (decide ((x0.length : Int) ≤ 4000)))
def gudgeonref17_May.f (k : Nat) (l0 : List (S69)) : Option (Bool) := gudgeonref17_May.l0 k l0 0
set_option maxHeartbeats 8000000 in
set_option maxRecDepth 100000 in
theorem gudgeonref17_May.calls (k : Nat) (A0 : Option Addr) (c0 : Nat) (l0 : List (S69)) (r : Bool) (w : World) (hr0 : Kd.C k69 w A0 l0.length l0) (hc0 : l0.length ≤ c0) (h : gudgeonref17_May.f k l0 = some r) :
  Calls Try.prog 43 #[.slice A0 l0.length c0] w fun e w' => e = .returned (.bool r) ∧ Drawn0 w w' := by
 have HR0 := Aside0.mk hr0
 have HC0 := Aside0.mk hc0
 clear hr0 hc0
 have H : (gudgeonref17_May.l0 k l0 0) = some r := h
 clear h
 have H' := Aside0.mk H
 clear H
 go_enter Try.func43, Try.ntmps43
 go_wp2
 go_loopg [3] k (fun kq v3 w' => ∃ (x3_1 : Int), v3 = .int .i64 x3_1 ∧ Aside0 (gudgeonref17_May.l0 kq l0 x3_1 = some r) ∧ Aside0 (kq ≤ k) ∧ Drawn0 w w')
 case atStart => exact ⟨(0), (by first | rfl | (simp; done) | (simp [*]; done) | (refine congrArg (Value.int _) ?_; omega) | (refine congrArg Value.bool ?_; generalize ByteArray.toList _ = z_; cases z_ <;> rfl)), H', ⟨Nat.le_refl _⟩, by repeat (first | exact Drawn0.refl _ | apply Drawn0.step)⟩
 case round =>
  clear H'
  obtain ⟨x3_1, rfl, HA, HK1, ⟨m1, rfl⟩⟩ := hrel
  cases gk with
  | zero => exact absurd HA.out (by simp [gudgeonref17_May.l0])
  | succ k1 =>
   have H := HA.out
   clear HA
   simp only [gudgeonref17_May.l0] at H
   by_cases c2 : x3_1 < (l0.length : Int)
   ·rw [if_pos c2] at H
    have c2b0 : decide (x3_1 < (l0.length : Int)) = true := decide_eq_true c2
    clear c2
    by_cases c3 : 0 ≤ x3_1
    ·rw [if_pos c3] at H
     have c3b0 : decide (0 ≤ x3_1) = true := decide_eq_true c3
     clear c3
     replace H := Option.bind_eq_some_iff.mp H
     obtain ⟨t307, A40, H⟩ := H
     replace H : (if ((rd_T69 l0 x3_1).f0) < (-1) then (some false) else (if ((rd_T69 l0 x3_1).f0) = (-1) then (if t307 = true then (gudgeonref17_May.l0 k1 l0 (wrap64 (x3_1 + 1))) else (some false)) else (gudgeonref17_May.l0 k1 l0 (wrap64 (x3_1 + 1))))) = some r := H
     have A4 := Aside0.mk A40
     clear A40
     by_cases c5 : ((rd_T69 l0 x3_1).f0) < (-1)
     ·rw [if_pos c5] at H
      have c5b0 : decide (((rd_T69 l0 x3_1).f0) < (-1)) = true := decide_eq_true c5
      clear c5
      obtain rfl := Option.some.inj H
      have p306 : 0 ≤ (x3_1 : Int) := of_decide_eq_true (by first | (with_reducible assumption) | assumption)
      have q306 : x3_1 < (l0.length : Int) := of_decide_eq_true (by first | (with_reducible assumption) | assumption)
      obtain ⟨ad306, e306, hx306_0, hx306_1⟩ := at_T69 HR0.out x3_1 p306 q306
      cases e306
      replace p306 := eq_true p306
      replace q306 := eq_true q306
      go_wp2_with (first | ((with_reducible refine gate_callee (f := 75) rfl ?_); refine goesL_ (some 16) rfl rfl Try.func75 (by kernel_rfl) rfl #[.int .i64 ((rd_T69 l0 x3_1).f1)] rfl (by (try simp only [List.map_toArray, List.map_cons, List.map_nil]); first | done | rfl | (simp only [List.length_drop, List.length_take]; rfl)) ?_; (with_reducible refine (gudgeonref07_Point.calls ((rd_T69 l0 x3_1).f1) t307 _ A4.out).mono ?_); rintro e w' ⟨rfl, ⟨nd, rfl⟩⟩; refine ⟨_, rfl, ?_⟩; have p308 : 0 ≤ (x3_1 : Int) := of_decide_eq_true (by first | (with_reducible assumption) | assumption); have q308 : x3_1 < (l0.length : Int) := of_decide_eq_true (by first | (with_reducible assumption) | assumption); obtain ⟨ad308, e308, hx308_0, hx308_1⟩ := at_T69 HR0.out x3_1 p308 q308; obtain rfl : ad306 = ad308 := (by injection e308); replace p308 := eq_true p308; replace q308 := eq_true q308))
      go_ret
      exact ⟨by first | rfl | (simp; done) | (simp [*]; done) | (refine congrArg (fun z_ => Ending.returned (Value.bool z_)) ?_; generalize ByteArray.toList _ = z_; cases z_ <;> rfl) | (refine congrArg (Value.int _) ?_; omega) | (refine congrArg Value.bool ?_; generalize ByteArray.toList _ = z_; cases z_ <;> rfl), by repeat (first | exact Drawn0.refl _ | apply Drawn0.step)⟩
     ·rw [if_neg c5] at H
      have c5b0 : decide (((rd_T69 l0 x3_1).f0) < (-1)) = false := decide_eq_false c5
      clear c5
      by_cases c6 : ((rd_T69 l0 x3_1).f0) = (-1)
      ·rw [if_pos c6] at H
       have c6b0 : (((rd_T69 l0 x3_1).f0) == (-1)) = true := beq_iff_eq.mpr c6
       have c6b1 : (((rd_T69 l0 x3_1).f0) != (-1)) = false := bne_eq_false_iff_eq.mpr c6
       clear c6
       by_cases c7 : t307 = true
       ·subst c7
        have H1 : (gudgeonref17_May.l0 k1 l0 (wrap64 (x3_1 + 1))) = some r := by rw [if_pos rfl] at H; exact H
        clear H
        have H := H1
        clear H1
        have H' := Aside0.mk H
        clear H
        have p306 : 0 ≤ (x3_1 : Int) := of_decide_eq_true (by first | (with_reducible assumption) | assumption)
        have q306 : x3_1 < (l0.length : Int) := of_decide_eq_true (by first | (with_reducible assumption) | assumption)
        obtain ⟨ad306, e306, hx306_0, hx306_1⟩ := at_T69 HR0.out x3_1 p306 q306
        cases e306
        replace p306 := eq_true p306
        replace q306 := eq_true q306
        go_wp2_with (first | ((with_reducible refine gate_callee (f := 75) rfl ?_); refine goesL_ (some 16) rfl rfl Try.func75 (by kernel_rfl) rfl #[.int .i64 ((rd_T69 l0 x3_1).f1)] rfl (by (try simp only [List.map_toArray, List.map_cons, List.map_nil]); first | done | rfl | (simp only [List.length_drop, List.length_take]; rfl)) ?_; (with_reducible refine (gudgeonref07_Point.calls ((rd_T69 l0 x3_1).f1) true _ A4.out).mono ?_); rintro e w' ⟨rfl, ⟨nd, rfl⟩⟩; refine ⟨_, rfl, ?_⟩; have p308 : 0 ≤ (x3_1 : Int) := of_decide_eq_true (by first | (with_reducible assumption) | assumption); have q308 : x3_1 < (l0.length : Int) := of_decide_eq_true (by first | (with_reducible assumption) | assumption); obtain ⟨ad308, e308, hx308_0, hx308_1⟩ := at_T69 HR0.out x3_1 p308 q308; obtain rfl : ad306 = ad308 := (by injection e308); replace p308 := eq_true p308; replace q308 := eq_true q308; have p309 : 0 ≤ (x3_1 : Int) := of_decide_eq_true (by first | (with_reducible assumption) | assumption); have q309 : x3_1 < (l0.length : Int) := of_decide_eq_true (by first | (with_reducible assumption) | assumption); obtain ⟨ad309, e309, hx309_0, hx309_1⟩ := at_T69 HR0.out x3_1 p309 q309; obtain rfl : ad306 = ad309 := (by injection e309); replace p309 := eq_true p309; replace q309 := eq_true q309))
        go_roundg k1
        case measure => have := HK1.out; omega
        case rel => exact ⟨(wrap64 (x3_1 + 1)), (by first | rfl | (simp; done) | (simp [*]; done) | (refine congrArg (Value.int _) ?_; omega) | (refine congrArg Value.bool ?_; generalize ByteArray.toList _ = z_; cases z_ <;> rfl)), H', ⟨by have := HK1.out; omega⟩, by repeat (first | exact Drawn0.refl _ | apply Drawn0.step)⟩
       ·replace c7 := Bool.eq_false_iff.mpr c7
        subst c7
        have H1 : (some false) = some r := by rw [if_neg (show ¬ (false = true) by decide)] at H; exact H
        clear H
        have H := H1
        clear H1
        obtain rfl := Option.some.inj H
        have p306 : 0 ≤ (x3_1 : Int) := of_decide_eq_true (by first | (with_reducible assumption) | assumption)
        have q306 : x3_1 < (l0.length : Int) := of_decide_eq_true (by first | (with_reducible assumption) | assumption)
        obtain ⟨ad306, e306, hx306_0, hx306_1⟩ := at_T69 HR0.out x3_1 p306 q306
        cases e306
        replace p306 := eq_true p306
        replace q306 := eq_true q306
        go_wp2_with (first | ((with_reducible refine gate_callee (f := 75) rfl ?_); refine goesL_ (some 16) rfl rfl Try.func75 (by kernel_rfl) rfl #[.int .i64 ((rd_T69 l0 x3_1).f1)] rfl (by (try simp only [List.map_toArray, List.map_cons, List.map_nil]); first | done | rfl | (simp only [List.length_drop, List.length_take]; rfl)) ?_; (with_reducible refine (gudgeonref07_Point.calls ((rd_T69 l0 x3_1).f1) false _ A4.out).mono ?_); rintro e w' ⟨rfl, ⟨nd, rfl⟩⟩; refine ⟨_, rfl, ?_⟩; have p308 : 0 ≤ (x3_1 : Int) := of_decide_eq_true (by first | (with_reducible assumption) | assumption); have q308 : x3_1 < (l0.length : Int) := of_decide_eq_true (by first | (with_reducible assumption) | assumption); obtain ⟨ad308, e308, hx308_0, hx308_1⟩ := at_T69 HR0.out x3_1 p308 q308; obtain rfl : ad306 = ad308 := (by injection e308); replace p308 := eq_true p308; replace q308 := eq_true q308; have p309 : 0 ≤ (x3_1 : Int) := of_decide_eq_true (by first | (with_reducible assumption) | assumption); have q309 : x3_1 < (l0.length : Int) := of_decide_eq_true (by first | (with_reducible assumption) | assumption); obtain ⟨ad309, e309, hx309_0, hx309_1⟩ := at_T69 HR0.out x3_1 p309 q309; obtain rfl : ad306 = ad309 := (by injection e309); replace p309 := eq_true p309; replace q309 := eq_true q309))
        go_ret
        exact ⟨by first | rfl | (simp; done) | (simp [*]; done) | (refine congrArg (fun z_ => Ending.returned (Value.bool z_)) ?_; generalize ByteArray.toList _ = z_; cases z_ <;> rfl) | (refine congrArg (Value.int _) ?_; omega) | (refine congrArg Value.bool ?_; generalize ByteArray.toList _ = z_; cases z_ <;> rfl), by repeat (first | exact Drawn0.refl _ | apply Drawn0.step)⟩
      ·rw [if_neg c6] at H
       have c6b0 : (((rd_T69 l0 x3_1).f0) == (-1)) = false := beq_eq_false_iff_ne.mpr c6
       have c6b1 : (((rd_T69 l0 x3_1).f0) != (-1)) = true := bne_iff_ne.mpr c6
       have H' := Aside0.mk H
       clear H
       have p306 : 0 ≤ (x3_1 : Int) := of_decide_eq_true (by first | (with_reducible assumption) | assumption)
       have q306 : x3_1 < (l0.length : Int) := of_decide_eq_true (by first | (with_reducible assumption) | assumption)
       obtain ⟨ad306, e306, hx306_0, hx306_1⟩ := at_T69 HR0.out x3_1 p306 q306
       cases e306
       replace p306 := eq_true p306
       replace q306 := eq_true q306
       go_wp2_with (first | ((with_reducible refine gate_callee (f := 75) rfl ?_); refine goesL_ (some 16) rfl rfl Try.func75 (by kernel_rfl) rfl #[.int .i64 ((rd_T69 l0 x3_1).f1)] rfl (by (try simp only [List.map_toArray, List.map_cons, List.map_nil]); first | done | rfl | (simp only [List.length_drop, List.length_take]; rfl)) ?_; (with_reducible refine (gudgeonref07_Point.calls ((rd_T69 l0 x3_1).f1) t307 _ A4.out).mono ?_); rintro e w' ⟨rfl, ⟨nd, rfl⟩⟩; refine ⟨_, rfl, ?_⟩; have p308 : 0 ≤ (x3_1 : Int) := of_decide_eq_true (by first | (with_reducible assumption) | assumption); have q308 : x3_1 < (l0.length : Int) := of_decide_eq_true (by first | (with_reducible assumption) | assumption); obtain ⟨ad308, e308, hx308_0, hx308_1⟩ := at_T69 HR0.out x3_1 p308 q308; obtain rfl : ad306 = ad308 := (by injection e308); replace p308 := eq_true p308; replace q308 := eq_true q308; have p309 : 0 ≤ (x3_1 : Int) := of_decide_eq_true (by first | (with_reducible assumption) | assumption); have q309 : x3_1 < (l0.length : Int) := of_decide_eq_true (by first | (with_reducible assumption) | assumption); obtain ⟨ad309, e309, hx309_0, hx309_1⟩ := at_T69 HR0.out x3_1 p309 q309; obtain rfl : ad306 = ad309 := (by injection e309); replace p309 := eq_true p309; replace q309 := eq_true q309))
       go_roundg k1
       case measure => have := HK1.out; omega
       case rel => exact ⟨(wrap64 (x3_1 + 1)), (by first | rfl | (simp; done) | (simp [*]; done) | (refine congrArg (Value.int _) ?_; omega) | (refine congrArg Value.bool ?_; generalize ByteArray.toList _ = z_; cases z_ <;> rfl)), H', ⟨by have := HK1.out; omega⟩, by repeat (first | exact Drawn0.refl _ | apply Drawn0.step)⟩
    ·rw [if_neg c3] at H
     exact absurd H (by simp)
   ·rw [if_neg c2] at H
    have c2b0 : decide (x3_1 < (l0.length : Int)) = false := decide_eq_false c2
    clear c2
    obtain rfl := Option.some.inj H
    go_wp2
    go_ret
    exact ⟨by first | rfl | (simp; done) | (simp [*]; done) | (refine congrArg (fun z_ => Ending.returned (Value.bool z_)) ?_; generalize ByteArray.toList _ = z_; cases z_ <;> rfl) | (refine congrArg (Value.int _) ?_; omega) | (refine congrArg Value.bool ?_; generalize ByteArray.toList _ = z_; cases z_ <;> rfl), by repeat (first | exact Drawn0.refl _ | apply Drawn0.step)⟩

end Go.Proofs.Ytbigeaknbhmniaa.PA
/- Written by a program of this session, wip/tools/patch_print.py, over the kit's print of the loaded functions. -/
namespace Go.Proofs.Ytbigeaknbhmniaa.H
end Go.Proofs.Ytbigeaknbhmniaa.H
namespace Go.Proofs.Ytbigeaknbhmniaa.PA
open Go.RowKit Go.Proofs.YtbigeaknbhmniaaW.PrintWords Go.Proofs.YtbigeaknbhmniaaW.PrintLast Go.Proofs.YtbigeaknbhmniaaW.PrintMore Go.Proofs.Ytbigeaknbhmniaa.H
attribute [local go_sem] max2_int min2_int max_two min_two max_three min_three max_four min_four   -- for this text's walks alone
set_option linter.unusedVariables false
set_option linter.unusedSimpArgs false

/-! ### gudgeonref17_Put: function 14 -/
mutual
def gudgeonref17_Put.j0 : Nat → List (S69) → Int → List (S69) → Bool → Option ((List (S69)) × Int)
 | 0, _, _, _, _ => none
 | k + 1, x0, x1, x2, x27 => if x27 = true then (some (([] : List (S69)), 1)) else (gudgeonref17_Put.l0 k x0 x1 x2 0 0)
def gudgeonref17_Put.l0 : Nat → List (S69) → Int → List (S69) → Int → Int → Option ((List (S69)) × Int)
 | 0, _, _, _, _, _ => none
 | k + 1, x0, x1, x2, x10, x11 => if x11 < (x0.length : Int) then (if 0 ≤ x11 then (if ((rd_T69 x0 x11).f0) = x1 then (gudgeonref17_Put.l0 k x0 x1 x2 (wrap64 (x10 + (x2.length : Int))) (wrap64 (x11 + 1))) else (gudgeonref17_Put.l0 k x0 x1 x2 (wrap64 (x10 + 1)) (wrap64 (x11 + 1)))) else (none)) else (if x10 > 4000 then (some (([] : List (S69)), 2)) else (gudgeonref17_Put.l1 k x0 x1 x2 ([] : List (S69)) 0))
def gudgeonref17_Put.l1 : Nat → List (S69) → Int → List (S69) → List (S69) → Int → Option ((List (S69)) × Int)
 | 0, _, _, _, _, _ => none
 | k + 1, x0, x1, x2, x12, x13 => if x13 < (x0.length : Int) then (if 0 ≤ x13 then (if ((rd_T69 x0 x13).f0) = x1 then (if x12.length + x2.length < 8796093022208 then (gudgeonref17_Put.l1 k x0 x1 x2 (x12 ++ x2) (wrap64 (x13 + 1))) else (none)) else (if x12.length < 8796093022208 then (gudgeonref17_Put.l1 k x0 x1 x2 (x12 ++ [(⟨(rd_T69 x0 x13).f0, (rd_T69 x0 x13).f1⟩ : S69)]) (wrap64 (x13 + 1))) else (none))) else (none)) else (some (x12, 0))
end
def gudgeonref17_Put.f (k : Nat) (l0 : List (S69)) (a1 : Int) (l2 : List (S69)) : Option ((List (S69)) × Int) := (gudgeonref17_May.f k l0).bind fun t310 => ((gudgeonref17_May.f k l2).bind fun t311 => (if t310 = true then (if t311 = true then (gudgeonref17_Put.j0 k l0 a1 l2 (decide (a1 < 0))) else (gudgeonref17_Put.j0 k l0 a1 l2 true)) else (gudgeonref17_Put.j0 k l0 a1 l2 true)))
set_option maxHeartbeats 8000000 in
set_option maxRecDepth 100000 in
theorem gudgeonref17_Put.calls (k : Nat) (A0 : Option Addr) (c0 : Nat) (l0 : List (S69)) (a1 : Int) (A2 : Option Addr) (c2 : Nat) (l2 : List (S69)) (r1 : List (S69)) (r2 : Int) (w : World) (hr0 : Kd.C k69 w A0 l0.length l0) (hc0 : l0.length ≤ c0) (hr2 : Kd.C k69 w A2 l2.length l2) (hc2 : l2.length ≤ c2) (h : gudgeonref17_Put.f k l0 a1 l2 = some (r1, r2)) :
  Calls Try.prog 14 #[.slice A0 l0.length c0, .int .i64 a1, .slice A2 l2.length c2] w fun e w' => ∃ v0_ : Value, e = .returned (.tuple #[v0_, .int .i64 r2]) ∧ Kd.R k69 69 w' w.heap.size (fun _ => True) v0_ r1 ∧ Below w.heap.size w w' := by
 have hu69 := Try.underlying69
 have HR0 := Aside0.mk hr0
 have HC0 := Aside0.mk hc0
 clear hr0 hc0
 have HR2 := Aside0.mk hr2
 have HC2 := Aside0.mk hc2
 clear hr2 hc2
 have HB := Aside0.mk (Below.refl w.heap.size w)
 have H : ((gudgeonref17_May.f k l0).bind fun t310 => ((gudgeonref17_May.f k l2).bind fun t311 => (if t310 = true then (if t311 = true then (gudgeonref17_Put.j0 k l0 a1 l2 (decide (a1 < 0))) else (gudgeonref17_Put.j0 k l0 a1 l2 true)) else (gudgeonref17_Put.j0 k l0 a1 l2 true)))) = some (r1, r2) := h
 clear h
 replace H := Option.bind_eq_some_iff.mp H
 obtain ⟨t310, A40, H⟩ := H
 replace H : ((gudgeonref17_May.f k l2).bind fun t311 => (if t310 = true then (if t311 = true then (gudgeonref17_Put.j0 k l0 a1 l2 (decide (a1 < 0))) else (gudgeonref17_Put.j0 k l0 a1 l2 true)) else (gudgeonref17_Put.j0 k l0 a1 l2 true))) = some (r1, r2) := H
 have A4 := Aside0.mk A40
 clear A40
 replace H := Option.bind_eq_some_iff.mp H
 obtain ⟨t311, A50, H⟩ := H
 replace H : (if t310 = true then (if t311 = true then (gudgeonref17_Put.j0 k l0 a1 l2 (decide (a1 < 0))) else (gudgeonref17_Put.j0 k l0 a1 l2 true)) else (gudgeonref17_Put.j0 k l0 a1 l2 true)) = some (r1, r2) := H
 have A5 := Aside0.mk A50
 clear A50
 have HC6 := Aside0.mk H
 clear H
 go_enter Try.func14, Try.ntmps14
 go_upto_region 3 with (first | ((with_reducible refine gate_callee (f := 43) rfl ?_); refine goesL_ (some 15) rfl rfl Try.func43 (by kernel_rfl) rfl #[.slice A0 l0.length c0] rfl (by (try simp only [List.map_toArray, List.map_cons, List.map_nil]); first | done | rfl | (simp only [List.length_drop, List.length_take]; rfl)) ?_; (with_reducible refine (gudgeonref17_May.calls k _ _ l0 t310 _ ?side1 ?side2 A4.out).mono ?_); (case side1 => repeat (first | exact HR0.out | (with_reducible refine Kd.C_alloc ?_ _) | (with_reducible refine Kd.C_drewN ?_ _) | (with_reducible refine Kd.C_drew ?_))); (case side2 => exact HC0.out); rintro e w' ⟨rfl, ⟨nd, rfl⟩⟩; refine ⟨_, rfl, ?_⟩) | ((with_reducible refine gate_callee (f := 43) rfl ?_); refine goesL_ (some 17) rfl rfl Try.func43 (by kernel_rfl) rfl #[.slice A2 l2.length c2] rfl (by (try simp only [List.map_toArray, List.map_cons, List.map_nil]); first | done | rfl | (simp only [List.length_drop, List.length_take]; rfl)) ?_; (with_reducible refine (gudgeonref17_May.calls k _ _ l2 t311 _ ?side1 ?side2 A5.out).mono ?_); (case side1 => repeat (first | exact HR2.out | (with_reducible refine Kd.C_alloc ?_ _) | (with_reducible refine Kd.C_drewN ?_ _) | (with_reducible refine Kd.C_drew ?_))); (case side2 => exact HC2.out); rintro e w' ⟨rfl, ⟨nd, rfl⟩⟩; refine ⟨_, rfl, ?_⟩))
 (try simp only [Act.put, List.setIfInBounds_toArray, List.set_cons_zero, List.set_cons_succ])
 go_cut [27] (fun v27 wc => ∃ (kq : Nat) (x27_5 : Bool), v27 = .bool x27_5 ∧ Aside0 (gudgeonref17_Put.j0 kq l0 a1 l2 x27_5 = some (r1, r2)) ∧ Aside0 (kq ≤ k) ∧ Aside0 (Below w.heap.size w wc))
 case first =>
  have H := HC6.out
  clear HC6
  by_cases c7 : t310 = true
  ·subst c7
   have H1 : (if t311 = true then (gudgeonref17_Put.j0 k l0 a1 l2 (decide (a1 < 0))) else (gudgeonref17_Put.j0 k l0 a1 l2 true)) = some (r1, r2) := by rw [if_pos rfl] at H; exact H
   clear H
   have H := H1
   clear H1
   by_cases c8 : t311 = true
   ·subst c8
    have H1 : (gudgeonref17_Put.j0 k l0 a1 l2 (decide (a1 < 0))) = some (r1, r2) := by rw [if_pos rfl] at H; exact H
    clear H
    have H := H1
    clear H1
    have H' := Aside0.mk H
    clear H
    go_wp2
    go_meet
    case rel => exact ⟨_, (decide (a1 < 0)), (by first | rfl | (simp; done) | (simp [*]; done) | (refine congrArg (Value.int _) ?_; omega) | (refine congrArg Value.bool ?_; generalize ByteArray.toList _ = z_; cases z_ <;> rfl)), H', ⟨by first | omega | exact Nat.le_refl _⟩, ⟨by repeat (first | (with_reducible first | exact HB.out | apply below_alloc | apply pw_below_drewN | apply below_drew1) | exact HB.out)⟩⟩
   ·replace c8 := Bool.eq_false_iff.mpr c8
    subst c8
    have H1 : (gudgeonref17_Put.j0 k l0 a1 l2 true) = some (r1, r2) := by rw [if_neg (show ¬ (false = true) by decide)] at H; exact H
    clear H
    have H := H1
    clear H1
    have H' := Aside0.mk H
    clear H
    go_wp2
    go_meet
    case rel => exact ⟨_, (true), (by first | rfl | (simp; done) | (simp [*]; done) | (refine congrArg (Value.int _) ?_; omega) | (refine congrArg Value.bool ?_; generalize ByteArray.toList _ = z_; cases z_ <;> rfl)), H', ⟨by first | omega | exact Nat.le_refl _⟩, ⟨by repeat (first | (with_reducible first | exact HB.out | apply below_alloc | apply pw_below_drewN | apply below_drew1) | exact HB.out)⟩⟩
  ·replace c7 := Bool.eq_false_iff.mpr c7
   subst c7
   have H1 : (gudgeonref17_Put.j0 k l0 a1 l2 true) = some (r1, r2) := by rw [if_neg (show ¬ (false = true) by decide)] at H; exact H
   clear H
   have H := H1
   clear H1
   have H' := Aside0.mk H
   clear H
   go_wp2
   go_meet
   case rel => exact ⟨_, (true), (by first | rfl | (simp; done) | (simp [*]; done) | (refine congrArg (Value.int _) ?_; omega) | (refine congrArg Value.bool ?_; generalize ByteArray.toList _ = z_; cases z_ <;> rfl)), H', ⟨by first | omega | exact Nat.le_refl _⟩, ⟨by repeat (first | (with_reducible first | exact HB.out | apply below_alloc | apply pw_below_drewN | apply below_drew1) | exact HB.out)⟩⟩
 case rest =>
  clear HC6
  try clear c1
  try clear c2
  try clear p2
  try clear c4
  try clear c7
  try clear c8
  obtain ⟨kq, x27_5, rfl, HA, HJ5, HB⟩ := hcut
  cases kq with
  | zero => exact absurd HA.out (by simp [gudgeonref17_Put.j0])
  | succ kj5 =>
   have H := HA.out
   clear HA
   simp only [gudgeonref17_Put.j0] at H
   by_cases c9 : x27_5 = true
   ·subst c9
    have H1 : (some (([] : List (S69)), 1)) = some (r1, r2) := by rw [if_pos rfl] at H; exact H
    clear H
    have H := H1
    clear H1
    simp only [Option.some.injEq, Prod.mk.injEq] at H
    obtain ⟨rfl, rfl⟩ := H
    go_wp2
    go_ret2
    exact ⟨_, by first | rfl | (simp [errW_none, errW_some] <;> rfl) | (simp [*, errW_none, errW_some] <;> rfl), by first | exact Kd.R_nil _ _ _ _ _ | exact Kd.N_nil _ _ _ _ _ | exact Kd.V_nil _ _ _ _ _ | exact Kd.Q_nil _ _ _ _ _ | exact Kd.S_nil _ _ _ _ _, by repeat (first | (with_reducible first | exact HB.out | apply below_alloc | apply pw_below_drewN | apply below_drew1) | exact HB.out)⟩
   ·replace c9 := Bool.eq_false_iff.mpr c9
    subst c9
    have H1 : (gudgeonref17_Put.l0 kj5 l0 a1 l2 0 0) = some (r1, r2) := by rw [if_neg (show ¬ (false = true) by decide)] at H; exact H
    clear H
    have H := H1
    clear H1
    have H' := Aside0.mk H
    clear H
    go_wp2
    go_loopg [10, 11] kj5 (fun kq v10 v11 w' => ∃ (x10_2 : Int) (x11_2 : Int), v10 = .int .i64 x10_2 ∧ v11 = .int .i64 x11_2 ∧ Aside0 (gudgeonref17_Put.l0 kq l0 a1 l2 x10_2 x11_2 = some (r1, r2)) ∧ Aside0 (kq ≤ kj5) ∧ Aside0 (Below w.heap.size w w'))
    case atStart => exact ⟨(0), (0), (by first | rfl | (simp; done) | (simp [*]; done) | (refine congrArg (Value.int _) ?_; omega) | (refine congrArg Value.bool ?_; generalize ByteArray.toList _ = z_; cases z_ <;> rfl)), (by first | rfl | (simp; done) | (simp [*]; done) | (refine congrArg (Value.int _) ?_; omega) | (refine congrArg Value.bool ?_; generalize ByteArray.toList _ = z_; cases z_ <;> rfl)), H', ⟨Nat.le_refl _⟩, ⟨by repeat (first | (with_reducible first | exact HB.out | apply below_alloc | apply pw_below_drewN | apply below_drew1) | exact HB.out)⟩⟩
    case round =>
     clear H'
     try clear c1
     try clear c2
     try clear p2
     try clear c4
     try clear c7
     try clear c8
     try clear c9
     try clear p2
     obtain ⟨x10_2, x11_2, rfl, rfl, HA, HK2, HB⟩ := hrel
     cases gk with
     | zero => exact absurd HA.out (by simp [gudgeonref17_Put.l0])
     | succ k2 =>
      have H := HA.out
      clear HA
      simp only [gudgeonref17_Put.l0] at H
      by_cases c10 : x11_2 < (l0.length : Int)
      ·rw [if_pos c10] at H
       have c10b0 : decide (x11_2 < (l0.length : Int)) = true := decide_eq_true c10
       clear c10
       by_cases c11 : 0 ≤ x11_2
       ·rw [if_pos c11] at H
        have c11b0 : decide (0 ≤ x11_2) = true := decide_eq_true c11
        clear c11
        by_cases c12 : ((rd_T69 l0 x11_2).f0) = a1
        ·rw [if_pos c12] at H
         have c12b0 : (((rd_T69 l0 x11_2).f0) == a1) = true := beq_iff_eq.mpr c12
         have c12b1 : (((rd_T69 l0 x11_2).f0) != a1) = false := bne_eq_false_iff_eq.mpr c12
         clear c12
         have H' := Aside0.mk H
         clear H
         have p312 : 0 ≤ (x11_2 : Int) := of_decide_eq_true (by first | (with_reducible assumption) | assumption)
         have q312 : x11_2 < (l0.length : Int) := of_decide_eq_true (by first | (with_reducible assumption) | assumption)
         obtain ⟨ad312, e312, hx312_0, hx312_1⟩ := at_T69 HR0.out x11_2 p312 q312
         cases e312
         replace hx312_0 := (HB.out.cell (World.block_lt_of_cell? w _ hx312_0)).trans hx312_0
         replace hx312_1 := (HB.out.cell (World.block_lt_of_cell? w _ hx312_1)).trans hx312_1
         replace p312 := eq_true p312
         replace q312 := eq_true q312
         go_wp2
         go_roundg k2
         case measure => have := HJ5.out; have := HK2.out; omega
         case rel => exact ⟨(wrap64 (x10_2 + (l2.length : Int))), (wrap64 (x11_2 + 1)), (by first | rfl | (simp; done) | (simp [*]; done) | (refine congrArg (Value.int _) ?_; omega) | (refine congrArg Value.bool ?_; generalize ByteArray.toList _ = z_; cases z_ <;> rfl)), (by first | rfl | (simp; done) | (simp [*]; done) | (refine congrArg (Value.int _) ?_; omega) | (refine congrArg Value.bool ?_; generalize ByteArray.toList _ = z_; cases z_ <;> rfl)), H', ⟨by have := HJ5.out; have := HK2.out; omega⟩, ⟨by repeat (first | (with_reducible first | exact HB.out | apply below_alloc | apply pw_below_drewN | apply below_drew1) | exact HB.out)⟩⟩
        ·rw [if_neg c12] at H
         have c12b0 : (((rd_T69 l0 x11_2).f0) == a1) = false := beq_eq_false_iff_ne.mpr c12
         have c12b1 : (((rd_T69 l0 x11_2).f0) != a1) = true := bne_iff_ne.mpr c12
         have H' := Aside0.mk H
         clear H
         have p312 : 0 ≤ (x11_2 : Int) := of_decide_eq_true (by first | (with_reducible assumption) | assumption)
         have q312 : x11_2 < (l0.length : Int) := of_decide_eq_true (by first | (with_reducible assumption) | assumption)
         obtain ⟨ad312, e312, hx312_0, hx312_1⟩ := at_T69 HR0.out x11_2 p312 q312
         cases e312
         replace hx312_0 := (HB.out.cell (World.block_lt_of_cell? w _ hx312_0)).trans hx312_0
         replace hx312_1 := (HB.out.cell (World.block_lt_of_cell? w _ hx312_1)).trans hx312_1
         replace p312 := eq_true p312
         replace q312 := eq_true q312
         go_wp2
         go_roundg k2
         case measure => have := HJ5.out; have := HK2.out; omega
         case rel => exact ⟨(wrap64 (x10_2 + 1)), (wrap64 (x11_2 + 1)), (by first | rfl | (simp; done) | (simp [*]; done) | (refine congrArg (Value.int _) ?_; omega) | (refine congrArg Value.bool ?_; generalize ByteArray.toList _ = z_; cases z_ <;> rfl)), (by first | rfl | (simp; done) | (simp [*]; done) | (refine congrArg (Value.int _) ?_; omega) | (refine congrArg Value.bool ?_; generalize ByteArray.toList _ = z_; cases z_ <;> rfl)), H', ⟨by have := HJ5.out; have := HK2.out; omega⟩, ⟨by repeat (first | (with_reducible first | exact HB.out | apply below_alloc | apply pw_below_drewN | apply below_drew1) | exact HB.out)⟩⟩
       ·rw [if_neg c11] at H
        exact absurd H (by simp)
      ·rw [if_neg c10] at H
       have c10b0 : decide (x11_2 < (l0.length : Int)) = false := decide_eq_false c10
       clear c10
       by_cases c13 : x10_2 > 4000
       ·rw [if_pos c13] at H
        have c13b0 : decide (4000 < x10_2) = true := decide_eq_true c13
        clear c13
        simp only [Option.some.injEq, Prod.mk.injEq] at H
        obtain ⟨rfl, rfl⟩ := H
        go_wp2
        go_ret2
        exact ⟨_, by first | rfl | (simp [errW_none, errW_some] <;> rfl) | (simp [*, errW_none, errW_some] <;> rfl), by first | exact Kd.R_nil _ _ _ _ _ | exact Kd.N_nil _ _ _ _ _ | exact Kd.V_nil _ _ _ _ _ | exact Kd.Q_nil _ _ _ _ _ | exact Kd.S_nil _ _ _ _ _, by repeat (first | (with_reducible first | exact HB.out | apply below_alloc | apply pw_below_drewN | apply below_drew1) | exact HB.out)⟩
       ·rw [if_neg c13] at H
        have c13b0 : decide (4000 < x10_2) = false := decide_eq_false c13
        clear c13
        have H' := Aside0.mk H
        clear H
        go_wp2
        go_loopg [12, 13] k2 (fun kq v12 v13 w' => ∃ (x12_3 : List (S69)) (x13_3 : Int), v13 = .int .i64 x13_3 ∧ Aside0 (gudgeonref17_Put.l1 kq l0 a1 l2 x12_3 x13_3 = some (r1, r2)) ∧ Aside0 (kq ≤ k2) ∧ Aside0 (Kd.R k69 69 w' w.heap.size (fun _ => True) v12 x12_3) ∧ Aside0 (Below w.heap.size w w'))
        case atStart => exact ⟨(([] : List (S69))), (0), (by first | rfl | (simp; done) | (simp [*]; done) | (refine congrArg (Value.int _) ?_; omega) | (refine congrArg Value.bool ?_; generalize ByteArray.toList _ = z_; cases z_ <;> rfl)), H', ⟨Nat.le_refl _⟩, ⟨by first | exact Kd.R_nil _ _ _ _ _ | exact Kd.N_nil _ _ _ _ _ | exact Kd.V_nil _ _ _ _ _ | exact Kd.Q_nil _ _ _ _ _ | exact Kd.S_nil _ _ _ _ _⟩, ⟨by repeat (first | (with_reducible first | exact HB.out | apply below_alloc | apply pw_below_drewN | apply below_drew1) | exact HB.out)⟩⟩
        case round =>
         clear H'
         try clear c1
         try clear c2
         try clear p2
         try clear p3
         try clear q3
         try clear hx3
         try clear c4
         try clear p6
         try clear c7
         try clear c8
         try clear c9
         try clear c10
         try clear c10b0
         try clear c11
         try clear c11b0
         try clear c12
         try clear c12b0
         try clear c12b1
         try clear c13
         try clear c13b0
         try clear hx312_0
         try clear hx312_1
         try clear p2
         try clear p312
         try clear q312
         obtain ⟨x12_3, x13_3, rfl, HA, HK3, HO_12, HB⟩ := hrel
         cases gk with
         | zero => exact absurd HA.out (by simp [gudgeonref17_Put.l1])
         | succ k3 =>
          have H := HA.out
          clear HA
          simp only [gudgeonref17_Put.l1] at H
          by_cases c14 : x13_3 < (l0.length : Int)
          ·rw [if_pos c14] at H
           have c14b0 : decide (x13_3 < (l0.length : Int)) = true := decide_eq_true c14
           clear c14
           by_cases c15 : 0 ≤ x13_3
           ·rw [if_pos c15] at H
            have c15b0 : decide (0 ≤ x13_3) = true := decide_eq_true c15
            clear c15
            by_cases c16 : ((rd_T69 l0 x13_3).f0) = a1
            ·rw [if_pos c16] at H
             have c16b0 : (((rd_T69 l0 x13_3).f0) == a1) = true := beq_iff_eq.mpr c16
             have c16b1 : (((rd_T69 l0 x13_3).f0) != a1) = false := bne_eq_false_iff_eq.mpr c16
             clear c16
             by_cases c17 : x12_3.length + l2.length < 8796093022208
             ·rw [if_pos c17] at H
              have LMc17 := Aside0.mk c17
              clear c17
              obtain ⟨y314, hy314⟩ : ∃ y_ : List (S69), y_ = (x12_3 ++ l2) := ⟨_, rfl⟩
              replace H : (gudgeonref17_Put.l1 k3 l0 a1 l2 y314 (wrap64 (x13_3 + 1))) = some (r1, r2) := by first | (rw [hy314]; with_reducible exact H) | (have H2_ := (Option.bind_some _ _).symm.trans H; rw [hy314]; with_reducible exact H2_) | (have H2_ := (Option.bind_some _ _).symm.trans H; with_reducible exact H2_) | with_reducible exact H | (rw [hy314]; exact H) | exact H
              have Ny314 := Aside0.mk hy314
              clear hy314
              have H' := Aside0.mk H
              clear H
              have p313 : 0 ≤ (x13_3 : Int) := of_decide_eq_true (by first | (with_reducible assumption) | assumption)
              have q313 : x13_3 < (l0.length : Int) := of_decide_eq_true (by first | (with_reducible assumption) | assumption)
              obtain ⟨ad313, e313, hx313_0, hx313_1⟩ := at_T69 HR0.out x13_3 p313 q313
              cases e313
              replace hx313_0 := (HB.out.cell (World.block_lt_of_cell? w _ hx313_0)).trans hx313_0
              replace hx313_1 := (HB.out.cell (World.block_lt_of_cell? w _ hx313_1)).trans hx313_1
              replace p313 := eq_true p313
              replace q313 := eq_true q313
              go_wp2_with (first | ((with_reducible refine gate_builtin (b := .append) (xs := #[.tmp 62, .tmp 63]) rfl ?_); at_builtin; refine Kd.R_append_rows k69 (w0 := w) w.heap.size rfl (.tmp 62) (.tmp 63) 23 69 (.agg #[(.int .i64 0), (.int .i64 0)]) 16 rfl Try.underlying23 info69 rfl (by decide) (by omega) u12 x12_3 l2 _ _ _ (fun _ => True) (fun _ => False) rfl rfl ?aO ?aR (fun _ _ h => h) (fun _ h => h.elim) ?aF ?aB ?aS ?aL ?_; (case aR => repeat (first | exact (Kd.C_below HR2.out HB.out) | (with_reducible refine Kd.C_alloc ?_ _) | (with_reducible refine Kd.C_drewN ?_ _) | (with_reducible refine Kd.C_drew ?_))); (case aB => exact (by repeat (first | (with_reducible first | exact HB.out | apply below_alloc | apply pw_below_drewN | apply below_drew1) | exact HB.out))); (case aF => exact (fun _ _ => trivial)); (case aO => exact (by (with_reducible repeat (first | apply Kd.R_alloc | apply Kd.R_drewN | apply Kd.R_drew)); exact HO_12.out)); (case aS => exact (below_size (by repeat (first | (with_reducible first | exact HB.out | apply below_alloc | apply pw_below_drewN | apply below_drew1) | exact HB.out)))); (case aL => have := LMc17.out; omega); intro v315 w18 ho hb hg hat; rw [← Ny314.out] at ho; have n0_ := Aside0.mk (hb); have n1_ := Aside0.mk (ho); clear HB; clear HO_12; have HB := n0_; have HO316 := n1_; clear n0_ n1_; clear ho hb hg hat))
              go_roundg k3
              case measure => have := HJ5.out; have := HK2.out; have := HK3.out; omega
              case rel => exact ⟨(y314), (wrap64 (x13_3 + 1)), (by first | rfl | (simp; done) | (simp [*]; done) | (refine congrArg (Value.int _) ?_; omega) | (refine congrArg Value.bool ?_; generalize ByteArray.toList _ = z_; cases z_ <;> rfl)), H', ⟨by have := HJ5.out; have := HK2.out; have := HK3.out; omega⟩, ⟨by (with_reducible repeat (first | apply Kd.R_alloc | apply Kd.R_drewN | apply Kd.R_drew)); exact HO316.out⟩, ⟨by repeat (first | (with_reducible first | exact HB.out | apply below_alloc | apply pw_below_drewN | apply below_drew1) | exact HB.out)⟩⟩
             ·rw [if_neg c17] at H
              exact absurd H (by simp)
            ·rw [if_neg c16] at H
             have c16b0 : (((rd_T69 l0 x13_3).f0) == a1) = false := beq_eq_false_iff_ne.mpr c16
             have c16b1 : (((rd_T69 l0 x13_3).f0) != a1) = true := bne_iff_ne.mpr c16
             by_cases c19 : x12_3.length < 8796093022208
             ·rw [if_pos c19] at H
              have LMc19 := Aside0.mk c19
              clear c19
              obtain ⟨y318, hy318⟩ : ∃ y_ : List (S69), y_ = (x12_3 ++ [(⟨(rd_T69 l0 x13_3).f0, (rd_T69 l0 x13_3).f1⟩ : S69)]) := ⟨_, rfl⟩
              replace H : (gudgeonref17_Put.l1 k3 l0 a1 l2 y318 (wrap64 (x13_3 + 1))) = some (r1, r2) := by first | (rw [hy318]; with_reducible exact H) | (have H2_ := (Option.bind_some _ _).symm.trans H; rw [hy318]; with_reducible exact H2_) | (have H2_ := (Option.bind_some _ _).symm.trans H; with_reducible exact H2_) | with_reducible exact H | (rw [hy318]; exact H) | exact H
              have Ny318 := Aside0.mk hy318
              clear hy318
              have H' := Aside0.mk H
              clear H
              have p313 : 0 ≤ (x13_3 : Int) := of_decide_eq_true (by first | (with_reducible assumption) | assumption)
              have q313 : x13_3 < (l0.length : Int) := of_decide_eq_true (by first | (with_reducible assumption) | assumption)
              obtain ⟨ad313, e313, hx313_0, hx313_1⟩ := at_T69 HR0.out x13_3 p313 q313
              cases e313
              replace hx313_0 := (HB.out.cell (World.block_lt_of_cell? w _ hx313_0)).trans hx313_0
              replace hx313_1 := (HB.out.cell (World.block_lt_of_cell? w _ hx313_1)).trans hx313_1
              replace p313 := eq_true p313
              replace q313 := eq_true q313
              have p317 : 0 ≤ (x13_3 : Int) := of_decide_eq_true (by first | (with_reducible assumption) | assumption)
              have q317 : x13_3 < (l0.length : Int) := of_decide_eq_true (by first | (with_reducible assumption) | assumption)
              obtain ⟨ad317, e317, hx317_0, hx317_1⟩ := at_T69 HR0.out x13_3 p317 q317
              obtain rfl : ad313 = ad317 := (by injection e317)
              replace hx317_0 := (HB.out.cell (World.block_lt_of_cell? w _ hx317_0)).trans hx317_0
              replace hx317_1 := (HB.out.cell (World.block_lt_of_cell? w _ hx317_1)).trans hx317_1
              replace p317 := eq_true p317
              replace q317 := eq_true q317
              go_wp2_with (first | ((with_reducible refine gate_builtin (b := .append) (xs := #[.tmp 65, .tmp 70]) rfl ?_); at_builtin; refine Kd.R_append k69 (w0 := w) w.heap.size rfl (.tmp 65) (.tmp 70) 23 69 (.agg #[(.int .i64 0), (.int .i64 0)]) 16 rfl Try.underlying23 info69 rfl (by decide) (by omega) u12 x12_3 (⟨(rd_T69 l0 x13_3).f0, (rd_T69 l0 x13_3).f1⟩ : S69) [.int .i64 ((rd_T69 l0 x13_3).f0), .int .i64 ((rd_T69 l0 x13_3).f1)] (fun _ => True) (fun _ => False) rfl rfl ?aP (fun _ hk => hk.elim) ?aF ?aO ?aB ?aS ?aL ?_; (case aP => exact k69_mkM _ _ _ (⟨(rd_T69 l0 x13_3).f0, (rd_T69 l0 x13_3).f1⟩ : S69)); (case aB => exact (by repeat (first | (with_reducible first | exact HB.out | apply below_alloc | apply pw_below_drewN | apply below_drew1) | exact HB.out))); (case aF => exact (fun _ _ => trivial)); (case aO => exact (by (with_reducible repeat (first | apply Kd.R_alloc | apply Kd.R_drewN | apply Kd.R_drew)); exact HO_12.out)); (case aS => exact (below_size (by repeat (first | (with_reducible first | exact HB.out | apply below_alloc | apply pw_below_drewN | apply below_drew1) | exact HB.out)))); (case aL => have := LMc19.out; omega); intro v319 w20 ho hb hg hat; rw [← Ny318.out] at ho; have n0_ := Aside0.mk (hb); have n1_ := Aside0.mk (ho); clear HB; clear HO_12; have HB := n0_; have HO320 := n1_; clear n0_ n1_; clear ho hb hg hat))
              go_roundg k3
              case measure => have := HJ5.out; have := HK2.out; have := HK3.out; omega
              case rel => exact ⟨(y318), (wrap64 (x13_3 + 1)), (by first | rfl | (simp; done) | (simp [*]; done) | (refine congrArg (Value.int _) ?_; omega) | (refine congrArg Value.bool ?_; generalize ByteArray.toList _ = z_; cases z_ <;> rfl)), H', ⟨by have := HJ5.out; have := HK2.out; have := HK3.out; omega⟩, ⟨by (with_reducible repeat (first | apply Kd.R_alloc | apply Kd.R_drewN | apply Kd.R_drew)); exact HO320.out⟩, ⟨by repeat (first | (with_reducible first | exact HB.out | apply below_alloc | apply pw_below_drewN | apply below_drew1) | exact HB.out)⟩⟩
             ·rw [if_neg c19] at H
              exact absurd H (by simp)
           ·rw [if_neg c15] at H
            exact absurd H (by simp)
          ·rw [if_neg c14] at H
           have c14b0 : decide (x13_3 < (l0.length : Int)) = false := decide_eq_false c14
           clear c14
           simp only [Option.some.injEq, Prod.mk.injEq] at H
           obtain ⟨rfl, rfl⟩ := H
           go_wp2
           go_ret2
           exact ⟨_, by first | rfl | (simp [errW_none, errW_some] <;> rfl) | (simp [*, errW_none, errW_some] <;> rfl), by (with_reducible repeat (first | apply Kd.R_alloc | apply Kd.R_drewN | apply Kd.R_drew)); exact HO_12.out, by repeat (first | (with_reducible first | exact HB.out | apply below_alloc | apply pw_below_drewN | apply below_drew1) | exact HB.out)⟩

end Go.Proofs.Ytbigeaknbhmniaa.PA
/- Written by a program of this session, wip/tools/patch_print.py, over the kit's print of the loaded functions. -/
namespace Go.Proofs.Ytbigeaknbhmniaa.H
end Go.Proofs.Ytbigeaknbhmniaa.H
namespace Go.Proofs.Ytbigeaknbhmniaa.PA
open Go.RowKit Go.Proofs.YtbigeaknbhmniaaW.PrintWords Go.Proofs.YtbigeaknbhmniaaW.PrintLast Go.Proofs.YtbigeaknbhmniaaW.PrintMore Go.Proofs.Ytbigeaknbhmniaa.H
attribute [local go_sem] max2_int min2_int max_two min_two max_three min_three max_four min_four   -- for this text's walks alone
set_option linter.unusedVariables false
set_option linter.unusedSimpArgs false

/-! ### gudgeonlaw17_WordPuts: function 3 -/
def gudgeonlaw17_WordPuts.j0 : Nat → List (S71) → List (S69) → Int → List (S69) → Bool → Bool → Option (Bool)
 | 0, _, _, _, _, _, _ => none
 | k + 1, x0, x1, x2, x3, x9, x37 => if x37 = true then (some x9) else ((word_Of.f k x0).bind fun bt322 => ((gudgeonref17_Of.f k x0).bind fun bt326 => ((word_Put.f k x1 x2 x3).bind fun bt330 => ((gudgeonref17_Put.f k x1 x2 x3).bind fun bt334 => ((gudgeonref17_Same.f k bt322.1 bt326.1).bind fun t338 => ((gudgeonref17_Same.f k bt330.1 bt334.1).bind fun t339 => (if t338 = true then (if t339 = true then (if bt322.2 = bt326.2 then (some (bt330.2 == bt334.2)) else (some false)) else (some false)) else (some false))))))))
def gudgeonlaw17_WordPuts.f (k : Nat) (l0 : List (S71)) (l1 : List (S69)) (a2 : Int) (l3 : List (S69)) : Option (Bool) := (gudgeonlaw17_awake.f k).bind fun t321 => (if t321 = true then (if (l0.length : Int) > 300 then (gudgeonlaw17_WordPuts.j0 k l0 l1 a2 l3 t321 true) else (if (l1.length : Int) > 500 then (gudgeonlaw17_WordPuts.j0 k l0 l1 a2 l3 t321 true) else (gudgeonlaw17_WordPuts.j0 k l0 l1 a2 l3 t321 (decide ((l3.length : Int) > 500))))) else (gudgeonlaw17_WordPuts.j0 k l0 l1 a2 l3 t321 true))
set_option maxHeartbeats 8000000 in
set_option maxRecDepth 100000 in
theorem gudgeonlaw17_WordPuts.calls (k : Nat) (A0 : Option Addr) (c0 : Nat) (l0 : List (S71)) (A1 : Option Addr) (c1 : Nat) (l1 : List (S69)) (a2 : Int) (A3 : Option Addr) (c3 : Nat) (l3 : List (S69)) (r : Bool) (w : World) (hr0 : Kd.C k71 w A0 l0.length l0) (hc0 : l0.length ≤ c0) (hr1 : Kd.C k69 w A1 l1.length l1) (hc1 : l1.length ≤ c1) (hr3 : Kd.C k69 w A3 l3.length l3) (hc3 : l3.length ≤ c3) (h : gudgeonlaw17_WordPuts.f k l0 l1 a2 l3 = some r) :
  Calls Try.prog 3 #[.slice A0 l0.length c0, .slice A1 l1.length c1, .int .i64 a2, .slice A3 l3.length c3] w fun e w' => e = .returned (.bool r) ∧ Below w.heap.size w w' := by
 have HR0 := Aside0.mk hr0
 have HC0 := Aside0.mk hc0
 clear hr0 hc0
 have HR1 := Aside0.mk hr1
 have HC1 := Aside0.mk hc1
 clear hr1 hc1
 have HR3 := Aside0.mk hr3
 have HC3 := Aside0.mk hc3
 clear hr3 hc3
 have HB := Aside0.mk (Below.refl w.heap.size w)
 have H : ((gudgeonlaw17_awake.f k).bind fun t321 => (if t321 = true then (if (l0.length : Int) > 300 then (gudgeonlaw17_WordPuts.j0 k l0 l1 a2 l3 t321 true) else (if (l1.length : Int) > 500 then (gudgeonlaw17_WordPuts.j0 k l0 l1 a2 l3 t321 true) else (gudgeonlaw17_WordPuts.j0 k l0 l1 a2 l3 t321 (decide ((l3.length : Int) > 500))))) else (gudgeonlaw17_WordPuts.j0 k l0 l1 a2 l3 t321 true))) = some r := h
 clear h
 replace H := Option.bind_eq_some_iff.mp H
 obtain ⟨t321, A50, H⟩ := H
 replace H : (if t321 = true then (if (l0.length : Int) > 300 then (gudgeonlaw17_WordPuts.j0 k l0 l1 a2 l3 t321 true) else (if (l1.length : Int) > 500 then (gudgeonlaw17_WordPuts.j0 k l0 l1 a2 l3 t321 true) else (gudgeonlaw17_WordPuts.j0 k l0 l1 a2 l3 t321 (decide ((l3.length : Int) > 500))))) else (gudgeonlaw17_WordPuts.j0 k l0 l1 a2 l3 t321 true)) = some r := H
 have A5 := Aside0.mk A50
 clear A50
 have HC6 := Aside0.mk H
 clear H
 go_enter Try.func3, Try.ntmps3
 go_upto_region 2 with (first | ((with_reducible refine gate_callee (f := 10) rfl ?_); refine goesL_ (some 20) rfl rfl Try.func10 (by kernel_rfl) rfl #[] rfl (by (try simp only [List.map_toArray, List.map_cons, List.map_nil]); first | done | rfl | (simp only [List.length_drop, List.length_take]; rfl)) ?_; (with_reducible refine (gudgeonlaw17_awake.calls k  t321 _ A5.out).mono ?_); rintro e w7 ⟨rfl, hb⟩; refine ⟨_, rfl, ?_⟩; have n0_ := Aside0.mk (below_step (by repeat (first | (with_reducible first | exact HB.out | apply below_alloc | apply pw_below_drewN | apply below_drew1) | exact HB.out)) hb); clear HB; have HB := n0_; clear n0_; (try clear hb); (try clear hb2); (try clear hk); (try clear hi)))
 (try simp only [Act.put, List.setIfInBounds_toArray, List.set_cons_zero, List.set_cons_succ])
 go_cut [37] (fun v37 wc => ∃ (kq : Nat) (x37_5 : Bool), v37 = .bool x37_5 ∧ Aside0 (gudgeonlaw17_WordPuts.j0 kq l0 l1 a2 l3 t321 x37_5 = some r) ∧ Aside0 (kq ≤ k) ∧ Aside0 (Below w.heap.size w wc))
 case first =>
  have H := HC6.out
  clear HC6
  by_cases c8 : t321 = true
  ·subst c8
   have H1 : (if (l0.length : Int) > 300 then (gudgeonlaw17_WordPuts.j0 k l0 l1 a2 l3 true true) else (if (l1.length : Int) > 500 then (gudgeonlaw17_WordPuts.j0 k l0 l1 a2 l3 true true) else (gudgeonlaw17_WordPuts.j0 k l0 l1 a2 l3 true (decide ((l3.length : Int) > 500))))) = some r := by rw [if_pos rfl] at H; exact H
   clear H
   have H := H1
   clear H1
   by_cases c9 : (l0.length : Int) > 300
   ·rw [if_pos c9] at H
    have c9b0 : decide (300 < (l0.length : Int)) = true := decide_eq_true c9
    have c9b1 : decide (300 < l0.length) = true := decide_eq_true (by omega)
    clear c9
    (first | rw [c9b0] | rw [c9b1] | (simp only [i64_w, i32_w]; rw [c9b0]) | skip)
    have H' := Aside0.mk H
    clear H
    go_wp2
    go_meet
    case rel => exact ⟨_, (true), (by first | rfl | (simp; done) | (simp [*]; done) | (refine congrArg (Value.int _) ?_; omega) | (refine congrArg Value.bool ?_; generalize ByteArray.toList _ = z_; cases z_ <;> rfl)), H', ⟨by first | omega | exact Nat.le_refl _⟩, ⟨by repeat (first | (with_reducible first | exact HB.out | apply below_alloc | apply pw_below_drewN | apply below_drew1) | exact HB.out)⟩⟩
   ·rw [if_neg c9] at H
    have c9b0 : decide (300 < (l0.length : Int)) = false := decide_eq_false c9
    have c9b1 : decide (300 < l0.length) = false := decide_eq_false (by omega)
    clear c9
    (first | rw [c9b0] | rw [c9b1] | (simp only [i64_w, i32_w]; rw [c9b0]) | skip)
    by_cases c10 : (l1.length : Int) > 500
    ·rw [if_pos c10] at H
     have c10b0 : decide (500 < (l1.length : Int)) = true := decide_eq_true c10
     have c10b1 : decide (500 < l1.length) = true := decide_eq_true (by omega)
     clear c10
     have H' := Aside0.mk H
     clear H
     go_wp2
     go_meet
     case rel => exact ⟨_, (true), (by first | rfl | (simp; done) | (simp [*]; done) | (refine congrArg (Value.int _) ?_; omega) | (refine congrArg Value.bool ?_; generalize ByteArray.toList _ = z_; cases z_ <;> rfl)), H', ⟨by first | omega | exact Nat.le_refl _⟩, ⟨by repeat (first | (with_reducible first | exact HB.out | apply below_alloc | apply pw_below_drewN | apply below_drew1) | exact HB.out)⟩⟩
    ·rw [if_neg c10] at H
     have c10b0 : decide (500 < (l1.length : Int)) = false := decide_eq_false c10
     have c10b1 : decide (500 < l1.length) = false := decide_eq_false (by omega)
     clear c10
     have H' := Aside0.mk H
     clear H
     go_wp2
     go_meet
     case rel => exact ⟨_, (decide ((l3.length : Int) > 500)), (by first | rfl | (simp; done) | (simp [*]; done) | (refine congrArg (Value.int _) ?_; omega) | (refine congrArg Value.bool ?_; generalize ByteArray.toList _ = z_; cases z_ <;> rfl)), H', ⟨by first | omega | exact Nat.le_refl _⟩, ⟨by repeat (first | (with_reducible first | exact HB.out | apply below_alloc | apply pw_below_drewN | apply below_drew1) | exact HB.out)⟩⟩
  ·replace c8 := Bool.eq_false_iff.mpr c8
   subst c8
   have H1 : (gudgeonlaw17_WordPuts.j0 k l0 l1 a2 l3 false true) = some r := by rw [if_neg (show ¬ (false = true) by decide)] at H; exact H
   clear H
   have H := H1
   clear H1
   have H' := Aside0.mk H
   clear H
   go_wp2
   go_meet
   case rel => exact ⟨_, (true), (by first | rfl | (simp; done) | (simp [*]; done) | (refine congrArg (Value.int _) ?_; omega) | (refine congrArg Value.bool ?_; generalize ByteArray.toList _ = z_; cases z_ <;> rfl)), H', ⟨by first | omega | exact Nat.le_refl _⟩, ⟨by repeat (first | (with_reducible first | exact HB.out | apply below_alloc | apply pw_below_drewN | apply below_drew1) | exact HB.out)⟩⟩
 case rest =>
  clear HC6
  try clear c1
  try clear p2
  try clear c3
  try clear c8
  try clear c9
  try clear c9b0
  try clear c9b1
  try clear c10
  try clear c10b0
  try clear c10b1
  obtain ⟨kq, x37_5, rfl, HA, HJ5, HB⟩ := hcut
  cases kq with
  | zero => exact absurd HA.out (by simp [gudgeonlaw17_WordPuts.j0])
  | succ kj5 =>
   have H := HA.out
   clear HA
   simp only [gudgeonlaw17_WordPuts.j0] at H
   by_cases c11 : x37_5 = true
   ·subst c11
    have H1 : (some t321) = some r := by rw [if_pos rfl] at H; exact H
    clear H
    have H := H1
    clear H1
    obtain rfl := Option.some.inj H
    go_wp2
    go_ret
    exact ⟨by first | rfl | (simp [errW_none, errW_some] <;> rfl) | (refine congrArg (fun z_ => Ending.returned (Value.bool z_)) (decide_eq_decide.mpr ?_); unfold wrap64; omega) | (simp [*, errW_none, errW_some] <;> rfl), by repeat (first | (with_reducible first | exact HB.out | apply below_alloc | apply pw_below_drewN | apply below_drew1) | exact HB.out)⟩
   ·replace c11 := Bool.eq_false_iff.mpr c11
    subst c11
    have H1 : ((word_Of.f kj5 l0).bind fun bt322 => ((gudgeonref17_Of.f kj5 l0).bind fun bt326 => ((word_Put.f kj5 l1 a2 l3).bind fun bt330 => ((gudgeonref17_Put.f kj5 l1 a2 l3).bind fun bt334 => ((gudgeonref17_Same.f kj5 bt322.1 bt326.1).bind fun t338 => ((gudgeonref17_Same.f kj5 bt330.1 bt334.1).bind fun t339 => (if t338 = true then (if t339 = true then (if bt322.2 = bt326.2 then (some (bt330.2 == bt334.2)) else (some false)) else (some false)) else (some false)))))))) = some r := by rw [if_neg (show ¬ (false = true) by decide)] at H; exact H
    clear H
    have H := H1
    clear H1
    replace H := Option.bind_eq_some_iff.mp H
    obtain ⟨⟨t322, t323⟩, A120, H⟩ := H
    replace H : ((gudgeonref17_Of.f kj5 l0).bind fun bt326 => ((word_Put.f kj5 l1 a2 l3).bind fun bt330 => ((gudgeonref17_Put.f kj5 l1 a2 l3).bind fun bt334 => ((gudgeonref17_Same.f kj5 t322 bt326.1).bind fun t338 => ((gudgeonref17_Same.f kj5 bt330.1 bt334.1).bind fun t339 => (if t338 = true then (if t339 = true then (if t323 = bt326.2 then (some (bt330.2 == bt334.2)) else (some false)) else (some false)) else (some false))))))) = some r := H
    have A12 := Aside0.mk A120
    clear A120
    replace H := Option.bind_eq_some_iff.mp H
    obtain ⟨⟨t326, t327⟩, A130, H⟩ := H
    replace H : ((word_Put.f kj5 l1 a2 l3).bind fun bt330 => ((gudgeonref17_Put.f kj5 l1 a2 l3).bind fun bt334 => ((gudgeonref17_Same.f kj5 t322 t326).bind fun t338 => ((gudgeonref17_Same.f kj5 bt330.1 bt334.1).bind fun t339 => (if t338 = true then (if t339 = true then (if t323 = t327 then (some (bt330.2 == bt334.2)) else (some false)) else (some false)) else (some false)))))) = some r := H
    have A13 := Aside0.mk A130
    clear A130
    replace H := Option.bind_eq_some_iff.mp H
    obtain ⟨⟨t330, t331⟩, A140, H⟩ := H
    replace H : ((gudgeonref17_Put.f kj5 l1 a2 l3).bind fun bt334 => ((gudgeonref17_Same.f kj5 t322 t326).bind fun t338 => ((gudgeonref17_Same.f kj5 t330 bt334.1).bind fun t339 => (if t338 = true then (if t339 = true then (if t323 = t327 then (some (t331 == bt334.2)) else (some false)) else (some false)) else (some false))))) = some r := H
    have A14 := Aside0.mk A140
    clear A140
    replace H := Option.bind_eq_some_iff.mp H
    obtain ⟨⟨t334, t335⟩, A150, H⟩ := H
    replace H : ((gudgeonref17_Same.f kj5 t322 t326).bind fun t338 => ((gudgeonref17_Same.f kj5 t330 t334).bind fun t339 => (if t338 = true then (if t339 = true then (if t323 = t327 then (some (t331 == t335)) else (some false)) else (some false)) else (some false)))) = some r := H
    have A15 := Aside0.mk A150
    clear A150
    replace H := Option.bind_eq_some_iff.mp H
    obtain ⟨t338, A160, H⟩ := H
    replace H : ((gudgeonref17_Same.f kj5 t330 t334).bind fun t339 => (if t338 = true then (if t339 = true then (if t323 = t327 then (some (t331 == t335)) else (some false)) else (some false)) else (some false))) = some r := H
    have A16 := Aside0.mk A160
    clear A160
    replace H := Option.bind_eq_some_iff.mp H
    obtain ⟨t339, A170, H⟩ := H
    replace H : (if t338 = true then (if t339 = true then (if t323 = t327 then (some (t331 == t335)) else (some false)) else (some false)) else (some false)) = some r := H
    have A17 := Aside0.mk A170
    clear A170
    by_cases c18 : t338 = true
    ·subst c18
     have H1 : (if t339 = true then (if t323 = t327 then (some (t331 == t335)) else (some false)) else (some false)) = some r := by rw [if_pos rfl] at H; exact H
     clear H
     have H := H1
     clear H1
     by_cases c19 : t339 = true
     ·subst c19
      have H1 : (if t323 = t327 then (some (t331 == t335)) else (some false)) = some r := by rw [if_pos rfl] at H; exact H
      clear H
      have H := H1
      clear H1
      by_cases c20 : t323 = t327
      ·rw [if_pos c20] at H
       have c20b0 : (t323 == t327) = true := beq_iff_eq.mpr c20
       have c20b1 : (t323 != t327) = false := bne_eq_false_iff_eq.mpr c20
       clear c20
       obtain rfl := Option.some.inj H
       go_wp2_with (first | ((with_reducible refine gate_callee (f := 11) rfl ?_); refine goesL_ (some 41) rfl rfl Try.func11 (by kernel_rfl) rfl #[.slice A0 l0.length c0] rfl (by (try simp only [List.map_toArray, List.map_cons, List.map_nil]); first | done | rfl | (simp only [List.length_drop, List.length_take]; rfl)) ?_; (with_reducible refine (word_Of.calls kj5 _ _ l0 t322 t323 _ ?side1 ?side2 A12.out).mono ?_); (case side1 => repeat (first | exact (Kd.C_below HR0.out HB.out) | (with_reducible refine Kd.C_alloc ?_ _) | (with_reducible refine Kd.C_drewN ?_ _) | (with_reducible refine Kd.C_drew ?_))); (case side2 => exact HC0.out); rintro e w21 ⟨v324, rfl, ho0, hb⟩; refine ⟨_, rfl, ?_⟩; have n0_ := Aside0.mk (Kd.R_lower ho0 (below_size (by repeat (first | (with_reducible first | exact HB.out | apply below_alloc | apply pw_below_drewN | apply below_drew1) | exact HB.out)))); have n1_ := Aside0.mk (below_step (by repeat (first | (with_reducible first | exact HB.out | apply below_alloc | apply pw_below_drewN | apply below_drew1) | exact HB.out)) hb); clear HB; have HO325 := n0_; have HB := n1_; clear n0_ n1_; (try clear hb); (try clear hb2); (try clear hk); (try clear hi); (try clear ho0)) | ((with_reducible refine gate_callee (f := 12) rfl ?_); refine goesL_ (some 46) rfl rfl Try.func12 (by kernel_rfl) rfl #[.slice A0 l0.length c0] rfl (by (try simp only [List.map_toArray, List.map_cons, List.map_nil]); first | done | rfl | (simp only [List.length_drop, List.length_take]; rfl)) ?_; (with_reducible refine (gudgeonref17_Of.calls kj5 _ _ l0 t326 t327 _ ?side1 ?side2 A13.out).mono ?_); (case side1 => repeat (first | exact (Kd.C_below HR0.out HB.out) | (with_reducible refine Kd.C_alloc ?_ _) | (with_reducible refine Kd.C_drewN ?_ _) | (with_reducible refine Kd.C_drew ?_))); (case side2 => exact HC0.out); rintro e w22 ⟨v328, rfl, ho0, hb⟩; refine ⟨_, rfl, ?_⟩; have n0_ := Aside0.mk (Kd.R_elder' (by (with_reducible repeat (first | apply Kd.R_alloc | apply Kd.R_drewN | apply Kd.R_drew)); exact HO325.out) (Kd.R_base ho0) hb); have n1_ := Aside0.mk (Kd.R_lower (Kd.R_new' ho0 (Kd.R_lt (by (with_reducible repeat (first | apply Kd.R_alloc | apply Kd.R_drewN | apply Kd.R_drew)); exact HO325.out))) (below_size (by repeat (first | (with_reducible first | exact HB.out | apply below_alloc | apply pw_below_drewN | apply below_drew1) | exact HB.out)))); have n2_ := Aside0.mk (below_step (by repeat (first | (with_reducible first | exact HB.out | apply below_alloc | apply pw_below_drewN | apply below_drew1) | exact HB.out)) hb); clear HO325; clear HB; have HO325 := n0_; have HO329 := n1_; have HB := n2_; clear n0_ n1_ n2_; (try clear hb); (try clear hb2); (try clear hk); (try clear hi); (try clear ho0)) | ((with_reducible refine gate_callee (f := 13) rfl ?_); refine goesL_ (some 53) rfl rfl Try.func13 (by kernel_rfl) rfl #[.slice A1 l1.length c1, .int .i64 a2, .slice A3 l3.length c3] rfl (by (try simp only [List.map_toArray, List.map_cons, List.map_nil]); first | done | rfl | (simp only [List.length_drop, List.length_take]; rfl)) ?_; (with_reducible refine (word_Put.calls kj5 _ _ l1 a2 _ _ l3 t330 t331 _ ?side1 ?side2 ?side3 ?side4 A14.out).mono ?_); (case side1 => repeat (first | exact (Kd.C_below HR1.out HB.out) | (with_reducible refine Kd.C_alloc ?_ _) | (with_reducible refine Kd.C_drewN ?_ _) | (with_reducible refine Kd.C_drew ?_))); (case side2 => exact HC1.out); (case side3 => repeat (first | exact (Kd.C_below HR3.out HB.out) | (with_reducible refine Kd.C_alloc ?_ _) | (with_reducible refine Kd.C_drewN ?_ _) | (with_reducible refine Kd.C_drew ?_))); (case side4 => exact HC3.out); rintro e w23 ⟨v332, rfl, ho0, hb⟩; refine ⟨_, rfl, ?_⟩; have n0_ := Aside0.mk (Kd.R_elder' (by (with_reducible repeat (first | apply Kd.R_alloc | apply Kd.R_drewN | apply Kd.R_drew)); exact HO325.out) (Kd.R_base ho0) hb); have n1_ := Aside0.mk (Kd.R_elder' (by (with_reducible repeat (first | apply Kd.R_alloc | apply Kd.R_drewN | apply Kd.R_drew)); exact HO329.out) (Kd.R_base ho0) hb); have n2_ := Aside0.mk (Kd.R_lower (Kd.R_new' (Kd.R_new' ho0 (Kd.R_lt (by (with_reducible repeat (first | apply Kd.R_alloc | apply Kd.R_drewN | apply Kd.R_drew)); exact HO325.out))) (Kd.R_lt (by (with_reducible repeat (first | apply Kd.R_alloc | apply Kd.R_drewN | apply Kd.R_drew)); exact HO329.out))) (below_size (by repeat (first | (with_reducible first | exact HB.out | apply below_alloc | apply pw_below_drewN | apply below_drew1) | exact HB.out)))); have n3_ := Aside0.mk (below_step (by repeat (first | (with_reducible first | exact HB.out | apply below_alloc | apply pw_below_drewN | apply below_drew1) | exact HB.out)) hb); clear HO325; clear HO329; clear HB; have HO325 := n0_; have HO329 := n1_; have HO333 := n2_; have HB := n3_; clear n0_ n1_ n2_ n3_; (try clear hb); (try clear hb2); (try clear hk); (try clear hi); (try clear ho0)) | ((with_reducible refine gate_callee (f := 14) rfl ?_); refine goesL_ (some 60) rfl rfl Try.func14 (by kernel_rfl) rfl #[.slice A1 l1.length c1, .int .i64 a2, .slice A3 l3.length c3] rfl (by (try simp only [List.map_toArray, List.map_cons, List.map_nil]); first | done | rfl | (simp only [List.length_drop, List.length_take]; rfl)) ?_; (with_reducible refine (gudgeonref17_Put.calls kj5 _ _ l1 a2 _ _ l3 t334 t335 _ ?side1 ?side2 ?side3 ?side4 A15.out).mono ?_); (case side1 => repeat (first | exact (Kd.C_below HR1.out HB.out) | (with_reducible refine Kd.C_alloc ?_ _) | (with_reducible refine Kd.C_drewN ?_ _) | (with_reducible refine Kd.C_drew ?_))); (case side2 => exact HC1.out); (case side3 => repeat (first | exact (Kd.C_below HR3.out HB.out) | (with_reducible refine Kd.C_alloc ?_ _) | (with_reducible refine Kd.C_drewN ?_ _) | (with_reducible refine Kd.C_drew ?_))); (case side4 => exact HC3.out); rintro e w24 ⟨v336, rfl, ho0, hb⟩; refine ⟨_, rfl, ?_⟩; have n0_ := Aside0.mk (Kd.R_elder' (by (with_reducible repeat (first | apply Kd.R_alloc | apply Kd.R_drewN | apply Kd.R_drew)); exact HO325.out) (Kd.R_base ho0) hb); have n1_ := Aside0.mk (Kd.R_elder' (by (with_reducible repeat (first | apply Kd.R_alloc | apply Kd.R_drewN | apply Kd.R_drew)); exact HO329.out) (Kd.R_base ho0) hb); have n2_ := Aside0.mk (Kd.R_elder' (by (with_reducible repeat (first | apply Kd.R_alloc | apply Kd.R_drewN | apply Kd.R_drew)); exact HO333.out) (Kd.R_base ho0) hb); have n3_ := Aside0.mk (Kd.R_lower (Kd.R_new' (Kd.R_new' (Kd.R_new' ho0 (Kd.R_lt (by (with_reducible repeat (first | apply Kd.R_alloc | apply Kd.R_drewN | apply Kd.R_drew)); exact HO325.out))) (Kd.R_lt (by (with_reducible repeat (first | apply Kd.R_alloc | apply Kd.R_drewN | apply Kd.R_drew)); exact HO329.out))) (Kd.R_lt (by (with_reducible repeat (first | apply Kd.R_alloc | apply Kd.R_drewN | apply Kd.R_drew)); exact HO333.out))) (below_size (by repeat (first | (with_reducible first | exact HB.out | apply below_alloc | apply pw_below_drewN | apply below_drew1) | exact HB.out)))); have n4_ := Aside0.mk (below_step (by repeat (first | (with_reducible first | exact HB.out | apply below_alloc | apply pw_below_drewN | apply below_drew1) | exact HB.out)) hb); clear HO325; clear HO329; clear HO333; clear HB; have HO325 := n0_; have HO329 := n1_; have HO333 := n2_; have HO337 := n3_; have HB := n4_; clear n0_ n1_ n2_ n3_ n4_; (try clear hb); (try clear hb2); (try clear hk); (try clear hi); (try clear ho0); obtain ⟨Ao25, co25, eo25⟩ := Kd.R_slice HO325.out; subst eo25; obtain ⟨Ao26, co26, eo26⟩ := Kd.R_slice HO329.out; subst eo26) | ((with_reducible refine gate_callee (f := 15) rfl ?_); refine goesL_ (some 65) rfl rfl Try.func15 (by kernel_rfl) rfl #[.slice Ao25 t322.length co25, .slice Ao26 t326.length co26] rfl (by (try simp only [List.map_toArray, List.map_cons, List.map_nil]); first | done | rfl | (simp only [List.length_drop, List.length_take]; rfl)) ?_; (with_reducible refine (gudgeonref17_Same.calls kj5 _ _ t322 _ _ t326 true _ ?side1 ?side2 ?side3 ?side4 A16.out).mono ?_); (case side1 => repeat (first | exact (Kd.R_reads' HO325.out).2.2 | (with_reducible refine Kd.C_alloc ?_ _) | (with_reducible refine Kd.C_drewN ?_ _) | (with_reducible refine Kd.C_drew ?_))); (case side2 => exact (Kd.R_reads' HO325.out).2.1); (case side3 => repeat (first | exact (Kd.R_reads' HO329.out).2.2 | (with_reducible refine Kd.C_alloc ?_ _) | (with_reducible refine Kd.C_drewN ?_ _) | (with_reducible refine Kd.C_drew ?_))); (case side4 => exact (Kd.R_reads' HO329.out).2.1); rintro e w27 ⟨rfl, hb⟩; refine ⟨_, rfl, ?_⟩; have n0_ := Aside0.mk (Kd.R_below (by (with_reducible repeat (first | apply Kd.R_alloc | apply Kd.R_drewN | apply Kd.R_drew)); exact HO325.out) hb); have n1_ := Aside0.mk (Kd.R_below (by (with_reducible repeat (first | apply Kd.R_alloc | apply Kd.R_drewN | apply Kd.R_drew)); exact HO329.out) hb); have n2_ := Aside0.mk (Kd.R_below (by (with_reducible repeat (first | apply Kd.R_alloc | apply Kd.R_drewN | apply Kd.R_drew)); exact HO333.out) hb); have n3_ := Aside0.mk (Kd.R_below (by (with_reducible repeat (first | apply Kd.R_alloc | apply Kd.R_drewN | apply Kd.R_drew)); exact HO337.out) hb); have n4_ := Aside0.mk (below_step (by repeat (first | (with_reducible first | exact HB.out | apply below_alloc | apply pw_below_drewN | apply below_drew1) | exact HB.out)) hb); clear HO325; clear HO329; clear HO333; clear HO337; clear HB; have HO325 := n0_; have HO329 := n1_; have HO333 := n2_; have HO337 := n3_; have HB := n4_; clear n0_ n1_ n2_ n3_ n4_; (try clear hb); (try clear hb2); (try clear hk); (try clear hi); obtain ⟨Ao28, co28, eo28⟩ := Kd.R_slice HO333.out; subst eo28; obtain ⟨Ao29, co29, eo29⟩ := Kd.R_slice HO337.out; subst eo29) | ((with_reducible refine gate_callee (f := 15) rfl ?_); refine goesL_ (some 68) rfl rfl Try.func15 (by kernel_rfl) rfl #[.slice Ao28 t330.length co28, .slice Ao29 t334.length co29] rfl (by (try simp only [List.map_toArray, List.map_cons, List.map_nil]); first | done | rfl | (simp only [List.length_drop, List.length_take]; rfl)) ?_; (with_reducible refine (gudgeonref17_Same.calls kj5 _ _ t330 _ _ t334 true _ ?side1 ?side2 ?side3 ?side4 A17.out).mono ?_); (case side1 => repeat (first | exact (Kd.R_reads' HO333.out).2.2 | (with_reducible refine Kd.C_alloc ?_ _) | (with_reducible refine Kd.C_drewN ?_ _) | (with_reducible refine Kd.C_drew ?_))); (case side2 => exact (Kd.R_reads' HO333.out).2.1); (case side3 => repeat (first | exact (Kd.R_reads' HO337.out).2.2 | (with_reducible refine Kd.C_alloc ?_ _) | (with_reducible refine Kd.C_drewN ?_ _) | (with_reducible refine Kd.C_drew ?_))); (case side4 => exact (Kd.R_reads' HO337.out).2.1); rintro e w30 ⟨rfl, hb⟩; refine ⟨_, rfl, ?_⟩; have n0_ := Aside0.mk (Kd.R_below (by (with_reducible repeat (first | apply Kd.R_alloc | apply Kd.R_drewN | apply Kd.R_drew)); exact HO325.out) hb); have n1_ := Aside0.mk (Kd.R_below (by (with_reducible repeat (first | apply Kd.R_alloc | apply Kd.R_drewN | apply Kd.R_drew)); exact HO329.out) hb); have n2_ := Aside0.mk (Kd.R_below (by (with_reducible repeat (first | apply Kd.R_alloc | apply Kd.R_drewN | apply Kd.R_drew)); exact HO333.out) hb); have n3_ := Aside0.mk (Kd.R_below (by (with_reducible repeat (first | apply Kd.R_alloc | apply Kd.R_drewN | apply Kd.R_drew)); exact HO337.out) hb); have n4_ := Aside0.mk (below_step (by repeat (first | (with_reducible first | exact HB.out | apply below_alloc | apply pw_below_drewN | apply below_drew1) | exact HB.out)) hb); clear HO325; clear HO329; clear HO333; clear HO337; clear HB; have HO325 := n0_; have HO329 := n1_; have HO333 := n2_; have HO337 := n3_; have HB := n4_; clear n0_ n1_ n2_ n3_ n4_; (try clear hb); (try clear hb2); (try clear hk); (try clear hi)))
       go_ret
       exact ⟨by first | rfl | (simp [errW_none, errW_some] <;> rfl) | (refine congrArg (fun z_ => Ending.returned (Value.bool z_)) (decide_eq_decide.mpr ?_); unfold wrap64; omega) | (simp [*, errW_none, errW_some] <;> rfl), by repeat (first | (with_reducible first | exact HB.out | apply below_alloc | apply pw_below_drewN | apply below_drew1) | exact HB.out)⟩
      ·rw [if_neg c20] at H
       have c20b0 : (t323 == t327) = false := beq_eq_false_iff_ne.mpr c20
       have c20b1 : (t323 != t327) = true := bne_iff_ne.mpr c20
       obtain rfl := Option.some.inj H
       go_wp2_with (first | ((with_reducible refine gate_callee (f := 11) rfl ?_); refine goesL_ (some 41) rfl rfl Try.func11 (by kernel_rfl) rfl #[.slice A0 l0.length c0] rfl (by (try simp only [List.map_toArray, List.map_cons, List.map_nil]); first | done | rfl | (simp only [List.length_drop, List.length_take]; rfl)) ?_; (with_reducible refine (word_Of.calls kj5 _ _ l0 t322 t323 _ ?side1 ?side2 A12.out).mono ?_); (case side1 => repeat (first | exact (Kd.C_below HR0.out HB.out) | (with_reducible refine Kd.C_alloc ?_ _) | (with_reducible refine Kd.C_drewN ?_ _) | (with_reducible refine Kd.C_drew ?_))); (case side2 => exact HC0.out); rintro e w31 ⟨v324, rfl, ho0, hb⟩; refine ⟨_, rfl, ?_⟩; have n0_ := Aside0.mk (Kd.R_lower ho0 (below_size (by repeat (first | (with_reducible first | exact HB.out | apply below_alloc | apply pw_below_drewN | apply below_drew1) | exact HB.out)))); have n1_ := Aside0.mk (below_step (by repeat (first | (with_reducible first | exact HB.out | apply below_alloc | apply pw_below_drewN | apply below_drew1) | exact HB.out)) hb); clear HB; have HO325 := n0_; have HB := n1_; clear n0_ n1_; (try clear hb); (try clear hb2); (try clear hk); (try clear hi); (try clear ho0)) | ((with_reducible refine gate_callee (f := 12) rfl ?_); refine goesL_ (some 46) rfl rfl Try.func12 (by kernel_rfl) rfl #[.slice A0 l0.length c0] rfl (by (try simp only [List.map_toArray, List.map_cons, List.map_nil]); first | done | rfl | (simp only [List.length_drop, List.length_take]; rfl)) ?_; (with_reducible refine (gudgeonref17_Of.calls kj5 _ _ l0 t326 t327 _ ?side1 ?side2 A13.out).mono ?_); (case side1 => repeat (first | exact (Kd.C_below HR0.out HB.out) | (with_reducible refine Kd.C_alloc ?_ _) | (with_reducible refine Kd.C_drewN ?_ _) | (with_reducible refine Kd.C_drew ?_))); (case side2 => exact HC0.out); rintro e w32 ⟨v328, rfl, ho0, hb⟩; refine ⟨_, rfl, ?_⟩; have n0_ := Aside0.mk (Kd.R_elder' (by (with_reducible repeat (first | apply Kd.R_alloc | apply Kd.R_drewN | apply Kd.R_drew)); exact HO325.out) (Kd.R_base ho0) hb); have n1_ := Aside0.mk (Kd.R_lower (Kd.R_new' ho0 (Kd.R_lt (by (with_reducible repeat (first | apply Kd.R_alloc | apply Kd.R_drewN | apply Kd.R_drew)); exact HO325.out))) (below_size (by repeat (first | (with_reducible first | exact HB.out | apply below_alloc | apply pw_below_drewN | apply below_drew1) | exact HB.out)))); have n2_ := Aside0.mk (below_step (by repeat (first | (with_reducible first | exact HB.out | apply below_alloc | apply pw_below_drewN | apply below_drew1) | exact HB.out)) hb); clear HO325; clear HB; have HO325 := n0_; have HO329 := n1_; have HB := n2_; clear n0_ n1_ n2_; (try clear hb); (try clear hb2); (try clear hk); (try clear hi); (try clear ho0)) | ((with_reducible refine gate_callee (f := 13) rfl ?_); refine goesL_ (some 53) rfl rfl Try.func13 (by kernel_rfl) rfl #[.slice A1 l1.length c1, .int .i64 a2, .slice A3 l3.length c3] rfl (by (try simp only [List.map_toArray, List.map_cons, List.map_nil]); first | done | rfl | (simp only [List.length_drop, List.length_take]; rfl)) ?_; (with_reducible refine (word_Put.calls kj5 _ _ l1 a2 _ _ l3 t330 t331 _ ?side1 ?side2 ?side3 ?side4 A14.out).mono ?_); (case side1 => repeat (first | exact (Kd.C_below HR1.out HB.out) | (with_reducible refine Kd.C_alloc ?_ _) | (with_reducible refine Kd.C_drewN ?_ _) | (with_reducible refine Kd.C_drew ?_))); (case side2 => exact HC1.out); (case side3 => repeat (first | exact (Kd.C_below HR3.out HB.out) | (with_reducible refine Kd.C_alloc ?_ _) | (with_reducible refine Kd.C_drewN ?_ _) | (with_reducible refine Kd.C_drew ?_))); (case side4 => exact HC3.out); rintro e w33 ⟨v332, rfl, ho0, hb⟩; refine ⟨_, rfl, ?_⟩; have n0_ := Aside0.mk (Kd.R_elder' (by (with_reducible repeat (first | apply Kd.R_alloc | apply Kd.R_drewN | apply Kd.R_drew)); exact HO325.out) (Kd.R_base ho0) hb); have n1_ := Aside0.mk (Kd.R_elder' (by (with_reducible repeat (first | apply Kd.R_alloc | apply Kd.R_drewN | apply Kd.R_drew)); exact HO329.out) (Kd.R_base ho0) hb); have n2_ := Aside0.mk (Kd.R_lower (Kd.R_new' (Kd.R_new' ho0 (Kd.R_lt (by (with_reducible repeat (first | apply Kd.R_alloc | apply Kd.R_drewN | apply Kd.R_drew)); exact HO325.out))) (Kd.R_lt (by (with_reducible repeat (first | apply Kd.R_alloc | apply Kd.R_drewN | apply Kd.R_drew)); exact HO329.out))) (below_size (by repeat (first | (with_reducible first | exact HB.out | apply below_alloc | apply pw_below_drewN | apply below_drew1) | exact HB.out)))); have n3_ := Aside0.mk (below_step (by repeat (first | (with_reducible first | exact HB.out | apply below_alloc | apply pw_below_drewN | apply below_drew1) | exact HB.out)) hb); clear HO325; clear HO329; clear HB; have HO325 := n0_; have HO329 := n1_; have HO333 := n2_; have HB := n3_; clear n0_ n1_ n2_ n3_; (try clear hb); (try clear hb2); (try clear hk); (try clear hi); (try clear ho0)) | ((with_reducible refine gate_callee (f := 14) rfl ?_); refine goesL_ (some 60) rfl rfl Try.func14 (by kernel_rfl) rfl #[.slice A1 l1.length c1, .int .i64 a2, .slice A3 l3.length c3] rfl (by (try simp only [List.map_toArray, List.map_cons, List.map_nil]); first | done | rfl | (simp only [List.length_drop, List.length_take]; rfl)) ?_; (with_reducible refine (gudgeonref17_Put.calls kj5 _ _ l1 a2 _ _ l3 t334 t335 _ ?side1 ?side2 ?side3 ?side4 A15.out).mono ?_); (case side1 => repeat (first | exact (Kd.C_below HR1.out HB.out) | (with_reducible refine Kd.C_alloc ?_ _) | (with_reducible refine Kd.C_drewN ?_ _) | (with_reducible refine Kd.C_drew ?_))); (case side2 => exact HC1.out); (case side3 => repeat (first | exact (Kd.C_below HR3.out HB.out) | (with_reducible refine Kd.C_alloc ?_ _) | (with_reducible refine Kd.C_drewN ?_ _) | (with_reducible refine Kd.C_drew ?_))); (case side4 => exact HC3.out); rintro e w34 ⟨v336, rfl, ho0, hb⟩; refine ⟨_, rfl, ?_⟩; have n0_ := Aside0.mk (Kd.R_elder' (by (with_reducible repeat (first | apply Kd.R_alloc | apply Kd.R_drewN | apply Kd.R_drew)); exact HO325.out) (Kd.R_base ho0) hb); have n1_ := Aside0.mk (Kd.R_elder' (by (with_reducible repeat (first | apply Kd.R_alloc | apply Kd.R_drewN | apply Kd.R_drew)); exact HO329.out) (Kd.R_base ho0) hb); have n2_ := Aside0.mk (Kd.R_elder' (by (with_reducible repeat (first | apply Kd.R_alloc | apply Kd.R_drewN | apply Kd.R_drew)); exact HO333.out) (Kd.R_base ho0) hb); have n3_ := Aside0.mk (Kd.R_lower (Kd.R_new' (Kd.R_new' (Kd.R_new' ho0 (Kd.R_lt (by (with_reducible repeat (first | apply Kd.R_alloc | apply Kd.R_drewN | apply Kd.R_drew)); exact HO325.out))) (Kd.R_lt (by (with_reducible repeat (first | apply Kd.R_alloc | apply Kd.R_drewN | apply Kd.R_drew)); exact HO329.out))) (Kd.R_lt (by (with_reducible repeat (first | apply Kd.R_alloc | apply Kd.R_drewN | apply Kd.R_drew)); exact HO333.out))) (below_size (by repeat (first | (with_reducible first | exact HB.out | apply below_alloc | apply pw_below_drewN | apply below_drew1) | exact HB.out)))); have n4_ := Aside0.mk (below_step (by repeat (first | (with_reducible first | exact HB.out | apply below_alloc | apply pw_below_drewN | apply below_drew1) | exact HB.out)) hb); clear HO325; clear HO329; clear HO333; clear HB; have HO325 := n0_; have HO329 := n1_; have HO333 := n2_; have HO337 := n3_; have HB := n4_; clear n0_ n1_ n2_ n3_ n4_; (try clear hb); (try clear hb2); (try clear hk); (try clear hi); (try clear ho0); obtain ⟨Ao35, co35, eo35⟩ := Kd.R_slice HO325.out; subst eo35; obtain ⟨Ao36, co36, eo36⟩ := Kd.R_slice HO329.out; subst eo36) | ((with_reducible refine gate_callee (f := 15) rfl ?_); refine goesL_ (some 65) rfl rfl Try.func15 (by kernel_rfl) rfl #[.slice Ao35 t322.length co35, .slice Ao36 t326.length co36] rfl (by (try simp only [List.map_toArray, List.map_cons, List.map_nil]); first | done | rfl | (simp only [List.length_drop, List.length_take]; rfl)) ?_; (with_reducible refine (gudgeonref17_Same.calls kj5 _ _ t322 _ _ t326 true _ ?side1 ?side2 ?side3 ?side4 A16.out).mono ?_); (case side1 => repeat (first | exact (Kd.R_reads' HO325.out).2.2 | (with_reducible refine Kd.C_alloc ?_ _) | (with_reducible refine Kd.C_drewN ?_ _) | (with_reducible refine Kd.C_drew ?_))); (case side2 => exact (Kd.R_reads' HO325.out).2.1); (case side3 => repeat (first | exact (Kd.R_reads' HO329.out).2.2 | (with_reducible refine Kd.C_alloc ?_ _) | (with_reducible refine Kd.C_drewN ?_ _) | (with_reducible refine Kd.C_drew ?_))); (case side4 => exact (Kd.R_reads' HO329.out).2.1); rintro e w37 ⟨rfl, hb⟩; refine ⟨_, rfl, ?_⟩; have n0_ := Aside0.mk (Kd.R_below (by (with_reducible repeat (first | apply Kd.R_alloc | apply Kd.R_drewN | apply Kd.R_drew)); exact HO325.out) hb); have n1_ := Aside0.mk (Kd.R_below (by (with_reducible repeat (first | apply Kd.R_alloc | apply Kd.R_drewN | apply Kd.R_drew)); exact HO329.out) hb); have n2_ := Aside0.mk (Kd.R_below (by (with_reducible repeat (first | apply Kd.R_alloc | apply Kd.R_drewN | apply Kd.R_drew)); exact HO333.out) hb); have n3_ := Aside0.mk (Kd.R_below (by (with_reducible repeat (first | apply Kd.R_alloc | apply Kd.R_drewN | apply Kd.R_drew)); exact HO337.out) hb); have n4_ := Aside0.mk (below_step (by repeat (first | (with_reducible first | exact HB.out | apply below_alloc | apply pw_below_drewN | apply below_drew1) | exact HB.out)) hb); clear HO325; clear HO329; clear HO333; clear HO337; clear HB; have HO325 := n0_; have HO329 := n1_; have HO333 := n2_; have HO337 := n3_; have HB := n4_; clear n0_ n1_ n2_ n3_ n4_; (try clear hb); (try clear hb2); (try clear hk); (try clear hi); obtain ⟨Ao38, co38, eo38⟩ := Kd.R_slice HO333.out; subst eo38; obtain ⟨Ao39, co39, eo39⟩ := Kd.R_slice HO337.out; subst eo39) | ((with_reducible refine gate_callee (f := 15) rfl ?_); refine goesL_ (some 68) rfl rfl Try.func15 (by kernel_rfl) rfl #[.slice Ao38 t330.length co38, .slice Ao39 t334.length co39] rfl (by (try simp only [List.map_toArray, List.map_cons, List.map_nil]); first | done | rfl | (simp only [List.length_drop, List.length_take]; rfl)) ?_; (with_reducible refine (gudgeonref17_Same.calls kj5 _ _ t330 _ _ t334 true _ ?side1 ?side2 ?side3 ?side4 A17.out).mono ?_); (case side1 => repeat (first | exact (Kd.R_reads' HO333.out).2.2 | (with_reducible refine Kd.C_alloc ?_ _) | (with_reducible refine Kd.C_drewN ?_ _) | (with_reducible refine Kd.C_drew ?_))); (case side2 => exact (Kd.R_reads' HO333.out).2.1); (case side3 => repeat (first | exact (Kd.R_reads' HO337.out).2.2 | (with_reducible refine Kd.C_alloc ?_ _) | (with_reducible refine Kd.C_drewN ?_ _) | (with_reducible refine Kd.C_drew ?_))); (case side4 => exact (Kd.R_reads' HO337.out).2.1); rintro e w40 ⟨rfl, hb⟩; refine ⟨_, rfl, ?_⟩; have n0_ := Aside0.mk (Kd.R_below (by (with_reducible repeat (first | apply Kd.R_alloc | apply Kd.R_drewN | apply Kd.R_drew)); exact HO325.out) hb); have n1_ := Aside0.mk (Kd.R_below (by (with_reducible repeat (first | apply Kd.R_alloc | apply Kd.R_drewN | apply Kd.R_drew)); exact HO329.out) hb); have n2_ := Aside0.mk (Kd.R_below (by (with_reducible repeat (first | apply Kd.R_alloc | apply Kd.R_drewN | apply Kd.R_drew)); exact HO333.out) hb); have n3_ := Aside0.mk (Kd.R_below (by (with_reducible repeat (first | apply Kd.R_alloc | apply Kd.R_drewN | apply Kd.R_drew)); exact HO337.out) hb); have n4_ := Aside0.mk (below_step (by repeat (first | (with_reducible first | exact HB.out | apply below_alloc | apply pw_below_drewN | apply below_drew1) | exact HB.out)) hb); clear HO325; clear HO329; clear HO333; clear HO337; clear HB; have HO325 := n0_; have HO329 := n1_; have HO333 := n2_; have HO337 := n3_; have HB := n4_; clear n0_ n1_ n2_ n3_ n4_; (try clear hb); (try clear hb2); (try clear hk); (try clear hi)))
       go_ret
       exact ⟨by first | rfl | (simp [errW_none, errW_some] <;> rfl) | (refine congrArg (fun z_ => Ending.returned (Value.bool z_)) (decide_eq_decide.mpr ?_); unfold wrap64; omega) | (simp [*, errW_none, errW_some] <;> rfl), by repeat (first | (with_reducible first | exact HB.out | apply below_alloc | apply pw_below_drewN | apply below_drew1) | exact HB.out)⟩
     ·replace c19 := Bool.eq_false_iff.mpr c19
      subst c19
      have H1 : (some false) = some r := by rw [if_neg (show ¬ (false = true) by decide)] at H; exact H
      clear H
      have H := H1
      clear H1
      obtain rfl := Option.some.inj H
      go_wp2_with (first | ((with_reducible refine gate_callee (f := 11) rfl ?_); refine goesL_ (some 41) rfl rfl Try.func11 (by kernel_rfl) rfl #[.slice A0 l0.length c0] rfl (by (try simp only [List.map_toArray, List.map_cons, List.map_nil]); first | done | rfl | (simp only [List.length_drop, List.length_take]; rfl)) ?_; (with_reducible refine (word_Of.calls kj5 _ _ l0 t322 t323 _ ?side1 ?side2 A12.out).mono ?_); (case side1 => repeat (first | exact (Kd.C_below HR0.out HB.out) | (with_reducible refine Kd.C_alloc ?_ _) | (with_reducible refine Kd.C_drewN ?_ _) | (with_reducible refine Kd.C_drew ?_))); (case side2 => exact HC0.out); rintro e w41 ⟨v324, rfl, ho0, hb⟩; refine ⟨_, rfl, ?_⟩; have n0_ := Aside0.mk (Kd.R_lower ho0 (below_size (by repeat (first | (with_reducible first | exact HB.out | apply below_alloc | apply pw_below_drewN | apply below_drew1) | exact HB.out)))); have n1_ := Aside0.mk (below_step (by repeat (first | (with_reducible first | exact HB.out | apply below_alloc | apply pw_below_drewN | apply below_drew1) | exact HB.out)) hb); clear HB; have HO325 := n0_; have HB := n1_; clear n0_ n1_; (try clear hb); (try clear hb2); (try clear hk); (try clear hi); (try clear ho0)) | ((with_reducible refine gate_callee (f := 12) rfl ?_); refine goesL_ (some 46) rfl rfl Try.func12 (by kernel_rfl) rfl #[.slice A0 l0.length c0] rfl (by (try simp only [List.map_toArray, List.map_cons, List.map_nil]); first | done | rfl | (simp only [List.length_drop, List.length_take]; rfl)) ?_; (with_reducible refine (gudgeonref17_Of.calls kj5 _ _ l0 t326 t327 _ ?side1 ?side2 A13.out).mono ?_); (case side1 => repeat (first | exact (Kd.C_below HR0.out HB.out) | (with_reducible refine Kd.C_alloc ?_ _) | (with_reducible refine Kd.C_drewN ?_ _) | (with_reducible refine Kd.C_drew ?_))); (case side2 => exact HC0.out); rintro e w42 ⟨v328, rfl, ho0, hb⟩; refine ⟨_, rfl, ?_⟩; have n0_ := Aside0.mk (Kd.R_elder' (by (with_reducible repeat (first | apply Kd.R_alloc | apply Kd.R_drewN | apply Kd.R_drew)); exact HO325.out) (Kd.R_base ho0) hb); have n1_ := Aside0.mk (Kd.R_lower (Kd.R_new' ho0 (Kd.R_lt (by (with_reducible repeat (first | apply Kd.R_alloc | apply Kd.R_drewN | apply Kd.R_drew)); exact HO325.out))) (below_size (by repeat (first | (with_reducible first | exact HB.out | apply below_alloc | apply pw_below_drewN | apply below_drew1) | exact HB.out)))); have n2_ := Aside0.mk (below_step (by repeat (first | (with_reducible first | exact HB.out | apply below_alloc | apply pw_below_drewN | apply below_drew1) | exact HB.out)) hb); clear HO325; clear HB; have HO325 := n0_; have HO329 := n1_; have HB := n2_; clear n0_ n1_ n2_; (try clear hb); (try clear hb2); (try clear hk); (try clear hi); (try clear ho0)) | ((with_reducible refine gate_callee (f := 13) rfl ?_); refine goesL_ (some 53) rfl rfl Try.func13 (by kernel_rfl) rfl #[.slice A1 l1.length c1, .int .i64 a2, .slice A3 l3.length c3] rfl (by (try simp only [List.map_toArray, List.map_cons, List.map_nil]); first | done | rfl | (simp only [List.length_drop, List.length_take]; rfl)) ?_; (with_reducible refine (word_Put.calls kj5 _ _ l1 a2 _ _ l3 t330 t331 _ ?side1 ?side2 ?side3 ?side4 A14.out).mono ?_); (case side1 => repeat (first | exact (Kd.C_below HR1.out HB.out) | (with_reducible refine Kd.C_alloc ?_ _) | (with_reducible refine Kd.C_drewN ?_ _) | (with_reducible refine Kd.C_drew ?_))); (case side2 => exact HC1.out); (case side3 => repeat (first | exact (Kd.C_below HR3.out HB.out) | (with_reducible refine Kd.C_alloc ?_ _) | (with_reducible refine Kd.C_drewN ?_ _) | (with_reducible refine Kd.C_drew ?_))); (case side4 => exact HC3.out); rintro e w43 ⟨v332, rfl, ho0, hb⟩; refine ⟨_, rfl, ?_⟩; have n0_ := Aside0.mk (Kd.R_elder' (by (with_reducible repeat (first | apply Kd.R_alloc | apply Kd.R_drewN | apply Kd.R_drew)); exact HO325.out) (Kd.R_base ho0) hb); have n1_ := Aside0.mk (Kd.R_elder' (by (with_reducible repeat (first | apply Kd.R_alloc | apply Kd.R_drewN | apply Kd.R_drew)); exact HO329.out) (Kd.R_base ho0) hb); have n2_ := Aside0.mk (Kd.R_lower (Kd.R_new' (Kd.R_new' ho0 (Kd.R_lt (by (with_reducible repeat (first | apply Kd.R_alloc | apply Kd.R_drewN | apply Kd.R_drew)); exact HO325.out))) (Kd.R_lt (by (with_reducible repeat (first | apply Kd.R_alloc | apply Kd.R_drewN | apply Kd.R_drew)); exact HO329.out))) (below_size (by repeat (first | (with_reducible first | exact HB.out | apply below_alloc | apply pw_below_drewN | apply below_drew1) | exact HB.out)))); have n3_ := Aside0.mk (below_step (by repeat (first | (with_reducible first | exact HB.out | apply below_alloc | apply pw_below_drewN | apply below_drew1) | exact HB.out)) hb); clear HO325; clear HO329; clear HB; have HO325 := n0_; have HO329 := n1_; have HO333 := n2_; have HB := n3_; clear n0_ n1_ n2_ n3_; (try clear hb); (try clear hb2); (try clear hk); (try clear hi); (try clear ho0)) | ((with_reducible refine gate_callee (f := 14) rfl ?_); refine goesL_ (some 60) rfl rfl Try.func14 (by kernel_rfl) rfl #[.slice A1 l1.length c1, .int .i64 a2, .slice A3 l3.length c3] rfl (by (try simp only [List.map_toArray, List.map_cons, List.map_nil]); first | done | rfl | (simp only [List.length_drop, List.length_take]; rfl)) ?_; (with_reducible refine (gudgeonref17_Put.calls kj5 _ _ l1 a2 _ _ l3 t334 t335 _ ?side1 ?side2 ?side3 ?side4 A15.out).mono ?_); (case side1 => repeat (first | exact (Kd.C_below HR1.out HB.out) | (with_reducible refine Kd.C_alloc ?_ _) | (with_reducible refine Kd.C_drewN ?_ _) | (with_reducible refine Kd.C_drew ?_))); (case side2 => exact HC1.out); (case side3 => repeat (first | exact (Kd.C_below HR3.out HB.out) | (with_reducible refine Kd.C_alloc ?_ _) | (with_reducible refine Kd.C_drewN ?_ _) | (with_reducible refine Kd.C_drew ?_))); (case side4 => exact HC3.out); rintro e w44 ⟨v336, rfl, ho0, hb⟩; refine ⟨_, rfl, ?_⟩; have n0_ := Aside0.mk (Kd.R_elder' (by (with_reducible repeat (first | apply Kd.R_alloc | apply Kd.R_drewN | apply Kd.R_drew)); exact HO325.out) (Kd.R_base ho0) hb); have n1_ := Aside0.mk (Kd.R_elder' (by (with_reducible repeat (first | apply Kd.R_alloc | apply Kd.R_drewN | apply Kd.R_drew)); exact HO329.out) (Kd.R_base ho0) hb); have n2_ := Aside0.mk (Kd.R_elder' (by (with_reducible repeat (first | apply Kd.R_alloc | apply Kd.R_drewN | apply Kd.R_drew)); exact HO333.out) (Kd.R_base ho0) hb); have n3_ := Aside0.mk (Kd.R_lower (Kd.R_new' (Kd.R_new' (Kd.R_new' ho0 (Kd.R_lt (by (with_reducible repeat (first | apply Kd.R_alloc | apply Kd.R_drewN | apply Kd.R_drew)); exact HO325.out))) (Kd.R_lt (by (with_reducible repeat (first | apply Kd.R_alloc | apply Kd.R_drewN | apply Kd.R_drew)); exact HO329.out))) (Kd.R_lt (by (with_reducible repeat (first | apply Kd.R_alloc | apply Kd.R_drewN | apply Kd.R_drew)); exact HO333.out))) (below_size (by repeat (first | (with_reducible first | exact HB.out | apply below_alloc | apply pw_below_drewN | apply below_drew1) | exact HB.out)))); have n4_ := Aside0.mk (below_step (by repeat (first | (with_reducible first | exact HB.out | apply below_alloc | apply pw_below_drewN | apply below_drew1) | exact HB.out)) hb); clear HO325; clear HO329; clear HO333; clear HB; have HO325 := n0_; have HO329 := n1_; have HO333 := n2_; have HO337 := n3_; have HB := n4_; clear n0_ n1_ n2_ n3_ n4_; (try clear hb); (try clear hb2); (try clear hk); (try clear hi); (try clear ho0); obtain ⟨Ao45, co45, eo45⟩ := Kd.R_slice HO325.out; subst eo45; obtain ⟨Ao46, co46, eo46⟩ := Kd.R_slice HO329.out; subst eo46) | ((with_reducible refine gate_callee (f := 15) rfl ?_); refine goesL_ (some 65) rfl rfl Try.func15 (by kernel_rfl) rfl #[.slice Ao45 t322.length co45, .slice Ao46 t326.length co46] rfl (by (try simp only [List.map_toArray, List.map_cons, List.map_nil]); first | done | rfl | (simp only [List.length_drop, List.length_take]; rfl)) ?_; (with_reducible refine (gudgeonref17_Same.calls kj5 _ _ t322 _ _ t326 true _ ?side1 ?side2 ?side3 ?side4 A16.out).mono ?_); (case side1 => repeat (first | exact (Kd.R_reads' HO325.out).2.2 | (with_reducible refine Kd.C_alloc ?_ _) | (with_reducible refine Kd.C_drewN ?_ _) | (with_reducible refine Kd.C_drew ?_))); (case side2 => exact (Kd.R_reads' HO325.out).2.1); (case side3 => repeat (first | exact (Kd.R_reads' HO329.out).2.2 | (with_reducible refine Kd.C_alloc ?_ _) | (with_reducible refine Kd.C_drewN ?_ _) | (with_reducible refine Kd.C_drew ?_))); (case side4 => exact (Kd.R_reads' HO329.out).2.1); rintro e w47 ⟨rfl, hb⟩; refine ⟨_, rfl, ?_⟩; have n0_ := Aside0.mk (Kd.R_below (by (with_reducible repeat (first | apply Kd.R_alloc | apply Kd.R_drewN | apply Kd.R_drew)); exact HO325.out) hb); have n1_ := Aside0.mk (Kd.R_below (by (with_reducible repeat (first | apply Kd.R_alloc | apply Kd.R_drewN | apply Kd.R_drew)); exact HO329.out) hb); have n2_ := Aside0.mk (Kd.R_below (by (with_reducible repeat (first | apply Kd.R_alloc | apply Kd.R_drewN | apply Kd.R_drew)); exact HO333.out) hb); have n3_ := Aside0.mk (Kd.R_below (by (with_reducible repeat (first | apply Kd.R_alloc | apply Kd.R_drewN | apply Kd.R_drew)); exact HO337.out) hb); have n4_ := Aside0.mk (below_step (by repeat (first | (with_reducible first | exact HB.out | apply below_alloc | apply pw_below_drewN | apply below_drew1) | exact HB.out)) hb); clear HO325; clear HO329; clear HO333; clear HO337; clear HB; have HO325 := n0_; have HO329 := n1_; have HO333 := n2_; have HO337 := n3_; have HB := n4_; clear n0_ n1_ n2_ n3_ n4_; (try clear hb); (try clear hb2); (try clear hk); (try clear hi); obtain ⟨Ao48, co48, eo48⟩ := Kd.R_slice HO333.out; subst eo48; obtain ⟨Ao49, co49, eo49⟩ := Kd.R_slice HO337.out; subst eo49) | ((with_reducible refine gate_callee (f := 15) rfl ?_); refine goesL_ (some 68) rfl rfl Try.func15 (by kernel_rfl) rfl #[.slice Ao48 t330.length co48, .slice Ao49 t334.length co49] rfl (by (try simp only [List.map_toArray, List.map_cons, List.map_nil]); first | done | rfl | (simp only [List.length_drop, List.length_take]; rfl)) ?_; (with_reducible refine (gudgeonref17_Same.calls kj5 _ _ t330 _ _ t334 false _ ?side1 ?side2 ?side3 ?side4 A17.out).mono ?_); (case side1 => repeat (first | exact (Kd.R_reads' HO333.out).2.2 | (with_reducible refine Kd.C_alloc ?_ _) | (with_reducible refine Kd.C_drewN ?_ _) | (with_reducible refine Kd.C_drew ?_))); (case side2 => exact (Kd.R_reads' HO333.out).2.1); (case side3 => repeat (first | exact (Kd.R_reads' HO337.out).2.2 | (with_reducible refine Kd.C_alloc ?_ _) | (with_reducible refine Kd.C_drewN ?_ _) | (with_reducible refine Kd.C_drew ?_))); (case side4 => exact (Kd.R_reads' HO337.out).2.1); rintro e w50 ⟨rfl, hb⟩; refine ⟨_, rfl, ?_⟩; have n0_ := Aside0.mk (Kd.R_below (by (with_reducible repeat (first | apply Kd.R_alloc | apply Kd.R_drewN | apply Kd.R_drew)); exact HO325.out) hb); have n1_ := Aside0.mk (Kd.R_below (by (with_reducible repeat (first | apply Kd.R_alloc | apply Kd.R_drewN | apply Kd.R_drew)); exact HO329.out) hb); have n2_ := Aside0.mk (Kd.R_below (by (with_reducible repeat (first | apply Kd.R_alloc | apply Kd.R_drewN | apply Kd.R_drew)); exact HO333.out) hb); have n3_ := Aside0.mk (Kd.R_below (by (with_reducible repeat (first | apply Kd.R_alloc | apply Kd.R_drewN | apply Kd.R_drew)); exact HO337.out) hb); have n4_ := Aside0.mk (below_step (by repeat (first | (with_reducible first | exact HB.out | apply below_alloc | apply pw_below_drewN | apply below_drew1) | exact HB.out)) hb); clear HO325; clear HO329; clear HO333; clear HO337; clear HB; have HO325 := n0_; have HO329 := n1_; have HO333 := n2_; have HO337 := n3_; have HB := n4_; clear n0_ n1_ n2_ n3_ n4_; (try clear hb); (try clear hb2); (try clear hk); (try clear hi)))
      go_ret
      exact ⟨by first | rfl | (simp [errW_none, errW_some] <;> rfl) | (refine congrArg (fun z_ => Ending.returned (Value.bool z_)) (decide_eq_decide.mpr ?_); unfold wrap64; omega) | (simp [*, errW_none, errW_some] <;> rfl), by repeat (first | (with_reducible first | exact HB.out | apply below_alloc | apply pw_below_drewN | apply below_drew1) | exact HB.out)⟩
    ·replace c18 := Bool.eq_false_iff.mpr c18
     subst c18
     have H1 : (some false) = some r := by rw [if_neg (show ¬ (false = true) by decide)] at H; exact H
     clear H
     have H := H1
     clear H1
     obtain rfl := Option.some.inj H
     go_wp2_with (first | ((with_reducible refine gate_callee (f := 11) rfl ?_); refine goesL_ (some 41) rfl rfl Try.func11 (by kernel_rfl) rfl #[.slice A0 l0.length c0] rfl (by (try simp only [List.map_toArray, List.map_cons, List.map_nil]); first | done | rfl | (simp only [List.length_drop, List.length_take]; rfl)) ?_; (with_reducible refine (word_Of.calls kj5 _ _ l0 t322 t323 _ ?side1 ?side2 A12.out).mono ?_); (case side1 => repeat (first | exact (Kd.C_below HR0.out HB.out) | (with_reducible refine Kd.C_alloc ?_ _) | (with_reducible refine Kd.C_drewN ?_ _) | (with_reducible refine Kd.C_drew ?_))); (case side2 => exact HC0.out); rintro e w51 ⟨v324, rfl, ho0, hb⟩; refine ⟨_, rfl, ?_⟩; have n0_ := Aside0.mk (Kd.R_lower ho0 (below_size (by repeat (first | (with_reducible first | exact HB.out | apply below_alloc | apply pw_below_drewN | apply below_drew1) | exact HB.out)))); have n1_ := Aside0.mk (below_step (by repeat (first | (with_reducible first | exact HB.out | apply below_alloc | apply pw_below_drewN | apply below_drew1) | exact HB.out)) hb); clear HB; have HO325 := n0_; have HB := n1_; clear n0_ n1_; (try clear hb); (try clear hb2); (try clear hk); (try clear hi); (try clear ho0)) | ((with_reducible refine gate_callee (f := 12) rfl ?_); refine goesL_ (some 46) rfl rfl Try.func12 (by kernel_rfl) rfl #[.slice A0 l0.length c0] rfl (by (try simp only [List.map_toArray, List.map_cons, List.map_nil]); first | done | rfl | (simp only [List.length_drop, List.length_take]; rfl)) ?_; (with_reducible refine (gudgeonref17_Of.calls kj5 _ _ l0 t326 t327 _ ?side1 ?side2 A13.out).mono ?_); (case side1 => repeat (first | exact (Kd.C_below HR0.out HB.out) | (with_reducible refine Kd.C_alloc ?_ _) | (with_reducible refine Kd.C_drewN ?_ _) | (with_reducible refine Kd.C_drew ?_))); (case side2 => exact HC0.out); rintro e w52 ⟨v328, rfl, ho0, hb⟩; refine ⟨_, rfl, ?_⟩; have n0_ := Aside0.mk (Kd.R_elder' (by (with_reducible repeat (first | apply Kd.R_alloc | apply Kd.R_drewN | apply Kd.R_drew)); exact HO325.out) (Kd.R_base ho0) hb); have n1_ := Aside0.mk (Kd.R_lower (Kd.R_new' ho0 (Kd.R_lt (by (with_reducible repeat (first | apply Kd.R_alloc | apply Kd.R_drewN | apply Kd.R_drew)); exact HO325.out))) (below_size (by repeat (first | (with_reducible first | exact HB.out | apply below_alloc | apply pw_below_drewN | apply below_drew1) | exact HB.out)))); have n2_ := Aside0.mk (below_step (by repeat (first | (with_reducible first | exact HB.out | apply below_alloc | apply pw_below_drewN | apply below_drew1) | exact HB.out)) hb); clear HO325; clear HB; have HO325 := n0_; have HO329 := n1_; have HB := n2_; clear n0_ n1_ n2_; (try clear hb); (try clear hb2); (try clear hk); (try clear hi); (try clear ho0)) | ((with_reducible refine gate_callee (f := 13) rfl ?_); refine goesL_ (some 53) rfl rfl Try.func13 (by kernel_rfl) rfl #[.slice A1 l1.length c1, .int .i64 a2, .slice A3 l3.length c3] rfl (by (try simp only [List.map_toArray, List.map_cons, List.map_nil]); first | done | rfl | (simp only [List.length_drop, List.length_take]; rfl)) ?_; (with_reducible refine (word_Put.calls kj5 _ _ l1 a2 _ _ l3 t330 t331 _ ?side1 ?side2 ?side3 ?side4 A14.out).mono ?_); (case side1 => repeat (first | exact (Kd.C_below HR1.out HB.out) | (with_reducible refine Kd.C_alloc ?_ _) | (with_reducible refine Kd.C_drewN ?_ _) | (with_reducible refine Kd.C_drew ?_))); (case side2 => exact HC1.out); (case side3 => repeat (first | exact (Kd.C_below HR3.out HB.out) | (with_reducible refine Kd.C_alloc ?_ _) | (with_reducible refine Kd.C_drewN ?_ _) | (with_reducible refine Kd.C_drew ?_))); (case side4 => exact HC3.out); rintro e w53 ⟨v332, rfl, ho0, hb⟩; refine ⟨_, rfl, ?_⟩; have n0_ := Aside0.mk (Kd.R_elder' (by (with_reducible repeat (first | apply Kd.R_alloc | apply Kd.R_drewN | apply Kd.R_drew)); exact HO325.out) (Kd.R_base ho0) hb); have n1_ := Aside0.mk (Kd.R_elder' (by (with_reducible repeat (first | apply Kd.R_alloc | apply Kd.R_drewN | apply Kd.R_drew)); exact HO329.out) (Kd.R_base ho0) hb); have n2_ := Aside0.mk (Kd.R_lower (Kd.R_new' (Kd.R_new' ho0 (Kd.R_lt (by (with_reducible repeat (first | apply Kd.R_alloc | apply Kd.R_drewN | apply Kd.R_drew)); exact HO325.out))) (Kd.R_lt (by (with_reducible repeat (first | apply Kd.R_alloc | apply Kd.R_drewN | apply Kd.R_drew)); exact HO329.out))) (below_size (by repeat (first | (with_reducible first | exact HB.out | apply below_alloc | apply pw_below_drewN | apply below_drew1) | exact HB.out)))); have n3_ := Aside0.mk (below_step (by repeat (first | (with_reducible first | exact HB.out | apply below_alloc | apply pw_below_drewN | apply below_drew1) | exact HB.out)) hb); clear HO325; clear HO329; clear HB; have HO325 := n0_; have HO329 := n1_; have HO333 := n2_; have HB := n3_; clear n0_ n1_ n2_ n3_; (try clear hb); (try clear hb2); (try clear hk); (try clear hi); (try clear ho0)) | ((with_reducible refine gate_callee (f := 14) rfl ?_); refine goesL_ (some 60) rfl rfl Try.func14 (by kernel_rfl) rfl #[.slice A1 l1.length c1, .int .i64 a2, .slice A3 l3.length c3] rfl (by (try simp only [List.map_toArray, List.map_cons, List.map_nil]); first | done | rfl | (simp only [List.length_drop, List.length_take]; rfl)) ?_; (with_reducible refine (gudgeonref17_Put.calls kj5 _ _ l1 a2 _ _ l3 t334 t335 _ ?side1 ?side2 ?side3 ?side4 A15.out).mono ?_); (case side1 => repeat (first | exact (Kd.C_below HR1.out HB.out) | (with_reducible refine Kd.C_alloc ?_ _) | (with_reducible refine Kd.C_drewN ?_ _) | (with_reducible refine Kd.C_drew ?_))); (case side2 => exact HC1.out); (case side3 => repeat (first | exact (Kd.C_below HR3.out HB.out) | (with_reducible refine Kd.C_alloc ?_ _) | (with_reducible refine Kd.C_drewN ?_ _) | (with_reducible refine Kd.C_drew ?_))); (case side4 => exact HC3.out); rintro e w54 ⟨v336, rfl, ho0, hb⟩; refine ⟨_, rfl, ?_⟩; have n0_ := Aside0.mk (Kd.R_elder' (by (with_reducible repeat (first | apply Kd.R_alloc | apply Kd.R_drewN | apply Kd.R_drew)); exact HO325.out) (Kd.R_base ho0) hb); have n1_ := Aside0.mk (Kd.R_elder' (by (with_reducible repeat (first | apply Kd.R_alloc | apply Kd.R_drewN | apply Kd.R_drew)); exact HO329.out) (Kd.R_base ho0) hb); have n2_ := Aside0.mk (Kd.R_elder' (by (with_reducible repeat (first | apply Kd.R_alloc | apply Kd.R_drewN | apply Kd.R_drew)); exact HO333.out) (Kd.R_base ho0) hb); have n3_ := Aside0.mk (Kd.R_lower (Kd.R_new' (Kd.R_new' (Kd.R_new' ho0 (Kd.R_lt (by (with_reducible repeat (first | apply Kd.R_alloc | apply Kd.R_drewN | apply Kd.R_drew)); exact HO325.out))) (Kd.R_lt (by (with_reducible repeat (first | apply Kd.R_alloc | apply Kd.R_drewN | apply Kd.R_drew)); exact HO329.out))) (Kd.R_lt (by (with_reducible repeat (first | apply Kd.R_alloc | apply Kd.R_drewN | apply Kd.R_drew)); exact HO333.out))) (below_size (by repeat (first | (with_reducible first | exact HB.out | apply below_alloc | apply pw_below_drewN | apply below_drew1) | exact HB.out)))); have n4_ := Aside0.mk (below_step (by repeat (first | (with_reducible first | exact HB.out | apply below_alloc | apply pw_below_drewN | apply below_drew1) | exact HB.out)) hb); clear HO325; clear HO329; clear HO333; clear HB; have HO325 := n0_; have HO329 := n1_; have HO333 := n2_; have HO337 := n3_; have HB := n4_; clear n0_ n1_ n2_ n3_ n4_; (try clear hb); (try clear hb2); (try clear hk); (try clear hi); (try clear ho0); obtain ⟨Ao55, co55, eo55⟩ := Kd.R_slice HO325.out; subst eo55; obtain ⟨Ao56, co56, eo56⟩ := Kd.R_slice HO329.out; subst eo56) | ((with_reducible refine gate_callee (f := 15) rfl ?_); refine goesL_ (some 65) rfl rfl Try.func15 (by kernel_rfl) rfl #[.slice Ao55 t322.length co55, .slice Ao56 t326.length co56] rfl (by (try simp only [List.map_toArray, List.map_cons, List.map_nil]); first | done | rfl | (simp only [List.length_drop, List.length_take]; rfl)) ?_; (with_reducible refine (gudgeonref17_Same.calls kj5 _ _ t322 _ _ t326 false _ ?side1 ?side2 ?side3 ?side4 A16.out).mono ?_); (case side1 => repeat (first | exact (Kd.R_reads' HO325.out).2.2 | (with_reducible refine Kd.C_alloc ?_ _) | (with_reducible refine Kd.C_drewN ?_ _) | (with_reducible refine Kd.C_drew ?_))); (case side2 => exact (Kd.R_reads' HO325.out).2.1); (case side3 => repeat (first | exact (Kd.R_reads' HO329.out).2.2 | (with_reducible refine Kd.C_alloc ?_ _) | (with_reducible refine Kd.C_drewN ?_ _) | (with_reducible refine Kd.C_drew ?_))); (case side4 => exact (Kd.R_reads' HO329.out).2.1); rintro e w57 ⟨rfl, hb⟩; refine ⟨_, rfl, ?_⟩; have n0_ := Aside0.mk (Kd.R_below (by (with_reducible repeat (first | apply Kd.R_alloc | apply Kd.R_drewN | apply Kd.R_drew)); exact HO325.out) hb); have n1_ := Aside0.mk (Kd.R_below (by (with_reducible repeat (first | apply Kd.R_alloc | apply Kd.R_drewN | apply Kd.R_drew)); exact HO329.out) hb); have n2_ := Aside0.mk (Kd.R_below (by (with_reducible repeat (first | apply Kd.R_alloc | apply Kd.R_drewN | apply Kd.R_drew)); exact HO333.out) hb); have n3_ := Aside0.mk (Kd.R_below (by (with_reducible repeat (first | apply Kd.R_alloc | apply Kd.R_drewN | apply Kd.R_drew)); exact HO337.out) hb); have n4_ := Aside0.mk (below_step (by repeat (first | (with_reducible first | exact HB.out | apply below_alloc | apply pw_below_drewN | apply below_drew1) | exact HB.out)) hb); clear HO325; clear HO329; clear HO333; clear HO337; clear HB; have HO325 := n0_; have HO329 := n1_; have HO333 := n2_; have HO337 := n3_; have HB := n4_; clear n0_ n1_ n2_ n3_ n4_; (try clear hb); (try clear hb2); (try clear hk); (try clear hi); obtain ⟨Ao58, co58, eo58⟩ := Kd.R_slice HO333.out; subst eo58; obtain ⟨Ao59, co59, eo59⟩ := Kd.R_slice HO337.out; subst eo59) | ((with_reducible refine gate_callee (f := 15) rfl ?_); refine goesL_ (some 68) rfl rfl Try.func15 (by kernel_rfl) rfl #[.slice Ao58 t330.length co58, .slice Ao59 t334.length co59] rfl (by (try simp only [List.map_toArray, List.map_cons, List.map_nil]); first | done | rfl | (simp only [List.length_drop, List.length_take]; rfl)) ?_; (with_reducible refine (gudgeonref17_Same.calls kj5 _ _ t330 _ _ t334 t339 _ ?side1 ?side2 ?side3 ?side4 A17.out).mono ?_); (case side1 => repeat (first | exact (Kd.R_reads' HO333.out).2.2 | (with_reducible refine Kd.C_alloc ?_ _) | (with_reducible refine Kd.C_drewN ?_ _) | (with_reducible refine Kd.C_drew ?_))); (case side2 => exact (Kd.R_reads' HO333.out).2.1); (case side3 => repeat (first | exact (Kd.R_reads' HO337.out).2.2 | (with_reducible refine Kd.C_alloc ?_ _) | (with_reducible refine Kd.C_drewN ?_ _) | (with_reducible refine Kd.C_drew ?_))); (case side4 => exact (Kd.R_reads' HO337.out).2.1); rintro e w60 ⟨rfl, hb⟩; refine ⟨_, rfl, ?_⟩; have n0_ := Aside0.mk (Kd.R_below (by (with_reducible repeat (first | apply Kd.R_alloc | apply Kd.R_drewN | apply Kd.R_drew)); exact HO325.out) hb); have n1_ := Aside0.mk (Kd.R_below (by (with_reducible repeat (first | apply Kd.R_alloc | apply Kd.R_drewN | apply Kd.R_drew)); exact HO329.out) hb); have n2_ := Aside0.mk (Kd.R_below (by (with_reducible repeat (first | apply Kd.R_alloc | apply Kd.R_drewN | apply Kd.R_drew)); exact HO333.out) hb); have n3_ := Aside0.mk (Kd.R_below (by (with_reducible repeat (first | apply Kd.R_alloc | apply Kd.R_drewN | apply Kd.R_drew)); exact HO337.out) hb); have n4_ := Aside0.mk (below_step (by repeat (first | (with_reducible first | exact HB.out | apply below_alloc | apply pw_below_drewN | apply below_drew1) | exact HB.out)) hb); clear HO325; clear HO329; clear HO333; clear HO337; clear HB; have HO325 := n0_; have HO329 := n1_; have HO333 := n2_; have HO337 := n3_; have HB := n4_; clear n0_ n1_ n2_ n3_ n4_; (try clear hb); (try clear hb2); (try clear hk); (try clear hi)))
     go_ret
     exact ⟨by first | rfl | (simp [errW_none, errW_some] <;> rfl) | (refine congrArg (fun z_ => Ending.returned (Value.bool z_)) (decide_eq_decide.mpr ?_); unfold wrap64; omega) | (simp [*, errW_none, errW_some] <;> rfl), by repeat (first | (with_reducible first | exact HB.out | apply below_alloc | apply pw_below_drewN | apply below_drew1) | exact HB.out)⟩

end Go.Proofs.Ytbigeaknbhmniaa.PA
/- The law kit; which words may be, of the code and of the reference. -/
namespace Go.Proofs.Ytbigeaknbhmniaa.S
set_option linter.unusedVariables false
set_option linter.unusedSimpArgs false
open Go.RowKit Go.Proofs.Ytbigeaknbhmniaa.PA Go.Proofs.Ytbigeaknbhmniaa.H Go.Proofs.YtbigeaknbhmniaaW.PrintWords Go.Proofs.YtbigeaknbhmniaaW.PrintLast Go.Proofs.YtbigeaknbhmniaaW.PrintMore

theorem evC {α β : Type} {o : Option α} {f : Nat → α → Option β} {a : α} {r : β} (h : o = some a) (k : Ev (fun n => f n a) r) : Ev (fun n => o.bind (f n)) r := by subst h; exact k
theorem evP {α : Type} {c : Prop} [Decidable c] {f g : Nat → Option α} {r : α} (h : c) (k : Ev f r) : Ev (fun n => if c then f n else g n) r := by simp only [if_pos h]; exact k
theorem evN {α : Type} {c : Prop} [Decidable c] {f g : Nat → Option α} {r : α} (h : ¬ c) (k : Ev g r) : Ev (fun n => if c then f n else g n) r := by simp only [if_neg h]; exact k
theorem evR {α : Type} {a r : α} (h : a = r) : Ev (fun _ => some a) r := by subst h; exact Ev.now _
theorem w64 {x : Int} (h0 : -9223372036854775808 ≤ x) (h1 : x ≤ 9223372036854775807) : wrap64 x = x := by unfold wrap64; omega
theorem wnext {i : Nat} (h : i ≤ 1000000000000) : wrap64 ((i : Int) + 1) = ((i + 1 : Nat) : Int) := by rw [w64 (by omega) (by omega)]; omega
theorem rdL (l : List S69) (i : Nat) (h : i < l.length) : rd_T69 l (i : Int) = l[i] := by unfold rd_T69; rw [Int.toNat_natCast]; simp [h]
/-! ### a word that may be -/
def itemB (x : S69) : Bool := decide (-1 ≤ x.f0) && (decide (x.f0 ≠ -1) || (decide (0 ≤ x.f1) && decide (x.f1 ≤ 196607)))
def mayB (l : List S69) : Bool := decide (l.length ≤ 4000) && l.all itemB
theorem may_l0 (l : List S69) (hl : l.length ≤ 1000000000000) : ∀ d i, i + d = l.length → Ev (fun k => word_may.l0 k l (l.length : Int) (i : Int)) ((l.drop i).all itemB) := by
 intro d
 induction d with
 | zero =>
  intro i hi
  refine Ev.step (fun k => by rw [word_may.l0]) (evN (by omega) (evR ?_))
  rw [List.drop_eq_nil_of_le (by omega)]; rfl
 | succ d ih =>
  intro i hi
  have hi' : i < l.length := by omega
  have next := ih (i + 1) (by omega)
  refine Ev.step (fun k => by rw [word_may.l0]) (evP (by omega) (evP (by omega) (evP (by omega) ?_)))
  rw [rdL l i hi', List.drop_eq_getElem_cons hi', List.all_cons, wnext (by omega)]
  by_cases h1 : l[i].f0 < -1
  ·refine evP h1 (evR ?_)
   have : itemB l[i] = false := by unfold itemB; rw [decide_eq_false (by omega), Bool.false_and]
   rw [this, Bool.false_and]
  ·refine evN h1 ?_
   by_cases h2 : l[i].f0 = -1
   ·refine evP h2 ?_
    by_cases h3 : l[i].f1 < 0
    ·refine evP h3 (evR ?_)
     have : itemB l[i] = false := by unfold itemB; rw [decide_eq_false (show ¬ 0 ≤ l[i].f1 by omega), Bool.false_and, decide_eq_false (show ¬ (l[i].f0 ≠ -1) from fun z => z h2)]; simp
     rw [this, Bool.false_and]
    ·refine evN h3 ?_
     by_cases h4 : l[i].f1 > 196607
     ·refine evP h4 (evR ?_)
      have : itemB l[i] = false := by unfold itemB; rw [decide_eq_false (show ¬ l[i].f1 ≤ 196607 by omega), Bool.and_false, decide_eq_false (show ¬ (l[i].f0 ≠ -1) from fun z => z h2)]; simp
      rw [this, Bool.false_and]
     ·refine evN h4 ?_
      have : itemB l[i] = true := by unfold itemB; rw [decide_eq_true (show -1 ≤ l[i].f0 by omega), decide_eq_true (show 0 ≤ l[i].f1 by omega), decide_eq_true (show l[i].f1 ≤ 196607 by omega)]; simp
      rw [this, Bool.true_and]; exact next
   ·refine evN h2 ?_
    have : itemB l[i] = true := by unfold itemB; rw [decide_eq_true (show -1 ≤ l[i].f0 by omega), decide_eq_true h2]; simp
    rw [this, Bool.true_and]; exact next
theorem may_ev (l : List S69) (hl : l.length ≤ 1000000000000) : Ev (fun k => word_may.f k l) (mayB l) := by
 unfold mayB
 by_cases h : (l.length : Int) > 4000
 ·refine Ev.congr (fun k => rfl) (evP h (evR ?_))
  rw [decide_eq_false (by omega), Bool.false_and]
 ·refine Ev.congr (fun k => rfl) (evN h ?_)
  rw [decide_eq_true (by omega), Bool.true_and]
  have := may_l0 l hl l.length 0 (by omega)
  rw [List.drop_zero] at this
  exact this
theorem point_ev (c : Int) : gudgeonref07_Point.f c = some (decide (0 ≤ c) && decide (c ≤ 196607)) := by
 unfold gudgeonref07_Point.f
 by_cases h : c ≥ 0
 ·rw [if_pos h, decide_eq_true (show 0 ≤ c by omega), Bool.true_and]
  congr 1; exact decide_eq_decide.2 (by omega)
 ·rw [if_neg h, decide_eq_false (show ¬ 0 ≤ c by omega), Bool.false_and]
theorem rmay_l0 (l : List S69) (hl : l.length ≤ 1000000000000) : ∀ d i, i + d = l.length → Ev (fun k => gudgeonref17_May.l0 k l (i : Int)) ((l.drop i).all itemB && decide (l.length ≤ 4000)) := by
 intro d
 induction d with
 | zero =>
  intro i hi
  refine Ev.step (fun k => by rw [gudgeonref17_May.l0]) (evN (by omega) (evR ?_))
  rw [List.drop_eq_nil_of_le (by omega)]
  simp only [List.all_nil, Bool.true_and]
  exact decide_eq_decide.2 (by omega)
 | succ d ih =>
  intro i hi
  have hi' : i < l.length := by omega
  have next := ih (i + 1) (by omega)
  refine Ev.step (fun k => by rw [gudgeonref17_May.l0]) (evP (by omega) (evP (by omega) ?_))
  rw [rdL l i hi', List.drop_eq_getElem_cons hi', List.all_cons, wnext (by omega)]
  refine evC (point_ev _) ?_
  by_cases h1 : l[i].f0 < -1
  ·refine evP h1 (evR ?_)
   have : itemB l[i] = false := by unfold itemB; rw [decide_eq_false (by omega), Bool.false_and]
   rw [this]; rfl
  ·refine evN h1 ?_
   by_cases h2 : l[i].f0 = -1
   ·refine evP h2 ?_
    have e : itemB l[i] = (decide (0 ≤ l[i].f1) && decide (l[i].f1 ≤ 196607)) := by unfold itemB; rw [decide_eq_true (show -1 ≤ l[i].f0 by omega), decide_eq_false (fun z => z h2), Bool.true_and, Bool.false_or]
    rw [e]
    by_cases h3 : (decide (0 ≤ l[i].f1) && decide (l[i].f1 ≤ 196607)) = true
    ·refine evP h3 ?_; rw [h3, Bool.true_and]; exact next
    ·refine evN h3 (evR ?_)
     rw [Bool.eq_false_iff.2 h3]; rfl
   ·refine evN h2 ?_
    have : itemB l[i] = true := by unfold itemB; rw [decide_eq_true (show -1 ≤ l[i].f0 by omega), decide_eq_true h2]; simp
    rw [this, Bool.true_and]; exact next
theorem rmay_ev (l : List S69) (hl : l.length ≤ 1000000000000) : Ev (fun k => gudgeonref17_May.f k l) (mayB l) := by
 have := rmay_l0 l hl l.length 0 (by omega)
 rw [List.drop_zero, Bool.and_comm] at this
 exact Ev.congr (fun k => rfl) this
/-! ### one word is itself -/
theorem item_self (a b : Int) : gudgeonref17_Item.f a b a b = some true := by
 unfold gudgeonref17_Item.f
 rw [if_pos rfl]
 split
 ·rfl
 ·rw [beq_self_eq_true]
theorem same_l0 (l : List S69) (hl : l.length ≤ 1000000000000) : ∀ d i, i + d = l.length → Ev (fun k => gudgeonref17_Same.l0 k l l (i : Int)) true := by
 intro d
 induction d with
 | zero =>
  intro i hi
  exact Ev.step (fun k => by rw [gudgeonref17_Same.l0]) (evN (by omega) (evR rfl))
 | succ d ih =>
  intro i hi
  refine Ev.step (fun k => by rw [gudgeonref17_Same.l0]) (evP (by omega) (evP (by omega) (evP (by omega) (evC (item_self _ _) (evP rfl ?_)))))
  rw [wnext (by omega)]
  exact ih (i + 1) (by omega)
theorem same_self (l : List S69) (hl : l.length ≤ 1000000000000) : Ev (fun k => gudgeonref17_Same.f k l l) true :=
 Ev.congr (fun k => rfl) (evP rfl (same_l0 l hl l.length 0 (by omega)))
end Go.Proofs.Ytbigeaknbhmniaa.S
/- The examples; a text as a word. -/
namespace Go.Proofs.Ytbigeaknbhmniaa.S
set_option linter.unusedVariables false
set_option linter.unusedSimpArgs false
open Go.RowKit Go.Proofs.Ytbigeaknbhmniaa.PA Go.Proofs.Ytbigeaknbhmniaa.H Go.Proofs.YtbigeaknbhmniaaW.PrintWords Go.Proofs.YtbigeaknbhmniaaW.PrintLast Go.Proofs.YtbigeaknbhmniaaW.PrintMore

theorem awake_ev : Ev (fun k => gudgeonlaw17_awake.f k) true := Ev.of (fun k => gudgeonlaw17_awake.mono k) (k := 40) (by kernel_rfl)
theorem rdR (l : List S71) (i : Nat) (h : i < l.length) : rd_T71 l (i : Int) = l[i] := by unfold rd_T71; rw [Int.toNat_natCast]; simp [h]
/-! ### a text that may be -/
def prevAt (l : List S71) : Nat → Option Int
 | 0 => none
 | j + 1 => (l[j]?).map (·.f0)
def mayR : Int → Option Int → List S71 → Bool
 | _, _, [] => true
 | left, prev, x :: r => if x.f0 < 0 then false else if x.f0 > 196607 then false else if x.f1 < 1 then false else if x.f1 > left then false else if prev = some x.f0 then false else mayR (left - x.f1) (some x.f0) r
theorem prevAt_next (l : List S71) (i : Nat) (h : i < l.length) : prevAt l (i + 1) = some l[i].f0 := by
 show (l[i]?).map (·.f0) = _
 rw [List.getElem?_eq_getElem h]; rfl
theorem wprev {i : Nat} (h0 : 0 < i) (h : i ≤ 1000000000000) : wrap64 ((i : Int) - 1) = ((i - 1 : Nat) : Int) := by rw [w64 (by omega) (by omega)]; omega
theorem rmayc_l0 (l : List S71) (hl : l.length ≤ 1000000000000) : ∀ d i (left : Int), i + d = l.length → 0 ≤ left → left ≤ 1099511627776 → Ev (fun k => runs_May.l0 k l left l (l.length : Int) (i : Int)) (mayR left (prevAt l i) (l.drop i)) := by
 intro d
 induction d with
 | zero =>
  intro i left hi h0 h1
  refine Ev.step (fun k => by rw [runs_May.l0]) (evN (by omega) (evR ?_))
  rw [List.drop_eq_nil_of_le (by omega)]; rfl
 | succ d ih =>
  intro i left hi h0 h1
  have hi' : i < l.length := by omega
  refine Ev.step (fun k => by rw [runs_May.l0]) (evP (by omega) (evP (by omega) (evP (by omega) ?_)))
  rw [rdR l i hi', List.drop_eq_getElem_cons hi']
  unfold mayR
  by_cases c1 : l[i].f0 < 0
  ·refine evP c1 (evR ?_); rw [if_pos c1]
  refine evN c1 ?_
  rw [if_neg c1]
  by_cases c2 : l[i].f0 > 196607
  ·refine evP c2 (evR ?_); rw [if_pos c2]
  refine evN c2 ?_
  rw [if_neg c2]
  by_cases c3 : l[i].f1 < 1
  ·refine evP c3 (evR ?_); rw [if_pos c3]
  refine evN c3 ?_
  rw [if_neg c3]
  by_cases c4 : l[i].f1 > left
  ·refine evP c4 (evR ?_); rw [if_pos c4]
  refine evN c4 ?_
  rw [if_neg c4]
  have next := ih (i + 1) (left - l[i].f1) (by omega) (by omega) (by omega)
  rw [prevAt_next l i hi'] at next
  rw [wnext (by omega), w64 (x := left - l[i].f1) (by omega) (by omega)]
  cases i with
  | zero =>
   refine evN (by omega) ?_
   rw [if_neg (by unfold prevAt; simp)]; exact next
  | succ j =>
   refine evP (by omega) (evP (by rw [wprev (by omega) (by omega)]; omega) (evP (by rw [wprev (by omega) (by omega)]; omega) ?_))
   rw [wprev (by omega) (by omega), show j + 1 - 1 = j from rfl, rdR l j (by omega), prevAt_next l j (by omega)]
   by_cases c5 : l[j].f0 = l[j + 1].f0
   ·refine evP c5 (evR ?_); rw [if_pos (by rw [c5])]
   ·refine evN c5 ?_; rw [if_neg (by simpa using c5)]; exact next
theorem rmayr_l0 (l : List S71) (hl : l.length ≤ 1000000000000) : ∀ d i (n : Int), i + d = l.length → 0 ≤ n → n ≤ 1099511627776 → Ev (fun k => gudgeonref08_May.l0 k l n (i : Int)) (mayR (1099511627776 - n) (prevAt l i) (l.drop i)) := by
 intro d
 induction d with
 | zero =>
  intro i left hi h0 h1
  refine Ev.step (fun k => by rw [gudgeonref08_May.l0]) (evN (by omega) (evR ?_))
  rw [List.drop_eq_nil_of_le (by omega)]; rfl
 | succ d ih =>
  intro i n hi h0 h1
  have hi' : i < l.length := by omega
  refine Ev.step (fun k => by rw [gudgeonref08_May.l0]) (evP (by omega) (evP (by omega) ?_))
  rw [rdR l i hi', List.drop_eq_getElem_cons hi']
  refine evC (point_ev _) ?_
  unfold mayR
  by_cases c1 : l[i].f0 < 0
  ·refine evN (by rw [decide_eq_false (show ¬ 0 ≤ l[i].f0 by omega)]; simp) (evR ?_); rw [if_pos c1]
  rw [if_neg c1]
  by_cases c2 : l[i].f0 > 196607
  ·refine evN (by rw [decide_eq_false (show ¬ l[i].f0 ≤ 196607 by omega)]; simp) (evR ?_); rw [if_pos c2]
  refine evP (by rw [decide_eq_true (show 0 ≤ l[i].f0 by omega), decide_eq_true (show l[i].f0 ≤ 196607 by omega)]; rfl) ?_
  rw [if_neg c2]
  by_cases c3 : l[i].f1 < 1
  ·refine evP c3 (evR ?_); rw [if_pos c3]
  refine evN c3 ?_
  rw [if_neg c3, w64 (x := 1099511627776 - n) (by omega) (by omega)]
  by_cases c4 : l[i].f1 > 1099511627776 - n
  ·refine evP c4 (evR ?_); rw [if_pos c4]
  refine evN c4 ?_
  rw [if_neg c4]
  have next := ih (i + 1) (n + l[i].f1) (by omega) (by omega) (by omega)
  rw [prevAt_next l i hi', show 1099511627776 - (n + l[i].f1) = 1099511627776 - n - l[i].f1 by omega] at next
  rw [wnext (by omega), w64 (x := n + l[i].f1) (by omega) (by omega)]
  cases i with
  | zero =>
   refine evN (by omega) ?_
   rw [if_neg (by unfold prevAt; simp)]; exact next
  | succ j =>
   refine evP (by omega) (evP (by rw [wprev (by omega) (by omega)]; omega) (evP (by rw [wprev (by omega) (by omega)]; omega) ?_))
   rw [wprev (by omega) (by omega), show j + 1 - 1 = j from rfl, rdR l j (by omega), prevAt_next l j (by omega)]
   by_cases c5 : l[j + 1].f0 = l[j].f0
   ·refine evP c5 (evR ?_); rw [if_pos (by rw [c5])]
   ·refine evN c5 ?_; rw [if_neg (by simpa using fun z => c5 z.symm)]; exact next
def okR (l : List S71) : Bool := decide (l.length ≤ 65536) && mayR 1099511627776 none l
theorem rmayc_ev (l : List S71) (hl : l.length ≤ 1000000000000) : Ev (fun k => runs_May.f k l) (okR l) := by
 unfold okR
 by_cases h : (l.length : Int) > 65536
 ·refine Ev.congr (fun k => rfl) (evP h (evR ?_))
  rw [decide_eq_false (by omega), Bool.false_and]
 ·refine Ev.congr (fun k => rfl) (evN h ?_)
  rw [decide_eq_true (by omega), Bool.true_and]
  exact rmayc_l0 l hl l.length 0 _ (by omega) (by omega) (by omega)
theorem rmayr_ev (l : List S71) (hl : l.length ≤ 1000000000000) : Ev (fun k => gudgeonref08_May.f k l) (okR l) := by
 unfold okR
 by_cases h : (l.length : Int) > 65536
 ·refine Ev.congr (fun k => rfl) (evP h (evR ?_))
  rw [decide_eq_false (by omega), Bool.false_and]
 ·refine Ev.congr (fun k => rfl) (evN h ?_)
  rw [decide_eq_true (by omega), Bool.true_and]
  exact rmayr_l0 l hl l.length 0 0 (by omega) (by omega) (by omega)
/-! ### its code points -/
def tot : List S71 → Int
 | [] => 0
 | x :: r => x.f1 + tot r
def expand : List S71 → List Int
 | [] => []
 | x :: r => List.replicate x.f1.toNat x.f0 ++ expand r
def goodR (x : S71) : Prop := 0 ≤ x.f0 ∧ x.f0 ≤ 196607 ∧ 1 ≤ x.f1
theorem mayR_good : ∀ (l : List S71) (left : Int) (p : Option Int), 0 ≤ left → mayR left p l = true → (∀ x ∈ l, goodR x) ∧ tot l ≤ left ∧ 0 ≤ tot l
 | [], left, p, h0, h => ⟨by simp, h0, Int.le_refl _⟩
 | x :: r, left, p, h0, h => by
  unfold mayR at h
  split at h
  ·cases h
  split at h
  ·cases h
  split at h
  ·cases h
  split at h
  ·cases h
  split at h
  ·cases h
  obtain ⟨h1, h2, h3⟩ := mayR_good r (left - x.f1) (some x.f0) (by omega) h
  refine ⟨fun y hy => ?_, by simp only [tot]; omega, by simp only [tot]; omega⟩
  rcases List.mem_cons.1 hy with rfl | hy
  ·exact ⟨by omega, by omega, by omega⟩
  ·exact h1 y hy
theorem tot_nonneg : ∀ (l : List S71), (∀ x ∈ l, goodR x) → 0 ≤ tot l
 | [], _ => Int.le_refl _
 | x :: r, h => by
  have h1 := tot_nonneg r (fun y hy => h y (List.mem_cons_of_mem _ hy))
  have h2 := h x List.mem_cons_self
  unfold goodR at h2; simp only [tot]; omega
end Go.Proofs.Ytbigeaknbhmniaa.S
/- A text as a word, of the code and of the reference. -/
namespace Go.Proofs.Ytbigeaknbhmniaa.S
set_option linter.unusedVariables false
set_option linter.unusedSimpArgs false
open Go.RowKit Go.Proofs.Ytbigeaknbhmniaa.PA Go.Proofs.Ytbigeaknbhmniaa.H Go.Proofs.YtbigeaknbhmniaaW.PrintWords Go.Proofs.YtbigeaknbhmniaaW.PrintLast Go.Proofs.YtbigeaknbhmniaaW.PrintMore

theorem lpoint_ev (c : Int) : lit_point.f c = some (decide (0 ≤ c) && decide (c ≤ 196607)) := by
 unfold lit_point.f
 by_cases h : c ≥ 0
 ·rw [if_pos h, decide_eq_true (show 0 ≤ c by omega), Bool.true_and]
 ·rw [if_neg h, decide_eq_false (show ¬ 0 ≤ c by omega), Bool.false_and]
theorem list_l2 (m : Int) (l : List S71) (i : Nat) (n c c' : Int) (R : List Int × Int) : ∀ (e j : Nat) (out : List Int), (j : Int) + e = n → n ≤ 1000000 → out.length + e ≤ 1000000 →
  Ev (fun k => lit_List.l1 k m (out ++ List.replicate e c) l (l.length : Int) (wrap64 ((i : Int) + 1))) R → Ev (fun k => lit_List.l2 k m out l (l.length : Int) (i : Int) n (j : Int) c c') R := by
 intro e
 induction e with
 | zero =>
  intro j out h hn ho hR
  refine Ev.step (fun k => by rw [lit_List.l2]) (evN (by omega) ?_)
  rw [List.replicate_zero, List.append_nil] at hR
  exact hR
 | succ e ih =>
  intro j out h hn ho hR
  refine Ev.step (fun k => by rw [lit_List.l2]) (evP (by omega) (evP (by omega) ?_))
  rw [wnext (by omega)]
  refine ih (j + 1) (out ++ [c]) (by omega) hn (by simp; omega) ?_
  rw [List.append_assoc]
  exact hR
theorem list_l1 (l : List S71) (hl : l.length ≤ 1000000) (hg : ∀ x ∈ l, goodR x) : ∀ d i (out : List Int), i + d = l.length → out.length ≤ 4000 →
  Ev (fun k => lit_List.l1 k 4000 out l (l.length : Int) (i : Int)) (if (out.length : Int) + tot (l.drop i) > 4000 then ([], 2) else (out ++ expand (l.drop i), 0)) := by
 intro d
 induction d with
 | zero =>
  intro i out hi ho
  refine Ev.step (fun k => by rw [lit_List.l1]) (evN (by omega) (evN (by omega) (evR ?_)))
  rw [List.drop_eq_nil_of_le (by omega)]
  simp only [tot, expand, List.append_nil]
  rw [if_neg (by omega)]
 | succ d ih =>
  intro i out hi ho
  have hi' : i < l.length := by omega
  have g := hg _ (List.getElem_mem hi')
  unfold goodR at g
  have tn := tot_nonneg (l.drop (i + 1)) (fun x hx => hg x (List.mem_of_mem_drop hx))
  refine Ev.step (fun k => by rw [lit_List.l1]) (evP (by omega) (evP (by omega) (evP (by omega) ?_)))
  rw [rdR l i hi', List.drop_eq_getElem_cons hi', w64 (x := 4000 - (out.length : Int)) (by omega) (by omega), show tot (l[i] :: l.drop (i + 1)) = l[i].f1 + tot (l.drop (i + 1)) from rfl, show expand (l[i] :: l.drop (i + 1)) = List.replicate l[i].f1.toNat l[i].f0 ++ expand (l.drop (i + 1)) from rfl]
  by_cases h : l[i].f1 > 4000 - (out.length : Int)
  ·refine evP h (evR ?_); rw [if_pos (by omega)]
  ·refine evN h ?_
   have next := ih (i + 1) (out ++ List.replicate l[i].f1.toNat l[i].f0) (by omega) (by simp; omega)
   have e1 : ((out ++ List.replicate l[i].f1.toNat l[i].f0).length : Int) + tot (l.drop (i + 1)) = (out.length : Int) + (l[i].f1 + tot (l.drop (i + 1))) := by simp; omega
   rw [e1, List.append_assoc] at next
   refine list_l2 4000 l i l[i].f1 l[i].f0 l[i].f1 _ l[i].f1.toNat 0 out (by omega) (by omega) (by omega) ?_
   rw [wnext (by omega)]
   exact next
theorem list_l0 (l : List S71) (hl : l.length ≤ 1000000) (hg : ∀ x ∈ l, goodR x) (R : List Int × Int) (hR : Ev (fun k => lit_List.l1 k 4000 [] l (l.length : Int) 0) R) : ∀ d i, i + d = l.length → Ev (fun k => lit_List.l0 k l 4000 l (l.length : Int) (i : Int)) R := by
 intro d
 induction d with
 | zero =>
  intro i hi
  exact Ev.step (fun k => by rw [lit_List.l0]) (evN (by omega) hR)
 | succ d ih =>
  intro i hi
  have hi' : i < l.length := by omega
  have g := hg _ (List.getElem_mem hi')
  unfold goodR at g
  refine Ev.step (fun k => by rw [lit_List.l0]) (evP (by omega) (evP (by omega) (evP (by omega) ?_)))
  rw [rdR l i hi']
  refine evC (lpoint_ev _) (evP (by rw [decide_eq_true g.1, decide_eq_true g.2.1]; rfl) (evN (by omega) ?_))
  rw [wnext (by omega)]
  exact ih (i + 1) (by omega)
theorem list_ev (l : List S71) (hl : l.length ≤ 1000000) (hg : ∀ x ∈ l, goodR x) : Ev (fun k => lit_List.f k l 4000) (if tot l > 4000 then ([], 2) else (expand l, 0)) := by
 have h1 := list_l1 l hl hg l.length 0 [] (by omega) (by simp)
 rw [List.drop_zero] at h1
 simp only [List.length_nil, List.nil_append] at h1
 rw [show (((0 : Nat) : Int)) + tot l = tot l by omega] at h1
 exact Ev.congr (fun k => rfl) (list_l0 l hl hg _ h1 l.length 0 (by omega))
/-- Code points as a word. -/
def lets (l : List Int) : List S69 := l.map fun c => ⟨-1, c⟩
theorem of_l0 (s : List Int) (hs : s.length ≤ 1000000) : ∀ d i (out : List S69), i + d = s.length → out.length + d ≤ 2000000 → Ev (fun k => word_Of.l0 k out s (s.length : Int) (i : Int)) (out ++ lets (s.drop i), 0) := by
 intro d
 induction d with
 | zero =>
  intro i out hi ho
  refine Ev.step (fun k => by rw [word_Of.l0]) (evN (by omega) (evR ?_))
  rw [List.drop_eq_nil_of_le (by omega)]; simp [lets]
 | succ d ih =>
  intro i out hi ho
  have hi' : i < s.length := by omega
  have e : rd s (i : Int) = s[i] := by unfold rd; simp [hi']
  refine Ev.step (fun k => by rw [word_Of.l0]) (evP (by omega) (evP (by omega) (evP (by omega) (evP (by omega) ?_))))
  rw [wnext (by omega), e]
  have := ih (i + 1) (out ++ [⟨-1, s[i]⟩]) (by omega) (by simp; omega)
  rw [List.append_assoc] at this
  rw [List.drop_eq_getElem_cons hi']
  exact this
def ofR (l : List S71) : List S69 × Int := if okR l = true then (if tot l > 4000 then ([], 2) else (lets (expand l), 0)) else ([], 1)
theorem expand_len : ∀ (l : List S71), (∀ x ∈ l, goodR x) → ((expand l).length : Int) = tot l
 | [], _ => rfl
 | x :: r, h => by
  have h1 := expand_len r (fun y hy => h y (List.mem_cons_of_mem _ hy))
  have h2 := h x List.mem_cons_self
  unfold goodR at h2
  simp only [tot, expand, List.length_append, List.length_replicate]
  omega
theorem okR_good {l : List S71} (h : okR l = true) : (∀ x ∈ l, goodR x) ∧ tot l ≤ 1099511627776 ∧ 0 ≤ tot l := by
 unfold okR at h
 rw [Bool.and_eq_true] at h
 exact mayR_good l _ none (by omega) h.2
theorem of_ev (l : List S71) (hl : l.length ≤ 1000000) : Ev (fun k => word_Of.f k l) (ofR l) := by
 refine Ev.congr (fun k => rfl) (Ev.bind (rmayc_ev l (by omega)) ?_)
 unfold ofR
 by_cases h : okR l = true
 ·obtain ⟨hg, ht, h0⟩ := okR_good h
  refine evP h (Ev.bind (list_ev l hl hg) ?_)
  rw [if_pos h]
  by_cases h4 : tot l > 4000
  ·rw [if_pos h4, if_pos h4]
   exact evN (by decide) (evR rfl)
  ·rw [if_neg h4, if_neg h4]
   have el := expand_len l hg
   refine evP rfl ?_
   have := of_l0 (expand l) (by omega) (expand l).length 0 [] (by omega) (by simp; omega)
   exact this
 ·refine evN h (evR ?_)
  rw [if_neg h]
theorem len_l0 (l : List S71) (hl : l.length ≤ 1000000) (hg : ∀ x ∈ l, goodR x) (ht : tot l ≤ 1099511627776) : ∀ d i (n : Int), i + d = l.length → 0 ≤ n → n + tot (l.drop i) ≤ 1099511627776 → Ev (fun k => gudgeonref08_Len.l0 k l n (i : Int)) (n + tot (l.drop i)) := by
 intro d
 induction d with
 | zero =>
  intro i n hi h0 h1
  refine Ev.step (fun k => by rw [gudgeonref08_Len.l0]) (evN (by omega) (evR ?_))
  rw [List.drop_eq_nil_of_le (by omega)]; simp [tot]
 | succ d ih =>
  intro i n hi h0 h1
  have hi' : i < l.length := by omega
  have g := hg _ (List.getElem_mem hi')
  unfold goodR at g
  have tn := tot_nonneg (l.drop (i + 1)) (fun x hx => hg x (List.mem_of_mem_drop hx))
  refine Ev.step (fun k => by rw [gudgeonref08_Len.l0]) (evP (by omega) (evP (by omega) ?_))
  rw [List.drop_eq_getElem_cons hi'] at h1 ⊢
  simp only [tot] at h1 ⊢
  rw [rdR l i hi', wnext (by omega), w64 (by omega) (by omega)]
  have := ih (i + 1) (n + l[i].f1) (by omega) (by omega) (by omega)
  rw [show n + l[i].f1 + tot (l.drop (i + 1)) = n + (l[i].f1 + tot (l.drop (i + 1))) by omega] at this
  exact this
theorem len_ev (l : List S71) (hl : l.length ≤ 1000000) (h : okR l = true) : Ev (fun k => gudgeonref08_Len.f k l) (tot l) := by
 obtain ⟨hg, ht, h0⟩ := okR_good h
 refine Ev.congr (fun k => rfl) (Ev.bind (rmayr_ev l (by omega)) (evP h ?_))
 have := len_l0 l hl hg ht l.length 0 0 (by omega) (by omega) (by rw [List.drop_zero]; omega)
 rw [List.drop_zero, show (0 : Int) + tot l = tot l by omega] at this
 exact this
theorem rof_l1 (l : List S71) (i : Nat) (hi : i < l.length) (hl : l.length ≤ 1000000) (R : List S69 × Int) : ∀ (e j : Nat) (out : List S69), (j : Int) + e = l[i].f1 → l[i].f1 ≤ 1000000 → out.length + e ≤ 1000000 →
  Ev (fun k => gudgeonref17_Of.l0 k l (out ++ List.replicate e ⟨-1, l[i].f0⟩) ((i + 1 : Nat) : Int)) R → Ev (fun k => gudgeonref17_Of.l1 k l out (i : Int) (j : Int)) R := by
 intro e
 induction e with
 | zero =>
  intro j out h hn ho hR
  refine Ev.step (fun k => by rw [gudgeonref17_Of.l1]) (evP (by omega) (evP (by omega) (evN (by rw [rdR l i hi]; omega) ?_)))
  rw [List.replicate_zero, List.append_nil] at hR
  rw [wnext (by omega)]
  exact hR
 | succ e ih =>
  intro j out h hn ho hR
  refine Ev.step (fun k => by rw [gudgeonref17_Of.l1]) (evP (by omega) (evP (by omega) (evP (by rw [rdR l i hi]; omega) (evP (by omega) ?_))))
  rw [wnext (by omega), rdR l i hi]
  refine ih (j + 1) (out ++ [⟨-1, l[i].f0⟩]) (by omega) hn (by simp; omega) ?_
  rw [List.append_assoc]
  exact hR
theorem rof_l0 (l : List S71) (hl : l.length ≤ 1000000) (hg : ∀ x ∈ l, goodR x) : ∀ d i (out : List S69), i + d = l.length → (out.length : Int) + tot (l.drop i) ≤ 4000 →
  Ev (fun k => gudgeonref17_Of.l0 k l out (i : Int)) (out ++ lets (expand (l.drop i)), 0) := by
 intro d
 induction d with
 | zero =>
  intro i out hi ho
  refine Ev.step (fun k => by rw [gudgeonref17_Of.l0]) (evN (by omega) (evR ?_))
  rw [List.drop_eq_nil_of_le (by omega)]
  simp [lets, expand]
 | succ d ih =>
  intro i out hi ho
  have hi' : i < l.length := by omega
  have g := hg _ (List.getElem_mem hi')
  unfold goodR at g
  have tn := tot_nonneg (l.drop (i + 1)) (fun x hx => hg x (List.mem_of_mem_drop hx))
  rw [List.drop_eq_getElem_cons hi'] at ho ⊢
  simp only [tot, expand] at ho ⊢
  refine Ev.step (fun k => by rw [gudgeonref17_Of.l0]) (evP (by omega) ?_)
  have next := ih (i + 1) (out ++ List.replicate l[i].f1.toNat ⟨-1, l[i].f0⟩) (by omega) (by simp; omega)
  refine rof_l1 l i hi' hl _ l[i].f1.toNat 0 out (by omega) (by omega) (by omega) ?_
  rw [List.append_assoc] at next
  have e : lets (List.replicate l[i].f1.toNat l[i].f0 ++ expand (l.drop (i + 1))) = List.replicate l[i].f1.toNat ⟨-1, l[i].f0⟩ ++ lets (expand (l.drop (i + 1))) := by simp [lets]
  rw [e]
  exact next
theorem rof_ev (l : List S71) (hl : l.length ≤ 1000000) : Ev (fun k => gudgeonref17_Of.f k l) (ofR l) := by
 refine Ev.congr (fun k => rfl) (Ev.bind (rmayr_ev l (by omega)) ?_)
 unfold ofR
 by_cases h : okR l = true
 ·obtain ⟨hg, ht, h0⟩ := okR_good h
  refine evP h (Ev.bind (len_ev l hl h) ?_)
  rw [if_pos h]
  by_cases h4 : tot l > 4000
  ·refine evP h4 (evR ?_); rw [if_pos h4]
  ·refine evN h4 ?_
   rw [if_neg h4]
   have := rof_l0 l hl hg l.length 0 [] (by omega) (by simp; omega)
   rw [List.drop_zero] at this
   exact this
 ·refine evN h (evR ?_)
  rw [if_neg h]
end Go.Proofs.Ytbigeaknbhmniaa.S
/- A word with another one in a variable's place; the law WordPuts. -/
namespace Go.Proofs.Ytbigeaknbhmniaa.S
set_option linter.unusedVariables false
set_option linter.unusedSimpArgs false
open Go.RowKit Go.Proofs.Ytbigeaknbhmniaa.PA Go.Proofs.Ytbigeaknbhmniaa.H Go.Proofs.YtbigeaknbhmniaaW.PrintWords Go.Proofs.YtbigeaknbhmniaaW.PrintLast Go.Proofs.YtbigeaknbhmniaaW.PrintMore

def pw (v : Int) (y : List S69) : List S69 → List S69
 | [] => []
 | x :: r => (if x.f0 = v then y else [x]) ++ pw v y r
def fits (l : List S69) : List S69 × Int := if l.length > 4000 then ([], 2) else (l, 0)
theorem put_l0 (v : Int) (y w : List S69) (hw : w.length ≤ 1000000) (hy : y.length ≤ 1000000) : ∀ d i (out : List S69), i + d = w.length → out.length ≤ 4000 →
  Ev (fun k => word_Put.l0 k v y out w (w.length : Int) (i : Int)) (fits (out ++ pw v y (w.drop i))) := by
 intro d
 induction d with
 | zero =>
  intro i out hi ho
  refine Ev.step (fun k => by rw [word_Put.l0]) (evN (by omega) (evR ?_))
  rw [List.drop_eq_nil_of_le (by omega)]
  unfold fits pw; rw [List.append_nil, if_neg (by omega)]
 | succ d ih =>
  intro i out hi ho
  have hi' : i < w.length := by omega
  refine Ev.step (fun k => by rw [word_Put.l0]) (evP (by omega) (evP (by omega) (evP (by omega) ?_)))
  rw [rdL w i hi', List.drop_eq_getElem_cons hi', show pw v y (w[i] :: w.drop (i + 1)) = (if w[i].f0 = v then y else [w[i]]) ++ pw v y (w.drop (i + 1)) from rfl, wnext (by omega)]
  by_cases h : w[i].f0 = v
  ·refine evP h (evP (by omega) (evC rfl ?_))
   rw [if_pos h, ← List.append_assoc]
   by_cases h4 : ((out ++ y).length : Int) > 4000
   ·refine evP h4 (evR ?_)
    unfold fits; rw [if_pos (by rw [List.length_append]; omega)]
   ·exact evN h4 (ih (i + 1) (out ++ y) (by omega) (by omega))
  ·refine evN h (evP (by omega) (evC rfl ?_))
   rw [if_neg h, ← List.append_assoc]
   by_cases h4 : ((out ++ [w[i]]).length : Int) > 4000
   ·refine evP h4 (evR ?_)
    unfold fits; rw [if_pos (by rw [List.length_append]; omega)]
   ·exact evN h4 (ih (i + 1) (out ++ [w[i]]) (by omega) (by omega))
theorem put_j0 (w : List S69) (v : Int) (y : List S69) (hw : w.length ≤ 1000000) (hy : y.length ≤ 1000000) (b : Bool) : Ev (fun k => word_Put.j0 k w v y b) (if b = true then ([], 1) else fits (pw v y w)) := by
 refine Ev.step (fun k => by rw [word_Put.j0]) ?_
 cases b with
 | true => exact evP rfl (evR (by rw [if_pos rfl]))
 | false =>
  refine evN Bool.false_ne_true ?_
  rw [if_neg Bool.false_ne_true]
  have := put_l0 v y w hw hy w.length 0 [] (by omega) (by simp)
  rw [List.drop_zero, List.nil_append] at this
  exact this
def putV (w : List S69) (v : Int) (y : List S69) : List S69 × Int := if (mayB w && mayB y && !decide (v < 0)) = true then fits (pw v y w) else ([], 1)
theorem put_ev (w : List S69) (v : Int) (y : List S69) (hw : w.length ≤ 1000000) (hy : y.length ≤ 1000000) : Ev (fun k => word_Put.f k w v y) (putV w v y) := by
 refine Ev.congr (fun k => rfl) (Ev.bind (may_ev w (by omega)) ?_)
 unfold putV
 cases h1 : mayB w with
 | false =>
  refine evN Bool.false_ne_true ?_
  have := put_j0 w v y hw hy true
  exact this
 | true =>
  refine evP rfl (Ev.bind (may_ev y (by omega)) ?_)
  cases h2 : mayB y with
  | false =>
   refine evN Bool.false_ne_true ?_
   have := put_j0 w v y hw hy true
   exact this
  | true =>
   refine evP rfl ?_
   have := put_j0 w v y hw hy (decide (v < 0))
   cases h3 : decide (v < 0) with
   | true => rw [h3] at this; exact this
   | false => rw [h3] at this; exact this
/-! ### the reference -/
theorem rput_l1 (v : Int) (y w : List S69) (hw : w.length ≤ 1000000) (hy : y.length ≤ 1000000) : ∀ d i (out : List S69), i + d = w.length → out.length + (pw v y (w.drop i)).length ≤ 4000 →
  Ev (fun k => gudgeonref17_Put.l1 k w v y out (i : Int)) (out ++ pw v y (w.drop i), 0) := by
 intro d
 induction d with
 | zero =>
  intro i out hi ho
  refine Ev.step (fun k => by rw [gudgeonref17_Put.l1]) (evN (by omega) (evR ?_))
  rw [List.drop_eq_nil_of_le (by omega)]
  unfold pw; rw [List.append_nil]
 | succ d ih =>
  intro i out hi ho
  have hi' : i < w.length := by omega
  refine Ev.step (fun k => by rw [gudgeonref17_Put.l1]) (evP (by omega) (evP (by omega) ?_))
  rw [List.drop_eq_getElem_cons hi', show pw v y (w[i] :: w.drop (i + 1)) = (if w[i].f0 = v then y else [w[i]]) ++ pw v y (w.drop (i + 1)) from rfl] at ho ⊢
  rw [rdL w i hi', wnext (by omega)]
  by_cases h : w[i].f0 = v
  ·rw [if_pos h] at ho ⊢
   rw [List.length_append] at ho
   refine evP h (evP (by omega) ?_)
   have := ih (i + 1) (out ++ y) (by omega) (by rw [List.length_append]; omega)
   rw [List.append_assoc] at this; exact this
  ·rw [if_neg h] at ho ⊢
   rw [List.length_append, List.length_singleton] at ho
   refine evN h (evP (by omega) ?_)
   have := ih (i + 1) (out ++ [w[i]]) (by omega) (by rw [List.length_append, List.length_singleton]; omega)
   rw [List.append_assoc] at this; exact this
theorem pw_len (v : Int) (y : List S69) : ∀ w : List S69, (pw v y w).length ≤ w.length * (y.length + 1)
 | [] => Nat.zero_le _
 | x :: r => by
  have := pw_len v y r
  simp only [pw, List.length_append, List.length_cons, Nat.add_mul]
  split <;> simp <;> omega
theorem rput_l0 (v : Int) (y w : List S69) (hw : w.length ≤ 1000000) (hy : y.length ≤ 1000000) (R : List S69 × Int)
  (hR : R = fits (pw v y w)) : ∀ d i (n : Int), i + d = w.length → 0 ≤ n → n + (pw v y (w.drop i)).length = (pw v y w).length →
  Ev (fun k => gudgeonref17_Put.l0 k w v y n (i : Int)) R := by
 have hpl : (pw v y w).length ≤ 1000000 * 1000001 := Nat.le_trans (pw_len v y w) (Nat.mul_le_mul hw (by omega))
 intro d
 induction d with
 | zero =>
  intro i n hi h0 hn
  refine Ev.step (fun k => by rw [gudgeonref17_Put.l0]) (evN (by omega) ?_)
  rw [List.drop_eq_nil_of_le (by omega)] at hn
  have hn : n = (pw v y w).length := by have : (pw v y []).length = 0 := rfl; omega
  subst hR
  unfold fits
  by_cases h4 : n > 4000
  ·refine evP h4 (evR ?_); rw [if_pos (by omega)]
  ·refine evN h4 ?_
   rw [if_neg (by omega)]
   have := rput_l1 v y w hw hy w.length 0 [] (by omega) (by rw [List.drop_zero, List.length_nil]; omega)
   rw [List.drop_zero, List.nil_append] at this
   exact this
 | succ d ih =>
  intro i n hi h0 hn
  have hi' : i < w.length := by omega
  refine Ev.step (fun k => by rw [gudgeonref17_Put.l0]) (evP (by omega) (evP (by omega) ?_))
  rw [List.drop_eq_getElem_cons hi', show pw v y (w[i] :: w.drop (i + 1)) = (if w[i].f0 = v then y else [w[i]]) ++ pw v y (w.drop (i + 1)) from rfl, List.length_append] at hn
  rw [rdL w i hi', wnext (by omega)]
  by_cases h : w[i].f0 = v
  ·rw [if_pos h] at hn
   refine evP h ?_
   rw [w64 (by omega) (by omega)]
   exact ih (i + 1) _ (by omega) (by omega) (by omega)
  ·rw [if_neg h, List.length_singleton] at hn
   refine evN h ?_
   rw [w64 (by omega) (by omega)]
   exact ih (i + 1) _ (by omega) (by omega) (by omega)
theorem rput_j0 (w : List S69) (v : Int) (y : List S69) (hw : w.length ≤ 1000000) (hy : y.length ≤ 1000000) (b : Bool) : Ev (fun k => gudgeonref17_Put.j0 k w v y b) (if b = true then ([], 1) else fits (pw v y w)) := by
 refine Ev.step (fun k => by rw [gudgeonref17_Put.j0]) ?_
 cases b with
 | true => exact evP rfl (evR (by rw [if_pos rfl]))
 | false =>
  refine evN Bool.false_ne_true ?_
  rw [if_neg Bool.false_ne_true]
  exact rput_l0 v y w hw hy _ rfl w.length 0 0 (by omega) (by omega) (by rw [List.drop_zero]; omega)
theorem rput_ev (w : List S69) (v : Int) (y : List S69) (hw : w.length ≤ 1000000) (hy : y.length ≤ 1000000) : Ev (fun k => gudgeonref17_Put.f k w v y) (putV w v y) := by
 refine Ev.congr (fun k => rfl) (Ev.bind (rmay_ev w (by omega)) (Ev.bind (rmay_ev y (by omega)) ?_))
 unfold putV
 cases h1 : mayB w with
 | false => exact evN Bool.false_ne_true (rput_j0 w v y hw hy true)
 | true =>
  refine evP rfl ?_
  cases h2 : mayB y with
  | false => exact evN Bool.false_ne_true (rput_j0 w v y hw hy true)
  | true =>
   refine evP rfl ?_
   have := rput_j0 w v y hw hy (decide (v < 0))
   cases h3 : decide (v < 0) with
   | true => rw [h3] at this; exact this
   | false => rw [h3] at this; exact this
theorem fits_len (l : List S69) : (fits l).1.length ≤ 4000 := by
 unfold fits; split
 ·exact Nat.zero_le _
 ·simp only []; omega
theorem putV_len (w : List S69) (v : Int) (y : List S69) : (putV w v y).1.length ≤ 4000 := by
 unfold putV; split
 ·exact fits_len _
 ·exact Nat.zero_le _
theorem ofR_len (l : List S71) : (ofR l).1.length ≤ 4000 := by
 unfold ofR
 split
 ·rename_i h
  split
  ·exact Nat.zero_le _
  ·have := expand_len l (okR_good h).1
   simp only [lets, List.length_map]; omega
 ·exact Nat.zero_le _
theorem WordPuts (s : List S71) (w : List S69) (v : Int) (y : List S69) : ∃ k, gudgeonlaw17_WordPuts.f k s w v y = some true := by
 have stop : Ev (fun k => gudgeonlaw17_WordPuts.j0 k s w v y true true) true := Ev.step (fun k => by rw [gudgeonlaw17_WordPuts.j0]) (evP rfl (evR rfl))
 refine Ev.rounds ?_
 refine Ev.congr (fun k => rfl) (Ev.bind awake_ev (evP rfl ?_))
 by_cases h1 : (s.length : Int) > 300
 ·exact evP h1 stop
 refine evN h1 ?_
 by_cases h2 : (w.length : Int) > 500
 ·exact evP h2 stop
 refine evN h2 ?_
 by_cases h3 : (y.length : Int) > 500
 ·rw [decide_eq_true h3]; exact stop
 rw [decide_eq_false h3]
 refine Ev.step (fun k => by rw [gudgeonlaw17_WordPuts.j0]) (evN Bool.false_ne_true ?_)
 refine Ev.bind (of_ev s (by omega)) (Ev.bind (rof_ev s (by omega)) (Ev.bind (put_ev w v y (by omega) (by omega)) (Ev.bind (rput_ev w v y (by omega) (by omega)) ?_)))
 refine Ev.bind (same_self _ (Nat.le_trans (ofR_len s) (by decide))) (Ev.bind (same_self _ (Nat.le_trans (putV_len w v y) (by decide))) ?_)
 exact evP rfl (evP rfl (evP rfl (evR (by simp))))
end Go.Proofs.Ytbigeaknbhmniaa.S
/- Written by wip/tools/rows.py. -/
namespace Go.Proofs.Ytbigeaknbhmniaa.wordPuts
open Go.ChangeShapes Go.WideShapes Go.ChangeAt Go.RowKit
open Go.ChangeMaps (open_string shut_string)
set_option linter.unusedVariables false
theorem own : ownKnob Try.prog.godebug = none := by kernel_rfl
theorem laidOut : laidOutB Try.prog = true := by kernel_rfl
def IsRow (k : IntKind) (w : World) (a : Option Addr) (len cap : Nat) (zs : List Int) : Prop :=
  (a = none ∧ len = 0 ∧ cap = 0 ∧ zs = []) ∨
  ∃ x, a = some x ∧ len ≤ cap ∧ cap ≤ maxLen ∧ zs.length = cap ∧ (∀ i, i < zs.length → w.cell? (x.add i) = some (.int k (zs.getD i 0))) ∧ ∀ n ∈ zs, (Lit.int k n).wf = true
set_option maxRecDepth 100000 in
theorem lifted (os : Os) (started : os.Started) (H : Type) (enc : TypeId × Value → H) :
    ReturnsInHanded {} Try.checked os 3 .any (Rows.wordPutsSpec.pre6 enc Try.prog Try.f3 Rows.wordPutsRow.domain false) (Rows.wordPutsSpec.post enc Try.prog Try.f3 false true false false) := by
  refine returnsInHanded_of_change_sized (C := Try.checked) own started (by kernel_rfl) Try.func3
    (ChangeSpec.witness6 (enc := enc) (C := Try.checked) false ⟨#[], #[.slice none 0 0, .slice none 0 0, .int .i64 0, .slice none 0 0], []⟩ 8 (by kernel_rfl) (by kernel_rfl) (by kernel_rfl) (by kernel_rfl)) ?_
  intro W base args ds gs before hval0 hW hcnd hsz0 _
  have hsz : (DataW.weightsEach Try.prog (Try.f3.params.toList ++ Rows.wordPutsSpec.plain.varTypes Try.prog) (ds ++ gs)).all (· ≤ reachBytes) = true := hsz0
  have hval : ∀ (j : Nat) t v, Try.f3.params[j]? = some t → args[j]? = some v → Value.okWide Try.prog W .any base t v := hval0
  have hW' := hW
  obtain ⟨p, q, hA0, hV, rfl, hfz, hnd⟩ := hW
  have hA : DataW.TrodAll enc Try.prog W 0 (fun _ => true) true Try.f3.params.toList args.toList ds p := hA0
  rw [Try.params3] at hA hval hsz
  obtain ⟨v0, vs0, d0, ds0, p0, q0, hargs, rfl, rfl, h0, r0⟩ := trodAll_cons hA
  obtain ⟨v1, vs1, d1, ds1, p1, q1, rfl, rfl, rfl, h1, r1⟩ := trodAll_cons r0
  obtain ⟨v2, vs2, d2, ds2, p2, q2, rfl, rfl, rfl, h2, r2⟩ := trodAll_cons r1
  obtain ⟨v3, vs3, d3, ds3, p3, q3, rfl, rfl, rfl, h3, r3⟩ := trodAll_cons r2
  obtain ⟨rfl, rfl, rfl⟩ := trodAll_nil r3
  obtain rfl : args = #[v0, v1, v2, v3] := by cases args; simp_all
  obtain ⟨rfl, rfl⟩ := trodVars_none hV
  obtain ⟨A0, len0, cap0, rfl⟩ := okWide_slice Try.underlying22 (hval 0 22 v0 rfl rfl)
  have k0 := h0
  have lt0 : ∀ x ∈ p0, x.block < W.heap.size := by obtain ⟨m, hm⟩ := k0; exact DataW.trod_lt m _ _ _ hm
  obtain ⟨l0, hll0, hlc0, hr0, hm0⟩ : ∃ l : List PA.S71, l.length = len0 ∧ len0 ≤ cap0 ∧ Go.Proofs.YtbigeaknbhmniaaW.PrintWords.Kd.C PA.k71 W A0 len0 l ∧ ∀ x ∈ l, (Lit.int .i64 x.f0).wf = true ∧ (Lit.int .i64 x.f1).wf = true := by
    obtain ⟨fuel, hf⟩ := h0
    rcases Go.Deep.open_slice_pairs Try.underlying22 Try.underlying71 (by kernel_rfl) rfl rfl (by kernel_rfl) (by kernel_rfl) hf with ⟨hcs, _⟩ | ⟨a, len, cap, m, n, V0, V1, D0, D1, P0, P1, hcs, _, hl, hm, hmm, _, hx⟩
    · simp [Value.cells] at hcs
      obtain ⟨rfl, rfl, rfl⟩ := hcs
      exact ⟨[], rfl, Nat.le_refl _, ⟨rfl, by decide, fun h => absurd h (by decide)⟩, by simp⟩
    · simp [Value.cells] at hcs
      obtain ⟨rfl, rfl, rfl⟩ := hcs
      have hlm : len0 ≤ m := by rw [hmm]; split <;> omega
      have each : ∀ i, i < len0 → ∃ q : PA.S71, (W.cell? (a.add (i * 2)) = some (.int .i64 q.f0) ∧ W.cell? (a.add (i * 2 + 1)) = some (.int .i64 q.f1)) ∧ (Lit.int .i64 q.f0).wf = true ∧ (Lit.int .i64 q.f1).wf = true := by
        intro i hi
        obtain ⟨c0, c1, t0, t1⟩ := hx i (by omega)
        obtain ⟨n0, e0, _, f0⟩ := DataW.trod_int Try.underlying3 t0
        obtain ⟨n1, e1, _, f1⟩ := DataW.trod_int Try.underlying3 t1
        simp only [List.cons.injEq, and_true] at e0 e1
        exact ⟨⟨n0, n1⟩, ⟨by rw [c0, e0], by rw [c1, e1]⟩, f0, f1⟩
      haveI : Inhabited PA.S71 := ⟨⟨0, 0⟩⟩
      obtain ⟨q, hq⟩ := Go.Deep.choose_lt each
      refine ⟨(List.range len0).map q, by simp, hl, ⟨by simp, Nat.le_trans (Nat.le_trans hl hm) (by decide), fun hn => ⟨a, rfl, fun j p hp => ?_⟩⟩, fun x hx => ?_⟩
      rotate_left
      · obtain ⟨j, hj, rfl⟩ := List.mem_map.1 hx
        exact (hq j (List.mem_range.1 hj)).2
      rw [List.getElem?_map] at hp
      obtain ⟨j', hj', rfl⟩ := Option.map_eq_some_iff.1 hp
      obtain ⟨hjl, rfl⟩ := List.getElem?_eq_some_iff.1 hj'
      rw [List.length_range] at hjl
      simp only [List.getElem_range]
      refine ⟨_, rfl, PA.k71_mk W _, fun i u hu => ?_⟩
      match i, hu with
      | 0, hu => obtain rfl := Option.some.inj hu; exact (hq j hjl).1.1
      | 1, hu => obtain rfl := Option.some.inj hu; exact (hq j hjl).1.2
  subst hll0
  obtain ⟨A1, len1, cap1, rfl⟩ := okWide_slice Try.underlying23 (hval 1 23 v1 rfl rfl)
  have k1 := h1
  have lt1 : ∀ x ∈ p1, x.block < W.heap.size := by obtain ⟨m, hm⟩ := k1; exact DataW.trod_lt m _ _ _ hm
  obtain ⟨l1, hll1, hlc1, hr1, hm1⟩ : ∃ l : List PA.S69, l.length = len1 ∧ len1 ≤ cap1 ∧ Go.Proofs.YtbigeaknbhmniaaW.PrintWords.Kd.C PA.k69 W A1 len1 l ∧ ∀ x ∈ l, (Lit.int .i64 x.f0).wf = true ∧ (Lit.int .i64 x.f1).wf = true := by
    obtain ⟨fuel, hf⟩ := h1
    rcases Go.Deep.open_slice_pairs Try.underlying23 Try.underlying69 (by kernel_rfl) rfl rfl (by kernel_rfl) (by kernel_rfl) hf with ⟨hcs, _⟩ | ⟨a, len, cap, m, n, V0, V1, D0, D1, P0, P1, hcs, _, hl, hm, hmm, _, hx⟩
    · simp [Value.cells] at hcs
      obtain ⟨rfl, rfl, rfl⟩ := hcs
      exact ⟨[], rfl, Nat.le_refl _, ⟨rfl, by decide, fun h => absurd h (by decide)⟩, by simp⟩
    · simp [Value.cells] at hcs
      obtain ⟨rfl, rfl, rfl⟩ := hcs
      have hlm : len1 ≤ m := by rw [hmm]; split <;> omega
      have each : ∀ i, i < len1 → ∃ q : PA.S69, (W.cell? (a.add (i * 2)) = some (.int .i64 q.f0) ∧ W.cell? (a.add (i * 2 + 1)) = some (.int .i64 q.f1)) ∧ (Lit.int .i64 q.f0).wf = true ∧ (Lit.int .i64 q.f1).wf = true := by
        intro i hi
        obtain ⟨c0, c1, t0, t1⟩ := hx i (by omega)
        obtain ⟨n0, e0, _, f0⟩ := DataW.trod_int Try.underlying3 t0
        obtain ⟨n1, e1, _, f1⟩ := DataW.trod_int Try.underlying3 t1
        simp only [List.cons.injEq, and_true] at e0 e1
        exact ⟨⟨n0, n1⟩, ⟨by rw [c0, e0], by rw [c1, e1]⟩, f0, f1⟩
      haveI : Inhabited PA.S69 := ⟨⟨0, 0⟩⟩
      obtain ⟨q, hq⟩ := Go.Deep.choose_lt each
      refine ⟨(List.range len1).map q, by simp, hl, ⟨by simp, Nat.le_trans (Nat.le_trans hl hm) (by decide), fun hn => ⟨a, rfl, fun j p hp => ?_⟩⟩, fun x hx => ?_⟩
      rotate_left
      · obtain ⟨j, hj, rfl⟩ := List.mem_map.1 hx
        exact (hq j (List.mem_range.1 hj)).2
      rw [List.getElem?_map] at hp
      obtain ⟨j', hj', rfl⟩ := Option.map_eq_some_iff.1 hp
      obtain ⟨hjl, rfl⟩ := List.getElem?_eq_some_iff.1 hj'
      rw [List.length_range] at hjl
      simp only [List.getElem_range]
      refine ⟨_, rfl, PA.k69_mk W _, fun i u hu => ?_⟩
      match i, hu with
      | 0, hu => obtain rfl := Option.some.inj hu; exact (hq j hjl).1.1
      | 1, hu => obtain rfl := Option.some.inj hu; exact (hq j hjl).1.2
  subst hll1
  obtain ⟨a2, rfl, rfl, rfl, w2⟩ := open_int Try.underlying3 (hval 2 3 v2 rfl rfl) h2
  have hb2 := (bounds_i64 w2)
  obtain ⟨A3, len3, cap3, rfl⟩ := okWide_slice Try.underlying23 (hval 3 23 v3 rfl rfl)
  have k3 := h3
  have lt3 : ∀ x ∈ p3, x.block < W.heap.size := by obtain ⟨m, hm⟩ := k3; exact DataW.trod_lt m _ _ _ hm
  obtain ⟨l3, hll3, hlc3, hr3, hm3⟩ : ∃ l : List PA.S69, l.length = len3 ∧ len3 ≤ cap3 ∧ Go.Proofs.YtbigeaknbhmniaaW.PrintWords.Kd.C PA.k69 W A3 len3 l ∧ ∀ x ∈ l, (Lit.int .i64 x.f0).wf = true ∧ (Lit.int .i64 x.f1).wf = true := by
    obtain ⟨fuel, hf⟩ := h3
    rcases Go.Deep.open_slice_pairs Try.underlying23 Try.underlying69 (by kernel_rfl) rfl rfl (by kernel_rfl) (by kernel_rfl) hf with ⟨hcs, _⟩ | ⟨a, len, cap, m, n, V0, V1, D0, D1, P0, P1, hcs, _, hl, hm, hmm, _, hx⟩
    · simp [Value.cells] at hcs
      obtain ⟨rfl, rfl, rfl⟩ := hcs
      exact ⟨[], rfl, Nat.le_refl _, ⟨rfl, by decide, fun h => absurd h (by decide)⟩, by simp⟩
    · simp [Value.cells] at hcs
      obtain ⟨rfl, rfl, rfl⟩ := hcs
      have hlm : len3 ≤ m := by rw [hmm]; split <;> omega
      have each : ∀ i, i < len3 → ∃ q : PA.S69, (W.cell? (a.add (i * 2)) = some (.int .i64 q.f0) ∧ W.cell? (a.add (i * 2 + 1)) = some (.int .i64 q.f1)) ∧ (Lit.int .i64 q.f0).wf = true ∧ (Lit.int .i64 q.f1).wf = true := by
        intro i hi
        obtain ⟨c0, c1, t0, t1⟩ := hx i (by omega)
        obtain ⟨n0, e0, _, f0⟩ := DataW.trod_int Try.underlying3 t0
        obtain ⟨n1, e1, _, f1⟩ := DataW.trod_int Try.underlying3 t1
        simp only [List.cons.injEq, and_true] at e0 e1
        exact ⟨⟨n0, n1⟩, ⟨by rw [c0, e0], by rw [c1, e1]⟩, f0, f1⟩
      haveI : Inhabited PA.S69 := ⟨⟨0, 0⟩⟩
      obtain ⟨q, hq⟩ := Go.Deep.choose_lt each
      refine ⟨(List.range len3).map q, by simp, hl, ⟨by simp, Nat.le_trans (Nat.le_trans hl hm) (by decide), fun hn => ⟨a, rfl, fun j p hp => ?_⟩⟩, fun x hx => ?_⟩
      rotate_left
      · obtain ⟨j, hj, rfl⟩ := List.mem_map.1 hx
        exact (hq j (List.mem_range.1 hj)).2
      rw [List.getElem?_map] at hp
      obtain ⟨j', hj', rfl⟩ := Option.map_eq_some_iff.1 hp
      obtain ⟨hjl, rfl⟩ := List.getElem?_eq_some_iff.1 hj'
      rw [List.length_range] at hjl
      simp only [List.getElem_range]
      refine ⟨_, rfl, PA.k69_mk W _, fun i u hu => ?_⟩
      match i, hu with
      | 0, hu => obtain rfl := Option.some.inj hu; exact (hq j hjl).1.1
      | 1, hu => obtain rfl := Option.some.inj hu; exact (hq j hjl).1.2
  subst hll3
  clear hA0 hval0 hsz0 hsz
  obtain ⟨k, hk⟩ := Go.Proofs.Ytbigeaknbhmniaa.S.WordPuts l0 l1 a2 l3
  refine (PA.gudgeonlaw17_WordPuts.calls k _ _ l0 _ _ l1 a2 _ _ l3 true W hr0 hlc0 hr1 hlc1 hr3 hlc3 hk).mono fun e W' ⟨he, bel⟩ => ?_
  subst he
  exact ⟨_, rfl, _, _, _, [], _, [], hW', trodAll_mk1 (shut_bool Try.underlying4 _), (trodAll_cons_mk (Below.trod laidOut (by kernel_rfl) (of_decide_eq_true (by kernel_rfl)) k0 bel lt0) (trodAll_cons_mk (Below.trod laidOut (by kernel_rfl) (of_decide_eq_true (by kernel_rfl)) k1 bel lt1) (trodAll_cons_mk (shut_int Try.underlying3 w2) (trodAll_cons_mk (Below.trod laidOut (by kernel_rfl) (of_decide_eq_true (by kernel_rfl)) k3 bel lt3) trodAll_mk0)))), rfl, bel.frame _, fun h => by cases h⟩
theorem over : Rows.wordPutsRow.holds Try.pinned (OpenSpec.ofChange Rows.wordPutsSpec) :=
  OpenClaim.holds_of_wide 3 Try.f3 rfl rfl rfl rfl rfl rfl rfl ⟨rfl, rfl, rfl, rfl, rfl⟩ rfl rfl rfl rfl rfl (by kernel_rfl) Try.func3 (by kernel_rfl)
    (of_decide_eq_true (by kernel_rfl)) (by unfold Func.isWrapper; first | (rw [if_pos (by decide +kernel)]; kernel_rfl) | (rw [if_neg (by decide +kernel)]; exact ⟨rfl, rfl⟩))
    (fun os started H enc _ => lifted os started H enc)
theorem proved : Rows.WordPutsSaid := over
end Go.Proofs.Ytbigeaknbhmniaa.wordPuts
namespace Go.Proofs.Ytbigeaknbhmniaa
/-- The row, under a short name, for the claim. -/
theorem wordPuts_holds : Rows.WordPutsSaid := wordPuts.proved
end Go.Proofs.Ytbigeaknbhmniaa
