/- Joined by wip/tools/shake.py for the claim of WordValues: PBx11, PBx8, PBx12, PBx2, HConcat, HDelete, HJoined, HText. -/
import Derived.Test.YtbigeaknbhmniaaJWordValues2
import Derived.Test.YtbigeaknbhmniaaJWordValues4
import Derived.Test.YtbigeaknbhmniaaJWordValues1
import Derived.WalkKit
import Derived.KernelRfl
import Derived.Deep.RegionLaw
import Derived.Shelf.RegionOpenPlain
import Derived.Lib.SliceRun
import Derived.Lib.BufferOwn
import Derived.Deep.LoopGhost
import Derived.Lib.Walk
/- Written by a program of this session, wip/tools/patch_print.py, over the kit's print of the loaded functions. -/
namespace Go.Proofs.Ytbigeaknbhmniaa.H
end Go.Proofs.Ytbigeaknbhmniaa.H
namespace Go.Proofs.Ytbigeaknbhmniaa.PB
open Go.RowKit Go.Proofs.YtbigeaknbhmniaaW.PrintWords Go.Proofs.YtbigeaknbhmniaaW.PrintLast Go.Proofs.YtbigeaknbhmniaaW.PrintMore Go.Proofs.Ytbigeaknbhmniaa.H
attribute [local go_sem] max2_int min2_int max_two min_two max_three min_three max_four min_four   -- for this text's walks alone
set_option linter.unusedVariables false
set_option linter.unusedSimpArgs false

/-! ### gudgeonlaw17_few: function 16 -/
mutual
def gudgeonlaw17_few.j0 : Nat → List (S41) → Bool → Option (Bool)
 | 0, _, _ => none
 | k + 1, x2, x20 => if x20 = true then (some false) else (gudgeonlaw17_few.l0 k x2 0)
def gudgeonlaw17_few.l0 : Nat → List (S41) → Int → Option (Bool)
 | 0, _, _ => none
 | k + 1, x2, x7 => if x7 < (x2.length : Int) then (if 0 ≤ x7 then (if (((rd_T41 x2 x7).f1).length : Int) > 200 then (some false) else (gudgeonlaw17_few.l0 k x2 (wrap64 (x7 + 1)))) else (none)) else (some true)
end
def gudgeonlaw17_few.f (k : Nat) (l0 : List (S69)) (l1 : List (S69)) (l2 : List (S41)) : Option (Bool) := if (l0.length : Int) > 200 then (gudgeonlaw17_few.j0 k l2 true) else (if (l1.length : Int) > 200 then (gudgeonlaw17_few.j0 k l2 true) else (gudgeonlaw17_few.j0 k l2 (decide ((l2.length : Int) > 60))))
set_option maxHeartbeats 8000000 in
set_option maxRecDepth 100000 in
theorem gudgeonlaw17_few.calls (k : Nat) (A0 : Option Addr) (c0 : Nat) (l0 : List (S69)) (A1 : Option Addr) (c1 : Nat) (l1 : List (S69)) (A2 : Option Addr) (c2 : Nat) (l2 : List (S41)) (r : Bool) (w : World) (hr0 : Kd.C k69 w A0 l0.length l0) (hc0 : l0.length ≤ c0) (hr1 : Kd.C k69 w A1 l1.length l1) (hc1 : l1.length ≤ c1) (hr2 : Kd.C k41 w A2 l2.length l2) (hc2 : l2.length ≤ c2) (h : gudgeonlaw17_few.f k l0 l1 l2 = some r) :
  Calls Try.prog 16 #[.slice A0 l0.length c0, .slice A1 l1.length c1, .slice A2 l2.length c2] w fun e w' => e = .returned (.bool r) ∧ Drawn0 w w' := by
 have HR0 := Aside0.mk hr0
 have HC0 := Aside0.mk hc0
 clear hr0 hc0
 have HR1 := Aside0.mk hr1
 have HC1 := Aside0.mk hc1
 clear hr1 hc1
 have HR2 := Aside0.mk hr2
 have HC2 := Aside0.mk hc2
 clear hr2 hc2
 have H : (if (l0.length : Int) > 200 then (gudgeonlaw17_few.j0 k l2 true) else (if (l1.length : Int) > 200 then (gudgeonlaw17_few.j0 k l2 true) else (gudgeonlaw17_few.j0 k l2 (decide ((l2.length : Int) > 60))))) = some r := h
 clear h
 have HC4 := Aside0.mk H
 clear H
 go_enter Try.func16, Try.ntmps16
 go_upto_region 1 with (fail)
 go_cut [20] (fun v20 wc => ∃ (kq : Nat) (x20_3 : Bool), v20 = .bool x20_3 ∧ Aside0 (gudgeonlaw17_few.j0 kq l2 x20_3 = some r) ∧ Aside0 (kq ≤ k) ∧ Drawn0 w wc)
 case first =>
  have H := HC4.out
  clear HC4
  by_cases c5 : (l0.length : Int) > 200
  ·rw [if_pos c5] at H
   have c5b0 : decide (200 < (l0.length : Int)) = true := decide_eq_true c5
   have c5b1 : decide (200 < l0.length) = true := decide_eq_true (by omega)
   clear c5
   (first | rw [c5b0] | rw [c5b1] | (simp only [i64_w, i32_w]; rw [c5b0]) | skip)
   have H' := Aside0.mk H
   clear H
   go_wp2
   go_meet
   case rel => exact ⟨_, (true), (by first | rfl | (simp; done) | (simp [*]; done) | (refine congrArg (Value.int _) ?_; omega) | (refine congrArg Value.bool ?_; generalize ByteArray.toList _ = z_; cases z_ <;> rfl)), H', ⟨by first | omega | exact Nat.le_refl _⟩, by repeat (first | exact Drawn0.refl _ | apply Drawn0.step)⟩
  ·rw [if_neg c5] at H
   have c5b0 : decide (200 < (l0.length : Int)) = false := decide_eq_false c5
   have c5b1 : decide (200 < l0.length) = false := decide_eq_false (by omega)
   clear c5
   (first | rw [c5b0] | rw [c5b1] | (simp only [i64_w, i32_w]; rw [c5b0]) | skip)
   by_cases c6 : (l1.length : Int) > 200
   ·rw [if_pos c6] at H
    have c6b0 : decide (200 < (l1.length : Int)) = true := decide_eq_true c6
    have c6b1 : decide (200 < l1.length) = true := decide_eq_true (by omega)
    clear c6
    have H' := Aside0.mk H
    clear H
    go_wp2
    go_meet
    case rel => exact ⟨_, (true), (by first | rfl | (simp; done) | (simp [*]; done) | (refine congrArg (Value.int _) ?_; omega) | (refine congrArg Value.bool ?_; generalize ByteArray.toList _ = z_; cases z_ <;> rfl)), H', ⟨by first | omega | exact Nat.le_refl _⟩, by repeat (first | exact Drawn0.refl _ | apply Drawn0.step)⟩
   ·rw [if_neg c6] at H
    have c6b0 : decide (200 < (l1.length : Int)) = false := decide_eq_false c6
    have c6b1 : decide (200 < l1.length) = false := decide_eq_false (by omega)
    clear c6
    have H' := Aside0.mk H
    clear H
    go_wp2
    go_meet
    case rel => exact ⟨_, (decide ((l2.length : Int) > 60)), (by first | rfl | (simp; done) | (simp [*]; done) | (refine congrArg (Value.int _) ?_; omega) | (refine congrArg Value.bool ?_; generalize ByteArray.toList _ = z_; cases z_ <;> rfl)), H', ⟨by first | omega | exact Nat.le_refl _⟩, by repeat (first | exact Drawn0.refl _ | apply Drawn0.step)⟩
 case rest =>
  clear HC4
  try clear c1
  try clear c2
  try clear p2
  try clear c5
  try clear c5b0
  try clear c5b1
  try clear c6
  try clear c6b0
  try clear c6b1
  obtain ⟨kq, x20_3, rfl, HA, HJ3, ⟨mc3, rfl⟩⟩ := hcut
  cases kq with
  | zero => exact absurd HA.out (by simp [gudgeonlaw17_few.j0])
  | succ kj3 =>
   have H := HA.out
   clear HA
   simp only [gudgeonlaw17_few.j0] at H
   by_cases c7 : x20_3 = true
   ·subst c7
    have H1 : (some false) = some r := by rw [if_pos rfl] at H; exact H
    clear H
    have H := H1
    clear H1
    obtain rfl := Option.some.inj H
    go_wp2
    go_ret
    exact ⟨by first | rfl | (simp; done) | (simp [*]; done) | (refine congrArg (fun z_ => Ending.returned (Value.bool z_)) ?_; generalize ByteArray.toList _ = z_; cases z_ <;> rfl) | (refine congrArg (Value.int _) ?_; omega) | (refine congrArg Value.bool ?_; generalize ByteArray.toList _ = z_; cases z_ <;> rfl), by repeat (first | exact Drawn0.refl _ | apply Drawn0.step)⟩
   ·replace c7 := Bool.eq_false_iff.mpr c7
    subst c7
    have H1 : (gudgeonlaw17_few.l0 kj3 l2 0) = some r := by rw [if_neg (show ¬ (false = true) by decide)] at H; exact H
    clear H
    have H := H1
    clear H1
    have H' := Aside0.mk H
    clear H
    go_wp2
    go_loopg [7] kj3 (fun kq v7 w' => ∃ (x7_2 : Int), v7 = .int .i64 x7_2 ∧ Aside0 (gudgeonlaw17_few.l0 kq l2 x7_2 = some r) ∧ Aside0 (kq ≤ kj3) ∧ Drawn0 w w')
    case atStart => exact ⟨(0), (by first | rfl | (simp; done) | (simp [*]; done) | (refine congrArg (Value.int _) ?_; omega) | (refine congrArg Value.bool ?_; generalize ByteArray.toList _ = z_; cases z_ <;> rfl)), H', ⟨Nat.le_refl _⟩, by repeat (first | exact Drawn0.refl _ | apply Drawn0.step)⟩
    case round =>
     clear H'
     try clear c1
     try clear c2
     try clear p2
     try clear c3
     try clear c5
     try clear c5b0
     try clear c5b1
     try clear c6
     try clear c6b0
     try clear c6b1
     try clear c7
     try clear p2
     obtain ⟨x7_2, rfl, HA, HK2, ⟨m2, rfl⟩⟩ := hrel
     cases gk with
     | zero => exact absurd HA.out (by simp [gudgeonlaw17_few.l0])
     | succ k2 =>
      have H := HA.out
      clear HA
      simp only [gudgeonlaw17_few.l0] at H
      by_cases c8 : x7_2 < (l2.length : Int)
      ·rw [if_pos c8] at H
       have c8b0 : decide (x7_2 < (l2.length : Int)) = true := decide_eq_true c8
       clear c8
       by_cases c9 : 0 ≤ x7_2
       ·rw [if_pos c9] at H
        have c9b0 : decide (0 ≤ x7_2) = true := decide_eq_true c9
        clear c9
        by_cases c10 : (((rd_T41 l2 x7_2).f1).length : Int) > 200
        ·rw [if_pos c10] at H
         have c10b0 : decide (200 < (((rd_T41 l2 x7_2).f1).length : Int)) = true := decide_eq_true c10
         have c10b1 : decide (200 < ((rd_T41 l2 x7_2).f1).length) = true := decide_eq_true (by omega)
         clear c10
         obtain rfl := Option.some.inj H
         have p340 : 0 ≤ (x7_2 : Int) := of_decide_eq_true (by first | (with_reducible assumption) | assumption)
         have q340 : x7_2 < (l2.length : Int) := of_decide_eq_true (by first | (with_reducible assumption) | assumption)
         obtain ⟨ad340, A340_1, c340_1, e340, hx340_0, hx340_1, hl340_1, hi340_1⟩ := at_T41 HR2.out x7_2 p340 q340
         cases e340
         have HR340_1 := Aside0.mk hi340_1
         have HC340_1 := Aside0.mk hl340_1
         clear hi340_1 hl340_1
         replace p340 := eq_true p340
         replace q340 := eq_true q340
         go_wp2
         go_ret
         exact ⟨by first | rfl | (simp; done) | (simp [*]; done) | (refine congrArg (fun z_ => Ending.returned (Value.bool z_)) ?_; generalize ByteArray.toList _ = z_; cases z_ <;> rfl) | (refine congrArg (Value.int _) ?_; omega) | (refine congrArg Value.bool ?_; generalize ByteArray.toList _ = z_; cases z_ <;> rfl), by repeat (first | exact Drawn0.refl _ | apply Drawn0.step)⟩
        ·rw [if_neg c10] at H
         have c10b0 : decide (200 < (((rd_T41 l2 x7_2).f1).length : Int)) = false := decide_eq_false c10
         have c10b1 : decide (200 < ((rd_T41 l2 x7_2).f1).length) = false := decide_eq_false (by omega)
         clear c10
         have H' := Aside0.mk H
         clear H
         have p340 : 0 ≤ (x7_2 : Int) := of_decide_eq_true (by first | (with_reducible assumption) | assumption)
         have q340 : x7_2 < (l2.length : Int) := of_decide_eq_true (by first | (with_reducible assumption) | assumption)
         obtain ⟨ad340, A340_1, c340_1, e340, hx340_0, hx340_1, hl340_1, hi340_1⟩ := at_T41 HR2.out x7_2 p340 q340
         cases e340
         have HR340_1 := Aside0.mk hi340_1
         have HC340_1 := Aside0.mk hl340_1
         clear hi340_1 hl340_1
         replace p340 := eq_true p340
         replace q340 := eq_true q340
         go_wp2
         go_roundg k2
         case measure => have := HJ3.out; have := HK2.out; omega
         case rel => exact ⟨(wrap64 (x7_2 + 1)), (by first | rfl | (simp; done) | (simp [*]; done) | (refine congrArg (Value.int _) ?_; omega) | (refine congrArg Value.bool ?_; generalize ByteArray.toList _ = z_; cases z_ <;> rfl)), H', ⟨by have := HJ3.out; have := HK2.out; omega⟩, by repeat (first | exact Drawn0.refl _ | apply Drawn0.step)⟩
       ·rw [if_neg c9] at H
        exact absurd H (by simp)
      ·rw [if_neg c8] at H
       have c8b0 : decide (x7_2 < (l2.length : Int)) = false := decide_eq_false c8
       clear c8
       obtain rfl := Option.some.inj H
       go_wp2
       go_ret
       exact ⟨by first | rfl | (simp; done) | (simp [*]; done) | (refine congrArg (fun z_ => Ending.returned (Value.bool z_)) ?_; generalize ByteArray.toList _ = z_; cases z_ <;> rfl) | (refine congrArg (Value.int _) ?_; omega) | (refine congrArg Value.bool ?_; generalize ByteArray.toList _ = z_; cases z_ <;> rfl), by repeat (first | exact Drawn0.refl _ | apply Drawn0.step)⟩

/-! ### gudgeonref17_Text: function 45 -/
def gudgeonref17_Text.l0 : Nat → Int → List (S41) → Int → Option ((List (S71)))
 | 0, _, _, _ => none
 | k + 1, x0, x1, x5 => if x5 < (x1.length : Int) then (if 0 ≤ x5 then (if ((rd_T41 x1 x5).f0) = x0 then ((gudgeonref08_May.f k ((rd_T41 x1 x5).f1)).bind fun t343 => (if t343 = true then (some ((rd_T41 x1 x5).f1)) else (some ([] : List (S71))))) else (gudgeonref17_Text.l0 k x0 x1 (wrap64 (x5 + 1)))) else (none)) else (some ([] : List (S71)))
def gudgeonref17_Text.f (k : Nat) (a0 : Int) (l1 : List (S41)) : Option ((List (S71))) := gudgeonref17_Text.l0 k a0 l1 0
set_option maxHeartbeats 8000000 in
set_option maxRecDepth 100000 in
theorem gudgeonref17_Text.calls (k : Nat) (a0 : Int) (P1_ : Nat → Prop) (A1 : Option Addr) (c1 : Nat) (l1 : List (S41)) (r : List (S71)) (w : World) (hs1 : Kd.V k41 41 w w.heap.size (fun k_ => P1_ k_) (.slice A1 l1.length c1) l1) (h : gudgeonref17_Text.f k a0 l1 = some r) :
  Calls Try.prog 45 #[.int .i64 a0, .slice A1 l1.length c1] w fun e w' => ∃ v0_ : Value, e = .returned (v0_) ∧ Kd.V k71 71 w' w.heap.size (fun k_ => (P1_ k_ ∨ w.heap.size ≤ k_)) v0_ r ∧ Below w.heap.size w w' := by
 have HO1 := Aside0.mk (show Kd.V k41 41 w w.heap.size (fun k_ => (P1_ k_ ∨ w.heap.size ≤ k_)) (.slice A1 l1.length c1) l1 from Kd.V_mono hs1 (fun k_ hk => .inl hk))
 have HB := Aside0.mk (Below.refl w.heap.size w)
 have H : (gudgeonref17_Text.l0 k a0 l1 0) = some r := h
 clear h
 have H' := Aside0.mk H
 clear H
 go_enter Try.func45, Try.ntmps45
 go_wp2
 go_loopg [5] k (fun kq v5 w' => ∃ (x5_1 : Int), v5 = .int .i64 x5_1 ∧ Aside0 (gudgeonref17_Text.l0 kq a0 l1 x5_1 = some r) ∧ Aside0 (kq ≤ k) ∧ Aside0 (Kd.V k41 41 w' w.heap.size (fun k_ => (P1_ k_ ∨ w.heap.size ≤ k_)) (.slice A1 l1.length c1) l1) ∧ Aside0 (Below w.heap.size w w'))
 case atStart => exact ⟨(0), (by first | rfl | (simp; done) | (simp [*]; done) | (refine congrArg (Value.int _) ?_; omega) | (refine congrArg Value.bool ?_; generalize ByteArray.toList _ = z_; cases z_ <;> rfl)), H', ⟨Nat.le_refl _⟩, ⟨by (with_reducible repeat (first | apply Kd.V_alloc | apply Kd.V_drewN | apply Kd.V_drew)); exact HO1.out⟩, ⟨by repeat (first | (with_reducible first | exact HB.out | apply below_alloc | apply pw_below_drewN | apply below_drew1) | exact HB.out)⟩⟩
 case round =>
  clear H'
  try clear c1
  try clear p2
  obtain ⟨x5_1, rfl, HA, HK1, HO_1, HB⟩ := hrel
  cases gk with
  | zero => exact absurd HA.out (by simp [gudgeonref17_Text.l0])
  | succ k1 =>
   have H := HA.out
   clear HA
   simp only [gudgeonref17_Text.l0] at H
   by_cases c3 : x5_1 < (l1.length : Int)
   ·rw [if_pos c3] at H
    have c3b0 : decide (x5_1 < (l1.length : Int)) = true := decide_eq_true c3
    clear c3
    by_cases c4 : 0 ≤ x5_1
    ·rw [if_pos c4] at H
     have c4b0 : decide (0 ≤ x5_1) = true := decide_eq_true c4
     clear c4
     by_cases c5 : ((rd_T41 l1 x5_1).f0) = a0
     ·rw [if_pos c5] at H
      have c5b0 : (((rd_T41 l1 x5_1).f0) == a0) = true := beq_iff_eq.mpr c5
      have c5b1 : (((rd_T41 l1 x5_1).f0) != a0) = false := bne_eq_false_iff_eq.mpr c5
      clear c5
      replace H := Option.bind_eq_some_iff.mp H
      obtain ⟨t343, A60, H⟩ := H
      replace H : (if t343 = true then (some ((rd_T41 l1 x5_1).f1)) else (some ([] : List (S71)))) = some r := H
      have A6 := Aside0.mk A60
      clear A60
      by_cases c7 : t343 = true
      ·subst c7
       have H1 : (some ((rd_T41 l1 x5_1).f1)) = some r := by rw [if_pos rfl] at H; exact H
       clear H
       have H := H1
       clear H1
       obtain rfl := Option.some.inj H
       have p341 : 0 ≤ (x5_1 : Int) := of_decide_eq_true (by first | (with_reducible assumption) | assumption)
       have q341 : x5_1 < (l1.length : Int) := of_decide_eq_true (by first | (with_reducible assumption) | assumption)
       obtain ⟨ad341, A341_1, c341_1, e341, hx341_0, hx341_1, hl341_1, hi341_1⟩ := at_T41 (Kd.V_reads' HO_1.out).2.2 x5_1 p341 q341
       cases e341
       obtain ⟨ce341, hce341, hMe341, hcc341⟩ := Kd.V_get HO_1.out z41 x5_1 p341 (by first | exact q341 | exact of_decide_eq_true (by first | (with_reducible assumption) | assumption) | (have e_ := (Kd.V_reads' HO_1.out).1; omega))
       obtain ⟨ua341_1, uc341_1, rfl, ul341_1, ge341_1⟩ := k41_openF hMe341
       have hv341_1 := hcc341 1 _ rfl
       rw [add_field _ _ 1 (by omega)] at hv341_1
       replace hv341_1 := Option.some.inj (hv341_1.symm.trans hx341_1)
       injection hv341_1 with hva_ hvn_ hvc_
       rw [hva_] at ge341_1
       rw [hvc_] at ul341_1
       have HL341_1 := Aside0.mk (show Kd.V k71 71 _ w.heap.size _ _ ((rd_T41 l1 x5_1).f1) from Kd.V_mk ul341_1 ge341_1)
       clear hva_ hvn_ hvc_ ge341_1 ul341_1
       clear hcc341 hce341
       have HR341_1 := Aside0.mk hi341_1
       have HC341_1 := Aside0.mk hl341_1
       clear hi341_1 hl341_1
       replace p341 := eq_true p341
       replace q341 := eq_true q341
       have p342 : 0 ≤ (x5_1 : Int) := of_decide_eq_true (by first | (with_reducible assumption) | assumption)
       have q342 : x5_1 < (l1.length : Int) := of_decide_eq_true (by first | (with_reducible assumption) | assumption)
       obtain ⟨ad342, A342_1, c342_1, e342, hx342_0, hx342_1, hl342_1, hi342_1⟩ := at_T41 (Kd.V_reads' HO_1.out).2.2 x5_1 p342 q342
       obtain rfl : ad341 = ad342 := (by injection e342)
       obtain ⟨ce342, hce342, hMe342, hcc342⟩ := Kd.V_get HO_1.out z41 x5_1 p342 (by first | exact q342 | exact of_decide_eq_true (by first | (with_reducible assumption) | assumption) | (have e_ := (Kd.V_reads' HO_1.out).1; omega))
       obtain ⟨ua342_1, uc342_1, rfl, ul342_1, ge342_1⟩ := k41_openF hMe342
       have hv342_1 := hcc342 1 _ rfl
       rw [add_field _ _ 1 (by omega)] at hv342_1
       replace hv342_1 := Option.some.inj (hv342_1.symm.trans hx342_1)
       injection hv342_1 with hva_ hvn_ hvc_
       rw [hva_] at ge342_1
       rw [hvc_] at ul342_1
       have HL342_1 := Aside0.mk (show Kd.V k71 71 _ w.heap.size _ _ ((rd_T41 l1 x5_1).f1) from Kd.V_mk ul342_1 ge342_1)
       clear hva_ hvn_ hvc_ ge342_1 ul342_1
       clear hcc342 hce342
       have HR342_1 := Aside0.mk hi342_1
       have HC342_1 := Aside0.mk hl342_1
       clear hi342_1 hl342_1
       replace p342 := eq_true p342
       replace q342 := eq_true q342
       have ea_ := Option.some.inj (hx341_1.symm.trans hx342_1)
       injection ea_ with ea_ en_ ec_
       subst ea_
       subst ec_
       clear en_
       go_wp2_with (first | ((with_reducible refine gate_callee (f := 40) rfl ?_); refine goesL_ (some 25) rfl rfl Try.func40 (by kernel_rfl) rfl #[.slice A341_1 ((rd_T41 l1 x5_1).f1).length c341_1] rfl (by (try simp only [List.map_toArray, List.map_cons, List.map_nil]); first | done | rfl | (simp only [List.length_drop, List.length_take]; rfl)) ?_; (with_reducible refine (gudgeonref08_May.calls k1 _ _ ((rd_T41 l1 x5_1).f1) true _ ?side1 ?side2 A6.out).mono ?_); (case side1 => repeat (first | exact (by repeat (first | (with_reducible exact HR342_1.out) | (with_reducible refine Kd.C_alloc ?_ _) | (with_reducible refine Kd.C_drewN ?_ _) | (with_reducible refine Kd.C_drew ?_) | exact HR342_1.out)) | (with_reducible refine Kd.C_alloc ?_ _) | (with_reducible refine Kd.C_drewN ?_ _) | (with_reducible refine Kd.C_drew ?_))); (case side2 => exact HC342_1.out); rintro e w' ⟨rfl, ⟨nd, rfl⟩⟩; refine ⟨_, rfl, ?_⟩; have p344 : 0 ≤ (x5_1 : Int) := of_decide_eq_true (by first | (with_reducible assumption) | assumption); have q344 : x5_1 < (l1.length : Int) := of_decide_eq_true (by first | (with_reducible assumption) | assumption); obtain ⟨ad344, A344_1, c344_1, e344, hx344_0, hx344_1, hl344_1, hi344_1⟩ := at_T41 (Kd.V_reads' HO_1.out).2.2 x5_1 p344 q344; obtain rfl : ad341 = ad344 := (by injection e344); obtain ⟨ce344, hce344, hMe344, hcc344⟩ := Kd.V_get HO_1.out z41 x5_1 p344 (by first | exact q344 | exact of_decide_eq_true (by first | (with_reducible assumption) | assumption) | (have e_ := (Kd.V_reads' HO_1.out).1; omega)); obtain ⟨ua344_1, uc344_1, rfl, ul344_1, ge344_1⟩ := k41_openF hMe344; have hv344_1 := hcc344 1 _ rfl; rw [add_field _ _ 1 (by omega)] at hv344_1; replace hv344_1 := Option.some.inj (hv344_1.symm.trans hx344_1); injection hv344_1 with hva_ hvn_ hvc_; rw [hva_] at ge344_1; rw [hvc_] at ul344_1; have HL344_1 := Aside0.mk (show Kd.V k71 71 _ w.heap.size _ _ ((rd_T41 l1 x5_1).f1) from Kd.V_mk ul344_1 ge344_1); clear hva_ hvn_ hvc_ ge344_1 ul344_1; clear hcc344 hce344; have HR344_1 := Aside0.mk hi344_1; have HC344_1 := Aside0.mk hl344_1; clear hi344_1 hl344_1; replace p344 := eq_true p344; replace q344 := eq_true q344; have ea_ := Option.some.inj (hx341_1.symm.trans hx344_1); injection ea_ with ea_ en_ ec_; subst ea_; subst ec_; clear en_))
       go_ret
       exact ⟨_, by first | rfl | (simp [errW_none, errW_some] <;> rfl) | (simp [*, errW_none, errW_some] <;> rfl), by (with_reducible repeat (first | apply Kd.V_alloc | apply Kd.V_drewN | apply Kd.V_drew)); exact HL344_1.out, by repeat (first | (with_reducible first | exact HB.out | apply below_alloc | apply pw_below_drewN | apply below_drew1) | exact HB.out)⟩
      ·replace c7 := Bool.eq_false_iff.mpr c7
       subst c7
       have H1 : (some ([] : List (S71))) = some r := by rw [if_neg (show ¬ (false = true) by decide)] at H; exact H
       clear H
       have H := H1
       clear H1
       obtain rfl := Option.some.inj H
       have p341 : 0 ≤ (x5_1 : Int) := of_decide_eq_true (by first | (with_reducible assumption) | assumption)
       have q341 : x5_1 < (l1.length : Int) := of_decide_eq_true (by first | (with_reducible assumption) | assumption)
       obtain ⟨ad341, A341_1, c341_1, e341, hx341_0, hx341_1, hl341_1, hi341_1⟩ := at_T41 (Kd.V_reads' HO_1.out).2.2 x5_1 p341 q341
       cases e341
       obtain ⟨ce341, hce341, hMe341, hcc341⟩ := Kd.V_get HO_1.out z41 x5_1 p341 (by first | exact q341 | exact of_decide_eq_true (by first | (with_reducible assumption) | assumption) | (have e_ := (Kd.V_reads' HO_1.out).1; omega))
       obtain ⟨ua341_1, uc341_1, rfl, ul341_1, ge341_1⟩ := k41_openF hMe341
       have hv341_1 := hcc341 1 _ rfl
       rw [add_field _ _ 1 (by omega)] at hv341_1
       replace hv341_1 := Option.some.inj (hv341_1.symm.trans hx341_1)
       injection hv341_1 with hva_ hvn_ hvc_
       rw [hva_] at ge341_1
       rw [hvc_] at ul341_1
       have HL341_1 := Aside0.mk (show Kd.V k71 71 _ w.heap.size _ _ ((rd_T41 l1 x5_1).f1) from Kd.V_mk ul341_1 ge341_1)
       clear hva_ hvn_ hvc_ ge341_1 ul341_1
       clear hcc341 hce341
       have HR341_1 := Aside0.mk hi341_1
       have HC341_1 := Aside0.mk hl341_1
       clear hi341_1 hl341_1
       replace p341 := eq_true p341
       replace q341 := eq_true q341
       have p342 : 0 ≤ (x5_1 : Int) := of_decide_eq_true (by first | (with_reducible assumption) | assumption)
       have q342 : x5_1 < (l1.length : Int) := of_decide_eq_true (by first | (with_reducible assumption) | assumption)
       obtain ⟨ad342, A342_1, c342_1, e342, hx342_0, hx342_1, hl342_1, hi342_1⟩ := at_T41 (Kd.V_reads' HO_1.out).2.2 x5_1 p342 q342
       obtain rfl : ad341 = ad342 := (by injection e342)
       obtain ⟨ce342, hce342, hMe342, hcc342⟩ := Kd.V_get HO_1.out z41 x5_1 p342 (by first | exact q342 | exact of_decide_eq_true (by first | (with_reducible assumption) | assumption) | (have e_ := (Kd.V_reads' HO_1.out).1; omega))
       obtain ⟨ua342_1, uc342_1, rfl, ul342_1, ge342_1⟩ := k41_openF hMe342
       have hv342_1 := hcc342 1 _ rfl
       rw [add_field _ _ 1 (by omega)] at hv342_1
       replace hv342_1 := Option.some.inj (hv342_1.symm.trans hx342_1)
       injection hv342_1 with hva_ hvn_ hvc_
       rw [hva_] at ge342_1
       rw [hvc_] at ul342_1
       have HL342_1 := Aside0.mk (show Kd.V k71 71 _ w.heap.size _ _ ((rd_T41 l1 x5_1).f1) from Kd.V_mk ul342_1 ge342_1)
       clear hva_ hvn_ hvc_ ge342_1 ul342_1
       clear hcc342 hce342
       have HR342_1 := Aside0.mk hi342_1
       have HC342_1 := Aside0.mk hl342_1
       clear hi342_1 hl342_1
       replace p342 := eq_true p342
       replace q342 := eq_true q342
       have ea_ := Option.some.inj (hx341_1.symm.trans hx342_1)
       injection ea_ with ea_ en_ ec_
       subst ea_
       subst ec_
       clear en_
       go_wp2_with (first | ((with_reducible refine gate_callee (f := 40) rfl ?_); refine goesL_ (some 25) rfl rfl Try.func40 (by kernel_rfl) rfl #[.slice A341_1 ((rd_T41 l1 x5_1).f1).length c341_1] rfl (by (try simp only [List.map_toArray, List.map_cons, List.map_nil]); first | done | rfl | (simp only [List.length_drop, List.length_take]; rfl)) ?_; (with_reducible refine (gudgeonref08_May.calls k1 _ _ ((rd_T41 l1 x5_1).f1) false _ ?side1 ?side2 A6.out).mono ?_); (case side1 => repeat (first | exact (by repeat (first | (with_reducible exact HR342_1.out) | (with_reducible refine Kd.C_alloc ?_ _) | (with_reducible refine Kd.C_drewN ?_ _) | (with_reducible refine Kd.C_drew ?_) | exact HR342_1.out)) | (with_reducible refine Kd.C_alloc ?_ _) | (with_reducible refine Kd.C_drewN ?_ _) | (with_reducible refine Kd.C_drew ?_))); (case side2 => exact HC342_1.out); rintro e w' ⟨rfl, ⟨nd, rfl⟩⟩; refine ⟨_, rfl, ?_⟩))
       go_ret
       exact ⟨_, by first | rfl | (simp [errW_none, errW_some] <;> rfl) | (simp [*, errW_none, errW_some] <;> rfl), (by exact Kd.V_nil _ _ _ _ _), by repeat (first | (with_reducible first | exact HB.out | apply below_alloc | apply pw_below_drewN | apply below_drew1) | exact HB.out)⟩
     ·rw [if_neg c5] at H
      have c5b0 : (((rd_T41 l1 x5_1).f0) == a0) = false := beq_eq_false_iff_ne.mpr c5
      have c5b1 : (((rd_T41 l1 x5_1).f0) != a0) = true := bne_iff_ne.mpr c5
      have H' := Aside0.mk H
      clear H
      have p341 : 0 ≤ (x5_1 : Int) := of_decide_eq_true (by first | (with_reducible assumption) | assumption)
      have q341 : x5_1 < (l1.length : Int) := of_decide_eq_true (by first | (with_reducible assumption) | assumption)
      obtain ⟨ad341, A341_1, c341_1, e341, hx341_0, hx341_1, hl341_1, hi341_1⟩ := at_T41 (Kd.V_reads' HO_1.out).2.2 x5_1 p341 q341
      cases e341
      obtain ⟨ce341, hce341, hMe341, hcc341⟩ := Kd.V_get HO_1.out z41 x5_1 p341 (by first | exact q341 | exact of_decide_eq_true (by first | (with_reducible assumption) | assumption) | (have e_ := (Kd.V_reads' HO_1.out).1; omega))
      obtain ⟨ua341_1, uc341_1, rfl, ul341_1, ge341_1⟩ := k41_openF hMe341
      have hv341_1 := hcc341 1 _ rfl
      rw [add_field _ _ 1 (by omega)] at hv341_1
      replace hv341_1 := Option.some.inj (hv341_1.symm.trans hx341_1)
      injection hv341_1 with hva_ hvn_ hvc_
      rw [hva_] at ge341_1
      rw [hvc_] at ul341_1
      have HL341_1 := Aside0.mk (show Kd.V k71 71 _ w.heap.size _ _ ((rd_T41 l1 x5_1).f1) from Kd.V_mk ul341_1 ge341_1)
      clear hva_ hvn_ hvc_ ge341_1 ul341_1
      clear hcc341 hce341
      have HR341_1 := Aside0.mk hi341_1
      have HC341_1 := Aside0.mk hl341_1
      clear hi341_1 hl341_1
      replace p341 := eq_true p341
      replace q341 := eq_true q341
      go_wp2
      go_roundg k1
      case measure => have := HK1.out; omega
      case rel => exact ⟨(wrap64 (x5_1 + 1)), (by first | rfl | (simp; done) | (simp [*]; done) | (refine congrArg (Value.int _) ?_; omega) | (refine congrArg Value.bool ?_; generalize ByteArray.toList _ = z_; cases z_ <;> rfl)), H', ⟨by have := HK1.out; omega⟩, ⟨by (with_reducible repeat (first | apply Kd.V_alloc | apply Kd.V_drewN | apply Kd.V_drew)); exact HO_1.out⟩, ⟨by repeat (first | (with_reducible first | exact HB.out | apply below_alloc | apply pw_below_drewN | apply below_drew1) | exact HB.out)⟩⟩
    ·rw [if_neg c4] at H
     exact absurd H (by simp)
   ·rw [if_neg c3] at H
    have c3b0 : decide (x5_1 < (l1.length : Int)) = false := decide_eq_false c3
    clear c3
    obtain rfl := Option.some.inj H
    go_wp2
    go_ret
    exact ⟨_, by first | rfl | (simp [errW_none, errW_some] <;> rfl) | (simp [*, errW_none, errW_some] <;> rfl), (by exact Kd.V_nil _ _ _ _ _), by repeat (first | (with_reducible first | exact HB.out | apply below_alloc | apply pw_below_drewN | apply below_drew1) | exact HB.out)⟩

/-! ### gudgeonref07_Runs: function 101 -/
def gudgeonref07_Runs.l0 : Nat → List Int → List (S71) → Int → Option ((List (S71)) × Int)
 | 0, _, _, _ => none
 | k + 1, x0, x4, x5 => if x5 < (x0.length : Int) then (if 0 ≤ x5 then ((gudgeonref07_Point.f (rd x0 x5)).bind fun t346 => (if t346 = true then (if x5 > 0 then (if 0 ≤ (wrap64 (x5 - 1)) then (if (wrap64 (x5 - 1)) < (x0.length : Int) then (if (rd x0 (wrap64 (x5 - 1))) = (rd x0 x5) then (if 0 ≤ (wrap64 ((x4.length : Int) - 1)) then (if (wrap64 ((x4.length : Int) - 1)) < (x4.length : Int) then (gudgeonref07_Runs.l0 k x0 (x4.set ((wrap64 ((x4.length : Int) - 1)) : Int).toNat (⟨(rd_T71 x4 (wrap64 ((x4.length : Int) - 1))).f0, wrap64 (((rd_T71 x4 (wrap64 ((x4.length : Int) - 1))).f1) + 1)⟩ : S71)) (wrap64 (x5 + 1))) else (none)) else (none)) else (if x4.length < 8796093022208 then (gudgeonref07_Runs.l0 k x0 (x4 ++ [(⟨rd x0 x5, 1⟩ : S71)]) (wrap64 (x5 + 1))) else (none))) else (none)) else (none)) else (if x4.length < 8796093022208 then (gudgeonref07_Runs.l0 k x0 (x4 ++ [(⟨rd x0 x5, 1⟩ : S71)]) (wrap64 (x5 + 1))) else (none))) else (some (([] : List (S71)), 1)))) else (none)) else (if (x4.length : Int) > 65536 then (some (([] : List (S71)), 2)) else (some (x4, 0)))
def gudgeonref07_Runs.f (k : Nat) (l0 : List Int) : Option ((List (S71)) × Int) := gudgeonref07_Runs.l0 k l0 ([] : List (S71)) 0
set_option maxHeartbeats 8000000 in
set_option maxRecDepth 100000 in
theorem gudgeonref07_Runs.calls (k : Nat) (A0 : Option Addr) (c0 : Nat) (l0 : List Int) (r1 : List (S71)) (r2 : Int) (w : World) (hr0 : Kd.C (Kd.int .i64) w A0 l0.length l0) (hc0 : l0.length ≤ c0) (h : gudgeonref07_Runs.f k l0 = some (r1, r2)) :
  Calls Try.prog 101 #[.slice A0 l0.length c0] w fun e w' => ∃ v0_ : Value, e = .returned (.tuple #[v0_, .int .i64 r2]) ∧ Kd.R k71 71 w' w.heap.size (fun _ => True) v0_ r1 ∧ Below w.heap.size w w' := by
 have hu71 := Try.underlying71
 have HR0 := Aside0.mk hr0
 have HC0 := Aside0.mk hc0
 clear hr0 hc0
 have HB := Aside0.mk (Below.refl w.heap.size w)
 have H : (gudgeonref07_Runs.l0 k l0 ([] : List (S71)) 0) = some (r1, r2) := h
 clear h
 have H' := Aside0.mk H
 clear H
 go_enter Try.func101, Try.ntmps101
 go_wp2
 repeat (go_quiet (fail); try go_wp2)
 go_loopg [4, 5] k (fun kq v4 v5 w' => ∃ (x4_1 : List (S71)) (x5_1 : Int), v5 = .int .i64 x5_1 ∧ Aside0 (gudgeonref07_Runs.l0 kq l0 x4_1 x5_1 = some (r1, r2)) ∧ Aside0 (kq ≤ k) ∧ Aside0 (Kd.R k71 71 w' w.heap.size (fun _ => True) v4 x4_1) ∧ Aside0 (Below w.heap.size w w'))
 case atStart => exact ⟨(([] : List (S71))), (0), (by first | rfl | (simp; done) | (simp [*]; done) | (refine congrArg (Value.int _) ?_; omega) | (refine congrArg Value.bool ?_; generalize ByteArray.toList _ = z_; cases z_ <;> rfl)), H', ⟨Nat.le_refl _⟩, ⟨by first | exact Kd.R_nil _ _ _ _ _ | exact Kd.N_nil _ _ _ _ _ | exact Kd.V_nil _ _ _ _ _ | exact Kd.Q_nil _ _ _ _ _ | exact Kd.S_nil _ _ _ _ _⟩, ⟨by repeat (first | (with_reducible first | exact HB.out | apply below_alloc | apply pw_below_drewN | apply below_drew1) | exact HB.out)⟩⟩
 case round =>
  clear H'
  try clear c1
  obtain ⟨x4_1, x5_1, rfl, HA, HK1, HO_4, HB⟩ := hrel
  cases gk with
  | zero => exact absurd HA.out (by simp [gudgeonref07_Runs.l0])
  | succ k1 =>
   have H := HA.out
   clear HA
   simp only [gudgeonref07_Runs.l0] at H
   by_cases c2 : x5_1 < (l0.length : Int)
   ·rw [if_pos c2] at H
    have c2b0 : decide (x5_1 < (l0.length : Int)) = true := decide_eq_true c2
    clear c2
    by_cases c3 : 0 ≤ x5_1
    ·rw [if_pos c3] at H
     have c3b0 : decide (0 ≤ x5_1) = true := decide_eq_true c3
     clear c3
     replace H := Option.bind_eq_some_iff.mp H
     obtain ⟨t346, A40, H⟩ := H
     replace H : (if t346 = true then (if x5_1 > 0 then (if 0 ≤ (wrap64 (x5_1 - 1)) then (if (wrap64 (x5_1 - 1)) < (l0.length : Int) then (if (rd l0 (wrap64 (x5_1 - 1))) = (rd l0 x5_1) then (if 0 ≤ (wrap64 ((x4_1.length : Int) - 1)) then (if (wrap64 ((x4_1.length : Int) - 1)) < (x4_1.length : Int) then (gudgeonref07_Runs.l0 k1 l0 (x4_1.set ((wrap64 ((x4_1.length : Int) - 1)) : Int).toNat (⟨(rd_T71 x4_1 (wrap64 ((x4_1.length : Int) - 1))).f0, wrap64 (((rd_T71 x4_1 (wrap64 ((x4_1.length : Int) - 1))).f1) + 1)⟩ : S71)) (wrap64 (x5_1 + 1))) else (none)) else (none)) else (if x4_1.length < 8796093022208 then (gudgeonref07_Runs.l0 k1 l0 (x4_1 ++ [(⟨rd l0 x5_1, 1⟩ : S71)]) (wrap64 (x5_1 + 1))) else (none))) else (none)) else (none)) else (if x4_1.length < 8796093022208 then (gudgeonref07_Runs.l0 k1 l0 (x4_1 ++ [(⟨rd l0 x5_1, 1⟩ : S71)]) (wrap64 (x5_1 + 1))) else (none))) else (some (([] : List (S71)), 1))) = some (r1, r2) := H
     have A4 := Aside0.mk A40
     clear A40
     by_cases c5 : t346 = true
     ·subst c5
      have H1 : (if x5_1 > 0 then (if 0 ≤ (wrap64 (x5_1 - 1)) then (if (wrap64 (x5_1 - 1)) < (l0.length : Int) then (if (rd l0 (wrap64 (x5_1 - 1))) = (rd l0 x5_1) then (if 0 ≤ (wrap64 ((x4_1.length : Int) - 1)) then (if (wrap64 ((x4_1.length : Int) - 1)) < (x4_1.length : Int) then (gudgeonref07_Runs.l0 k1 l0 (x4_1.set ((wrap64 ((x4_1.length : Int) - 1)) : Int).toNat (⟨(rd_T71 x4_1 (wrap64 ((x4_1.length : Int) - 1))).f0, wrap64 (((rd_T71 x4_1 (wrap64 ((x4_1.length : Int) - 1))).f1) + 1)⟩ : S71)) (wrap64 (x5_1 + 1))) else (none)) else (none)) else (if x4_1.length < 8796093022208 then (gudgeonref07_Runs.l0 k1 l0 (x4_1 ++ [(⟨rd l0 x5_1, 1⟩ : S71)]) (wrap64 (x5_1 + 1))) else (none))) else (none)) else (none)) else (if x4_1.length < 8796093022208 then (gudgeonref07_Runs.l0 k1 l0 (x4_1 ++ [(⟨rd l0 x5_1, 1⟩ : S71)]) (wrap64 (x5_1 + 1))) else (none))) = some (r1, r2) := by rw [if_pos rfl] at H; exact H
      clear H
      have H := H1
      clear H1
      by_cases c6 : x5_1 > 0
      ·rw [if_pos c6] at H
       have c6b0 : decide (0 < x5_1) = true := decide_eq_true c6
       clear c6
       obtain ⟨ji7, hji7⟩ : ∃ j_ : Int, (wrap64 (x5_1 - 1)) = j_ := ⟨_, rfl⟩
       replace H : (if 0 ≤ (ji7) then (if (ji7) < (l0.length : Int) then (if (rd l0 (ji7)) = (rd l0 x5_1) then (if 0 ≤ (wrap64 ((x4_1.length : Int) - 1)) then (if (wrap64 ((x4_1.length : Int) - 1)) < (x4_1.length : Int) then (gudgeonref07_Runs.l0 k1 l0 (x4_1.set ((wrap64 ((x4_1.length : Int) - 1)) : Int).toNat (⟨(rd_T71 x4_1 (wrap64 ((x4_1.length : Int) - 1))).f0, wrap64 (((rd_T71 x4_1 (wrap64 ((x4_1.length : Int) - 1))).f1) + 1)⟩ : S71)) (wrap64 (x5_1 + 1))) else (none)) else (none)) else (if x4_1.length < 8796093022208 then (gudgeonref07_Runs.l0 k1 l0 (x4_1 ++ [(⟨rd l0 x5_1, 1⟩ : S71)]) (wrap64 (x5_1 + 1))) else (none))) else (none)) else (none)) = some (r1, r2) := by first | (rw [hji7] at H; exact H) | (simp only [hji7] at H ⊢; exact H)
       (try rw [hji7] at A4)
       have hji7w : (IntKind.i64.wrap (x5_1 - 1)) = ji7 := (i64_w _).trans hji7
       by_cases c8 : 0 ≤ (ji7)
       ·rw [if_pos c8] at H
        have c8b0 : decide (0 ≤ (ji7)) = true := decide_eq_true c8
        clear c8
        by_cases c9 : (ji7) < (l0.length : Int)
        ·rw [if_pos c9] at H
         have c9b0 : decide ((ji7) < (l0.length : Int)) = true := decide_eq_true c9
         clear c9
         by_cases c10 : (rd l0 (ji7)) = (rd l0 x5_1)
         ·rw [if_pos c10] at H
          have c10b0 : ((rd l0 (ji7)) == (rd l0 x5_1)) = true := beq_iff_eq.mpr c10
          have c10b1 : ((rd l0 (ji7)) != (rd l0 x5_1)) = false := bne_eq_false_iff_eq.mpr c10
          clear c10
          obtain ⟨ji11, hji11⟩ : ∃ j_ : Int, (wrap64 ((x4_1.length : Int) - 1)) = j_ := ⟨_, rfl⟩
          replace H : (if 0 ≤ (ji11) then (if (ji11) < (x4_1.length : Int) then (gudgeonref07_Runs.l0 k1 l0 (x4_1.set ((ji11) : Int).toNat (⟨(rd_T71 x4_1 (ji11)).f0, wrap64 (((rd_T71 x4_1 (ji11)).f1) + 1)⟩ : S71)) (wrap64 (x5_1 + 1))) else (none)) else (none)) = some (r1, r2) := by first | (rw [hji11] at H; exact H) | (simp only [hji11] at H ⊢; exact H)
          (try rw [hji11] at A4)
          have hji11w : (IntKind.i64.wrap ((x4_1.length : Int) - 1)) = ji11 := (i64_w _).trans hji11
          by_cases c12 : 0 ≤ (ji11)
          ·rw [if_pos c12] at H
           have c12b0 : decide (0 ≤ (ji11)) = true := decide_eq_true c12
           clear c12
           by_cases c13 : (ji11) < (x4_1.length : Int)
           ·rw [if_pos c13] at H
            have c13b0 : decide ((ji11) < (x4_1.length : Int)) = true := decide_eq_true c13
            clear c13
            obtain ⟨y350, hy350⟩ : ∃ y_ : List (S71), y_ = (x4_1.set ((ji11) : Int).toNat (⟨(rd_T71 x4_1 (ji11)).f0, wrap64 (((rd_T71 x4_1 (ji11)).f1) + 1)⟩ : S71)) := ⟨_, rfl⟩
            replace H : (gudgeonref07_Runs.l0 k1 l0 y350 (wrap64 (x5_1 + 1))) = some (r1, r2) := by first | (rw [hy350]; with_reducible exact H) | (have H2_ := (Option.bind_some _ _).symm.trans H; rw [hy350]; with_reducible exact H2_) | (have H2_ := (Option.bind_some _ _).symm.trans H; with_reducible exact H2_) | with_reducible exact H | (rw [hy350]; exact H) | exact H
            have Ny350 := Aside0.mk hy350
            clear hy350
            have H' := Aside0.mk H
            clear H
            have p345 : 0 ≤ (x5_1 : Int) := of_decide_eq_true (by first | (with_reducible assumption) | assumption)
            have q345 : x5_1 < (l0.length : Int) := of_decide_eq_true (by first | (with_reducible assumption) | assumption)
            obtain ⟨ad345, e345, hx345_0⟩ := Kd.at_int HR0.out x5_1 p345 q345
            cases e345
            replace hx345_0 := (HB.out.cell (World.block_lt_of_cell? w _ hx345_0)).trans hx345_0
            replace p345 := eq_true p345
            replace q345 := eq_true q345
            go_wp2_with (first | (go_at_call 75; (with_reducible refine (gudgeonref07_Point.calls (rd l0 x5_1) true _ A4.out).mono ?_); rintro e w' ⟨rfl, ⟨nd, rfl⟩⟩; (try first | exact ⟨rfl, _, World.drewN_drewN _ _ _⟩ | exact ⟨rfl, _, Eq.trans (World.drewN_drewN _ _ _) (congrArg (World.drewN _) (Nat.add_assoc _ _ _))⟩); have p347 : 0 ≤ ((ji7) : Int) := of_decide_eq_true (by first | (with_reducible assumption) | assumption); have q347 : (ji7) < (l0.length : Int) := of_decide_eq_true (by first | (with_reducible assumption) | assumption); obtain ⟨ad347, e347, hx347_0⟩ := Kd.at_int HR0.out (ji7) p347 q347; obtain rfl : ad345 = ad347 := (by injection e347); replace hx347_0 := (HB.out.cell (World.block_lt_of_cell? w _ hx347_0)).trans hx347_0; replace p347 := eq_true p347; replace q347 := eq_true q347; have p348 : 0 ≤ (x5_1 : Int) := of_decide_eq_true (by first | (with_reducible assumption) | assumption); have q348 : x5_1 < (l0.length : Int) := of_decide_eq_true (by first | (with_reducible assumption) | assumption); obtain ⟨ad348, e348, hx348_0⟩ := Kd.at_int HR0.out x5_1 p348 q348; obtain rfl : ad345 = ad348 := (by injection e348); replace hx348_0 := (HB.out.cell (World.block_lt_of_cell? w _ hx348_0)).trans hx348_0; replace p348 := eq_true p348; replace q348 := eq_true q348; obtain ⟨Ao15, co15, eo15⟩ := Kd.R_slice HO_4.out; subst eo15; have p349 : 0 ≤ ((ji11) : Int) := of_decide_eq_true (by first | (with_reducible assumption) | assumption); have q349 : (ji11) < (x4_1.length : Int) := of_decide_eq_true (by first | (with_reducible assumption) | assumption); obtain ⟨ad349, e349, hx349_0, hx349_1⟩ := at_T71 (Kd.R_reads' HO_4.out).2.2 (ji11) p349 q349; cases e349; replace p349 := eq_true p349; replace q349 := eq_true q349; have p14 : 0 ≤ ((ji11) : Int) := of_decide_eq_true (by first | (with_reducible assumption) | assumption); have q14 : ((ji11) : Int) < ((x4_1.length : Int) : Int) := of_decide_eq_true (by first | (with_reducible assumption) | assumption); obtain ⟨go14, co14, eo14, gb14, gl14, cl14, HG14⟩ := Kd.R_form HO_4.out (by omega); (first | cases eo14 | (injection eo14 with ea_ en_ ec_; (first | subst ea_ | (injection ea_ with ea_; subst ea_)); subst ec_; clear en_)); have GB14 := Aside0.mk gb14; have GG14 := Aside0.mk HG14; clear gb14 gl14 HG14; (first | simp only [add_plain] at hx349_0 | skip); (first | simp only [add_plain] at hx349_1 | skip); obtain ⟨ce14, hcl14, hM14, hcc14, hfr14⟩ := Kd.R_elem HO_4.out z71 ((ji11) : Int) p14 q14; obtain rfl := k71_openM hM14; have hx14_0 : wr.cell? ⟨go14, ((ji11) : Int).toNat * 2, none⟩ = some (.int .i64 ((rd_T71 x4_1 (ji11)).f0)) := hcc14 0 _ rfl; have hx14_1 : wr.cell? ⟨go14, ((ji11) : Int).toNat * 2 + 1, none⟩ = some (.int .i64 ((rd_T71 x4_1 (ji11)).f1)) := hcc14 1 _ rfl; have hf14_0 : wr.frozen? ⟨go14, ((ji11) : Int).toNat * 2, none⟩ = false := hfr14 0; have hf14_1 : wr.frozen? ⟨go14, ((ji11) : Int).toNat * 2 + 1, none⟩ = false := hfr14 1; clear hcl14 hcc14 hfr14 hM14; replace p14 := eq_true p14; replace q14 := eq_true q14; have HX16 := Aside0.mk (show Kd.R k71 71 wr w.heap.size (fun _ => True) (.slice (some ⟨go14, 0, none⟩) x4_1.length co15) x4_1 from (by (with_reducible repeat (first | apply Kd.R_alloc | apply Kd.R_drewN | apply Kd.R_drew)); exact HO_4.out)); obtain ⟨ce16, hcl16, hM16, hcc16, hfr16⟩ := Kd.R_elem HX16.out z71 ((ji11) : Int) (of_decide_eq_true (by first | (with_reducible assumption) | assumption)) (by have h_ : ((ji11) : Int) < ((x4_1.length : Int) : Int) := of_decide_eq_true (by first | (with_reducible assumption) | assumption); first | exact h_ | (have e_ := (Kd.R_reads' HO_4.out).1; omega) | simpa using h_); obtain rfl := k71_openM hM16; have HP16 := Kd.R_seg HX16.out ((ji11) : Int) (of_decide_eq_true (by first | (with_reducible assumption) | assumption)) (by have h_ : ((ji11) : Int) < ((x4_1.length : Int) : Int) := of_decide_eq_true (by first | (with_reducible assumption) | assumption); first | exact h_ | (have e_ := (Kd.R_reads' HO_4.out).1; omega) | simpa using h_) (seg := [.int .i64 (wrap64 (((rd_T71 x4_1 (ji11)).f1) + 1))]) (j := 1) hcl16 hcc16 (show 2 ≤ 2 from by decide) (x' := (⟨(rd_T71 x4_1 (ji11)).f0, wrap64 (((rd_T71 x4_1 (ji11)).f1) + 1)⟩ : S71)) (k71_mkM _ _ _ (⟨(rd_T71 x4_1 (ji11)).f0, wrap64 (((rd_T71 x4_1 (ji11)).f1) + 1)⟩ : S71) ) (fun _ hk => hk); have hx16_1 := hcc16 1 _ rfl; (try simp only [show (k71).sz = 2 from rfl, Nat.mul_one, Nat.add_zero] at hx16_1); have hf16_1 := hfr16 1; (try simp only [show (k71).sz = 2 from rfl, Nat.mul_one, Nat.add_zero] at hf16_1); clear hcl16 hcc16 hfr16 hM16) | ((with_reducible refine gate_store (t := 3) (p := 47) rfl ?_); (try (rw [drewN_self wr]; generalize hq_ : World.drewN wr _ = wr; have n0_ := Aside0.mk (Kd.R_at hq_ HO_4.out); have n1_ := Aside0.mk (below_at hq_ HB.out); clear hq_ HO_4 HB; have HO_4 := n0_; have HB := n1_; clear n0_ n1_; (try (have HX16 := Aside0.mk (show Kd.R k71 71 wr w.heap.size (fun _ => True) (.slice (some ⟨go14, 0, none⟩) x4_1.length co15) x4_1 from (by (with_reducible repeat (first | apply Kd.R_alloc | apply Kd.R_drewN | apply Kd.R_drew)); exact HO_4.out)))); (try (obtain ⟨ce16, hcl16, hM16, hcc16, hfr16⟩ := Kd.R_elem HX16.out z71 ((ji11) : Int) (of_decide_eq_true (by first | (with_reducible assumption) | assumption)) (by have h_ : ((ji11) : Int) < ((x4_1.length : Int) : Int) := of_decide_eq_true (by first | (with_reducible assumption) | assumption); first | exact h_ | (have e_ := (Kd.R_reads' HO_4.out).1; omega) | simpa using h_))); (try (obtain rfl := k71_openM hM16)); (try (have HP16 := Kd.R_seg HX16.out ((ji11) : Int) (of_decide_eq_true (by first | (with_reducible assumption) | assumption)) (by have h_ : ((ji11) : Int) < ((x4_1.length : Int) : Int) := of_decide_eq_true (by first | (with_reducible assumption) | assumption); first | exact h_ | (have e_ := (Kd.R_reads' HO_4.out).1; omega) | simpa using h_) (seg := [.int .i64 (wrap64 (((rd_T71 x4_1 (ji11)).f1) + 1))]) (j := 1) hcl16 hcc16 (show 2 ≤ 2 from by decide) (x' := (⟨(rd_T71 x4_1 (ji11)).f0, wrap64 (((rd_T71 x4_1 (ji11)).f1) + 1)⟩ : S71)) (k71_mkM _ _ _ (⟨(rd_T71 x4_1 (ji11)).f0, wrap64 (((rd_T71 x4_1 (ji11)).f1) + 1)⟩ : S71) ) (fun _ hk => hk))); (try (have hx16_1 := hcc16 1 _ rfl)); (try (try simp only [show (k71).sz = 2 from rfl, Nat.mul_one, Nat.add_zero] at hx16_1)); (try (have hf16_1 := hfr16 1)); (try (try simp only [show (k71).sz = 2 from rfl, Nat.mul_one, Nat.add_zero] at hf16_1)); (try (clear hcl16 hcc16 hfr16 hM16)))); refine store_event (t := 3) (p := 47) (v := ?vo_w17) (w1 := (wr.setCell ⟨go14, ((ji11) : Int).toNat * 2 + 1, none⟩ (.int .i64 (wrap64 (((rd_T71 x4_1 (ji11)).f1) + 1))))) ?hg ?ho ?hn ?hr ?_; (case ho => rfl); (case hg => rfl); (case hn => rfl); (case hr => first | (go_simp; done) | (go_simp; rfl) | (go_simp; simp only [IntKind.wrap_u8, IntKind.wrap_u32]; congr 4; omega) | (go_simp; simp only [IntKind.wrap_u8, IntKind.wrap_u32]; congr 5; omega)); intro w17 hw; have hg : wr.grownBy w17 (some go14) := (by rw [hw]; exact HP16.2); have hp_ : Kd.R k71 71 w17 w.heap.size (fun _ => True) (.slice (some ⟨go14, 0, none⟩) x4_1.length co15) y350 := (by rw [hw, Ny350.out]; exact HP16.1); clear HP16; have n0_ := Aside0.mk (hp_); have n1_ := Aside0.mk ((by rw [hw]; exact below_set (HB.out) GB14.out : Below w.heap.size w w17)); clear HO_4; clear HB; have HO_4 := n0_; have HB := n1_; clear n0_ n1_; clear hg hw hp_))
            repeat (go_quiet (first | (go_at_call 75; (with_reducible refine (gudgeonref07_Point.calls (rd l0 x5_1) true _ A4.out).mono ?_); rintro e w' ⟨rfl, ⟨nd, rfl⟩⟩; (try first | exact ⟨rfl, _, World.drewN_drewN _ _ _⟩ | exact ⟨rfl, _, Eq.trans (World.drewN_drewN _ _ _) (congrArg (World.drewN _) (Nat.add_assoc _ _ _))⟩); have p347 : 0 ≤ ((ji7) : Int) := of_decide_eq_true (by first | (with_reducible assumption) | assumption); have q347 : (ji7) < (l0.length : Int) := of_decide_eq_true (by first | (with_reducible assumption) | assumption); obtain ⟨ad347, e347, hx347_0⟩ := Kd.at_int HR0.out (ji7) p347 q347; obtain rfl : ad345 = ad347 := (by injection e347); replace hx347_0 := (HB.out.cell (World.block_lt_of_cell? w _ hx347_0)).trans hx347_0; replace p347 := eq_true p347; replace q347 := eq_true q347; have p348 : 0 ≤ (x5_1 : Int) := of_decide_eq_true (by first | (with_reducible assumption) | assumption); have q348 : x5_1 < (l0.length : Int) := of_decide_eq_true (by first | (with_reducible assumption) | assumption); obtain ⟨ad348, e348, hx348_0⟩ := Kd.at_int HR0.out x5_1 p348 q348; obtain rfl : ad345 = ad348 := (by injection e348); replace hx348_0 := (HB.out.cell (World.block_lt_of_cell? w _ hx348_0)).trans hx348_0; replace p348 := eq_true p348; replace q348 := eq_true q348; obtain ⟨Ao15, co15, eo15⟩ := Kd.R_slice HO_4.out; subst eo15; have p349 : 0 ≤ ((ji11) : Int) := of_decide_eq_true (by first | (with_reducible assumption) | assumption); have q349 : (ji11) < (x4_1.length : Int) := of_decide_eq_true (by first | (with_reducible assumption) | assumption); obtain ⟨ad349, e349, hx349_0, hx349_1⟩ := at_T71 (Kd.R_reads' HO_4.out).2.2 (ji11) p349 q349; cases e349; replace p349 := eq_true p349; replace q349 := eq_true q349; have p14 : 0 ≤ ((ji11) : Int) := of_decide_eq_true (by first | (with_reducible assumption) | assumption); have q14 : ((ji11) : Int) < ((x4_1.length : Int) : Int) := of_decide_eq_true (by first | (with_reducible assumption) | assumption); obtain ⟨go14, co14, eo14, gb14, gl14, cl14, HG14⟩ := Kd.R_form HO_4.out (by omega); (first | cases eo14 | (injection eo14 with ea_ en_ ec_; (first | subst ea_ | (injection ea_ with ea_; subst ea_)); subst ec_; clear en_)); have GB14 := Aside0.mk gb14; have GG14 := Aside0.mk HG14; clear gb14 gl14 HG14; (first | simp only [add_plain] at hx349_0 | skip); (first | simp only [add_plain] at hx349_1 | skip); obtain ⟨ce14, hcl14, hM14, hcc14, hfr14⟩ := Kd.R_elem HO_4.out z71 ((ji11) : Int) p14 q14; obtain rfl := k71_openM hM14; have hx14_0 : wr.cell? ⟨go14, ((ji11) : Int).toNat * 2, none⟩ = some (.int .i64 ((rd_T71 x4_1 (ji11)).f0)) := hcc14 0 _ rfl; have hx14_1 : wr.cell? ⟨go14, ((ji11) : Int).toNat * 2 + 1, none⟩ = some (.int .i64 ((rd_T71 x4_1 (ji11)).f1)) := hcc14 1 _ rfl; have hf14_0 : wr.frozen? ⟨go14, ((ji11) : Int).toNat * 2, none⟩ = false := hfr14 0; have hf14_1 : wr.frozen? ⟨go14, ((ji11) : Int).toNat * 2 + 1, none⟩ = false := hfr14 1; clear hcl14 hcc14 hfr14 hM14; replace p14 := eq_true p14; replace q14 := eq_true q14; have HX16 := Aside0.mk (show Kd.R k71 71 wr w.heap.size (fun _ => True) (.slice (some ⟨go14, 0, none⟩) x4_1.length co15) x4_1 from (by (with_reducible repeat (first | apply Kd.R_alloc | apply Kd.R_drewN | apply Kd.R_drew)); exact HO_4.out)); obtain ⟨ce16, hcl16, hM16, hcc16, hfr16⟩ := Kd.R_elem HX16.out z71 ((ji11) : Int) (of_decide_eq_true (by first | (with_reducible assumption) | assumption)) (by have h_ : ((ji11) : Int) < ((x4_1.length : Int) : Int) := of_decide_eq_true (by first | (with_reducible assumption) | assumption); first | exact h_ | (have e_ := (Kd.R_reads' HO_4.out).1; omega) | simpa using h_); obtain rfl := k71_openM hM16; have HP16 := Kd.R_seg HX16.out ((ji11) : Int) (of_decide_eq_true (by first | (with_reducible assumption) | assumption)) (by have h_ : ((ji11) : Int) < ((x4_1.length : Int) : Int) := of_decide_eq_true (by first | (with_reducible assumption) | assumption); first | exact h_ | (have e_ := (Kd.R_reads' HO_4.out).1; omega) | simpa using h_) (seg := [.int .i64 (wrap64 (((rd_T71 x4_1 (ji11)).f1) + 1))]) (j := 1) hcl16 hcc16 (show 2 ≤ 2 from by decide) (x' := (⟨(rd_T71 x4_1 (ji11)).f0, wrap64 (((rd_T71 x4_1 (ji11)).f1) + 1)⟩ : S71)) (k71_mkM _ _ _ (⟨(rd_T71 x4_1 (ji11)).f0, wrap64 (((rd_T71 x4_1 (ji11)).f1) + 1)⟩ : S71) ) (fun _ hk => hk); have hx16_1 := hcc16 1 _ rfl; (try simp only [show (k71).sz = 2 from rfl, Nat.mul_one, Nat.add_zero] at hx16_1); have hf16_1 := hfr16 1; (try simp only [show (k71).sz = 2 from rfl, Nat.mul_one, Nat.add_zero] at hf16_1); clear hcl16 hcc16 hfr16 hM16) | ((with_reducible refine gate_store (t := 3) (p := 47) rfl ?_); (try (rw [drewN_self wr]; generalize hq_ : World.drewN wr _ = wr; have n0_ := Aside0.mk (Kd.R_at hq_ HO_4.out); have n1_ := Aside0.mk (below_at hq_ HB.out); clear hq_ HO_4 HB; have HO_4 := n0_; have HB := n1_; clear n0_ n1_; (try (have HX16 := Aside0.mk (show Kd.R k71 71 wr w.heap.size (fun _ => True) (.slice (some ⟨go14, 0, none⟩) x4_1.length co15) x4_1 from (by (with_reducible repeat (first | apply Kd.R_alloc | apply Kd.R_drewN | apply Kd.R_drew)); exact HO_4.out)))); (try (obtain ⟨ce16, hcl16, hM16, hcc16, hfr16⟩ := Kd.R_elem HX16.out z71 ((ji11) : Int) (of_decide_eq_true (by first | (with_reducible assumption) | assumption)) (by have h_ : ((ji11) : Int) < ((x4_1.length : Int) : Int) := of_decide_eq_true (by first | (with_reducible assumption) | assumption); first | exact h_ | (have e_ := (Kd.R_reads' HO_4.out).1; omega) | simpa using h_))); (try (obtain rfl := k71_openM hM16)); (try (have HP16 := Kd.R_seg HX16.out ((ji11) : Int) (of_decide_eq_true (by first | (with_reducible assumption) | assumption)) (by have h_ : ((ji11) : Int) < ((x4_1.length : Int) : Int) := of_decide_eq_true (by first | (with_reducible assumption) | assumption); first | exact h_ | (have e_ := (Kd.R_reads' HO_4.out).1; omega) | simpa using h_) (seg := [.int .i64 (wrap64 (((rd_T71 x4_1 (ji11)).f1) + 1))]) (j := 1) hcl16 hcc16 (show 2 ≤ 2 from by decide) (x' := (⟨(rd_T71 x4_1 (ji11)).f0, wrap64 (((rd_T71 x4_1 (ji11)).f1) + 1)⟩ : S71)) (k71_mkM _ _ _ (⟨(rd_T71 x4_1 (ji11)).f0, wrap64 (((rd_T71 x4_1 (ji11)).f1) + 1)⟩ : S71) ) (fun _ hk => hk))); (try (have hx16_1 := hcc16 1 _ rfl)); (try (try simp only [show (k71).sz = 2 from rfl, Nat.mul_one, Nat.add_zero] at hx16_1)); (try (have hf16_1 := hfr16 1)); (try (try simp only [show (k71).sz = 2 from rfl, Nat.mul_one, Nat.add_zero] at hf16_1)); (try (clear hcl16 hcc16 hfr16 hM16)))); refine store_event (t := 3) (p := 47) (v := ?vo_w17) (w1 := (wr.setCell ⟨go14, ((ji11) : Int).toNat * 2 + 1, none⟩ (.int .i64 (wrap64 (((rd_T71 x4_1 (ji11)).f1) + 1))))) ?hg ?ho ?hn ?hr ?_; (case ho => rfl); (case hg => rfl); (case hn => rfl); (case hr => first | (go_simp; done) | (go_simp; rfl) | (go_simp; simp only [IntKind.wrap_u8, IntKind.wrap_u32]; congr 4; omega) | (go_simp; simp only [IntKind.wrap_u8, IntKind.wrap_u32]; congr 5; omega)); intro w17 hw; have hg : wr.grownBy w17 (some go14) := (by rw [hw]; exact HP16.2); have hp_ : Kd.R k71 71 w17 w.heap.size (fun _ => True) (.slice (some ⟨go14, 0, none⟩) x4_1.length co15) y350 := (by rw [hw, Ny350.out]; exact HP16.1); clear HP16; have n0_ := Aside0.mk (hp_); have n1_ := Aside0.mk ((by rw [hw]; exact below_set (HB.out) GB14.out : Below w.heap.size w w17)); clear HO_4; clear HB; have HO_4 := n0_; have HB := n1_; clear n0_ n1_; clear hg hw hp_)); try go_wp2_with (first | (go_at_call 75; (with_reducible refine (gudgeonref07_Point.calls (rd l0 x5_1) true _ A4.out).mono ?_); rintro e w' ⟨rfl, ⟨nd, rfl⟩⟩; (try first | exact ⟨rfl, _, World.drewN_drewN _ _ _⟩ | exact ⟨rfl, _, Eq.trans (World.drewN_drewN _ _ _) (congrArg (World.drewN _) (Nat.add_assoc _ _ _))⟩); have p347 : 0 ≤ ((ji7) : Int) := of_decide_eq_true (by first | (with_reducible assumption) | assumption); have q347 : (ji7) < (l0.length : Int) := of_decide_eq_true (by first | (with_reducible assumption) | assumption); obtain ⟨ad347, e347, hx347_0⟩ := Kd.at_int HR0.out (ji7) p347 q347; obtain rfl : ad345 = ad347 := (by injection e347); replace hx347_0 := (HB.out.cell (World.block_lt_of_cell? w _ hx347_0)).trans hx347_0; replace p347 := eq_true p347; replace q347 := eq_true q347; have p348 : 0 ≤ (x5_1 : Int) := of_decide_eq_true (by first | (with_reducible assumption) | assumption); have q348 : x5_1 < (l0.length : Int) := of_decide_eq_true (by first | (with_reducible assumption) | assumption); obtain ⟨ad348, e348, hx348_0⟩ := Kd.at_int HR0.out x5_1 p348 q348; obtain rfl : ad345 = ad348 := (by injection e348); replace hx348_0 := (HB.out.cell (World.block_lt_of_cell? w _ hx348_0)).trans hx348_0; replace p348 := eq_true p348; replace q348 := eq_true q348; obtain ⟨Ao15, co15, eo15⟩ := Kd.R_slice HO_4.out; subst eo15; have p349 : 0 ≤ ((ji11) : Int) := of_decide_eq_true (by first | (with_reducible assumption) | assumption); have q349 : (ji11) < (x4_1.length : Int) := of_decide_eq_true (by first | (with_reducible assumption) | assumption); obtain ⟨ad349, e349, hx349_0, hx349_1⟩ := at_T71 (Kd.R_reads' HO_4.out).2.2 (ji11) p349 q349; cases e349; replace p349 := eq_true p349; replace q349 := eq_true q349; have p14 : 0 ≤ ((ji11) : Int) := of_decide_eq_true (by first | (with_reducible assumption) | assumption); have q14 : ((ji11) : Int) < ((x4_1.length : Int) : Int) := of_decide_eq_true (by first | (with_reducible assumption) | assumption); obtain ⟨go14, co14, eo14, gb14, gl14, cl14, HG14⟩ := Kd.R_form HO_4.out (by omega); (first | cases eo14 | (injection eo14 with ea_ en_ ec_; (first | subst ea_ | (injection ea_ with ea_; subst ea_)); subst ec_; clear en_)); have GB14 := Aside0.mk gb14; have GG14 := Aside0.mk HG14; clear gb14 gl14 HG14; (first | simp only [add_plain] at hx349_0 | skip); (first | simp only [add_plain] at hx349_1 | skip); obtain ⟨ce14, hcl14, hM14, hcc14, hfr14⟩ := Kd.R_elem HO_4.out z71 ((ji11) : Int) p14 q14; obtain rfl := k71_openM hM14; have hx14_0 : wr.cell? ⟨go14, ((ji11) : Int).toNat * 2, none⟩ = some (.int .i64 ((rd_T71 x4_1 (ji11)).f0)) := hcc14 0 _ rfl; have hx14_1 : wr.cell? ⟨go14, ((ji11) : Int).toNat * 2 + 1, none⟩ = some (.int .i64 ((rd_T71 x4_1 (ji11)).f1)) := hcc14 1 _ rfl; have hf14_0 : wr.frozen? ⟨go14, ((ji11) : Int).toNat * 2, none⟩ = false := hfr14 0; have hf14_1 : wr.frozen? ⟨go14, ((ji11) : Int).toNat * 2 + 1, none⟩ = false := hfr14 1; clear hcl14 hcc14 hfr14 hM14; replace p14 := eq_true p14; replace q14 := eq_true q14; have HX16 := Aside0.mk (show Kd.R k71 71 wr w.heap.size (fun _ => True) (.slice (some ⟨go14, 0, none⟩) x4_1.length co15) x4_1 from (by (with_reducible repeat (first | apply Kd.R_alloc | apply Kd.R_drewN | apply Kd.R_drew)); exact HO_4.out)); obtain ⟨ce16, hcl16, hM16, hcc16, hfr16⟩ := Kd.R_elem HX16.out z71 ((ji11) : Int) (of_decide_eq_true (by first | (with_reducible assumption) | assumption)) (by have h_ : ((ji11) : Int) < ((x4_1.length : Int) : Int) := of_decide_eq_true (by first | (with_reducible assumption) | assumption); first | exact h_ | (have e_ := (Kd.R_reads' HO_4.out).1; omega) | simpa using h_); obtain rfl := k71_openM hM16; have HP16 := Kd.R_seg HX16.out ((ji11) : Int) (of_decide_eq_true (by first | (with_reducible assumption) | assumption)) (by have h_ : ((ji11) : Int) < ((x4_1.length : Int) : Int) := of_decide_eq_true (by first | (with_reducible assumption) | assumption); first | exact h_ | (have e_ := (Kd.R_reads' HO_4.out).1; omega) | simpa using h_) (seg := [.int .i64 (wrap64 (((rd_T71 x4_1 (ji11)).f1) + 1))]) (j := 1) hcl16 hcc16 (show 2 ≤ 2 from by decide) (x' := (⟨(rd_T71 x4_1 (ji11)).f0, wrap64 (((rd_T71 x4_1 (ji11)).f1) + 1)⟩ : S71)) (k71_mkM _ _ _ (⟨(rd_T71 x4_1 (ji11)).f0, wrap64 (((rd_T71 x4_1 (ji11)).f1) + 1)⟩ : S71) ) (fun _ hk => hk); have hx16_1 := hcc16 1 _ rfl; (try simp only [show (k71).sz = 2 from rfl, Nat.mul_one, Nat.add_zero] at hx16_1); have hf16_1 := hfr16 1; (try simp only [show (k71).sz = 2 from rfl, Nat.mul_one, Nat.add_zero] at hf16_1); clear hcl16 hcc16 hfr16 hM16) | ((with_reducible refine gate_store (t := 3) (p := 47) rfl ?_); (try (rw [drewN_self wr]; generalize hq_ : World.drewN wr _ = wr; have n0_ := Aside0.mk (Kd.R_at hq_ HO_4.out); have n1_ := Aside0.mk (below_at hq_ HB.out); clear hq_ HO_4 HB; have HO_4 := n0_; have HB := n1_; clear n0_ n1_; (try (have HX16 := Aside0.mk (show Kd.R k71 71 wr w.heap.size (fun _ => True) (.slice (some ⟨go14, 0, none⟩) x4_1.length co15) x4_1 from (by (with_reducible repeat (first | apply Kd.R_alloc | apply Kd.R_drewN | apply Kd.R_drew)); exact HO_4.out)))); (try (obtain ⟨ce16, hcl16, hM16, hcc16, hfr16⟩ := Kd.R_elem HX16.out z71 ((ji11) : Int) (of_decide_eq_true (by first | (with_reducible assumption) | assumption)) (by have h_ : ((ji11) : Int) < ((x4_1.length : Int) : Int) := of_decide_eq_true (by first | (with_reducible assumption) | assumption); first | exact h_ | (have e_ := (Kd.R_reads' HO_4.out).1; omega) | simpa using h_))); (try (obtain rfl := k71_openM hM16)); (try (have HP16 := Kd.R_seg HX16.out ((ji11) : Int) (of_decide_eq_true (by first | (with_reducible assumption) | assumption)) (by have h_ : ((ji11) : Int) < ((x4_1.length : Int) : Int) := of_decide_eq_true (by first | (with_reducible assumption) | assumption); first | exact h_ | (have e_ := (Kd.R_reads' HO_4.out).1; omega) | simpa using h_) (seg := [.int .i64 (wrap64 (((rd_T71 x4_1 (ji11)).f1) + 1))]) (j := 1) hcl16 hcc16 (show 2 ≤ 2 from by decide) (x' := (⟨(rd_T71 x4_1 (ji11)).f0, wrap64 (((rd_T71 x4_1 (ji11)).f1) + 1)⟩ : S71)) (k71_mkM _ _ _ (⟨(rd_T71 x4_1 (ji11)).f0, wrap64 (((rd_T71 x4_1 (ji11)).f1) + 1)⟩ : S71) ) (fun _ hk => hk))); (try (have hx16_1 := hcc16 1 _ rfl)); (try (try simp only [show (k71).sz = 2 from rfl, Nat.mul_one, Nat.add_zero] at hx16_1)); (try (have hf16_1 := hfr16 1)); (try (try simp only [show (k71).sz = 2 from rfl, Nat.mul_one, Nat.add_zero] at hf16_1)); (try (clear hcl16 hcc16 hfr16 hM16)))); refine store_event (t := 3) (p := 47) (v := ?vo_w17) (w1 := (wr.setCell ⟨go14, ((ji11) : Int).toNat * 2 + 1, none⟩ (.int .i64 (wrap64 (((rd_T71 x4_1 (ji11)).f1) + 1))))) ?hg ?ho ?hn ?hr ?_; (case ho => rfl); (case hg => rfl); (case hn => rfl); (case hr => first | (go_simp; done) | (go_simp; rfl) | (go_simp; simp only [IntKind.wrap_u8, IntKind.wrap_u32]; congr 4; omega) | (go_simp; simp only [IntKind.wrap_u8, IntKind.wrap_u32]; congr 5; omega)); intro w17 hw; have hg : wr.grownBy w17 (some go14) := (by rw [hw]; exact HP16.2); have hp_ : Kd.R k71 71 w17 w.heap.size (fun _ => True) (.slice (some ⟨go14, 0, none⟩) x4_1.length co15) y350 := (by rw [hw, Ny350.out]; exact HP16.1); clear HP16; have n0_ := Aside0.mk (hp_); have n1_ := Aside0.mk ((by rw [hw]; exact below_set (HB.out) GB14.out : Below w.heap.size w w17)); clear HO_4; clear HB; have HO_4 := n0_; have HB := n1_; clear n0_ n1_; clear hg hw hp_)))
            go_roundg k1
            case measure => have := HK1.out; omega
            case rel => exact ⟨(y350), (wrap64 (x5_1 + 1)), (by first | rfl | (simp; done) | (simp [*]; done) | (refine congrArg (Value.int _) ?_; omega) | (refine congrArg Value.bool ?_; generalize ByteArray.toList _ = z_; cases z_ <;> rfl)), H', ⟨by have := HK1.out; omega⟩, ⟨by (with_reducible repeat (first | apply Kd.R_alloc | apply Kd.R_drewN | apply Kd.R_drew)); exact HO_4.out⟩, ⟨by repeat (first | (with_reducible first | exact HB.out | apply below_alloc | apply pw_below_drewN | apply below_drew1) | exact HB.out)⟩⟩
           ·rw [if_neg c13] at H
            exact absurd H (by simp)
          ·rw [if_neg c12] at H
           exact absurd H (by simp)
         ·rw [if_neg c10] at H
          have c10b0 : ((rd l0 (ji7)) == (rd l0 x5_1)) = false := beq_eq_false_iff_ne.mpr c10
          have c10b1 : ((rd l0 (ji7)) != (rd l0 x5_1)) = true := bne_iff_ne.mpr c10
          by_cases c18 : x4_1.length < 8796093022208
          ·rw [if_pos c18] at H
           have LMc18 := Aside0.mk c18
           clear c18
           obtain ⟨y352, hy352⟩ : ∃ y_ : List (S71), y_ = (x4_1 ++ [(⟨rd l0 x5_1, 1⟩ : S71)]) := ⟨_, rfl⟩
           replace H : (gudgeonref07_Runs.l0 k1 l0 y352 (wrap64 (x5_1 + 1))) = some (r1, r2) := by first | (rw [hy352]; with_reducible exact H) | (have H2_ := (Option.bind_some _ _).symm.trans H; rw [hy352]; with_reducible exact H2_) | (have H2_ := (Option.bind_some _ _).symm.trans H; with_reducible exact H2_) | with_reducible exact H | (rw [hy352]; exact H) | exact H
           have Ny352 := Aside0.mk hy352
           clear hy352
           have H' := Aside0.mk H
           clear H
           have p345 : 0 ≤ (x5_1 : Int) := of_decide_eq_true (by first | (with_reducible assumption) | assumption)
           have q345 : x5_1 < (l0.length : Int) := of_decide_eq_true (by first | (with_reducible assumption) | assumption)
           obtain ⟨ad345, e345, hx345_0⟩ := Kd.at_int HR0.out x5_1 p345 q345
           cases e345
           replace hx345_0 := (HB.out.cell (World.block_lt_of_cell? w _ hx345_0)).trans hx345_0
           replace p345 := eq_true p345
           replace q345 := eq_true q345
           go_wp2_with (first | (go_at_call 75; (with_reducible refine (gudgeonref07_Point.calls (rd l0 x5_1) true _ A4.out).mono ?_); rintro e w' ⟨rfl, ⟨nd, rfl⟩⟩; (try first | exact ⟨rfl, _, World.drewN_drewN _ _ _⟩ | exact ⟨rfl, _, Eq.trans (World.drewN_drewN _ _ _) (congrArg (World.drewN _) (Nat.add_assoc _ _ _))⟩); have p347 : 0 ≤ ((ji7) : Int) := of_decide_eq_true (by first | (with_reducible assumption) | assumption); have q347 : (ji7) < (l0.length : Int) := of_decide_eq_true (by first | (with_reducible assumption) | assumption); obtain ⟨ad347, e347, hx347_0⟩ := Kd.at_int HR0.out (ji7) p347 q347; obtain rfl : ad345 = ad347 := (by injection e347); replace hx347_0 := (HB.out.cell (World.block_lt_of_cell? w _ hx347_0)).trans hx347_0; replace p347 := eq_true p347; replace q347 := eq_true q347; have p348 : 0 ≤ (x5_1 : Int) := of_decide_eq_true (by first | (with_reducible assumption) | assumption); have q348 : x5_1 < (l0.length : Int) := of_decide_eq_true (by first | (with_reducible assumption) | assumption); obtain ⟨ad348, e348, hx348_0⟩ := Kd.at_int HR0.out x5_1 p348 q348; obtain rfl : ad345 = ad348 := (by injection e348); replace hx348_0 := (HB.out.cell (World.block_lt_of_cell? w _ hx348_0)).trans hx348_0; replace p348 := eq_true p348; replace q348 := eq_true q348; have p351 : 0 ≤ (x5_1 : Int) := of_decide_eq_true (by first | (with_reducible assumption) | assumption); have q351 : x5_1 < (l0.length : Int) := of_decide_eq_true (by first | (with_reducible assumption) | assumption); obtain ⟨ad351, e351, hx351_0⟩ := Kd.at_int HR0.out x5_1 p351 q351; obtain rfl : ad345 = ad351 := (by injection e351); replace hx351_0 := (HB.out.cell (World.block_lt_of_cell? w _ hx351_0)).trans hx351_0; replace p351 := eq_true p351; replace q351 := eq_true q351) | ((with_reducible refine gate_builtin (b := .append) (xs := #[.tmp 48, .tmp 54]) rfl ?_); at_builtin; refine Kd.R_append k71 (w0 := w) w.heap.size rfl (.tmp 48) (.tmp 54) 22 71 (.agg #[(.int .i64 0), (.int .i64 0)]) 16 rfl Try.underlying22 info71 rfl (by decide) (by omega) u4 x4_1 (⟨rd l0 x5_1, 1⟩ : S71) [.int .i64 (rd l0 x5_1), .int .i64 1] (fun _ => True) (fun _ => False) rfl rfl ?aP (fun _ hk => hk.elim) ?aF ?aO ?aB ?aS ?aL ?_; (case aP => exact k71_mkM _ _ _ (⟨rd l0 x5_1, 1⟩ : S71)); (case aB => exact (by repeat (first | (with_reducible first | exact HB.out | apply below_alloc | apply pw_below_drewN | apply below_drew1) | exact HB.out))); (case aF => exact (fun _ _ => trivial)); (case aO => exact (by (with_reducible repeat (first | apply Kd.R_alloc | apply Kd.R_drewN | apply Kd.R_drew)); exact HO_4.out)); (case aS => exact (below_size (by repeat (first | (with_reducible first | exact HB.out | apply below_alloc | apply pw_below_drewN | apply below_drew1) | exact HB.out)))); (case aL => have := LMc18.out; omega); intro v353 w19 ho hb hg hat; rw [← Ny352.out] at ho; have n0_ := Aside0.mk (hb); have n1_ := Aside0.mk (ho); clear HB; clear HO_4; have HB := n0_; have HO354 := n1_; clear n0_ n1_; clear ho hb hg hat))
           repeat (go_quiet (first | (go_at_call 75; (with_reducible refine (gudgeonref07_Point.calls (rd l0 x5_1) true _ A4.out).mono ?_); rintro e w' ⟨rfl, ⟨nd, rfl⟩⟩; (try first | exact ⟨rfl, _, World.drewN_drewN _ _ _⟩ | exact ⟨rfl, _, Eq.trans (World.drewN_drewN _ _ _) (congrArg (World.drewN _) (Nat.add_assoc _ _ _))⟩); have p347 : 0 ≤ ((ji7) : Int) := of_decide_eq_true (by first | (with_reducible assumption) | assumption); have q347 : (ji7) < (l0.length : Int) := of_decide_eq_true (by first | (with_reducible assumption) | assumption); obtain ⟨ad347, e347, hx347_0⟩ := Kd.at_int HR0.out (ji7) p347 q347; obtain rfl : ad345 = ad347 := (by injection e347); replace hx347_0 := (HB.out.cell (World.block_lt_of_cell? w _ hx347_0)).trans hx347_0; replace p347 := eq_true p347; replace q347 := eq_true q347; have p348 : 0 ≤ (x5_1 : Int) := of_decide_eq_true (by first | (with_reducible assumption) | assumption); have q348 : x5_1 < (l0.length : Int) := of_decide_eq_true (by first | (with_reducible assumption) | assumption); obtain ⟨ad348, e348, hx348_0⟩ := Kd.at_int HR0.out x5_1 p348 q348; obtain rfl : ad345 = ad348 := (by injection e348); replace hx348_0 := (HB.out.cell (World.block_lt_of_cell? w _ hx348_0)).trans hx348_0; replace p348 := eq_true p348; replace q348 := eq_true q348; have p351 : 0 ≤ (x5_1 : Int) := of_decide_eq_true (by first | (with_reducible assumption) | assumption); have q351 : x5_1 < (l0.length : Int) := of_decide_eq_true (by first | (with_reducible assumption) | assumption); obtain ⟨ad351, e351, hx351_0⟩ := Kd.at_int HR0.out x5_1 p351 q351; obtain rfl : ad345 = ad351 := (by injection e351); replace hx351_0 := (HB.out.cell (World.block_lt_of_cell? w _ hx351_0)).trans hx351_0; replace p351 := eq_true p351; replace q351 := eq_true q351) | ((with_reducible refine gate_builtin (b := .append) (xs := #[.tmp 48, .tmp 54]) rfl ?_); at_builtin; refine Kd.R_append k71 (w0 := w) w.heap.size rfl (.tmp 48) (.tmp 54) 22 71 (.agg #[(.int .i64 0), (.int .i64 0)]) 16 rfl Try.underlying22 info71 rfl (by decide) (by omega) u4 x4_1 (⟨rd l0 x5_1, 1⟩ : S71) [.int .i64 (rd l0 x5_1), .int .i64 1] (fun _ => True) (fun _ => False) rfl rfl ?aP (fun _ hk => hk.elim) ?aF ?aO ?aB ?aS ?aL ?_; (case aP => exact k71_mkM _ _ _ (⟨rd l0 x5_1, 1⟩ : S71)); (case aB => exact (by repeat (first | (with_reducible first | exact HB.out | apply below_alloc | apply pw_below_drewN | apply below_drew1) | exact HB.out))); (case aF => exact (fun _ _ => trivial)); (case aO => exact (by (with_reducible repeat (first | apply Kd.R_alloc | apply Kd.R_drewN | apply Kd.R_drew)); exact HO_4.out)); (case aS => exact (below_size (by repeat (first | (with_reducible first | exact HB.out | apply below_alloc | apply pw_below_drewN | apply below_drew1) | exact HB.out)))); (case aL => have := LMc18.out; omega); intro v353 w19 ho hb hg hat; rw [← Ny352.out] at ho; have n0_ := Aside0.mk (hb); have n1_ := Aside0.mk (ho); clear HB; clear HO_4; have HB := n0_; have HO354 := n1_; clear n0_ n1_; clear ho hb hg hat)); try go_wp2_with (first | (go_at_call 75; (with_reducible refine (gudgeonref07_Point.calls (rd l0 x5_1) true _ A4.out).mono ?_); rintro e w' ⟨rfl, ⟨nd, rfl⟩⟩; (try first | exact ⟨rfl, _, World.drewN_drewN _ _ _⟩ | exact ⟨rfl, _, Eq.trans (World.drewN_drewN _ _ _) (congrArg (World.drewN _) (Nat.add_assoc _ _ _))⟩); have p347 : 0 ≤ ((ji7) : Int) := of_decide_eq_true (by first | (with_reducible assumption) | assumption); have q347 : (ji7) < (l0.length : Int) := of_decide_eq_true (by first | (with_reducible assumption) | assumption); obtain ⟨ad347, e347, hx347_0⟩ := Kd.at_int HR0.out (ji7) p347 q347; obtain rfl : ad345 = ad347 := (by injection e347); replace hx347_0 := (HB.out.cell (World.block_lt_of_cell? w _ hx347_0)).trans hx347_0; replace p347 := eq_true p347; replace q347 := eq_true q347; have p348 : 0 ≤ (x5_1 : Int) := of_decide_eq_true (by first | (with_reducible assumption) | assumption); have q348 : x5_1 < (l0.length : Int) := of_decide_eq_true (by first | (with_reducible assumption) | assumption); obtain ⟨ad348, e348, hx348_0⟩ := Kd.at_int HR0.out x5_1 p348 q348; obtain rfl : ad345 = ad348 := (by injection e348); replace hx348_0 := (HB.out.cell (World.block_lt_of_cell? w _ hx348_0)).trans hx348_0; replace p348 := eq_true p348; replace q348 := eq_true q348; have p351 : 0 ≤ (x5_1 : Int) := of_decide_eq_true (by first | (with_reducible assumption) | assumption); have q351 : x5_1 < (l0.length : Int) := of_decide_eq_true (by first | (with_reducible assumption) | assumption); obtain ⟨ad351, e351, hx351_0⟩ := Kd.at_int HR0.out x5_1 p351 q351; obtain rfl : ad345 = ad351 := (by injection e351); replace hx351_0 := (HB.out.cell (World.block_lt_of_cell? w _ hx351_0)).trans hx351_0; replace p351 := eq_true p351; replace q351 := eq_true q351) | ((with_reducible refine gate_builtin (b := .append) (xs := #[.tmp 48, .tmp 54]) rfl ?_); at_builtin; refine Kd.R_append k71 (w0 := w) w.heap.size rfl (.tmp 48) (.tmp 54) 22 71 (.agg #[(.int .i64 0), (.int .i64 0)]) 16 rfl Try.underlying22 info71 rfl (by decide) (by omega) u4 x4_1 (⟨rd l0 x5_1, 1⟩ : S71) [.int .i64 (rd l0 x5_1), .int .i64 1] (fun _ => True) (fun _ => False) rfl rfl ?aP (fun _ hk => hk.elim) ?aF ?aO ?aB ?aS ?aL ?_; (case aP => exact k71_mkM _ _ _ (⟨rd l0 x5_1, 1⟩ : S71)); (case aB => exact (by repeat (first | (with_reducible first | exact HB.out | apply below_alloc | apply pw_below_drewN | apply below_drew1) | exact HB.out))); (case aF => exact (fun _ _ => trivial)); (case aO => exact (by (with_reducible repeat (first | apply Kd.R_alloc | apply Kd.R_drewN | apply Kd.R_drew)); exact HO_4.out)); (case aS => exact (below_size (by repeat (first | (with_reducible first | exact HB.out | apply below_alloc | apply pw_below_drewN | apply below_drew1) | exact HB.out)))); (case aL => have := LMc18.out; omega); intro v353 w19 ho hb hg hat; rw [← Ny352.out] at ho; have n0_ := Aside0.mk (hb); have n1_ := Aside0.mk (ho); clear HB; clear HO_4; have HB := n0_; have HO354 := n1_; clear n0_ n1_; clear ho hb hg hat)))
           go_roundg k1
           case measure => have := HK1.out; omega
           case rel => exact ⟨(y352), (wrap64 (x5_1 + 1)), (by first | rfl | (simp; done) | (simp [*]; done) | (refine congrArg (Value.int _) ?_; omega) | (refine congrArg Value.bool ?_; generalize ByteArray.toList _ = z_; cases z_ <;> rfl)), H', ⟨by have := HK1.out; omega⟩, ⟨by (with_reducible repeat (first | apply Kd.R_alloc | apply Kd.R_drewN | apply Kd.R_drew)); exact HO354.out⟩, ⟨by repeat (first | (with_reducible first | exact HB.out | apply below_alloc | apply pw_below_drewN | apply below_drew1) | exact HB.out)⟩⟩
          ·rw [if_neg c18] at H
           exact absurd H (by simp)
        ·rw [if_neg c9] at H
         exact absurd H (by simp)
       ·rw [if_neg c8] at H
        exact absurd H (by simp)
      ·rw [if_neg c6] at H
       have c6b0 : decide (0 < x5_1) = false := decide_eq_false c6
       clear c6
       by_cases c20 : x4_1.length < 8796093022208
       ·rw [if_pos c20] at H
        have LMc20 := Aside0.mk c20
        clear c20
        obtain ⟨y356, hy356⟩ : ∃ y_ : List (S71), y_ = (x4_1 ++ [(⟨rd l0 x5_1, 1⟩ : S71)]) := ⟨_, rfl⟩
        replace H : (gudgeonref07_Runs.l0 k1 l0 y356 (wrap64 (x5_1 + 1))) = some (r1, r2) := by first | (rw [hy356]; with_reducible exact H) | (have H2_ := (Option.bind_some _ _).symm.trans H; rw [hy356]; with_reducible exact H2_) | (have H2_ := (Option.bind_some _ _).symm.trans H; with_reducible exact H2_) | with_reducible exact H | (rw [hy356]; exact H) | exact H
        have Ny356 := Aside0.mk hy356
        clear hy356
        have H' := Aside0.mk H
        clear H
        have p345 : 0 ≤ (x5_1 : Int) := of_decide_eq_true (by first | (with_reducible assumption) | assumption)
        have q345 : x5_1 < (l0.length : Int) := of_decide_eq_true (by first | (with_reducible assumption) | assumption)
        obtain ⟨ad345, e345, hx345_0⟩ := Kd.at_int HR0.out x5_1 p345 q345
        cases e345
        replace hx345_0 := (HB.out.cell (World.block_lt_of_cell? w _ hx345_0)).trans hx345_0
        replace p345 := eq_true p345
        replace q345 := eq_true q345
        go_wp2_with (first | (go_at_call 75; (with_reducible refine (gudgeonref07_Point.calls (rd l0 x5_1) true _ A4.out).mono ?_); rintro e w' ⟨rfl, ⟨nd, rfl⟩⟩; (try first | exact ⟨rfl, _, World.drewN_drewN _ _ _⟩ | exact ⟨rfl, _, Eq.trans (World.drewN_drewN _ _ _) (congrArg (World.drewN _) (Nat.add_assoc _ _ _))⟩); have p355 : 0 ≤ (x5_1 : Int) := of_decide_eq_true (by first | (with_reducible assumption) | assumption); have q355 : x5_1 < (l0.length : Int) := of_decide_eq_true (by first | (with_reducible assumption) | assumption); obtain ⟨ad355, e355, hx355_0⟩ := Kd.at_int HR0.out x5_1 p355 q355; obtain rfl : ad345 = ad355 := (by injection e355); replace hx355_0 := (HB.out.cell (World.block_lt_of_cell? w _ hx355_0)).trans hx355_0; replace p355 := eq_true p355; replace q355 := eq_true q355) | ((with_reducible refine gate_builtin (b := .append) (xs := #[.tmp 48, .tmp 54]) rfl ?_); at_builtin; refine Kd.R_append k71 (w0 := w) w.heap.size rfl (.tmp 48) (.tmp 54) 22 71 (.agg #[(.int .i64 0), (.int .i64 0)]) 16 rfl Try.underlying22 info71 rfl (by decide) (by omega) u4 x4_1 (⟨rd l0 x5_1, 1⟩ : S71) [.int .i64 (rd l0 x5_1), .int .i64 1] (fun _ => True) (fun _ => False) rfl rfl ?aP (fun _ hk => hk.elim) ?aF ?aO ?aB ?aS ?aL ?_; (case aP => exact k71_mkM _ _ _ (⟨rd l0 x5_1, 1⟩ : S71)); (case aB => exact (by repeat (first | (with_reducible first | exact HB.out | apply below_alloc | apply pw_below_drewN | apply below_drew1) | exact HB.out))); (case aF => exact (fun _ _ => trivial)); (case aO => exact (by (with_reducible repeat (first | apply Kd.R_alloc | apply Kd.R_drewN | apply Kd.R_drew)); exact HO_4.out)); (case aS => exact (below_size (by repeat (first | (with_reducible first | exact HB.out | apply below_alloc | apply pw_below_drewN | apply below_drew1) | exact HB.out)))); (case aL => have := LMc20.out; omega); intro v357 w21 ho hb hg hat; rw [← Ny356.out] at ho; have n0_ := Aside0.mk (hb); have n1_ := Aside0.mk (ho); clear HB; clear HO_4; have HB := n0_; have HO358 := n1_; clear n0_ n1_; clear ho hb hg hat))
        repeat (go_quiet (first | (go_at_call 75; (with_reducible refine (gudgeonref07_Point.calls (rd l0 x5_1) true _ A4.out).mono ?_); rintro e w' ⟨rfl, ⟨nd, rfl⟩⟩; (try first | exact ⟨rfl, _, World.drewN_drewN _ _ _⟩ | exact ⟨rfl, _, Eq.trans (World.drewN_drewN _ _ _) (congrArg (World.drewN _) (Nat.add_assoc _ _ _))⟩); have p355 : 0 ≤ (x5_1 : Int) := of_decide_eq_true (by first | (with_reducible assumption) | assumption); have q355 : x5_1 < (l0.length : Int) := of_decide_eq_true (by first | (with_reducible assumption) | assumption); obtain ⟨ad355, e355, hx355_0⟩ := Kd.at_int HR0.out x5_1 p355 q355; obtain rfl : ad345 = ad355 := (by injection e355); replace hx355_0 := (HB.out.cell (World.block_lt_of_cell? w _ hx355_0)).trans hx355_0; replace p355 := eq_true p355; replace q355 := eq_true q355) | ((with_reducible refine gate_builtin (b := .append) (xs := #[.tmp 48, .tmp 54]) rfl ?_); at_builtin; refine Kd.R_append k71 (w0 := w) w.heap.size rfl (.tmp 48) (.tmp 54) 22 71 (.agg #[(.int .i64 0), (.int .i64 0)]) 16 rfl Try.underlying22 info71 rfl (by decide) (by omega) u4 x4_1 (⟨rd l0 x5_1, 1⟩ : S71) [.int .i64 (rd l0 x5_1), .int .i64 1] (fun _ => True) (fun _ => False) rfl rfl ?aP (fun _ hk => hk.elim) ?aF ?aO ?aB ?aS ?aL ?_; (case aP => exact k71_mkM _ _ _ (⟨rd l0 x5_1, 1⟩ : S71)); (case aB => exact (by repeat (first | (with_reducible first | exact HB.out | apply below_alloc | apply pw_below_drewN | apply below_drew1) | exact HB.out))); (case aF => exact (fun _ _ => trivial)); (case aO => exact (by (with_reducible repeat (first | apply Kd.R_alloc | apply Kd.R_drewN | apply Kd.R_drew)); exact HO_4.out)); (case aS => exact (below_size (by repeat (first | (with_reducible first | exact HB.out | apply below_alloc | apply pw_below_drewN | apply below_drew1) | exact HB.out)))); (case aL => have := LMc20.out; omega); intro v357 w21 ho hb hg hat; rw [← Ny356.out] at ho; have n0_ := Aside0.mk (hb); have n1_ := Aside0.mk (ho); clear HB; clear HO_4; have HB := n0_; have HO358 := n1_; clear n0_ n1_; clear ho hb hg hat)); try go_wp2_with (first | (go_at_call 75; (with_reducible refine (gudgeonref07_Point.calls (rd l0 x5_1) true _ A4.out).mono ?_); rintro e w' ⟨rfl, ⟨nd, rfl⟩⟩; (try first | exact ⟨rfl, _, World.drewN_drewN _ _ _⟩ | exact ⟨rfl, _, Eq.trans (World.drewN_drewN _ _ _) (congrArg (World.drewN _) (Nat.add_assoc _ _ _))⟩); have p355 : 0 ≤ (x5_1 : Int) := of_decide_eq_true (by first | (with_reducible assumption) | assumption); have q355 : x5_1 < (l0.length : Int) := of_decide_eq_true (by first | (with_reducible assumption) | assumption); obtain ⟨ad355, e355, hx355_0⟩ := Kd.at_int HR0.out x5_1 p355 q355; obtain rfl : ad345 = ad355 := (by injection e355); replace hx355_0 := (HB.out.cell (World.block_lt_of_cell? w _ hx355_0)).trans hx355_0; replace p355 := eq_true p355; replace q355 := eq_true q355) | ((with_reducible refine gate_builtin (b := .append) (xs := #[.tmp 48, .tmp 54]) rfl ?_); at_builtin; refine Kd.R_append k71 (w0 := w) w.heap.size rfl (.tmp 48) (.tmp 54) 22 71 (.agg #[(.int .i64 0), (.int .i64 0)]) 16 rfl Try.underlying22 info71 rfl (by decide) (by omega) u4 x4_1 (⟨rd l0 x5_1, 1⟩ : S71) [.int .i64 (rd l0 x5_1), .int .i64 1] (fun _ => True) (fun _ => False) rfl rfl ?aP (fun _ hk => hk.elim) ?aF ?aO ?aB ?aS ?aL ?_; (case aP => exact k71_mkM _ _ _ (⟨rd l0 x5_1, 1⟩ : S71)); (case aB => exact (by repeat (first | (with_reducible first | exact HB.out | apply below_alloc | apply pw_below_drewN | apply below_drew1) | exact HB.out))); (case aF => exact (fun _ _ => trivial)); (case aO => exact (by (with_reducible repeat (first | apply Kd.R_alloc | apply Kd.R_drewN | apply Kd.R_drew)); exact HO_4.out)); (case aS => exact (below_size (by repeat (first | (with_reducible first | exact HB.out | apply below_alloc | apply pw_below_drewN | apply below_drew1) | exact HB.out)))); (case aL => have := LMc20.out; omega); intro v357 w21 ho hb hg hat; rw [← Ny356.out] at ho; have n0_ := Aside0.mk (hb); have n1_ := Aside0.mk (ho); clear HB; clear HO_4; have HB := n0_; have HO358 := n1_; clear n0_ n1_; clear ho hb hg hat)))
        go_roundg k1
        case measure => have := HK1.out; omega
        case rel => exact ⟨(y356), (wrap64 (x5_1 + 1)), (by first | rfl | (simp; done) | (simp [*]; done) | (refine congrArg (Value.int _) ?_; omega) | (refine congrArg Value.bool ?_; generalize ByteArray.toList _ = z_; cases z_ <;> rfl)), H', ⟨by have := HK1.out; omega⟩, ⟨by (with_reducible repeat (first | apply Kd.R_alloc | apply Kd.R_drewN | apply Kd.R_drew)); exact HO358.out⟩, ⟨by repeat (first | (with_reducible first | exact HB.out | apply below_alloc | apply pw_below_drewN | apply below_drew1) | exact HB.out)⟩⟩
       ·rw [if_neg c20] at H
        exact absurd H (by simp)
     ·replace c5 := Bool.eq_false_iff.mpr c5
      subst c5
      have H1 : (some (([] : List (S71)), 1)) = some (r1, r2) := by rw [if_neg (show ¬ (false = true) by decide)] at H; exact H
      clear H
      have H := H1
      clear H1
      simp only [Option.some.injEq, Prod.mk.injEq] at H
      obtain ⟨rfl, rfl⟩ := H
      have p345 : 0 ≤ (x5_1 : Int) := of_decide_eq_true (by first | (with_reducible assumption) | assumption)
      have q345 : x5_1 < (l0.length : Int) := of_decide_eq_true (by first | (with_reducible assumption) | assumption)
      obtain ⟨ad345, e345, hx345_0⟩ := Kd.at_int HR0.out x5_1 p345 q345
      cases e345
      replace hx345_0 := (HB.out.cell (World.block_lt_of_cell? w _ hx345_0)).trans hx345_0
      replace p345 := eq_true p345
      replace q345 := eq_true q345
      go_wp2_with (first | (go_at_call 75; (with_reducible refine (gudgeonref07_Point.calls (rd l0 x5_1) false _ A4.out).mono ?_); rintro e w' ⟨rfl, ⟨nd, rfl⟩⟩; (try first | exact ⟨rfl, _, World.drewN_drewN _ _ _⟩ | exact ⟨rfl, _, Eq.trans (World.drewN_drewN _ _ _) (congrArg (World.drewN _) (Nat.add_assoc _ _ _))⟩)))
      repeat (go_quiet (first | (go_at_call 75; (with_reducible refine (gudgeonref07_Point.calls (rd l0 x5_1) false _ A4.out).mono ?_); rintro e w' ⟨rfl, ⟨nd, rfl⟩⟩; (try first | exact ⟨rfl, _, World.drewN_drewN _ _ _⟩ | exact ⟨rfl, _, Eq.trans (World.drewN_drewN _ _ _) (congrArg (World.drewN _) (Nat.add_assoc _ _ _))⟩))); try go_wp2_with (first | (go_at_call 75; (with_reducible refine (gudgeonref07_Point.calls (rd l0 x5_1) false _ A4.out).mono ?_); rintro e w' ⟨rfl, ⟨nd, rfl⟩⟩; (try first | exact ⟨rfl, _, World.drewN_drewN _ _ _⟩ | exact ⟨rfl, _, Eq.trans (World.drewN_drewN _ _ _) (congrArg (World.drewN _) (Nat.add_assoc _ _ _))⟩))))
      go_ret2
      exact ⟨_, by first | rfl | (simp [errW_none, errW_some] <;> rfl) | (simp [*, errW_none, errW_some] <;> rfl), by first | exact Kd.R_nil _ _ _ _ _ | exact Kd.N_nil _ _ _ _ _ | exact Kd.V_nil _ _ _ _ _ | exact Kd.Q_nil _ _ _ _ _ | exact Kd.S_nil _ _ _ _ _, by repeat (first | (with_reducible first | exact HB.out | apply below_alloc | apply pw_below_drewN | apply below_drew1) | exact HB.out)⟩
    ·rw [if_neg c3] at H
     exact absurd H (by simp)
   ·rw [if_neg c2] at H
    have c2b0 : decide (x5_1 < (l0.length : Int)) = false := decide_eq_false c2
    clear c2
    by_cases c22 : (x4_1.length : Int) > 65536
    ·rw [if_pos c22] at H
     have c22b0 : decide (65536 < (x4_1.length : Int)) = true := decide_eq_true c22
     have c22b1 : decide (65536 < x4_1.length) = true := decide_eq_true (by omega)
     clear c22
     simp only [Option.some.injEq, Prod.mk.injEq] at H
     obtain ⟨rfl, rfl⟩ := H
     obtain ⟨Ao23, co23, eo23⟩ := Kd.R_slice HO_4.out
     subst eo23
     go_wp2
     repeat (go_quiet (fail); try go_wp2)
     go_ret2
     exact ⟨_, by first | rfl | (simp [errW_none, errW_some] <;> rfl) | (simp [*, errW_none, errW_some] <;> rfl), by first | exact Kd.R_nil _ _ _ _ _ | exact Kd.N_nil _ _ _ _ _ | exact Kd.V_nil _ _ _ _ _ | exact Kd.Q_nil _ _ _ _ _ | exact Kd.S_nil _ _ _ _ _, by repeat (first | (with_reducible first | exact HB.out | apply below_alloc | apply pw_below_drewN | apply below_drew1) | exact HB.out)⟩
    ·rw [if_neg c22] at H
     have c22b0 : decide (65536 < (x4_1.length : Int)) = false := decide_eq_false c22
     have c22b1 : decide (65536 < x4_1.length) = false := decide_eq_false (by omega)
     clear c22
     simp only [Option.some.injEq, Prod.mk.injEq] at H
     obtain ⟨rfl, rfl⟩ := H
     obtain ⟨Ao24, co24, eo24⟩ := Kd.R_slice HO_4.out
     subst eo24
     go_wp2
     repeat (go_quiet (fail); try go_wp2)
     go_ret2
     exact ⟨_, by first | rfl | (simp [errW_none, errW_some] <;> rfl) | (simp [*, errW_none, errW_some] <;> rfl), by (with_reducible repeat (first | apply Kd.R_alloc | apply Kd.R_drewN | apply Kd.R_drew)); exact HO_4.out, by repeat (first | (with_reducible first | exact HB.out | apply below_alloc | apply pw_below_drewN | apply below_drew1) | exact HB.out)⟩

/-! ### gudgeonref08_text: function 76 -/
def gudgeonref08_text.f (k : Nat) (l0 : List Int) : Option ((List (S71))) := (gudgeonref07_Runs.f k l0).bind fun bt359 => (some bt359.1)
set_option maxHeartbeats 8000000 in
set_option maxRecDepth 100000 in
theorem gudgeonref08_text.calls (k : Nat) (A0 : Option Addr) (c0 : Nat) (l0 : List Int) (r : List (S71)) (w : World) (hr0 : Kd.C (Kd.int .i64) w A0 l0.length l0) (hc0 : l0.length ≤ c0) (h : gudgeonref08_text.f k l0 = some r) :
  Calls Try.prog 76 #[.slice A0 l0.length c0] w fun e w' => ∃ v0_ : Value, e = .returned (v0_) ∧ Kd.R k71 71 w' w.heap.size (fun _ => True) v0_ r ∧ Below w.heap.size w w' := by
 have HR0 := Aside0.mk hr0
 have HC0 := Aside0.mk hc0
 clear hr0 hc0
 have HB := Aside0.mk (Below.refl w.heap.size w)
 have H : ((gudgeonref07_Runs.f k l0).bind fun bt359 => (some bt359.1)) = some r := h
 clear h
 replace H := Option.bind_eq_some_iff.mp H
 obtain ⟨⟨t359, t360⟩, A20, H⟩ := H
 replace H : (some t359) = some r := H
 have A2 := Aside0.mk A20
 clear A20
 obtain rfl := Option.some.inj H
 go_enter Try.func76, Try.ntmps76
 go_wp2_with (first | ((with_reducible refine gate_callee (f := 101) rfl ?_); refine goesL_ (some 7) rfl rfl Try.func101 (by kernel_rfl) rfl #[.slice A0 l0.length c0] rfl (by (try simp only [List.map_toArray, List.map_cons, List.map_nil]); first | done | rfl | (simp only [List.length_drop, List.length_take]; rfl)) ?_; (with_reducible refine (gudgeonref07_Runs.calls k _ _ l0 t359 t360 _ ?side1 ?side2 A2.out).mono ?_); (case side1 => repeat (first | exact HR0.out | (with_reducible refine Kd.C_alloc ?_ _) | (with_reducible refine Kd.C_drewN ?_ _) | (with_reducible refine Kd.C_drew ?_))); (case side2 => exact HC0.out); rintro e w3 ⟨v361, rfl, ho0, hb⟩; refine ⟨_, rfl, ?_⟩; have n0_ := Aside0.mk (Kd.R_lower ho0 (below_size (by repeat (first | (with_reducible first | exact HB.out | apply below_alloc | apply pw_below_drewN | apply below_drew1) | exact HB.out)))); have n1_ := Aside0.mk (below_step (by repeat (first | (with_reducible first | exact HB.out | apply below_alloc | apply pw_below_drewN | apply below_drew1) | exact HB.out)) hb); clear HB; have HO362 := n0_; have HB := n1_; clear n0_ n1_; (try clear hb); (try clear hb2); (try clear hk); (try clear hi); (try clear ho0)))
 go_ret
 exact ⟨_, by first | rfl | (simp [errW_none, errW_some] <;> rfl) | (simp [*, errW_none, errW_some] <;> rfl), by (with_reducible repeat (first | apply Kd.R_alloc | apply Kd.R_drewN | apply Kd.R_drew)); exact HO362.out, by repeat (first | (with_reducible first | exact HB.out | apply below_alloc | apply pw_below_drewN | apply below_drew1) | exact HB.out)⟩

end Go.Proofs.Ytbigeaknbhmniaa.PB
/- Written by a program of this session, wip/tools/patch_print.py, over the kit's print of the loaded functions. -/
namespace Go.Proofs.Ytbigeaknbhmniaa.H
end Go.Proofs.Ytbigeaknbhmniaa.H
namespace Go.Proofs.Ytbigeaknbhmniaa.PB
open Go.RowKit Go.Proofs.YtbigeaknbhmniaaW.PrintWords Go.Proofs.YtbigeaknbhmniaaW.PrintLast Go.Proofs.YtbigeaknbhmniaaW.PrintMore Go.Proofs.Ytbigeaknbhmniaa.H
attribute [local go_sem] max2_int min2_int max_two min_two max_three min_three max_four min_four   -- for this text's walks alone
attribute [local go_sem] box_twice
set_option linter.unusedVariables false
set_option linter.unusedSimpArgs false

/-! ### gudgeonref08_Len: function 41 -/
def gudgeonref08_Len.l0 : Nat → List (S71) → Int → Int → Option (Int)
 | 0, _, _, _ => none
 | k + 1, x0, x4, x5 => if x5 < (x0.length : Int) then (if 0 ≤ x5 then (gudgeonref08_Len.l0 k x0 (wrap64 (x4 + ((rd_T71 x0 x5).f1))) (wrap64 (x5 + 1))) else (none)) else (some x4)
def gudgeonref08_Len.f (k : Nat) (l0 : List (S71)) : Option (Int) := (gudgeonref08_May.f k l0).bind fun t287 => (if t287 = true then (gudgeonref08_Len.l0 k l0 0 0) else (some 0))
set_option maxHeartbeats 8000000 in
set_option maxRecDepth 100000 in
theorem gudgeonref08_Len.calls (k : Nat) (A0 : Option Addr) (c0 : Nat) (l0 : List (S71)) (r : Int) (w : World) (hr0 : Kd.C k71 w A0 l0.length l0) (hc0 : l0.length ≤ c0) (h : gudgeonref08_Len.f k l0 = some r) :
  Calls Try.prog 41 #[.slice A0 l0.length c0] w fun e w' => e = .returned (.int .i64 r) ∧ Drawn0 w w' := by
 have HR0 := Aside0.mk hr0
 have HC0 := Aside0.mk hc0
 clear hr0 hc0
 have H : ((gudgeonref08_May.f k l0).bind fun t287 => (if t287 = true then (gudgeonref08_Len.l0 k l0 0 0) else (some 0))) = some r := h
 clear h
 replace H := Option.bind_eq_some_iff.mp H
 obtain ⟨t287, A20, H⟩ := H
 replace H : (if t287 = true then (gudgeonref08_Len.l0 k l0 0 0) else (some 0)) = some r := H
 have A2 := Aside0.mk A20
 clear A20
 by_cases c3 : t287 = true
 ·subst c3
  have H1 : (gudgeonref08_Len.l0 k l0 0 0) = some r := by rw [if_pos rfl] at H; exact H
  clear H
  have H := H1
  clear H1
  have H' := Aside0.mk H
  clear H
  go_enter Try.func41, Try.ntmps41
  go_wp2_with (first | ((with_reducible refine gate_callee (f := 40) rfl ?_); refine goesL_ (some 7) rfl rfl Try.func40 (by kernel_rfl) rfl #[.slice A0 l0.length c0] rfl (by (try simp only [List.map_toArray, List.map_cons, List.map_nil]); first | done | rfl | (simp only [List.length_drop, List.length_take]; rfl)) ?_; (with_reducible refine (gudgeonref08_May.calls k _ _ l0 true _ ?side1 ?side2 A2.out).mono ?_); (case side1 => repeat (first | exact HR0.out | (with_reducible refine Kd.C_alloc ?_ _) | (with_reducible refine Kd.C_drewN ?_ _) | (with_reducible refine Kd.C_drew ?_))); (case side2 => exact HC0.out); rintro e w' ⟨rfl, ⟨nd, rfl⟩⟩; refine ⟨_, rfl, ?_⟩))
  go_loopg [4, 5] k (fun kq v4 v5 w' => ∃ (x4_1 : Int) (x5_1 : Int), v4 = .int .i64 x4_1 ∧ v5 = .int .i64 x5_1 ∧ Aside0 (gudgeonref08_Len.l0 kq l0 x4_1 x5_1 = some r) ∧ Aside0 (kq ≤ k) ∧ Drawn0 w w')
  case atStart => exact ⟨(0), (0), (by first | rfl | (simp; done) | (simp [*]; done) | (refine congrArg (Value.int _) ?_; omega) | (refine congrArg Value.bool ?_; generalize ByteArray.toList _ = z_; cases z_ <;> rfl)), (by first | rfl | (simp; done) | (simp [*]; done) | (refine congrArg (Value.int _) ?_; omega) | (refine congrArg Value.bool ?_; generalize ByteArray.toList _ = z_; cases z_ <;> rfl)), H', ⟨Nat.le_refl _⟩, by repeat (first | exact Drawn0.refl _ | apply Drawn0.step)⟩
  case round =>
   clear H'
   try clear p2
   try clear c3
   obtain ⟨x4_1, x5_1, rfl, rfl, HA, HK1, ⟨m1, rfl⟩⟩ := hrel
   cases gk with
   | zero => exact absurd HA.out (by simp [gudgeonref08_Len.l0])
   | succ k1 =>
    have H := HA.out
    clear HA
    simp only [gudgeonref08_Len.l0] at H
    by_cases c4 : x5_1 < (l0.length : Int)
    ·rw [if_pos c4] at H
     have c4b0 : decide (x5_1 < (l0.length : Int)) = true := decide_eq_true c4
     clear c4
     by_cases c5 : 0 ≤ x5_1
     ·rw [if_pos c5] at H
      have c5b0 : decide (0 ≤ x5_1) = true := decide_eq_true c5
      clear c5
      have H' := Aside0.mk H
      clear H
      have p288 : 0 ≤ (x5_1 : Int) := of_decide_eq_true (by first | (with_reducible assumption) | assumption)
      have q288 : x5_1 < (l0.length : Int) := of_decide_eq_true (by first | (with_reducible assumption) | assumption)
      obtain ⟨ad288, e288, hx288_0, hx288_1⟩ := at_T71 HR0.out x5_1 p288 q288
      cases e288
      replace p288 := eq_true p288
      replace q288 := eq_true q288
      go_wp2
      go_roundg k1
      case measure => have := HK1.out; omega
      case rel => exact ⟨(wrap64 (x4_1 + ((rd_T71 l0 x5_1).f1))), (wrap64 (x5_1 + 1)), (by first | rfl | (simp; done) | (simp [*]; done) | (refine congrArg (Value.int _) ?_; omega) | (refine congrArg Value.bool ?_; generalize ByteArray.toList _ = z_; cases z_ <;> rfl)), (by first | rfl | (simp; done) | (simp [*]; done) | (refine congrArg (Value.int _) ?_; omega) | (refine congrArg Value.bool ?_; generalize ByteArray.toList _ = z_; cases z_ <;> rfl)), H', ⟨by have := HK1.out; omega⟩, by repeat (first | exact Drawn0.refl _ | apply Drawn0.step)⟩
     ·rw [if_neg c5] at H
      exact absurd H (by simp)
    ·rw [if_neg c4] at H
     have c4b0 : decide (x5_1 < (l0.length : Int)) = false := decide_eq_false c4
     clear c4
     obtain rfl := Option.some.inj H
     go_wp2
     go_ret
     exact ⟨by first | rfl | (simp; done) | (simp [*]; done) | (refine congrArg (fun z_ => Ending.returned (Value.bool z_)) ?_; generalize ByteArray.toList _ = z_; cases z_ <;> rfl) | (refine congrArg (Value.int _) ?_; omega) | (refine congrArg Value.bool ?_; generalize ByteArray.toList _ = z_; cases z_ <;> rfl), by repeat (first | exact Drawn0.refl _ | apply Drawn0.step)⟩
 ·replace c3 := Bool.eq_false_iff.mpr c3
  subst c3
  have H1 : (some 0) = some r := by rw [if_neg (show ¬ (false = true) by decide)] at H; exact H
  clear H
  have H := H1
  clear H1
  obtain rfl := Option.some.inj H
  go_enter Try.func41, Try.ntmps41
  go_wp2_with (first | ((with_reducible refine gate_callee (f := 40) rfl ?_); refine goesL_ (some 7) rfl rfl Try.func40 (by kernel_rfl) rfl #[.slice A0 l0.length c0] rfl (by (try simp only [List.map_toArray, List.map_cons, List.map_nil]); first | done | rfl | (simp only [List.length_drop, List.length_take]; rfl)) ?_; (with_reducible refine (gudgeonref08_May.calls k _ _ l0 false _ ?side1 ?side2 A2.out).mono ?_); (case side1 => repeat (first | exact HR0.out | (with_reducible refine Kd.C_alloc ?_ _) | (with_reducible refine Kd.C_drewN ?_ _) | (with_reducible refine Kd.C_drew ?_))); (case side2 => exact HC0.out); rintro e w' ⟨rfl, ⟨nd, rfl⟩⟩; refine ⟨_, rfl, ?_⟩))
  go_ret
  exact ⟨by first | rfl | (simp; done) | (simp [*]; done) | (refine congrArg (fun z_ => Ending.returned (Value.bool z_)) ?_; generalize ByteArray.toList _ = z_; cases z_ <;> rfl) | (refine congrArg (Value.int _) ?_; omega) | (refine congrArg Value.bool ?_; generalize ByteArray.toList _ = z_; cases z_ <;> rfl), by repeat (first | exact Drawn0.refl _ | apply Drawn0.step)⟩

/-! ### gudgeonref17_Of: function 12 -/
/-! ### word_Put: function 13 -/
/-! ### gudgeonref17_May: function 43 -/
def gudgeonref17_May.l0 : Nat → List (S69) → Int → Option (Bool)
 | 0, _, _ => none
 | k + 1, x0, x3 => if x3 < (x0.length : Int) then (if 0 ≤ x3 then ((gudgeonref07_Point.f ((rd_T69 x0 x3).f1)).bind fun t307 => (if ((rd_T69 x0 x3).f0) < (-1) then (some false) else (if ((rd_T69 x0 x3).f0) = (-1) then (if t307 = true then (gudgeonref17_May.l0 k x0 (wrap64 (x3 + 1))) else (some false)) else (gudgeonref17_May.l0 k x0 (wrap64 (x3 + 1)))))) else (none)) else (some (decide ((x0.length : Int) ≤ 4000)))
def gudgeonref17_May.f (k : Nat) (l0 : List (S69)) : Option (Bool) := gudgeonref17_May.l0 k l0 0
set_option maxHeartbeats 8000000 in
set_option maxRecDepth 100000 in
theorem gudgeonref17_May.calls (k : Nat) (A0 : Option Addr) (c0 : Nat) (l0 : List (S69)) (r : Bool) (w : World) (hr0 : Kd.C k69 w A0 l0.length l0) (hc0 : l0.length ≤ c0) (h : gudgeonref17_May.f k l0 = some r) :
  Calls Try.prog 43 #[.slice A0 l0.length c0] w fun e w' => e = .returned (.bool r) ∧ Drawn0 w w' := by
 have HR0 := Aside0.mk hr0
 have HC0 := Aside0.mk hc0
 clear hr0 hc0
 have H : (gudgeonref17_May.l0 k l0 0) = some r := h
 clear h
 have H' := Aside0.mk H
 clear H
 go_enter Try.func43, Try.ntmps43
 go_wp2
 go_loopg [3] k (fun kq v3 w' => ∃ (x3_1 : Int), v3 = .int .i64 x3_1 ∧ Aside0 (gudgeonref17_May.l0 kq l0 x3_1 = some r) ∧ Aside0 (kq ≤ k) ∧ Drawn0 w w')
 case atStart => exact ⟨(0), (by first | rfl | (simp; done) | (simp [*]; done) | (refine congrArg (Value.int _) ?_; omega) | (refine congrArg Value.bool ?_; generalize ByteArray.toList _ = z_; cases z_ <;> rfl)), H', ⟨Nat.le_refl _⟩, by repeat (first | exact Drawn0.refl _ | apply Drawn0.step)⟩
 case round =>
  clear H'
  obtain ⟨x3_1, rfl, HA, HK1, ⟨m1, rfl⟩⟩ := hrel
  cases gk with
  | zero => exact absurd HA.out (by simp [gudgeonref17_May.l0])
  | succ k1 =>
   have H := HA.out
   clear HA
   simp only [gudgeonref17_May.l0] at H
   by_cases c2 : x3_1 < (l0.length : Int)
   ·rw [if_pos c2] at H
    have c2b0 : decide (x3_1 < (l0.length : Int)) = true := decide_eq_true c2
    clear c2
    by_cases c3 : 0 ≤ x3_1
    ·rw [if_pos c3] at H
     have c3b0 : decide (0 ≤ x3_1) = true := decide_eq_true c3
     clear c3
     replace H := Option.bind_eq_some_iff.mp H
     obtain ⟨t307, A40, H⟩ := H
     replace H : (if ((rd_T69 l0 x3_1).f0) < (-1) then (some false) else (if ((rd_T69 l0 x3_1).f0) = (-1) then (if t307 = true then (gudgeonref17_May.l0 k1 l0 (wrap64 (x3_1 + 1))) else (some false)) else (gudgeonref17_May.l0 k1 l0 (wrap64 (x3_1 + 1))))) = some r := H
     have A4 := Aside0.mk A40
     clear A40
     by_cases c5 : ((rd_T69 l0 x3_1).f0) < (-1)
     ·rw [if_pos c5] at H
      have c5b0 : decide (((rd_T69 l0 x3_1).f0) < (-1)) = true := decide_eq_true c5
      clear c5
      obtain rfl := Option.some.inj H
      have p306 : 0 ≤ (x3_1 : Int) := of_decide_eq_true (by first | (with_reducible assumption) | assumption)
      have q306 : x3_1 < (l0.length : Int) := of_decide_eq_true (by first | (with_reducible assumption) | assumption)
      obtain ⟨ad306, e306, hx306_0, hx306_1⟩ := at_T69 HR0.out x3_1 p306 q306
      cases e306
      replace p306 := eq_true p306
      replace q306 := eq_true q306
      go_wp2_with (first | ((with_reducible refine gate_callee (f := 75) rfl ?_); refine goesL_ (some 16) rfl rfl Try.func75 (by kernel_rfl) rfl #[.int .i64 ((rd_T69 l0 x3_1).f1)] rfl (by (try simp only [List.map_toArray, List.map_cons, List.map_nil]); first | done | rfl | (simp only [List.length_drop, List.length_take]; rfl)) ?_; (with_reducible refine (gudgeonref07_Point.calls ((rd_T69 l0 x3_1).f1) t307 _ A4.out).mono ?_); rintro e w' ⟨rfl, ⟨nd, rfl⟩⟩; refine ⟨_, rfl, ?_⟩; have p308 : 0 ≤ (x3_1 : Int) := of_decide_eq_true (by first | (with_reducible assumption) | assumption); have q308 : x3_1 < (l0.length : Int) := of_decide_eq_true (by first | (with_reducible assumption) | assumption); obtain ⟨ad308, e308, hx308_0, hx308_1⟩ := at_T69 HR0.out x3_1 p308 q308; obtain rfl : ad306 = ad308 := (by injection e308); replace p308 := eq_true p308; replace q308 := eq_true q308))
      go_ret
      exact ⟨by first | rfl | (simp; done) | (simp [*]; done) | (refine congrArg (fun z_ => Ending.returned (Value.bool z_)) ?_; generalize ByteArray.toList _ = z_; cases z_ <;> rfl) | (refine congrArg (Value.int _) ?_; omega) | (refine congrArg Value.bool ?_; generalize ByteArray.toList _ = z_; cases z_ <;> rfl), by repeat (first | exact Drawn0.refl _ | apply Drawn0.step)⟩
     ·rw [if_neg c5] at H
      have c5b0 : decide (((rd_T69 l0 x3_1).f0) < (-1)) = false := decide_eq_false c5
      clear c5
      by_cases c6 : ((rd_T69 l0 x3_1).f0) = (-1)
      ·rw [if_pos c6] at H
       have c6b0 : (((rd_T69 l0 x3_1).f0) == (-1)) = true := beq_iff_eq.mpr c6
       have c6b1 : (((rd_T69 l0 x3_1).f0) != (-1)) = false := bne_eq_false_iff_eq.mpr c6
       clear c6
       by_cases c7 : t307 = true
       ·subst c7
        have H1 : (gudgeonref17_May.l0 k1 l0 (wrap64 (x3_1 + 1))) = some r := by rw [if_pos rfl] at H; exact H
        clear H
        have H := H1
        clear H1
        have H' := Aside0.mk H
        clear H
        have p306 : 0 ≤ (x3_1 : Int) := of_decide_eq_true (by first | (with_reducible assumption) | assumption)
        have q306 : x3_1 < (l0.length : Int) := of_decide_eq_true (by first | (with_reducible assumption) | assumption)
        obtain ⟨ad306, e306, hx306_0, hx306_1⟩ := at_T69 HR0.out x3_1 p306 q306
        cases e306
        replace p306 := eq_true p306
        replace q306 := eq_true q306
        go_wp2_with (first | ((with_reducible refine gate_callee (f := 75) rfl ?_); refine goesL_ (some 16) rfl rfl Try.func75 (by kernel_rfl) rfl #[.int .i64 ((rd_T69 l0 x3_1).f1)] rfl (by (try simp only [List.map_toArray, List.map_cons, List.map_nil]); first | done | rfl | (simp only [List.length_drop, List.length_take]; rfl)) ?_; (with_reducible refine (gudgeonref07_Point.calls ((rd_T69 l0 x3_1).f1) true _ A4.out).mono ?_); rintro e w' ⟨rfl, ⟨nd, rfl⟩⟩; refine ⟨_, rfl, ?_⟩; have p308 : 0 ≤ (x3_1 : Int) := of_decide_eq_true (by first | (with_reducible assumption) | assumption); have q308 : x3_1 < (l0.length : Int) := of_decide_eq_true (by first | (with_reducible assumption) | assumption); obtain ⟨ad308, e308, hx308_0, hx308_1⟩ := at_T69 HR0.out x3_1 p308 q308; obtain rfl : ad306 = ad308 := (by injection e308); replace p308 := eq_true p308; replace q308 := eq_true q308; have p309 : 0 ≤ (x3_1 : Int) := of_decide_eq_true (by first | (with_reducible assumption) | assumption); have q309 : x3_1 < (l0.length : Int) := of_decide_eq_true (by first | (with_reducible assumption) | assumption); obtain ⟨ad309, e309, hx309_0, hx309_1⟩ := at_T69 HR0.out x3_1 p309 q309; obtain rfl : ad306 = ad309 := (by injection e309); replace p309 := eq_true p309; replace q309 := eq_true q309))
        go_roundg k1
        case measure => have := HK1.out; omega
        case rel => exact ⟨(wrap64 (x3_1 + 1)), (by first | rfl | (simp; done) | (simp [*]; done) | (refine congrArg (Value.int _) ?_; omega) | (refine congrArg Value.bool ?_; generalize ByteArray.toList _ = z_; cases z_ <;> rfl)), H', ⟨by have := HK1.out; omega⟩, by repeat (first | exact Drawn0.refl _ | apply Drawn0.step)⟩
       ·replace c7 := Bool.eq_false_iff.mpr c7
        subst c7
        have H1 : (some false) = some r := by rw [if_neg (show ¬ (false = true) by decide)] at H; exact H
        clear H
        have H := H1
        clear H1
        obtain rfl := Option.some.inj H
        have p306 : 0 ≤ (x3_1 : Int) := of_decide_eq_true (by first | (with_reducible assumption) | assumption)
        have q306 : x3_1 < (l0.length : Int) := of_decide_eq_true (by first | (with_reducible assumption) | assumption)
        obtain ⟨ad306, e306, hx306_0, hx306_1⟩ := at_T69 HR0.out x3_1 p306 q306
        cases e306
        replace p306 := eq_true p306
        replace q306 := eq_true q306
        go_wp2_with (first | ((with_reducible refine gate_callee (f := 75) rfl ?_); refine goesL_ (some 16) rfl rfl Try.func75 (by kernel_rfl) rfl #[.int .i64 ((rd_T69 l0 x3_1).f1)] rfl (by (try simp only [List.map_toArray, List.map_cons, List.map_nil]); first | done | rfl | (simp only [List.length_drop, List.length_take]; rfl)) ?_; (with_reducible refine (gudgeonref07_Point.calls ((rd_T69 l0 x3_1).f1) false _ A4.out).mono ?_); rintro e w' ⟨rfl, ⟨nd, rfl⟩⟩; refine ⟨_, rfl, ?_⟩; have p308 : 0 ≤ (x3_1 : Int) := of_decide_eq_true (by first | (with_reducible assumption) | assumption); have q308 : x3_1 < (l0.length : Int) := of_decide_eq_true (by first | (with_reducible assumption) | assumption); obtain ⟨ad308, e308, hx308_0, hx308_1⟩ := at_T69 HR0.out x3_1 p308 q308; obtain rfl : ad306 = ad308 := (by injection e308); replace p308 := eq_true p308; replace q308 := eq_true q308; have p309 : 0 ≤ (x3_1 : Int) := of_decide_eq_true (by first | (with_reducible assumption) | assumption); have q309 : x3_1 < (l0.length : Int) := of_decide_eq_true (by first | (with_reducible assumption) | assumption); obtain ⟨ad309, e309, hx309_0, hx309_1⟩ := at_T69 HR0.out x3_1 p309 q309; obtain rfl : ad306 = ad309 := (by injection e309); replace p309 := eq_true p309; replace q309 := eq_true q309))
        go_ret
        exact ⟨by first | rfl | (simp; done) | (simp [*]; done) | (refine congrArg (fun z_ => Ending.returned (Value.bool z_)) ?_; generalize ByteArray.toList _ = z_; cases z_ <;> rfl) | (refine congrArg (Value.int _) ?_; omega) | (refine congrArg Value.bool ?_; generalize ByteArray.toList _ = z_; cases z_ <;> rfl), by repeat (first | exact Drawn0.refl _ | apply Drawn0.step)⟩
      ·rw [if_neg c6] at H
       have c6b0 : (((rd_T69 l0 x3_1).f0) == (-1)) = false := beq_eq_false_iff_ne.mpr c6
       have c6b1 : (((rd_T69 l0 x3_1).f0) != (-1)) = true := bne_iff_ne.mpr c6
       have H' := Aside0.mk H
       clear H
       have p306 : 0 ≤ (x3_1 : Int) := of_decide_eq_true (by first | (with_reducible assumption) | assumption)
       have q306 : x3_1 < (l0.length : Int) := of_decide_eq_true (by first | (with_reducible assumption) | assumption)
       obtain ⟨ad306, e306, hx306_0, hx306_1⟩ := at_T69 HR0.out x3_1 p306 q306
       cases e306
       replace p306 := eq_true p306
       replace q306 := eq_true q306
       go_wp2_with (first | ((with_reducible refine gate_callee (f := 75) rfl ?_); refine goesL_ (some 16) rfl rfl Try.func75 (by kernel_rfl) rfl #[.int .i64 ((rd_T69 l0 x3_1).f1)] rfl (by (try simp only [List.map_toArray, List.map_cons, List.map_nil]); first | done | rfl | (simp only [List.length_drop, List.length_take]; rfl)) ?_; (with_reducible refine (gudgeonref07_Point.calls ((rd_T69 l0 x3_1).f1) t307 _ A4.out).mono ?_); rintro e w' ⟨rfl, ⟨nd, rfl⟩⟩; refine ⟨_, rfl, ?_⟩; have p308 : 0 ≤ (x3_1 : Int) := of_decide_eq_true (by first | (with_reducible assumption) | assumption); have q308 : x3_1 < (l0.length : Int) := of_decide_eq_true (by first | (with_reducible assumption) | assumption); obtain ⟨ad308, e308, hx308_0, hx308_1⟩ := at_T69 HR0.out x3_1 p308 q308; obtain rfl : ad306 = ad308 := (by injection e308); replace p308 := eq_true p308; replace q308 := eq_true q308; have p309 : 0 ≤ (x3_1 : Int) := of_decide_eq_true (by first | (with_reducible assumption) | assumption); have q309 : x3_1 < (l0.length : Int) := of_decide_eq_true (by first | (with_reducible assumption) | assumption); obtain ⟨ad309, e309, hx309_0, hx309_1⟩ := at_T69 HR0.out x3_1 p309 q309; obtain rfl : ad306 = ad309 := (by injection e309); replace p309 := eq_true p309; replace q309 := eq_true q309))
       go_roundg k1
       case measure => have := HK1.out; omega
       case rel => exact ⟨(wrap64 (x3_1 + 1)), (by first | rfl | (simp; done) | (simp [*]; done) | (refine congrArg (Value.int _) ?_; omega) | (refine congrArg Value.bool ?_; generalize ByteArray.toList _ = z_; cases z_ <;> rfl)), H', ⟨by have := HK1.out; omega⟩, by repeat (first | exact Drawn0.refl _ | apply Drawn0.step)⟩
    ·rw [if_neg c3] at H
     exact absurd H (by simp)
   ·rw [if_neg c2] at H
    have c2b0 : decide (x3_1 < (l0.length : Int)) = false := decide_eq_false c2
    clear c2
    obtain rfl := Option.some.inj H
    go_wp2
    go_ret
    exact ⟨by first | rfl | (simp; done) | (simp [*]; done) | (refine congrArg (fun z_ => Ending.returned (Value.bool z_)) ?_; generalize ByteArray.toList _ = z_; cases z_ <;> rfl) | (refine congrArg (Value.int _) ?_; omega) | (refine congrArg Value.bool ?_; generalize ByteArray.toList _ = z_; cases z_ <;> rfl), by repeat (first | exact Drawn0.refl _ | apply Drawn0.step)⟩

end Go.Proofs.Ytbigeaknbhmniaa.PB
/- Written by a program of this session, wip/tools/patch_print.py, over the kit's print of the loaded functions. -/
namespace Go.Proofs.Ytbigeaknbhmniaa.H
end Go.Proofs.Ytbigeaknbhmniaa.H
namespace Go.Proofs.Ytbigeaknbhmniaa.PB
open Go.RowKit Go.Proofs.YtbigeaknbhmniaaW.PrintWords Go.Proofs.YtbigeaknbhmniaaW.PrintLast Go.Proofs.YtbigeaknbhmniaaW.PrintMore Go.Proofs.Ytbigeaknbhmniaa.H
attribute [local go_sem] max2_int min2_int max_two min_two max_three min_three max_four min_four   -- for this text's walks alone
set_option linter.unusedVariables false
set_option linter.unusedSimpArgs false

/-! ### gudgeonref08_points: function 77 -/
mutual
def gudgeonref08_points.l0 : Nat → List (S71) → List Int → Int → Option (List Int)
 | 0, _, _, _ => none
 | k + 1, x0, x3, x4 => if x4 < (x0.length : Int) then (gudgeonref08_points.l1 k x0 x3 x4 0) else (some x3)
def gudgeonref08_points.l1 : Nat → List (S71) → List Int → Int → Int → Option (List Int)
 | 0, _, _, _, _ => none
 | k + 1, x0, x3, x4, x5 => if 0 ≤ x4 then (if x4 < (x0.length : Int) then (if x5 < ((rd_T71 x0 x4).f1) then (if x3.length < 17592186044416 then (gudgeonref08_points.l1 k x0 (x3 ++ [(rd_T71 x0 x4).f0]) x4 (wrap64 (x5 + 1))) else (none)) else (gudgeonref08_points.l0 k x0 x3 (wrap64 (x4 + 1)))) else (none)) else (none)
end
def gudgeonref08_points.f (k : Nat) (l0 : List (S71)) : Option (List Int) := gudgeonref08_points.l0 k l0 ([] : List Int) 0
set_option maxHeartbeats 8000000 in
set_option maxRecDepth 100000 in
theorem gudgeonref08_points.calls (k : Nat) (A0 : Option Addr) (c0 : Nat) (l0 : List (S71)) (r : List Int) (w : World) (hr0 : Kd.C k71 w A0 l0.length l0) (hc0 : l0.length ≤ c0) (h : gudgeonref08_points.f k l0 = some r) :
  Calls Try.prog 77 #[.slice A0 l0.length c0] w fun e w' => ∃ v0_ : Value, e = .returned (v0_) ∧ Kd.R (Kd.int .i64) 3 w' w.heap.size (fun _ => True) v0_ r ∧ Below w.heap.size w w' := by
 have HR0 := Aside0.mk hr0
 have HC0 := Aside0.mk hc0
 clear hr0 hc0
 have HB := Aside0.mk (Below.refl w.heap.size w)
 have H : (gudgeonref08_points.l0 k l0 ([] : List Int) 0) = some r := h
 clear h
 have H' := Aside0.mk H
 clear H
 go_enter Try.func77, Try.ntmps77
 go_wp2
 go_loopg [3, 4] k (fun kq v3 v4 w' => ∃ (x3_1 : List Int) (x4_1 : Int), v4 = .int .i64 x4_1 ∧ Aside0 (gudgeonref08_points.l0 kq l0 x3_1 x4_1 = some r) ∧ Aside0 (kq ≤ k) ∧ Aside0 (Kd.R (Kd.int .i64) 3 w' w.heap.size (fun _ => True) v3 x3_1) ∧ Aside0 (Below w.heap.size w w'))
 case atStart => exact ⟨(([] : List Int)), (0), (by first | rfl | (simp; done) | (simp [*]; done) | (refine congrArg (Value.int _) ?_; omega) | (refine congrArg Value.bool ?_; generalize ByteArray.toList _ = z_; cases z_ <;> rfl)), H', ⟨Nat.le_refl _⟩, ⟨by first | exact Kd.R_nil _ _ _ _ _ | exact Kd.N_nil _ _ _ _ _ | exact Kd.V_nil _ _ _ _ _ | exact Kd.Q_nil _ _ _ _ _ | exact Kd.S_nil _ _ _ _ _⟩, ⟨by repeat (first | (with_reducible first | exact HB.out | apply below_alloc | apply pw_below_drewN | apply below_drew1) | exact HB.out)⟩⟩
 case round =>
  clear H'
  obtain ⟨x3_1, x4_1, rfl, HA, HK1, HO_3, HB⟩ := hrel
  cases gk with
  | zero => exact absurd HA.out (by simp [gudgeonref08_points.l0])
  | succ k1 =>
   have H := HA.out
   clear HA
   simp only [gudgeonref08_points.l0] at H
   by_cases c2 : x4_1 < (l0.length : Int)
   ·rw [if_pos c2] at H
    have c2b0 : decide (x4_1 < (l0.length : Int)) = true := decide_eq_true c2
    clear c2
    have H' := Aside0.mk H
    clear H
    go_wp2
    go_loopg [3, 5] k1 (fun kq v3 v5 w' => ∃ (x3_2 : List Int) (x5_2 : Int), v5 = .int .i64 x5_2 ∧ Aside0 (gudgeonref08_points.l1 kq l0 x3_2 x4_1 x5_2 = some r) ∧ Aside0 (kq ≤ k1) ∧ Aside0 (Kd.R (Kd.int .i64) 3 w' w.heap.size (fun _ => True) v3 x3_2) ∧ Aside0 (Below w.heap.size w w'))
    case atStart => exact ⟨(x3_1), (0), (by first | rfl | (simp; done) | (simp [*]; done) | (refine congrArg (Value.int _) ?_; omega) | (refine congrArg Value.bool ?_; generalize ByteArray.toList _ = z_; cases z_ <;> rfl)), H', ⟨Nat.le_refl _⟩, ⟨by (with_reducible repeat (first | apply Kd.R_alloc | apply Kd.R_drewN | apply Kd.R_drew)); exact HO_3.out⟩, ⟨by repeat (first | (with_reducible first | exact HB.out | apply below_alloc | apply pw_below_drewN | apply below_drew1) | exact HB.out)⟩⟩
    case round =>
     clear H'
     try clear c2
     try clear c2b0
     try clear p2
     obtain ⟨x3_2, x5_2, rfl, HA, HK2, HO_3, HB⟩ := hrel
     cases gk with
     | zero => exact absurd HA.out (by simp [gudgeonref08_points.l1])
     | succ k2 =>
      have H := HA.out
      clear HA
      simp only [gudgeonref08_points.l1] at H
      by_cases c3 : 0 ≤ x4_1
      ·rw [if_pos c3] at H
       have c3b0 : decide (0 ≤ x4_1) = true := decide_eq_true c3
       clear c3
       by_cases c4 : x4_1 < (l0.length : Int)
       ·rw [if_pos c4] at H
        have c4b0 : decide (x4_1 < (l0.length : Int)) = true := decide_eq_true c4
        clear c4
        by_cases c5 : x5_2 < ((rd_T71 l0 x4_1).f1)
        ·rw [if_pos c5] at H
         have c5b0 : decide (x5_2 < ((rd_T71 l0 x4_1).f1)) = true := decide_eq_true c5
         clear c5
         by_cases c6 : x3_2.length < 17592186044416
         ·rw [if_pos c6] at H
          have LMc6 := Aside0.mk c6
          clear c6
          obtain ⟨y365, hy365⟩ : ∃ y_ : List Int, y_ = (x3_2 ++ [(rd_T71 l0 x4_1).f0]) := ⟨_, rfl⟩
          replace H : (gudgeonref08_points.l1 k2 l0 y365 x4_1 (wrap64 (x5_2 + 1))) = some r := by first | (rw [hy365]; with_reducible exact H) | (have H2_ := (Option.bind_some _ _).symm.trans H; rw [hy365]; with_reducible exact H2_) | (have H2_ := (Option.bind_some _ _).symm.trans H; with_reducible exact H2_) | with_reducible exact H | (rw [hy365]; exact H) | exact H
          have Ny365 := Aside0.mk hy365
          clear hy365
          have H' := Aside0.mk H
          clear H
          have p363 : 0 ≤ (x4_1 : Int) := of_decide_eq_true (by first | (with_reducible assumption) | assumption)
          have q363 : x4_1 < (l0.length : Int) := of_decide_eq_true (by first | (with_reducible assumption) | assumption)
          obtain ⟨ad363, e363, hx363_0, hx363_1⟩ := at_T71 HR0.out x4_1 p363 q363
          cases e363
          replace hx363_0 := (HB.out.cell (World.block_lt_of_cell? w _ hx363_0)).trans hx363_0
          replace hx363_1 := (HB.out.cell (World.block_lt_of_cell? w _ hx363_1)).trans hx363_1
          replace p363 := eq_true p363
          replace q363 := eq_true q363
          have p364 : 0 ≤ (x4_1 : Int) := of_decide_eq_true (by first | (with_reducible assumption) | assumption)
          have q364 : x4_1 < (l0.length : Int) := of_decide_eq_true (by first | (with_reducible assumption) | assumption)
          obtain ⟨ad364, e364, hx364_0, hx364_1⟩ := at_T71 HR0.out x4_1 p364 q364
          obtain rfl : ad363 = ad364 := (by injection e364)
          replace hx364_0 := (HB.out.cell (World.block_lt_of_cell? w _ hx364_0)).trans hx364_0
          replace hx364_1 := (HB.out.cell (World.block_lt_of_cell? w _ hx364_1)).trans hx364_1
          replace p364 := eq_true p364
          replace q364 := eq_true q364
          go_wp2_with (first | ((with_reducible refine gate_builtin (b := .append) (xs := #[.tmp 21, .tmp 27]) rfl ?_); at_builtin; refine Kd.R_append (Kd.int .i64) (w0 := w) w.heap.size rfl (.tmp 21) (.tmp 27) 39 3 (.int .i64 0) 8 rfl Try.underlying39 info3 rfl (by decide) (by omega) u3 x3_2 ((rd_T71 l0 x4_1).f0) [.int .i64 ((rd_T71 l0 x4_1).f0)] (fun _ => True) (fun _ => False) rfl rfl ?aP (fun _ hk => hk.elim) ?aF ?aO ?aB ?aS ?aL ?_; (case aP => exact rfl); (case aB => exact (by repeat (first | (with_reducible first | exact HB.out | apply below_alloc | apply pw_below_drewN | apply below_drew1) | exact HB.out))); (case aF => exact (fun _ _ => trivial)); (case aO => exact (by (with_reducible repeat (first | apply Kd.R_alloc | apply Kd.R_drewN | apply Kd.R_drew)); exact HO_3.out)); (case aS => exact (below_size (by repeat (first | (with_reducible first | exact HB.out | apply below_alloc | apply pw_below_drewN | apply below_drew1) | exact HB.out)))); (case aL => have := LMc6.out; omega); intro v366 w7 ho hb hg hat; rw [← Ny365.out] at ho; have n0_ := Aside0.mk (hb); have n1_ := Aside0.mk (ho); clear HB; clear HO_3; have HB := n0_; have HO367 := n1_; clear n0_ n1_; clear ho hb hg hat))
          go_roundg k2
          case measure => have := HK1.out; have := HK2.out; omega
          case rel => exact ⟨(y365), (wrap64 (x5_2 + 1)), (by first | rfl | (simp; done) | (simp [*]; done) | (refine congrArg (Value.int _) ?_; omega) | (refine congrArg Value.bool ?_; generalize ByteArray.toList _ = z_; cases z_ <;> rfl)), H', ⟨by have := HK1.out; have := HK2.out; omega⟩, ⟨by (with_reducible repeat (first | apply Kd.R_alloc | apply Kd.R_drewN | apply Kd.R_drew)); exact HO367.out⟩, ⟨by repeat (first | (with_reducible first | exact HB.out | apply below_alloc | apply pw_below_drewN | apply below_drew1) | exact HB.out)⟩⟩
         ·rw [if_neg c6] at H
          exact absurd H (by simp)
        ·rw [if_neg c5] at H
         have c5b0 : decide (x5_2 < ((rd_T71 l0 x4_1).f1)) = false := decide_eq_false c5
         clear c5
         have H' := Aside0.mk H
         clear H
         have p363 : 0 ≤ (x4_1 : Int) := of_decide_eq_true (by first | (with_reducible assumption) | assumption)
         have q363 : x4_1 < (l0.length : Int) := of_decide_eq_true (by first | (with_reducible assumption) | assumption)
         obtain ⟨ad363, e363, hx363_0, hx363_1⟩ := at_T71 HR0.out x4_1 p363 q363
         cases e363
         replace hx363_0 := (HB.out.cell (World.block_lt_of_cell? w _ hx363_0)).trans hx363_0
         replace hx363_1 := (HB.out.cell (World.block_lt_of_cell? w _ hx363_1)).trans hx363_1
         replace p363 := eq_true p363
         replace q363 := eq_true q363
         go_wp2
         go_roundg k2
         case measure => have := HK1.out; have := HK2.out; omega
         case rel => exact ⟨(x3_2), (wrap64 (x4_1 + 1)), (by first | rfl | (simp; done) | (simp [*]; done) | (refine congrArg (Value.int _) ?_; omega) | (refine congrArg Value.bool ?_; generalize ByteArray.toList _ = z_; cases z_ <;> rfl)), H', ⟨by have := HK1.out; have := HK2.out; omega⟩, ⟨by (with_reducible repeat (first | apply Kd.R_alloc | apply Kd.R_drewN | apply Kd.R_drew)); exact HO_3.out⟩, ⟨by repeat (first | (with_reducible first | exact HB.out | apply below_alloc | apply pw_below_drewN | apply below_drew1) | exact HB.out)⟩⟩
       ·rw [if_neg c4] at H
        exact absurd H (by simp)
      ·rw [if_neg c3] at H
       exact absurd H (by simp)
   ·rw [if_neg c2] at H
    have c2b0 : decide (x4_1 < (l0.length : Int)) = false := decide_eq_false c2
    clear c2
    obtain rfl := Option.some.inj H
    go_wp2
    go_ret
    exact ⟨_, by first | rfl | (simp [errW_none, errW_some] <;> rfl) | (simp [*, errW_none, errW_some] <;> rfl), by (with_reducible repeat (first | apply Kd.R_alloc | apply Kd.R_drewN | apply Kd.R_drew)); exact HO_3.out, by repeat (first | (with_reducible first | exact HB.out | apply below_alloc | apply pw_below_drewN | apply below_drew1) | exact HB.out)⟩

/-! ### gudgeonref08_Concat: function 46 -/
def gudgeonref08_Concat.j0 : Nat → List (S71) → List (S71) → Bool → Option ((List (S71)) × Int)
 | 0, _, _, _ => none
 | k + 1, x0, x1, x17 => if x17 = true then (some (([] : List (S71)), 1)) else ((gudgeonref08_points.f k x0).bind fun t370 => ((gudgeonref08_points.f k x1).bind fun t373 => (if t370.length + t373.length < 17592186044416 then ((gudgeonref08_text.f k (t370 ++ t373)).bind fun t379 => (some (t379, 0))) else (none))))
def gudgeonref08_Concat.f (k : Nat) (l0 : List (S71)) (l1 : List (S71)) : Option ((List (S71)) × Int) := (gudgeonref08_May.f k l0).bind fun t368 => ((gudgeonref08_May.f k l1).bind fun t369 => (if t368 = true then (gudgeonref08_Concat.j0 k l0 l1 (!t369)) else (gudgeonref08_Concat.j0 k l0 l1 true)))
set_option maxHeartbeats 8000000 in
set_option maxRecDepth 100000 in
theorem gudgeonref08_Concat.calls (k : Nat) (A0 : Option Addr) (c0 : Nat) (l0 : List (S71)) (A1 : Option Addr) (c1 : Nat) (l1 : List (S71)) (r1 : List (S71)) (r2 : Int) (w : World) (hr0 : Kd.C k71 w A0 l0.length l0) (hc0 : l0.length ≤ c0) (hr1 : Kd.C k71 w A1 l1.length l1) (hc1 : l1.length ≤ c1) (h : gudgeonref08_Concat.f k l0 l1 = some (r1, r2)) :
  Calls Try.prog 46 #[.slice A0 l0.length c0, .slice A1 l1.length c1] w fun e w' => ∃ v0_ : Value, e = .returned (.tuple #[v0_, .int .i64 r2]) ∧ Kd.R k71 71 w' w.heap.size (fun _ => True) v0_ r1 ∧ Below w.heap.size w w' := by
 have HR0 := Aside0.mk hr0
 have HC0 := Aside0.mk hc0
 clear hr0 hc0
 have HR1 := Aside0.mk hr1
 have HC1 := Aside0.mk hc1
 clear hr1 hc1
 have HB := Aside0.mk (Below.refl w.heap.size w)
 have H : ((gudgeonref08_May.f k l0).bind fun t368 => ((gudgeonref08_May.f k l1).bind fun t369 => (if t368 = true then (gudgeonref08_Concat.j0 k l0 l1 (!t369)) else (gudgeonref08_Concat.j0 k l0 l1 true)))) = some (r1, r2) := h
 clear h
 replace H := Option.bind_eq_some_iff.mp H
 obtain ⟨t368, A30, H⟩ := H
 replace H : ((gudgeonref08_May.f k l1).bind fun t369 => (if t368 = true then (gudgeonref08_Concat.j0 k l0 l1 (!t369)) else (gudgeonref08_Concat.j0 k l0 l1 true))) = some (r1, r2) := H
 have A3 := Aside0.mk A30
 clear A30
 replace H := Option.bind_eq_some_iff.mp H
 obtain ⟨t369, A40, H⟩ := H
 replace H : (if t368 = true then (gudgeonref08_Concat.j0 k l0 l1 (!t369)) else (gudgeonref08_Concat.j0 k l0 l1 true)) = some (r1, r2) := H
 have A4 := Aside0.mk A40
 clear A40
 have HC5 := Aside0.mk H
 clear H
 go_enter Try.func46, Try.ntmps46
 go_upto_region 3 with (first | ((with_reducible refine gate_callee (f := 40) rfl ?_); refine goesL_ (some 9) rfl rfl Try.func40 (by kernel_rfl) rfl #[.slice A0 l0.length c0] rfl (by (try simp only [List.map_toArray, List.map_cons, List.map_nil]); first | done | rfl | (simp only [List.length_drop, List.length_take]; rfl)) ?_; (with_reducible refine (gudgeonref08_May.calls k _ _ l0 t368 _ ?side1 ?side2 A3.out).mono ?_); (case side1 => repeat (first | exact HR0.out | (with_reducible refine Kd.C_alloc ?_ _) | (with_reducible refine Kd.C_drewN ?_ _) | (with_reducible refine Kd.C_drew ?_))); (case side2 => exact HC0.out); rintro e w' ⟨rfl, ⟨nd, rfl⟩⟩; refine ⟨_, rfl, ?_⟩) | ((with_reducible refine gate_callee (f := 40) rfl ?_); refine goesL_ (some 11) rfl rfl Try.func40 (by kernel_rfl) rfl #[.slice A1 l1.length c1] rfl (by (try simp only [List.map_toArray, List.map_cons, List.map_nil]); first | done | rfl | (simp only [List.length_drop, List.length_take]; rfl)) ?_; (with_reducible refine (gudgeonref08_May.calls k _ _ l1 t369 _ ?side1 ?side2 A4.out).mono ?_); (case side1 => repeat (first | exact HR1.out | (with_reducible refine Kd.C_alloc ?_ _) | (with_reducible refine Kd.C_drewN ?_ _) | (with_reducible refine Kd.C_drew ?_))); (case side2 => exact HC1.out); rintro e w' ⟨rfl, ⟨nd, rfl⟩⟩; refine ⟨_, rfl, ?_⟩))
 (try simp only [Act.put, List.setIfInBounds_toArray, List.set_cons_zero, List.set_cons_succ])
 go_cut [17] (fun v17 wc => ∃ (kq : Nat) (x17_4 : Bool), v17 = .bool x17_4 ∧ Aside0 (gudgeonref08_Concat.j0 kq l0 l1 x17_4 = some (r1, r2)) ∧ Aside0 (kq ≤ k) ∧ Aside0 (Below w.heap.size w wc))
 case first =>
  have H := HC5.out
  clear HC5
  by_cases c6 : t368 = true
  ·subst c6
   have H1 : (gudgeonref08_Concat.j0 k l0 l1 (!t369)) = some (r1, r2) := by rw [if_pos rfl] at H; exact H
   clear H
   have H := H1
   clear H1
   have H' := Aside0.mk H
   clear H
   go_wp2
   go_meet
   case rel => exact ⟨_, (!t369), (by first | rfl | (simp; done) | (simp [*]; done) | (refine congrArg (Value.int _) ?_; omega) | (refine congrArg Value.bool ?_; generalize ByteArray.toList _ = z_; cases z_ <;> rfl)), H', ⟨by first | omega | exact Nat.le_refl _⟩, ⟨by repeat (first | (with_reducible first | exact HB.out | apply below_alloc | apply pw_below_drewN | apply below_drew1) | exact HB.out)⟩⟩
  ·replace c6 := Bool.eq_false_iff.mpr c6
   subst c6
   have H1 : (gudgeonref08_Concat.j0 k l0 l1 true) = some (r1, r2) := by rw [if_neg (show ¬ (false = true) by decide)] at H; exact H
   clear H
   have H := H1
   clear H1
   have H' := Aside0.mk H
   clear H
   go_wp2
   go_meet
   case rel => exact ⟨_, (true), (by first | rfl | (simp; done) | (simp [*]; done) | (refine congrArg (Value.int _) ?_; omega) | (refine congrArg Value.bool ?_; generalize ByteArray.toList _ = z_; cases z_ <;> rfl)), H', ⟨by first | omega | exact Nat.le_refl _⟩, ⟨by repeat (first | (with_reducible first | exact HB.out | apply below_alloc | apply pw_below_drewN | apply below_drew1) | exact HB.out)⟩⟩
 case rest =>
  clear HC5
  try clear c1
  try clear p2
  try clear c4
  try clear c6
  obtain ⟨kq, x17_4, rfl, HA, HJ4, HB⟩ := hcut
  cases kq with
  | zero => exact absurd HA.out (by simp [gudgeonref08_Concat.j0])
  | succ kj4 =>
   have H := HA.out
   clear HA
   simp only [gudgeonref08_Concat.j0] at H
   by_cases c7 : x17_4 = true
   ·subst c7
    have H1 : (some (([] : List (S71)), 1)) = some (r1, r2) := by rw [if_pos rfl] at H; exact H
    clear H
    have H := H1
    clear H1
    simp only [Option.some.injEq, Prod.mk.injEq] at H
    obtain ⟨rfl, rfl⟩ := H
    go_wp2
    go_ret2
    exact ⟨_, by first | rfl | (simp [errW_none, errW_some] <;> rfl) | (simp [*, errW_none, errW_some] <;> rfl), by first | exact Kd.R_nil _ _ _ _ _ | exact Kd.N_nil _ _ _ _ _ | exact Kd.V_nil _ _ _ _ _ | exact Kd.Q_nil _ _ _ _ _ | exact Kd.S_nil _ _ _ _ _, by repeat (first | (with_reducible first | exact HB.out | apply below_alloc | apply pw_below_drewN | apply below_drew1) | exact HB.out)⟩
   ·replace c7 := Bool.eq_false_iff.mpr c7
    subst c7
    have H1 : ((gudgeonref08_points.f kj4 l0).bind fun t370 => ((gudgeonref08_points.f kj4 l1).bind fun t373 => (if t370.length + t373.length < 17592186044416 then ((gudgeonref08_text.f kj4 (t370 ++ t373)).bind fun t379 => (some (t379, 0))) else (none)))) = some (r1, r2) := by rw [if_neg (show ¬ (false = true) by decide)] at H; exact H
    clear H
    have H := H1
    clear H1
    replace H := Option.bind_eq_some_iff.mp H
    obtain ⟨t370, A80, H⟩ := H
    replace H : ((gudgeonref08_points.f kj4 l1).bind fun t373 => (if t370.length + t373.length < 17592186044416 then ((gudgeonref08_text.f kj4 (t370 ++ t373)).bind fun t379 => (some (t379, 0))) else (none))) = some (r1, r2) := H
    have A8 := Aside0.mk A80
    clear A80
    replace H := Option.bind_eq_some_iff.mp H
    obtain ⟨t373, A90, H⟩ := H
    replace H : (if t370.length + t373.length < 17592186044416 then ((gudgeonref08_text.f kj4 (t370 ++ t373)).bind fun t379 => (some (t379, 0))) else (none)) = some (r1, r2) := H
    have A9 := Aside0.mk A90
    clear A90
    by_cases c10 : t370.length + t373.length < 17592186044416
    ·rw [if_pos c10] at H
     have LMc10 := Aside0.mk c10
     clear c10
     obtain ⟨y376, hy376⟩ : ∃ y_ : List Int, y_ = (t370 ++ t373) := ⟨_, rfl⟩
     replace H : ((gudgeonref08_text.f kj4 y376).bind fun t379 => (some (t379, 0))) = some (r1, r2) := by first | (rw [hy376]; with_reducible exact H) | (have H2_ := (Option.bind_some _ _).symm.trans H; rw [hy376]; with_reducible exact H2_) | (have H2_ := (Option.bind_some _ _).symm.trans H; with_reducible exact H2_) | with_reducible exact H | (rw [hy376]; exact H) | exact H
     have Ny376 := Aside0.mk hy376
     clear hy376
     replace H := Option.bind_eq_some_iff.mp H
     obtain ⟨t379, A110, H⟩ := H
     replace H : (some (t379, 0)) = some (r1, r2) := H
     have A11 := Aside0.mk A110
     clear A110
     simp only [Option.some.injEq, Prod.mk.injEq] at H
     obtain ⟨rfl, rfl⟩ := H
     go_wp2_with (first | ((with_reducible refine gate_callee (f := 77) rfl ?_); refine goesL_ (some 19) rfl rfl Try.func77 (by kernel_rfl) rfl #[.slice A0 l0.length c0] rfl (by (try simp only [List.map_toArray, List.map_cons, List.map_nil]); first | done | rfl | (simp only [List.length_drop, List.length_take]; rfl)) ?_; (with_reducible refine (gudgeonref08_points.calls kj4 _ _ l0 t370 _ ?side1 ?side2 A8.out).mono ?_); (case side1 => repeat (first | exact (Kd.C_below HR0.out HB.out) | (with_reducible refine Kd.C_alloc ?_ _) | (with_reducible refine Kd.C_drewN ?_ _) | (with_reducible refine Kd.C_drew ?_))); (case side2 => exact HC0.out); rintro e w12 ⟨v371, rfl, ho0, hb⟩; refine ⟨_, rfl, ?_⟩; have n0_ := Aside0.mk (Kd.R_lower ho0 (below_size (by repeat (first | (with_reducible first | exact HB.out | apply below_alloc | apply pw_below_drewN | apply below_drew1) | exact HB.out)))); have n1_ := Aside0.mk (below_step (by repeat (first | (with_reducible first | exact HB.out | apply below_alloc | apply pw_below_drewN | apply below_drew1) | exact HB.out)) hb); clear HB; have HO372 := n0_; have HB := n1_; clear n0_ n1_; (try clear hb); (try clear hb2); (try clear hk); (try clear hi); (try clear ho0)) | ((with_reducible refine gate_callee (f := 77) rfl ?_); refine goesL_ (some 21) rfl rfl Try.func77 (by kernel_rfl) rfl #[.slice A1 l1.length c1] rfl (by (try simp only [List.map_toArray, List.map_cons, List.map_nil]); first | done | rfl | (simp only [List.length_drop, List.length_take]; rfl)) ?_; (with_reducible refine (gudgeonref08_points.calls kj4 _ _ l1 t373 _ ?side1 ?side2 A9.out).mono ?_); (case side1 => repeat (first | exact (Kd.C_below HR1.out HB.out) | (with_reducible refine Kd.C_alloc ?_ _) | (with_reducible refine Kd.C_drewN ?_ _) | (with_reducible refine Kd.C_drew ?_))); (case side2 => exact HC1.out); rintro e w13 ⟨v374, rfl, ho0, hb⟩; refine ⟨_, rfl, ?_⟩; have n0_ := Aside0.mk (Kd.R_elder' (by (with_reducible repeat (first | apply Kd.R_alloc | apply Kd.R_drewN | apply Kd.R_drew)); exact HO372.out) (Kd.R_base ho0) hb); have n1_ := Aside0.mk (Kd.R_lower (Kd.R_new' ho0 (Kd.R_lt (by (with_reducible repeat (first | apply Kd.R_alloc | apply Kd.R_drewN | apply Kd.R_drew)); exact HO372.out))) (below_size (by repeat (first | (with_reducible first | exact HB.out | apply below_alloc | apply pw_below_drewN | apply below_drew1) | exact HB.out)))); have n2_ := Aside0.mk (below_step (by repeat (first | (with_reducible first | exact HB.out | apply below_alloc | apply pw_below_drewN | apply below_drew1) | exact HB.out)) hb); clear HO372; clear HB; have HO372 := n0_; have HO375 := n1_; have HB := n2_; clear n0_ n1_ n2_; (try clear hb); (try clear hb2); (try clear hk); (try clear hi); (try clear ho0); obtain ⟨Ao15, co15, eo15⟩ := Kd.R_slice HO375.out; subst eo15) | ((with_reducible refine gate_builtin (b := .append) (xs := #[.tmp 19, .tmp 21]) rfl ?_); at_builtin; refine Kd.R_append_rows (Kd.int .i64) (w0 := w) w.heap.size rfl (.tmp 19) (.tmp 21) 39 3 (.int .i64 0) 8 rfl Try.underlying39 info3 rfl (by decide) (by omega) v371 t370 t373 _ _ _ (fun k_ => some k_ ≠ (.slice Ao15 t373.length co15 : Value).ownBlock) (fun _ => False) rfl rfl ?aO ?aR (fun _ _ h => h) (fun _ h => h.elim) ?aF ?aB ?aS ?aL ?_; (case aR => repeat (first | exact (Kd.R_reads' HO375.out).2.2 | (with_reducible refine Kd.C_alloc ?_ _) | (with_reducible refine Kd.C_drewN ?_ _) | (with_reducible refine Kd.C_drew ?_))); (case aB => exact (by repeat (first | (with_reducible first | exact HB.out | apply below_alloc | apply pw_below_drewN | apply below_drew1) | exact HB.out))); (case aF => exact (fun k_ hk => Kd.fresh' (Kd.R_lt (by (with_reducible repeat (first | apply Kd.R_alloc | apply Kd.R_drewN | apply Kd.R_drew)); exact HO375.out)) k_ hk)); (case aO => exact (by (with_reducible repeat (first | apply Kd.R_alloc | apply Kd.R_drewN | apply Kd.R_drew)); exact Kd.R_mono HO372.out (fun _ hk => hk.2))); (case aS => exact (below_size (by repeat (first | (with_reducible first | exact HB.out | apply below_alloc | apply pw_below_drewN | apply below_drew1) | exact HB.out)))); (case aL => have := LMc10.out; omega); intro v377 w14 ho hb hg hat; rw [← Ny376.out] at ho; have n0_ := Aside0.mk (Kd.R_after (ok := (fun _ => True)) (by (with_reducible repeat (first | apply Kd.R_alloc | apply Kd.R_drewN | apply Kd.R_drew)); exact HO375.out) hg hat); have n1_ := Aside0.mk (hb); have n2_ := Aside0.mk (ho); clear HO375; clear HB; clear HO372; have HO375 := n0_; have HB := n1_; have HO378 := n2_; clear n0_ n1_ n2_; clear ho hb hg hat; obtain ⟨Ao16, co16, eo16⟩ := Kd.R_slice HO378.out; subst eo16) | ((with_reducible refine gate_callee (f := 76) rfl ?_); refine goesL_ (some 23) rfl rfl Try.func76 (by kernel_rfl) rfl #[.slice Ao16 y376.length co16] rfl (by (try simp only [List.map_toArray, List.map_cons, List.map_nil]); first | done | rfl | (simp only [List.length_drop, List.length_take]; rfl)) ?_; (with_reducible refine (gudgeonref08_text.calls kj4 _ _ y376 t379 _ ?side1 ?side2 A11.out).mono ?_); (case side1 => repeat (first | exact (Kd.R_reads' HO378.out).2.2 | (with_reducible refine Kd.C_alloc ?_ _) | (with_reducible refine Kd.C_drewN ?_ _) | (with_reducible refine Kd.C_drew ?_))); (case side2 => exact (Kd.R_reads' HO378.out).2.1); rintro e w17 ⟨v380, rfl, ho0, hb⟩; refine ⟨_, rfl, ?_⟩; have n0_ := Aside0.mk (Kd.R_below (by (with_reducible repeat (first | apply Kd.R_alloc | apply Kd.R_drewN | apply Kd.R_drew)); exact HO375.out) hb); have n1_ := Aside0.mk (Kd.R_below (by (with_reducible repeat (first | apply Kd.R_alloc | apply Kd.R_drewN | apply Kd.R_drew)); exact HO378.out) hb); have n2_ := Aside0.mk (Kd.R_lower ho0 (below_size (by repeat (first | (with_reducible first | exact HB.out | apply below_alloc | apply pw_below_drewN | apply below_drew1) | exact HB.out)))); have n3_ := Aside0.mk (below_step (by repeat (first | (with_reducible first | exact HB.out | apply below_alloc | apply pw_below_drewN | apply below_drew1) | exact HB.out)) hb); clear HO375; clear HO378; clear HB; have HO375 := n0_; have HO378 := n1_; have HO381 := n2_; have HB := n3_; clear n0_ n1_ n2_ n3_; (try clear hb); (try clear hb2); (try clear hk); (try clear hi); (try clear ho0)))
     go_ret2
     exact ⟨_, by first | rfl | (simp [errW_none, errW_some] <;> rfl) | (simp [*, errW_none, errW_some] <;> rfl), by (with_reducible repeat (first | apply Kd.R_alloc | apply Kd.R_drewN | apply Kd.R_drew)); exact HO381.out, by repeat (first | (with_reducible first | exact HB.out | apply below_alloc | apply pw_below_drewN | apply below_drew1) | exact HB.out)⟩
    ·rw [if_neg c10] at H
     exact absurd H (by simp)

/-! ### gudgeonref17_Value: function 17 -/
mutual
def gudgeonref17_Value.l0 : Nat → List (S69) → List (S41) → List (S71) → Int → Option ((List (S71)) × Int × Bool)
 | 0, _, _, _, _ => none
 | k + 1, x0, x1, x8, x9 => if x9 < (x0.length : Int) then (if 0 ≤ x9 then (if ((rd_T69 x0 x9).f0) ≥ 0 then ((gudgeonref17_Text.f k ((rd_T69 x0 x9).f0) x1).bind fun t389 => (gudgeonref17_Value.j1 k x0 x1 x8 x9 t389)) else (gudgeonref17_Value.j1 k x0 x1 x8 x9 (([(⟨(rd_T69 x0 x9).f1, 1⟩ : S71)] : List (S71))))) else (none)) else (some (x8, 0, true))
def gudgeonref17_Value.j1 : Nat → List (S69) → List (S41) → List (S71) → Int → List (S71) → Option ((List (S71)) × Int × Bool)
 | 0, _, _, _, _, _ => none
 | k + 1, x0, x1, x8, x9, x10 => (gudgeonref08_Len.f k x8).bind fun t392 => ((gudgeonref08_Len.f k x10).bind fun t393 => (if (wrap64 (t392 + t393)) > 2000 then (some (([] : List (S71)), 0, false)) else ((gudgeonref08_Concat.f k x8 x10).bind fun bt394 => (gudgeonref17_Value.l0 k x0 x1 bt394.1 (wrap64 (x9 + 1))))))
end
def gudgeonref17_Value.f (k : Nat) (l0 : List (S69)) (l1 : List (S41)) : Option ((List (S71)) × Int × Bool) := (gudgeonref17_May.f k l0).bind fun t382 => (if t382 = true then (gudgeonref17_Value.l0 k l0 l1 ([] : List (S71)) 0) else (some (([] : List (S71)), 1, true)))
set_option maxHeartbeats 8000000 in
set_option maxRecDepth 100000 in
theorem gudgeonref17_Value.calls (k : Nat) (A0 : Option Addr) (c0 : Nat) (l0 : List (S69)) (A1 : Option Addr) (c1 : Nat) (l1 : List (S41)) (r1 : List (S71)) (r2 : Int) (r3 : Bool) (w : World) (hr0 : Kd.C k69 w A0 l0.length l0) (hc0 : l0.length ≤ c0) (hr1 : Kd.C k41 w A1 l1.length l1) (hc1 : l1.length ≤ c1) (h : gudgeonref17_Value.f k l0 l1 = some (r1, r2, r3)) :
  Calls Try.prog 17 #[.slice A0 l0.length c0, .slice A1 l1.length c1] w fun e w' => ∃ v0_ : Value, e = .returned (.tuple #[v0_, .int .i64 r2, .bool r3]) ∧ Kd.R k71 71 w' w.heap.size (fun _ => True) v0_ r1 ∧ Below w.heap.size w w' := by
 have hu71 := Try.underlying71
 have HR0 := Aside0.mk hr0
 have HC0 := Aside0.mk hc0
 clear hr0 hc0
 have HR1 := Aside0.mk hr1
 have HC1 := Aside0.mk hc1
 clear hr1 hc1
 have HB := Aside0.mk (Below.refl w.heap.size w)
 have H : ((gudgeonref17_May.f k l0).bind fun t382 => (if t382 = true then (gudgeonref17_Value.l0 k l0 l1 ([] : List (S71)) 0) else (some (([] : List (S71)), 1, true)))) = some (r1, r2, r3) := h
 clear h
 replace H := Option.bind_eq_some_iff.mp H
 obtain ⟨t382, A30, H⟩ := H
 replace H : (if t382 = true then (gudgeonref17_Value.l0 k l0 l1 ([] : List (S71)) 0) else (some (([] : List (S71)), 1, true))) = some (r1, r2, r3) := H
 have A3 := Aside0.mk A30
 clear A30
 by_cases c4 : t382 = true
 ·subst c4
  have H1 : (gudgeonref17_Value.l0 k l0 l1 ([] : List (S71)) 0) = some (r1, r2, r3) := by rw [if_pos rfl] at H; exact H
  clear H
  have H := H1
  clear H1
  have H' := Aside0.mk H
  clear H
  go_enter Try.func17, Try.ntmps17
  go_wp2_with (first | ((with_reducible refine gate_callee (f := 43) rfl ?_); refine goesL_ (some 14) rfl rfl Try.func43 (by kernel_rfl) rfl #[.slice A0 l0.length c0] rfl (by (try simp only [List.map_toArray, List.map_cons, List.map_nil]); first | done | rfl | (simp only [List.length_drop, List.length_take]; rfl)) ?_; (with_reducible refine (gudgeonref17_May.calls k _ _ l0 true _ ?side1 ?side2 A3.out).mono ?_); (case side1 => repeat (first | exact HR0.out | (with_reducible refine Kd.C_alloc ?_ _) | (with_reducible refine Kd.C_drewN ?_ _) | (with_reducible refine Kd.C_drew ?_))); (case side2 => exact HC0.out); rintro e w' ⟨rfl, ⟨nd, rfl⟩⟩; refine ⟨_, rfl, ?_⟩))
  go_loopg [8, 9] k (fun kq v8 v9 w' => ∃ (x8_1 : List (S71)) (x9_1 : Int), v9 = .int .i64 x9_1 ∧ Aside0 (gudgeonref17_Value.l0 kq l0 l1 x8_1 x9_1 = some (r1, r2, r3)) ∧ Aside0 (kq ≤ k) ∧ Aside0 (Kd.R k71 71 w' w.heap.size (fun _ => True) v8 x8_1) ∧ Aside0 (Below w.heap.size w w'))
  case atStart => exact ⟨(([] : List (S71))), (0), (by first | rfl | (simp; done) | (simp [*]; done) | (refine congrArg (Value.int _) ?_; omega) | (refine congrArg Value.bool ?_; generalize ByteArray.toList _ = z_; cases z_ <;> rfl)), H', ⟨Nat.le_refl _⟩, ⟨by first | exact Kd.R_nil _ _ _ _ _ | exact Kd.N_nil _ _ _ _ _ | exact Kd.V_nil _ _ _ _ _ | exact Kd.Q_nil _ _ _ _ _ | exact Kd.S_nil _ _ _ _ _⟩, ⟨by repeat (first | (with_reducible first | exact HB.out | apply below_alloc | apply pw_below_drewN | apply below_drew1) | exact HB.out)⟩⟩
  case round =>
   clear H'
   try clear c1
   try clear p2
   try clear c4
   obtain ⟨x8_1, x9_1, rfl, HA, HK1, HO_8, HB⟩ := hrel
   cases gk with
   | zero => exact absurd HA.out (by simp [gudgeonref17_Value.l0])
   | succ k1 =>
    have H := HA.out
    clear HA
    simp only [gudgeonref17_Value.l0] at H
    by_cases c5 : x9_1 < (l0.length : Int)
    ·rw [if_pos c5] at H
     have c5b0 : decide (x9_1 < (l0.length : Int)) = true := decide_eq_true c5
     clear c5
     by_cases c6 : 0 ≤ x9_1
     ·rw [if_pos c6] at H
      have c6b0 : decide (0 ≤ x9_1) = true := decide_eq_true c6
      clear c6
      obtain ⟨y384, hy384⟩ : ∃ y_ : List (S71), y_ = (([(⟨(rd_T69 l0 x9_1).f1, 1⟩ : S71)] : List (S71))) := ⟨_, rfl⟩
      replace H : (if ((rd_T69 l0 x9_1).f0) ≥ 0 then ((gudgeonref17_Text.f k1 ((rd_T69 l0 x9_1).f0) l1).bind fun t389 => (gudgeonref17_Value.j1 k1 l0 l1 x8_1 x9_1 t389)) else (gudgeonref17_Value.j1 k1 l0 l1 x8_1 x9_1 y384)) = some (r1, r2, r3) := by first | (rw [hy384]; with_reducible exact H) | (have H2_ := (Option.bind_some _ _).symm.trans H; rw [hy384]; with_reducible exact H2_) | (have H2_ := (Option.bind_some _ _).symm.trans H; with_reducible exact H2_) | with_reducible exact H | (rw [hy384]; exact H) | exact H
      have Ny384 := Aside0.mk hy384
      clear hy384
      have HC7 := Aside0.mk H
      clear H
      have p383 : 0 ≤ (x9_1 : Int) := of_decide_eq_true (by first | (with_reducible assumption) | assumption)
      have q383 : x9_1 < (l0.length : Int) := of_decide_eq_true (by first | (with_reducible assumption) | assumption)
      obtain ⟨ad383, e383, hx383_0, hx383_1⟩ := at_T69 HR0.out x9_1 p383 q383
      cases e383
      replace hx383_0 := (HB.out.cell (World.block_lt_of_cell? w _ hx383_0)).trans hx383_0
      replace hx383_1 := (HB.out.cell (World.block_lt_of_cell? w _ hx383_1)).trans hx383_1
      replace p383 := eq_true p383
      replace q383 := eq_true q383
      go_upto_if 35 with (first | ((with_reducible refine gate_dst (N := 29) rfl ?_); refine Kd.R_lit k71 _ 71 ?hg (N := 29) ?hd (xs := ([(⟨(rd_T69 l0 x9_1).f1, 1⟩ : S71)] : List (S71))) (inner := [.int .i64 ((rd_T69 l0 x9_1).f1), .int .i64 1]) (ok := fun _ => True) (okp := fun _ => True) ?hr ?hp (fun _ hk => hk) trivial (Below.refl _ _) (Nat.le_refl _) (by simp) ?_; (case hd => rfl); (case hg => rfl); (case hr => first | (go_simp; done) | (go_simp; rfl) | (go_simp; simp only [IntKind.wrap_u8, IntKind.wrap_u32]; congr 4; omega) | (go_simp; simp only [IntKind.wrap_u8, IntKind.wrap_u32]; congr 5; omega)); (case hp => exact (Reps.c2 (show Kd.M k71 _ _ _ (⟨(rd_T69 l0 x9_1).f1, 1⟩ : S71) [.int .i64 ((rd_T69 l0 x9_1).f1), .int .i64 1] from (k71_mkM _ _ _ (⟨(rd_T69 l0 x9_1).f1, 1⟩ : S71) )) (Reps.none _ _))); intro v385 w8 ho9 hb hg_ hnew_; clear hg_ hnew_; (first | rw [← Ny384.out] at ho9 | (simp only [Int.reduceToNat] at ho9; rw [← Ny384.out] at ho9)); have n0_ := Aside0.mk (Kd.R_elder' (by (with_reducible repeat (first | apply Kd.R_alloc | apply Kd.R_drewN | apply Kd.R_drew)); exact HO_8.out) (Kd.R_base ho9) hb); have n1_ := Aside0.mk (Kd.R_lower (Kd.R_new' ho9 (Kd.R_lt (by (with_reducible repeat (first | apply Kd.R_alloc | apply Kd.R_drewN | apply Kd.R_drew)); exact HO_8.out))) (below_size (by repeat (first | (with_reducible first | exact HB.out | apply below_alloc | apply pw_below_drewN | apply below_drew1) | exact HB.out)))); have n2_ := Aside0.mk (below_step (by repeat (first | (with_reducible first | exact HB.out | apply below_alloc | apply pw_below_drewN | apply below_drew1) | exact HB.out)) hb); clear HO_8; clear HB; have HO_8 := n0_; have HO386 := n1_; have HB := n2_; clear n0_ n1_ n2_; clear hb ho9; have p387 : 0 ≤ (x9_1 : Int) := of_decide_eq_true (by first | (with_reducible assumption) | assumption); have q387 : x9_1 < (l0.length : Int) := of_decide_eq_true (by first | (with_reducible assumption) | assumption); obtain ⟨ad387, e387, hx387_0, hx387_1⟩ := at_T69 HR0.out x9_1 p387 q387; obtain rfl : ad383 = ad387 := (by injection e387); replace hx387_0 := (HB.out.cell (World.block_lt_of_cell? w _ hx387_0)).trans hx387_0; replace hx387_1 := (HB.out.cell (World.block_lt_of_cell? w _ hx387_1)).trans hx387_1; replace p387 := eq_true p387; replace q387 := eq_true q387))
      (try simp only [Act.put, List.setIfInBounds_toArray, List.set_cons_zero, List.set_cons_succ])
      go_cut [10] (fun v10 wc => ∃ (kq : Nat) (x10_6 : List (S71)), Aside0 (gudgeonref17_Value.j1 kq l0 l1 x8_1 x9_1 x10_6 = some (r1, r2, r3)) ∧ Aside0 (kq ≤ k1) ∧ Aside0 (Kd.R k71 71 wc w.heap.size (fun _ => True) u8 x8_1) ∧ Aside0 (Kd.V k71 71 wc w.heap.size (fun k_ => some k_ ≠ (u8 : Value).ownBlock) v10 x10_6) ∧ Aside0 (Below w.heap.size w wc))
      case first =>
       have H := HC7.out
       clear HC7
       by_cases c10 : ((rd_T69 l0 x9_1).f0) ≥ 0
       ·rw [if_pos c10] at H
        have c10b0 : decide (0 ≤ ((rd_T69 l0 x9_1).f0)) = true := decide_eq_true c10
        clear c10
        (first | rw [c10b0] | rw [c10b1] | (simp only [i64_w, i32_w]; rw [c10b0]) | skip)
        replace H := Option.bind_eq_some_iff.mp H
        obtain ⟨t389, A110, H⟩ := H
        replace H : (gudgeonref17_Value.j1 k1 l0 l1 x8_1 x9_1 t389) = some (r1, r2, r3) := H
        have A11 := Aside0.mk A110
        clear A110
        have H' := Aside0.mk H
        clear H
        have p388 : 0 ≤ (x9_1 : Int) := of_decide_eq_true (by first | (with_reducible assumption) | assumption)
        have q388 : x9_1 < (l0.length : Int) := of_decide_eq_true (by first | (with_reducible assumption) | assumption)
        obtain ⟨ad388, e388, hx388_0, hx388_1⟩ := at_T69 HR0.out x9_1 p388 q388
        obtain rfl : ad383 = ad388 := (by injection e388)
        replace hx388_0 := (HB.out.cell (World.block_lt_of_cell? w _ hx388_0)).trans hx388_0
        replace hx388_1 := (HB.out.cell (World.block_lt_of_cell? w _ hx388_1)).trans hx388_1
        replace p388 := eq_true p388
        replace q388 := eq_true q388
        go_wp2_with (first | ((with_reducible refine gate_callee (f := 45) rfl ?_); refine goesL_ (some 42) rfl rfl Try.func45 (by kernel_rfl) rfl #[.int .i64 ((rd_T69 l0 x9_1).f0), .slice A1 l1.length c1] rfl (by (try simp only [List.map_toArray, List.map_cons, List.map_nil]); first | done | rfl | (simp only [List.length_drop, List.length_take]; rfl)) ?_; (with_reducible refine (gudgeonref17_Text.calls k1 ((rd_T69 l0 x9_1).f0) (fun k_ => k_ < w.heap.size) _ _ l1 t389 _ ?side1 A11.out).mono ?_); (case side1 => exact Kd.V_mk HC1.out (Kd.F_below (Kd.C_F k41_heap HR1.out) (by repeat (first | (with_reducible first | exact HB.out | apply below_alloc | apply pw_below_drewN | apply below_drew1) | exact HB.out)))); rintro e w12 ⟨v390, rfl, ho0, hb⟩; refine ⟨_, rfl, ?_⟩; have n0_ := Aside0.mk (Kd.R_below (by (with_reducible repeat (first | apply Kd.R_alloc | apply Kd.R_drewN | apply Kd.R_drew)); exact HO_8.out) hb); have n1_ := Aside0.mk (Kd.R_below (by (with_reducible repeat (first | apply Kd.R_alloc | apply Kd.R_drewN | apply Kd.R_drew)); exact HO386.out) hb); have n2_ := Aside0.mk (Kd.V_lower (Kd.V_mono (ok' := fun k_ => some k_ ≠ (u8 : Value).ownBlock ∧ some k_ ≠ (v385 : Value).ownBlock) ho0 (fun k_ hk_ => ⟨Or.elim hk_ (fun hs_ => fun e_ => Nat.not_le.2 hs_ (Kd.R_base HO_8.out k_ e_.symm)) (fun hn_ => (Kd.fresh' (Kd.R_lt (by (with_reducible repeat (first | apply Kd.R_alloc | apply Kd.R_drewN | apply Kd.R_drew)); exact HO_8.out)) k_ hn_)), Or.elim hk_ (fun hs_ => fun e_ => Nat.not_le.2 hs_ (Kd.R_base HO386.out k_ e_.symm)) (fun hn_ => (Kd.fresh' (Kd.R_lt (by (with_reducible repeat (first | apply Kd.R_alloc | apply Kd.R_drewN | apply Kd.R_drew)); exact HO386.out)) k_ hn_))⟩)) (below_size (by repeat (first | (with_reducible first | exact HB.out | apply below_alloc | apply pw_below_drewN | apply below_drew1) | exact HB.out)))); have n3_ := Aside0.mk (below_step (by repeat (first | (with_reducible first | exact HB.out | apply below_alloc | apply pw_below_drewN | apply below_drew1) | exact HB.out)) hb); clear HO_8; clear HO386; clear HB; have HO_8 := n0_; have HO386 := n1_; have HO391 := n2_; have HB := n3_; clear n0_ n1_ n2_ n3_; (try clear hb); (try clear hb2); (try clear hk); (try clear hi); (try clear ho0)))
        go_meet
        case rel => exact ⟨_, (t389), H', ⟨by have := HK1.out; first | omega | exact Nat.le_refl _⟩, ⟨by (with_reducible repeat (first | apply Kd.R_alloc | apply Kd.R_drewN | apply Kd.R_drew)); exact Kd.R_mono HO_8.out (fun _ hk => trivial)⟩, ⟨by (with_reducible repeat (first | apply Kd.V_alloc | apply Kd.V_drewN | apply Kd.V_drew)); exact Kd.V_mono HO391.out (fun _ hk => hk.1)⟩, ⟨by repeat (first | (with_reducible first | exact HB.out | apply below_alloc | apply pw_below_drewN | apply below_drew1) | exact HB.out)⟩⟩
       ·rw [if_neg c10] at H
        have c10b0 : decide (0 ≤ ((rd_T69 l0 x9_1).f0)) = false := decide_eq_false c10
        clear c10
        (first | rw [c10b0] | rw [c10b1] | (simp only [i64_w, i32_w]; rw [c10b0]) | skip)
        have H' := Aside0.mk H
        clear H
        go_wp2
        go_meet
        case rel => exact ⟨_, (y384), H', ⟨by have := HK1.out; first | omega | exact Nat.le_refl _⟩, ⟨by (with_reducible repeat (first | apply Kd.R_alloc | apply Kd.R_drewN | apply Kd.R_drew)); exact Kd.R_mono HO_8.out (fun _ hk => trivial)⟩, ⟨Kd.R_V (by (with_reducible repeat (first | apply Kd.R_alloc | apply Kd.R_drewN | apply Kd.R_drew)); exact Kd.R_mono HO386.out (fun _ hk => hk.2))⟩, ⟨by repeat (first | (with_reducible first | exact HB.out | apply below_alloc | apply pw_below_drewN | apply below_drew1) | exact HB.out)⟩⟩
      case rest =>
       clear HC7
       try clear c1
       try clear c2
       try clear p2
       try clear p3
       try clear q3
       try clear hx3
       try clear c4
       try clear c5
       try clear c5b0
       try clear c6
       try clear c6b0
       try clear c10
       try clear c10b0
       try clear hx383_0
       try clear hx383_1
       try clear hx387_0
       try clear hx387_1
       try clear hx388_0
       try clear hx388_1
       try clear p2
       try clear p383
       try clear p387
       try clear p388
       try clear q383
       try clear q387
       try clear q388
       obtain ⟨kq, x10_6, HA, HJ6, HO_8, HO_10, HB⟩ := hcut
       cases kq with
       | zero => exact absurd HA.out (by simp [gudgeonref17_Value.j1])
       | succ kj6 =>
        have H := HA.out
        clear HA
        simp only [gudgeonref17_Value.j1] at H
        replace H := Option.bind_eq_some_iff.mp H
        obtain ⟨t392, A130, H⟩ := H
        replace H : ((gudgeonref08_Len.f kj6 x10_6).bind fun t393 => (if (wrap64 (t392 + t393)) > 2000 then (some (([] : List (S71)), 0, false)) else ((gudgeonref08_Concat.f kj6 x8_1 x10_6).bind fun bt394 => (gudgeonref17_Value.l0 kj6 l0 l1 bt394.1 (wrap64 (x9_1 + 1)))))) = some (r1, r2, r3) := H
        have A13 := Aside0.mk A130
        clear A130
        replace H := Option.bind_eq_some_iff.mp H
        obtain ⟨t393, A140, H⟩ := H
        replace H : (if (wrap64 (t392 + t393)) > 2000 then (some (([] : List (S71)), 0, false)) else ((gudgeonref08_Concat.f kj6 x8_1 x10_6).bind fun bt394 => (gudgeonref17_Value.l0 kj6 l0 l1 bt394.1 (wrap64 (x9_1 + 1))))) = some (r1, r2, r3) := H
        have A14 := Aside0.mk A140
        clear A140
        by_cases c15 : (wrap64 (t392 + t393)) > 2000
        ·rw [if_pos c15] at H
         have c15b0 : decide (2000 < (wrap64 (t392 + t393))) = true := decide_eq_true c15
         clear c15
         simp only [Option.some.injEq, Prod.mk.injEq] at H
         obtain ⟨rfl, rfl, rfl⟩ := H
         obtain ⟨Ao16, co16, eo16⟩ := Kd.R_slice HO_8.out
         subst eo16
         go_wp2_with (first | ((with_reducible refine gate_callee (f := 41) rfl ?_); refine goesL_ (some 44) rfl rfl Try.func41 (by kernel_rfl) rfl #[.slice Ao16 x8_1.length co16] rfl (by (try simp only [List.map_toArray, List.map_cons, List.map_nil]); first | done | rfl | (simp only [List.length_drop, List.length_take]; rfl)) ?_; (with_reducible refine (gudgeonref08_Len.calls kj6 _ _ x8_1 t392 _ ?side1 ?side2 A13.out).mono ?_); (case side1 => repeat (first | exact (Kd.R_reads' HO_8.out).2.2 | (with_reducible refine Kd.C_alloc ?_ _) | (with_reducible refine Kd.C_drewN ?_ _) | (with_reducible refine Kd.C_drew ?_))); (case side2 => exact (Kd.R_reads' HO_8.out).2.1); rintro e w' ⟨rfl, ⟨nd, rfl⟩⟩; refine ⟨_, rfl, ?_⟩; obtain ⟨Ao17, co17, eo17⟩ := Kd.V_slice HO_10.out; subst eo17) | ((with_reducible refine gate_callee (f := 41) rfl ?_); refine goesL_ (some 46) rfl rfl Try.func41 (by kernel_rfl) rfl #[.slice Ao17 x10_6.length co17] rfl (by (try simp only [List.map_toArray, List.map_cons, List.map_nil]); first | done | rfl | (simp only [List.length_drop, List.length_take]; rfl)) ?_; (with_reducible refine (gudgeonref08_Len.calls kj6 _ _ x10_6 t393 _ ?side1 ?side2 A14.out).mono ?_); (case side1 => repeat (first | exact (Kd.V_reads' HO_10.out).2.2 | (with_reducible refine Kd.C_alloc ?_ _) | (with_reducible refine Kd.C_drewN ?_ _) | (with_reducible refine Kd.C_drew ?_))); (case side2 => exact (Kd.V_reads' HO_10.out).2.1); rintro e w' ⟨rfl, ⟨nd, rfl⟩⟩; refine ⟨_, rfl, ?_⟩))
         go_ret3
         exact ⟨_, by first | rfl | (simp [errW_none, errW_some] <;> rfl) | (simp [*, errW_none, errW_some] <;> rfl), by first | exact Kd.R_nil _ _ _ _ _ | exact Kd.N_nil _ _ _ _ _ | exact Kd.V_nil _ _ _ _ _ | exact Kd.Q_nil _ _ _ _ _ | exact Kd.S_nil _ _ _ _ _, by repeat (first | (with_reducible first | exact HB.out | apply below_alloc | apply pw_below_drewN | apply below_drew1) | exact HB.out)⟩
        ·rw [if_neg c15] at H
         have c15b0 : decide (2000 < (wrap64 (t392 + t393))) = false := decide_eq_false c15
         clear c15
         replace H := Option.bind_eq_some_iff.mp H
         obtain ⟨⟨t394, t395⟩, A180, H⟩ := H
         replace H : (gudgeonref17_Value.l0 kj6 l0 l1 t394 (wrap64 (x9_1 + 1))) = some (r1, r2, r3) := H
         have A18 := Aside0.mk A180
         clear A180
         have H' := Aside0.mk H
         clear H
         obtain ⟨Ao19, co19, eo19⟩ := Kd.R_slice HO_8.out
         subst eo19
         go_wp2_with (first | ((with_reducible refine gate_callee (f := 41) rfl ?_); refine goesL_ (some 44) rfl rfl Try.func41 (by kernel_rfl) rfl #[.slice Ao19 x8_1.length co19] rfl (by (try simp only [List.map_toArray, List.map_cons, List.map_nil]); first | done | rfl | (simp only [List.length_drop, List.length_take]; rfl)) ?_; (with_reducible refine (gudgeonref08_Len.calls kj6 _ _ x8_1 t392 _ ?side1 ?side2 A13.out).mono ?_); (case side1 => repeat (first | exact (Kd.R_reads' HO_8.out).2.2 | (with_reducible refine Kd.C_alloc ?_ _) | (with_reducible refine Kd.C_drewN ?_ _) | (with_reducible refine Kd.C_drew ?_))); (case side2 => exact (Kd.R_reads' HO_8.out).2.1); rintro e w' ⟨rfl, ⟨nd, rfl⟩⟩; refine ⟨_, rfl, ?_⟩; obtain ⟨Ao20, co20, eo20⟩ := Kd.V_slice HO_10.out; subst eo20) | ((with_reducible refine gate_callee (f := 41) rfl ?_); refine goesL_ (some 46) rfl rfl Try.func41 (by kernel_rfl) rfl #[.slice Ao20 x10_6.length co20] rfl (by (try simp only [List.map_toArray, List.map_cons, List.map_nil]); first | done | rfl | (simp only [List.length_drop, List.length_take]; rfl)) ?_; (with_reducible refine (gudgeonref08_Len.calls kj6 _ _ x10_6 t393 _ ?side1 ?side2 A14.out).mono ?_); (case side1 => repeat (first | exact (Kd.V_reads' HO_10.out).2.2 | (with_reducible refine Kd.C_alloc ?_ _) | (with_reducible refine Kd.C_drewN ?_ _) | (with_reducible refine Kd.C_drew ?_))); (case side2 => exact (Kd.V_reads' HO_10.out).2.1); rintro e w' ⟨rfl, ⟨nd, rfl⟩⟩; refine ⟨_, rfl, ?_⟩) | ((with_reducible refine gate_callee (f := 46) rfl ?_); refine goesL_ (some 52) rfl rfl Try.func46 (by kernel_rfl) rfl #[.slice Ao19 x8_1.length co19, .slice Ao20 x10_6.length co20] rfl (by (try simp only [List.map_toArray, List.map_cons, List.map_nil]); first | done | rfl | (simp only [List.length_drop, List.length_take]; rfl)) ?_; (with_reducible refine (gudgeonref08_Concat.calls kj6 _ _ x8_1 _ _ x10_6 t394 t395 _ ?side1 ?side2 ?side3 ?side4 A18.out).mono ?_); (case side1 => repeat (first | exact (Kd.R_reads' HO_8.out).2.2 | (with_reducible refine Kd.C_alloc ?_ _) | (with_reducible refine Kd.C_drewN ?_ _) | (with_reducible refine Kd.C_drew ?_))); (case side2 => exact (Kd.R_reads' HO_8.out).2.1); (case side3 => repeat (first | exact (Kd.V_reads' HO_10.out).2.2 | (with_reducible refine Kd.C_alloc ?_ _) | (with_reducible refine Kd.C_drewN ?_ _) | (with_reducible refine Kd.C_drew ?_))); (case side4 => exact (Kd.V_reads' HO_10.out).2.1); rintro e w21 ⟨v396, rfl, ho0, hb⟩; refine ⟨_, rfl, ?_⟩; have n0_ := Aside0.mk (Kd.R_elder' (by (with_reducible repeat (first | apply Kd.R_alloc | apply Kd.R_drewN | apply Kd.R_drew)); exact HO_8.out) (Kd.R_base ho0) hb); have n1_ := Aside0.mk (Kd.V_elder' (by (with_reducible repeat (first | apply Kd.V_alloc | apply Kd.V_drewN | apply Kd.V_drew)); exact HO_10.out) (Kd.R_base ho0) hb); have n2_ := Aside0.mk (Kd.R_lower (Kd.R_new' ho0 (Kd.R_lt (by (with_reducible repeat (first | apply Kd.R_alloc | apply Kd.R_drewN | apply Kd.R_drew)); exact HO_8.out))) (below_size (by repeat (first | (with_reducible first | exact HB.out | apply below_alloc | apply pw_below_drewN | apply below_drew1) | exact HB.out)))); have n3_ := Aside0.mk (below_step (by repeat (first | (with_reducible first | exact HB.out | apply below_alloc | apply pw_below_drewN | apply below_drew1) | exact HB.out)) hb); clear HO_8; clear HO_10; clear HB; have HO_8 := n0_; have HO_10 := n1_; have HO397 := n2_; have HB := n3_; clear n0_ n1_ n2_ n3_; (try clear hb); (try clear hb2); (try clear hk); (try clear hi); (try clear ho0)))
         go_roundg kj6
         case measure => have := HK1.out; have := HJ6.out; omega
         case rel => exact ⟨(t394), (wrap64 (x9_1 + 1)), (by first | rfl | (simp; done) | (simp [*]; done) | (refine congrArg (Value.int _) ?_; omega) | (refine congrArg Value.bool ?_; generalize ByteArray.toList _ = z_; cases z_ <;> rfl)), H', ⟨by have := HK1.out; have := HJ6.out; omega⟩, ⟨by (with_reducible repeat (first | apply Kd.R_alloc | apply Kd.R_drewN | apply Kd.R_drew)); exact Kd.R_mono HO397.out (fun _ hk => trivial)⟩, ⟨by repeat (first | (with_reducible first | exact HB.out | apply below_alloc | apply pw_below_drewN | apply below_drew1) | exact HB.out)⟩⟩
     ·rw [if_neg c6] at H
      exact absurd H (by simp)
    ·rw [if_neg c5] at H
     have c5b0 : decide (x9_1 < (l0.length : Int)) = false := decide_eq_false c5
     clear c5
     simp only [Option.some.injEq, Prod.mk.injEq] at H
     obtain ⟨rfl, rfl, rfl⟩ := H
     go_wp2
     go_ret3
     exact ⟨_, by first | rfl | (simp [errW_none, errW_some] <;> rfl) | (simp [*, errW_none, errW_some] <;> rfl), by (with_reducible repeat (first | apply Kd.R_alloc | apply Kd.R_drewN | apply Kd.R_drew)); exact HO_8.out, by repeat (first | (with_reducible first | exact HB.out | apply below_alloc | apply pw_below_drewN | apply below_drew1) | exact HB.out)⟩
 ·replace c4 := Bool.eq_false_iff.mpr c4
  subst c4
  have H1 : (some (([] : List (S71)), 1, true)) = some (r1, r2, r3) := by rw [if_neg (show ¬ (false = true) by decide)] at H; exact H
  clear H
  have H := H1
  clear H1
  simp only [Option.some.injEq, Prod.mk.injEq] at H
  obtain ⟨rfl, rfl, rfl⟩ := H
  go_enter Try.func17, Try.ntmps17
  go_wp2_with (first | ((with_reducible refine gate_callee (f := 43) rfl ?_); refine goesL_ (some 14) rfl rfl Try.func43 (by kernel_rfl) rfl #[.slice A0 l0.length c0] rfl (by (try simp only [List.map_toArray, List.map_cons, List.map_nil]); first | done | rfl | (simp only [List.length_drop, List.length_take]; rfl)) ?_; (with_reducible refine (gudgeonref17_May.calls k _ _ l0 false _ ?side1 ?side2 A3.out).mono ?_); (case side1 => repeat (first | exact HR0.out | (with_reducible refine Kd.C_alloc ?_ _) | (with_reducible refine Kd.C_drewN ?_ _) | (with_reducible refine Kd.C_drew ?_))); (case side2 => exact HC0.out); rintro e w' ⟨rfl, ⟨nd, rfl⟩⟩; refine ⟨_, rfl, ?_⟩))
  go_ret3
  exact ⟨_, by first | rfl | (simp [errW_none, errW_some] <;> rfl) | (simp [*, errW_none, errW_some] <;> rfl), by first | exact Kd.R_nil _ _ _ _ _ | exact Kd.N_nil _ _ _ _ _ | exact Kd.V_nil _ _ _ _ _ | exact Kd.Q_nil _ _ _ _ _ | exact Kd.S_nil _ _ _ _ _, by repeat (first | (with_reducible first | exact HB.out | apply below_alloc | apply pw_below_drewN | apply below_drew1) | exact HB.out)⟩

end Go.Proofs.Ytbigeaknbhmniaa.PB
/- Written by a program of this session, wip/tools/patch_print.py, over the kit's print of the loaded functions. -/
namespace Go.Proofs.Ytbigeaknbhmniaa.H
end Go.Proofs.Ytbigeaknbhmniaa.H
namespace Go.Proofs.Ytbigeaknbhmniaa.PB
open Go.RowKit Go.Proofs.YtbigeaknbhmniaaW.PrintWords Go.Proofs.YtbigeaknbhmniaaW.PrintLast Go.Proofs.YtbigeaknbhmniaaW.PrintMore Go.Proofs.Ytbigeaknbhmniaa.H
attribute [local go_sem] max2_int min2_int max_two min_two max_three min_three max_four min_four   -- for this text's walks alone
set_option linter.unusedVariables false
set_option linter.unusedSimpArgs false

theorem eqA71 (d : Nat) (w : World) (x0 y0 : Int) (x1 y1 : Int) :
  (Op.equalIn (d + 2) 71 (.agg #[.int .i64 x0, .int .i64 x1]) (.agg #[.int .i64 y0, .int .i64 y1])).run Try.prog w = .ok (x0 == y0 && (x1 == y1)) w := by
 refine eqA_of Try.underlying71 (by kernel_rfl) ?_
 refine eqf_cons (by rfl) (by go_simp; rfl) (by go_simp; rfl) (by go_simp) ?_
 exact eqf_last (by rfl) (by go_simp; rfl) (by go_simp; rfl) (by go_simp)
end Go.Proofs.Ytbigeaknbhmniaa.PB
/- slices.Grow of nothing, and slices.Concat of two rows of runs. -/
namespace Go.Proofs.Ytbigeaknbhmniaa.H
set_option linter.unusedSimpArgs false
set_option linter.unusedVariables false
open Go.RowKit Go.Proofs.YtbigeaknbhmniaaW.PrintWords Go.Proofs.YtbigeaknbhmniaaW.PrintLast Go.Proofs.YtbigeaknbhmniaaW.PrintMore Go.Proofs.Ytbigeaknbhmniaa.PB
theorem infoRun : (Try.prog.info? 71).map (fun i => (i.zero, i.size, i.bytes)) = some (some (.agg #[(.int .i64 0), (.int .i64 0)]), 2, 16) := by kernel_rfl
set_option maxHeartbeats 1000000 in
set_option maxRecDepth 100000 in
theorem grow_nil (n : Nat) (hn : n ≤ 1000000000000) (w : World) : Calls Try.prog 125 #[.slice none 0 0, .int .i64 (n : Int)] w fun e w' => ∃ v, e = .returned v ∧ Kd.R k71 71 w' w.heap.size (fun _ => True) v [] ∧ Below w.heap.size w w' := by
  have hw : wrap64 ((n : Int) - wrap64 (0 - 0)) = (n : Int) := by unfold wrap64; omega
  have c1 : decide ((n : Int) < 0) = false := decide_eq_false (by omega)
  have HW := Aside0.mk hw
  go_enter Try.func125, Try.ntmps125
  by_cases h0 : n = 0
  · subst h0
    go_wp2
    go_ret
    exact ⟨_, rfl, Kd.R_nil _ _ _ _ _, by repeat first | exact Below.refl _ _ | apply below_drew1⟩
  · have c2 : decide (0 < (n : Int)) = true := decide_eq_true (by omega)
    have c3 : decide (0 < n) = true := decide_eq_true (by omega)
    go_wp2_with ((with_reducible refine gate_builtin (b := .append) (xs := #[.tmp 20, .tmp 21]) rfl ?_); at_builtin; refine Kd.R_append_zeros k71 (w0 := w) w.heap.size rfl (.tmp 20) (.tmp 21) 22 3 71 (.agg #[(.int .i64 0), (.int .i64 0)]) 16 rfl Try.underlying22 Try.underlying3 infoRun rfl (by decide) (by omega) (.slice none 0 0) [] z71 (n : Int) (fun _ => True) rfl rfl (k71_mkM _ _ _ z71) (fun _ _ => trivial) (Kd.R_nil _ _ _ _ _) (by omega) (by repeat first | exact Below.refl _ _ | apply below_drew1) (Nat.le_refl _) (by simp only [List.length_nil, Int.toNat_natCast]; omega) ?_; intro v22 w22 ho hb hg hat; obtain ⟨Ao, co, eo⟩ := Kd.R_slice ho; subst eo; have HO := Aside0.mk (Kd.R_take (m := 0) ho (Nat.zero_le _)); have HB := Aside0.mk hb; have HL := Aside0.mk (Kd.R_reads' ho); clear ho hb hg hat)
    go_ret
    exact ⟨_, rfl, by simpa using HO.out, HB.out⟩
set_option maxHeartbeats 4000000 in
set_option maxRecDepth 100000 in
theorem concat_two (g : Nat) (A0 : Option Addr) (c0 : Nat) (l0 : List S71) (A1 : Option Addr) (c1 : Nat) (l1 : List S71) (w : World) (hr0 : Kd.C k71 w A0 l0.length l0) (hr1 : Kd.C k71 w A1 l1.length l1)
    (hlen : l0.length + l1.length ≤ 1000000000) (h0 : w.cell? ⟨g, 0, none⟩ = some (.slice A0 l0.length c0)) (h1 : w.cell? ⟨g, 1, none⟩ = some (.slice A1 l1.length c1)) :
    Calls Try.prog 102 #[.slice (some ⟨g, 0, none⟩) 2 2] w fun e w' => ∃ v, e = .returned v ∧ Kd.R k71 71 w' w.heap.size (fun _ => True) v (l0 ++ l1) ∧ Below w.heap.size w w' := by
  have HR0 := Aside0.mk hr0
  have HR1 := Aside0.mk hr1
  have HLEN := Aside0.mk hlen
  have HB0 := Aside0.mk (World.block_lt_of_cell? w _ h0)
  clear hr0 hr1 hlen
  have q1 : wrap64 ((l0.length : Nat) : Int) = (l0.length : Int) := by have := HLEN.out; unfold wrap64; omega
  have q2 : wrap64 ((l0.length : Int) + (l1.length : Int)) = (l0.length : Int) + (l1.length : Int) := by have := HLEN.out; unfold wrap64; omega
  have p1 : decide ((l0.length : Int) < 0) = false := decide_eq_false (by omega)
  have p2 : decide ((l0.length : Int) + (l1.length : Int) < 0) = false := decide_eq_false (by omega)
  have HG := Aside0.mk (fun W => grow_nil (l0.length + l1.length) (by have := HLEN.out; omega) W)
  rw [Int.natCast_add] at HG
  go_enter Try.func102, Try.ntmps102
  go_wp2
  refine wp_loop_rounds 3 ?_
  rw [rounds_succ]
  go_wp2
  rw [rounds_succ]
  go_wp2
  rw [rounds_succ]
  go_wp2_with (go_at_call 125; refine (HG.out _).mono ?_; rintro e w1 ⟨v1, rfl, ho, hb⟩; have HO1 := Aside0.mk ho; have HB1 := Aside0.mk hb; clear ho hb)
  have h01 := (HB1.out.cell (p := ⟨g, 0, none⟩) HB0.out).trans h0
  refine wp_loop_rounds 3 ?_
  rw [rounds_succ]
  go_wp2_with ((with_reducible refine gate_builtin (b := .append) (xs := #[.tmp 31, .tmp 32]) rfl ?_); at_builtin; refine Kd.R_append_rows k71 (w0 := w) w.heap.size rfl (.tmp 31) (.tmp 32) 22 71 (.agg #[(.int .i64 0), (.int .i64 0)]) 16 rfl Try.underlying22 infoRun rfl (by decide) (by omega) v1 [] l0 _ _ _ (fun _ => True) (fun _ => False) rfl rfl ?aO ?aR (fun _ _ h => h) (fun _ h => h.elim) (fun _ _ => trivial) ?aB ?aS ?aL ?_; (case aO => exact HO1.out); (case aR => exact Kd.C_below HR0.out HB1.out); (case aB => exact HB1.out); (case aS => exact below_size HB1.out); (case aL => have := HLEN.out; simp only [List.length_nil, List.nil_append]; omega); intro v2 w2 ho hb hg hat; have HO2 := Aside0.mk ho; have HB2 := Aside0.mk hb; clear ho hb hg hat)
  have h12 := (HB2.out.cell (p := ⟨g, 1, none⟩) HB0.out).trans h1
  rw [rounds_succ]
  go_wp2_with ((with_reducible refine gate_builtin (b := .append) (xs := #[.tmp 31, .tmp 32]) rfl ?_); at_builtin; refine Kd.R_append_rows k71 (w0 := w) w.heap.size rfl (.tmp 31) (.tmp 32) 22 71 (.agg #[(.int .i64 0), (.int .i64 0)]) 16 rfl Try.underlying22 infoRun rfl (by decide) (by omega) v2 ([] ++ l0) l1 _ _ _ (fun _ => True) (fun _ => False) rfl rfl ?aO ?aR (fun _ _ h => h) (fun _ h => h.elim) (fun _ _ => trivial) ?aB ?aS ?aL ?_; (case aO => exact HO2.out); (case aR => exact Kd.C_below HR1.out HB2.out); (case aB => exact HB2.out); (case aS => exact below_size HB2.out); (case aL => have := HLEN.out; simp only [List.length_nil, List.nil_append]; omega); intro v3 w3 ho hb hg hat; have HO3 := Aside0.mk ho; have HB3 := Aside0.mk hb; clear ho hb hg hat)
  rw [rounds_succ]
  go_wp2
  go_ret
  exact ⟨_, rfl, HO3.out, HB3.out⟩
end Go.Proofs.Ytbigeaknbhmniaa.H
/- slices.Delete of one run, out of a row of the call's own. -/
namespace Go.Proofs.Ytbigeaknbhmniaa.H
set_option linter.unusedSimpArgs false
set_option linter.unusedVariables false
open Go.RowKit Go.Proofs.YtbigeaknbhmniaaW.PrintWords Go.Proofs.YtbigeaknbhmniaaW.PrintLast Go.Proofs.YtbigeaknbhmniaaW.PrintMore Go.Proofs.Ytbigeaknbhmniaa.PB
/-! ### a row of runs as its cells -/
def enc2 : List S71 → List Value
  | [] => []
  | x :: r => .int .i64 x.f0 :: .int .i64 x.f1 :: enc2 r
theorem enc2_len : ∀ xs, (enc2 xs).length = xs.length * 2
  | [] => rfl
  | x :: r => by simp only [enc2, List.length_cons, enc2_len r]; omega
theorem enc2_append : ∀ xs ys, enc2 (xs ++ ys) = enc2 xs ++ enc2 ys
  | [], ys => rfl
  | x :: r, ys => by simp only [List.cons_append, enc2, enc2_append r ys]
theorem enc2_drop : ∀ (i : Nat) (xs : List S71), (enc2 xs).drop (i * 2) = enc2 (xs.drop i)
  | 0, xs => by simp
  | i + 1, [] => by simp [enc2]
  | i + 1, x :: r => by
    rw [show (i + 1) * 2 = i * 2 + 2 by omega]
    simp only [enc2, List.drop_succ_cons]
    exact enc2_drop i r
theorem enc2_take : ∀ (i : Nat) (xs : List S71), (enc2 xs).take (i * 2) = enc2 (xs.take i)
  | 0, xs => by simp [enc2]
  | i + 1, [] => by simp [enc2]
  | i + 1, x :: r => by
    rw [show (i + 1) * 2 = i * 2 + 2 by omega]
    simp only [enc2, List.take_succ_cons]
    rw [enc2_take i r]
theorem enc2_one : ∀ (xs : List S71) (u : Value), u ∈ enc2 xs → u.oneCell' = true
  | [], u, h => by cases h
  | x :: r, u, h => by
    simp only [enc2, List.mem_cons] at h
    rcases h with rfl | rfl | h
    · rfl
    · rfl
    · exact enc2_one r u h
theorem reps_enc2 (w : World) (base : Nat) (ok : Nat → Prop) (xs : List S71) : Reps (k71.M w base ok) 2 xs (enc2 xs) := by
  refine ⟨enc2_len xs, fun j p hj => ?_⟩
  rw [enc2_drop]
  obtain ⟨hl, rfl⟩ := List.getElem?_eq_some_iff.1 hj
  rw [List.drop_eq_getElem_cons hl]
  exact k71_mkM w base ok _
theorem enc2_of_reps {w : World} {base : Nat} {ok : Nat → Prop} : ∀ (xs : List S71) (inner : List Value), Reps (k71.M w base ok) 2 xs inner → inner = enc2 xs
  | [], inner, h => List.eq_nil_of_length_eq_zero (by rw [h.1]; rfl)
  | x :: r, inner, h => by
    have h1 := h.2 0 x rfl
    rw [Nat.zero_mul, List.drop_zero] at h1
    have h1 := k71_openM h1
    have h2 := Kd.reps_drop (m := 1) h
    rw [List.drop_succ_cons, List.drop_zero, Nat.one_mul] at h2
    have h3 := enc2_of_reps r _ h2
    rw [← List.take_append_drop 2 inner, h1, h3]
    rfl
theorem R2_own {w : World} {base : Nat} {ok : Nat → Prop} {v : Value} {xs : List S71} (h : Kd.R k71 71 w base ok v xs) : w.ownsRow base 71 2 v xs.length (enc2 xs) := by
  obtain ⟨_, inner, ho, hr⟩ := h
  rw [enc2_of_reps xs inner hr] at ho
  exact ho
theorem R2_of {w : World} {base : Nat} {v : Value} {xs : List S71} (h : w.ownsRow base 71 2 v xs.length (enc2 xs)) : Kd.R k71 71 w base (fun _ => True) v xs :=
  ⟨fun _ _ => trivial, enc2 xs, h, reps_enc2 _ _ _ _⟩
/-! ### cells that are set -/
def setL (cur : Array Value) (o : Nat) : List Value → Array Value
  | [] => cur
  | v :: r => setL (cur.setIfInBounds o v) (o + 1) r
theorem setL_size : ∀ (vs : List Value) (cur : Array Value) (o : Nat), (setL cur o vs).size = cur.size
  | [], cur, o => rfl
  | v :: r, cur, o => by unfold setL; rw [setL_size r]; simp
theorem heap_setCells {g t : Nat} : ∀ (vs : List Value) (o : Nat) (w : World) (cur : Array Value), w.heap[g]? = some (.cells cur t (0, 0)) → (w.setCells g o vs).heap[g]? = some (.cells (setL cur o vs) t (0, 0))
  | [], o, w, cur, h => h
  | v :: r, o, w, cur, h => heap_setCells r (o + 1) _ _ (blk_set h o v)
theorem setL_get : ∀ (vs : List Value) (o : Nat) (cur : Array Value), o + vs.length ≤ cur.size → (setL cur o vs).toList = cur.toList.take o ++ vs ++ cur.toList.drop (o + vs.length)
  | [], o, cur, h => by simp [setL]
  | v :: r, o, cur, h => by
    have h' : o + 1 + r.length ≤ cur.size := by simpa [Nat.add_assoc, Nat.add_comm 1] using h
    unfold setL
    rw [setL_get r (o + 1) _ (by simpa using h')]
    have ho : o < cur.toList.length := by rw [Array.length_toList]; omega
    have e1 : (cur.setIfInBounds o v).toList = cur.toList.set o v := by simp
    rw [e1, List.take_succ_eq_append_getElem (by simpa using ho), List.take_set_of_le (Nat.le_refl _), List.getElem_set_self, List.drop_set_of_lt (by omega)]
    simp [Nat.add_assoc, Nat.add_comm 1]
theorem grown_setCells {a : World} (g : Nat) : ∀ (vs : List Value) (o : Nat) (w : World), a.grownBy w (some g) → a.grownBy (w.setCells g o vs) (some g)
  | [], _, _, h => h
  | v :: r, o, w, h => grown_setCells g r (o + 1) _ (Go.Lib.grownBy_setB h o v)
theorem run_clear_one (w : World) (ty : TypeId) (g o c : Nat) (hc : ∀ j, j < 2 → (w.cell? ⟨g, o + j, none⟩).isSome = true) (hf : ∀ j, j < 2 → w.frozen? ⟨g, o + j, none⟩ = false) :
    (Builtin.clear_ #[22] ty #[.slice (some ⟨g, o, none⟩) 1 c]).run Try.prog w = .ok (.tuple #[]) (w.setCells g o [.int .i64 0, .int .i64 0]) := by
  have hst := run_storeCells_cells (P := Try.prog) g o [.int .i64 0, .int .i64 0] 0 w (by simpa using hc) (by simpa using hf) (by intro v hv; simp at hv; subst hv; rfl)
  have hv : ∀ w, (zeroValue 71).run Try.prog w = .ok (.agg #[.int .i64 0, .int .i64 0]) w := Try.zeroValue71
  have hzc : (Builtin.zeroCells (Value.agg #[.int .i64 0, .int .i64 0]).cells 1).toList = [.int .i64 0, .int .i64 0] := by first | decide | (simp [Builtin.zeroCells, Value.cells, Array.ofFn, List.ofFn]; done) | kernel_rfl
  simp only [Nat.add_zero] at hst
  simp [Builtin.clear_, run_underlying Try.underlying22, hv, hzc, hst]
set_option maxHeartbeats 4000000 in
set_option maxRecDepth 100000 in
theorem delete_one (xs : List S71) (g cap i base : Nat) (hi : i < xs.length) (hlen : xs.length ≤ 1000000000) (w : World) (ho : w.ownsRow base 71 2 (.slice (some ⟨g, 0, none⟩) xs.length cap) xs.length (enc2 xs)) :
    Calls Try.prog 103 #[.slice (some ⟨g, 0, none⟩) xs.length cap, .int .i64 (i : Int), .int .i64 ((i : Int) + 1)] w fun e w' => e = .returned (.slice (some ⟨g, 0, none⟩) (i + (xs.length - (i + 1))) cap) ∧
      w'.ownsRow base 71 2 (.slice (some ⟨g, 0, none⟩) (i + (xs.length - (i + 1))) cap) (i + (xs.length - (i + 1))) (enc2 (xs.take i ++ xs.drop (i + 1))) ∧ w.grownBy w' (some g) := by
  obtain ⟨hl0, ⟨hv, _⟩ | ⟨g', cap', cur, hv, hbase, hb, h1, h2, h3, h4⟩⟩ := ho
  · cases hv
  cases hv
  obtain ⟨i0, hinf, hz0, hz1, hz2⟩ := info_parts infoRun
  obtain ⟨news, hnews⟩ : ∃ news, news = enc2 (xs.drop (i + 1)) := ⟨_, rfl⟩
  have hnl : news.length = (xs.length - (i + 1)) * 2 := by rw [hnews, enc2_len, List.length_drop]
  have hcl : cur.toList.length = cap * 2 := by rw [Array.length_toList]; exact h3
  have e2 : (enc2 xs).drop ((i + 1) * 2) = news := by rw [enc2_drop, hnews]
  have cellAt : ∀ t u, news[t]? = some u → w.cell? ⟨g, (i + 1) * 2 + t, none⟩ = some u := by
    intro t u hu
    rw [blk_cell hb, ← Array.getElem?_toList]
    have h5 : (cur.toList.take (xs.length * 2))[(i + 1) * 2 + t]? = some u := by rw [h4, ← List.getElem?_drop, e2]; exact hu
    rw [List.getElem?_take] at h5
    split at h5
    · exact h5
    · cases h5
  have someAt : ∀ t, t < cap * 2 → (w.cell? ⟨g, t, none⟩).isSome = true := by
    intro t ht
    rw [blk_cell hb, Array.getElem?_eq_getElem (by omega)]; rfl
  obtain ⟨A, hA, hsrc⟩ : ∃ A : Addr, (if cap = i + 1 then some (⟨g, 0, none⟩ : Addr) else some ⟨g, (i + 1) * 2, none⟩) = some A ∧ ∀ t u, news[t]? = some u → w.drew.cell? (A.add t) = some u := by
    by_cases h : cap = i + 1
    · refine ⟨⟨g, 0, none⟩, by simp [h], fun t u hu => ?_⟩
      have h0 : news.length = 0 := by rw [hnl]; omega
      rw [List.length_eq_zero_iff.1 h0] at hu
      simp at hu
    · exact ⟨⟨g, (i + 1) * 2, none⟩, by simp [h], fun t u hu => by rw [Addr.add_lit]; exact cellAt t u hu⟩
  obtain ⟨W1, hW1⟩ : ∃ W1, W1 = w.drew.setCells g (0 + i * 2) news := ⟨_, rfl⟩
  have hb1 : W1.heap[g]? = some (.cells (setL cur (0 + i * 2) news) 71 (0, 0)) := by rw [hW1]; exact heap_setCells news _ _ cur hb
  have hclear : ∀ ty, (Builtin.clear_ #[22] ty #[.slice (some ⟨g, (i + (xs.length - (i + 1))) * 2, none⟩) (xs.length - (i + (xs.length - (i + 1)))) (cap - (i + (xs.length - (i + 1))))]).run Try.prog W1 = .ok (.tuple #[]) (W1.setCells g ((i + (xs.length - (i + 1))) * 2) [.int .i64 0, .int .i64 0]) := by
    intro ty
    rw [show xs.length - (i + (xs.length - (i + 1))) = 1 by omega]
    refine run_clear_one W1 ty g _ _ (fun j hj => ?_) (fun j hj => blk_frozen hb1 _)
    rw [blk_cell hb1, Array.getElem?_eq_getElem (by rw [setL_size]; omega)]; rfl
  have HS1 := Aside0.mk hnl
  have HS2 := Aside0.mk hsrc
  have HS3 := Aside0.mk (fun u (hu : u ∈ news) => enc2_one (xs.drop (i + 1)) u (hnews ▸ hu))
  have HS4 := Aside0.mk (fun t (ht : t < news.length) => (⟨by have := HS1.out; exact someAt _ (by omega), blk_frozen hb _⟩ : (w.drew.cell? ⟨g, 0 + i * 2 + t, none⟩).isSome = true ∧ w.drew.frozen? ⟨g, 0 + i * 2 + t, none⟩ = false))
  have HW := Aside0.mk hW1
  have HB1 := Aside0.mk hb1
  have HI := Aside0.mk hinf
  have HZ := Aside0.mk hz1
  have HC := Aside0.mk (show xs.length ≤ cap ∧ cap ≤ maxLen from ⟨h1, h2⟩)
  have HE := Aside0.mk hb
  have HL := Aside0.mk hcl
  have HT := Aside0.mk h4
  have H3 := Aside0.mk h3
  have hne : ¬ (cap = i + (xs.length - (i + 1))) := by omega
  have hic : i ≤ cap := by omega
  have hjc : i + 1 ≤ cap := by omega
  have hjn : i + 1 ≤ xs.length := hi
  have hnc : xs.length ≤ cap := h1
  have q2 : (0 ≤ (i : Int) + 1) = True := eq_true (by omega)
  have q3 : ((i : Int) + 1 ≤ (xs.length : Int)) = True := eq_true (by omega)
  have q4 : ((i : Int) + 1).toNat = i + 1 := by omega
  have q1 : wrap64 ((i : Int) + 1) = (i : Int) + 1 := by unfold wrap64; omega
  have mixed : Try.prog.follows Departure.mixedOrders = true := by kernel_rfl
  clear hnl hsrc hW1 hb1 hinf hz1 h1 h2 hb hcl e2 cellAt someAt h4 hl0 h3
  go_enter Try.func103, Try.ntmps103
  go_wp2_with fail
  go_region_law_o (refine step_append_room rfl (.tmp 22) (.tmp 25) 22 rfl 71 i0 2 Try.underlying22 HI.out HZ.out g 0 i cap (by simp [Act.eval, Act.put]) A (xs.length - (i + 1)) (cap - (i + 1)) news (by simp [Act.eval, Act.put]; try exact hA) HS1.out HS2.out HS3.out (by omega) HS4.out ?_; rw [← HW.out])
  go_wp2
  go_ret
  have hn2 : news.length = (xs.length - (i + 1)) * 2 := HS1.out
  have hsz1 : (setL cur (0 + i * 2) news).size = cap * 2 := by rw [setL_size]; exact H3.out
  have hsz2 : (setL cur (0 + i * 2) news).toList.length = cap * 2 := hsz1
  have hlt : (cur.toList.take (i * 2)).length = i * 2 := by rw [List.length_take, HL.out]; omega
  refine ⟨rfl, ⟨?_, .inr ⟨g, cap, _, rfl, hbase, heap_setCells _ _ _ _ HB1.out, by omega, HC.out.2, by rw [setL_size]; exact hsz1, ?_⟩⟩, ?_⟩
  · rw [enc2_len, List.length_append, List.length_take, List.length_drop]; omega
  · rw [setL_get _ _ _ (by rw [hsz1]; simp only [List.length_cons, List.length_nil]; omega), List.append_assoc, List.take_append_of_le_length (by rw [List.length_take, hsz2]; omega), List.take_take, Nat.min_self,
      setL_get _ _ _ (by rw [H3.out, hn2]; omega), Nat.zero_add, List.take_append_of_le_length (by rw [List.length_append, hlt, hn2]; omega), List.take_of_length_le (by rw [List.length_append, hlt, hn2]; omega), enc2_append, ← enc2_take, ← HT.out, List.take_take, Nat.min_eq_left (by omega), hnews]
  · refine grown_setCells g _ _ _ ?_
    rw [HW.out]
    exact grown_setCells g _ _ _ (World.grownBy.mk rfl rfl rfl (Nat.le_refl _) (fun _ _ _ => rfl))
end Go.Proofs.Ytbigeaknbhmniaa.H
/- runs.joined, in the printed shape. -/
namespace Go.Proofs.Ytbigeaknbhmniaa.H
set_option linter.unusedSimpArgs false
set_option linter.unusedVariables false
open Go.RowKit Go.Proofs.YtbigeaknbhmniaaW.PrintWords Go.Proofs.YtbigeaknbhmniaaW.PrintLast Go.Proofs.YtbigeaknbhmniaaW.PrintMore Go.Proofs.Ytbigeaknbhmniaa.PB
/-- Does a text end in what another one begins with? -/
def meets (a b : List S71) : Prop := a ≠ [] ∧ b ≠ [] ∧ (rd_T71 a ((a.length : Int) - 1)).f0 = (rd_T71 b 0).f0
set_option maxHeartbeats 4000000 in
set_option maxRecDepth 100000 in
theorem joined_apart (A0 : Option Addr) (c0 : Nat) (l0 : List S71) (A1 : Option Addr) (c1 : Nat) (l1 : List S71) (w : World) (hr0 : Kd.C k71 w A0 l0.length l0) (hr1 : Kd.C k71 w A1 l1.length l1) (hlen : l0.length + l1.length ≤ 1000000000) (h0 : ¬ meets l0 l1) :
    Calls Try.prog 81 #[.slice A0 l0.length c0, .slice A1 l1.length c1] w fun e w' => ∃ v0_ : Value, e = .returned (v0_) ∧ Kd.R k71 71 w' w.heap.size (fun _ => True) v0_ (l0 ++ l1) ∧ Below w.heap.size w w' := by
  have HR0 := Aside0.mk hr0
  have HR1 := Aside0.mk hr1
  have HLEN := Aside0.mk hlen
  clear hr0 hr1 hlen
  have mixed : Try.prog.follows Departure.mixedOrders = true := by kernel_rfl
  by_cases e0 : l0 = []
  · subst e0
    go_enter Try.func81, Try.ntmps81
    go_wp2_with (go_at_call 102; refine (concat_two w.heap.size A0 c0 [] A1 c1 l1 _ (Kd.C_below HR0.out (below_alloc (Below.refl _ _) _)) (Kd.C_below HR1.out (below_alloc (Below.refl _ _) _)) HLEN.out ((blk_cell (blk_new _ _) 0).trans rfl) ((blk_cell (blk_new _ _) 1).trans rfl)).mono ?_; rintro e w1 ⟨v1, rfl, ho, hb⟩; have HO := Aside0.mk ho; have HB := Aside0.mk (below_step (below_alloc (Below.refl _ _) _) hb); clear ho hb)
    go_region_o
    go_wp2
    go_ret
    exact ⟨_, rfl, Kd.R_lower HO.out (by simp), by repeat first | exact HB.out | apply below_drew1⟩
  have p0 : 0 < l0.length := List.length_pos_iff.2 e0
  have d0 : decide ((0 : Int) < (l0.length : Int)) = true := decide_eq_true (by omega)
  have d0' : decide (0 < l0.length) = true := decide_eq_true p0
  by_cases e1 : l1 = []
  · subst e1
    go_enter Try.func81, Try.ntmps81
    go_wp2_with (go_at_call 102; refine (concat_two w.heap.size A0 c0 l0 A1 c1 [] _ (Kd.C_below HR0.out (below_alloc (Below.refl _ _) _)) (Kd.C_below HR1.out (below_alloc (Below.refl _ _) _)) HLEN.out ((blk_cell (blk_new _ _) 0).trans rfl) ((blk_cell (blk_new _ _) 1).trans rfl)).mono ?_; rintro e w1 ⟨v1, rfl, ho, hb⟩; have HO := Aside0.mk ho; have HB := Aside0.mk (below_step (below_alloc (Below.refl _ _) _) hb); clear ho hb)
    go_region_o
    go_wp2
    go_ret
    exact ⟨_, rfl, Kd.R_lower HO.out (by simp), by repeat first | exact HB.out | apply below_drew1⟩
  have p1 : 0 < l1.length := List.length_pos_iff.2 e1
  have d1 : decide ((0 : Int) < (l1.length : Int)) = true := decide_eq_true (by omega)
  have d1' : decide (0 < l1.length) = true := decide_eq_true p1
  have hne : ¬ (rd_T71 l0 ((l0.length : Int) - 1)).f0 = (rd_T71 l1 0).f0 := fun z => h0 ⟨e0, e1, z⟩
  have b0 : ((rd_T71 l0 ((l0.length : Int) - 1)).f0 == (rd_T71 l1 0).f0) = false := beq_eq_false_iff_ne.2 hne
  obtain ⟨ad0, a0, hx0, hx1⟩ := at_T71 HR0.out ((l0.length : Int) - 1) (by omega) (by omega)
  obtain ⟨ad1, a1, hy0, hy1⟩ := at_T71 HR1.out 0 (by omega) (by omega)
  cases a0
  cases a1
  have k1 : (0 ≤ (l0.length : Int) - 1) = True := eq_true (by omega)
  have k2 : ((l0.length : Int) - 1 < (l0.length : Int)) = True := eq_true (by omega)
  have k3 : (0 < l1.length) = True := eq_true p1
  have k4 : ((0 : Int) < (l1.length : Int)) = True := eq_true (by omega)
  have q1 : wrap64 ((l0.length : Int) - 1) = (l0.length : Int) - 1 := by have := HLEN.out; unfold wrap64; omega
  have HX := Aside0.mk hx0
  have HY := Aside0.mk hy0
  clear hx0 hx1 hy0 hy1 h0 e0 e1
  go_enter Try.func81, Try.ntmps81
  go_wp2_with (go_at_call 102; refine (concat_two w.heap.size (some ad0) c0 l0 (some ad1) c1 l1 _ (Kd.C_below HR0.out (below_alloc (Below.refl _ _) _)) (Kd.C_below HR1.out (below_alloc (Below.refl _ _) _)) HLEN.out ((blk_cell (blk_new _ _) 0).trans rfl) ((blk_cell (blk_new _ _) 1).trans rfl)).mono ?_; rintro e w1 ⟨v1, rfl, ho, hb⟩; have HO := Aside0.mk ho; have HB := Aside0.mk (below_step (below_alloc (Below.refl _ _) _) hb); clear ho hb)
  have hx := (HB.out.cell (World.block_lt_of_cell? w _ HX.out)).trans HX.out
  have hx2 : w1.cell? (ad0.add ((l0.length - 1) * 2)) = some (.int .i64 (rd_T71 l0 ((l0.length : Int) - 1)).f0) := by
    have e : ((l0.length : Int) - 1).toNat = l0.length - 1 := by omega
    rw [e] at hx; exact hx
  have hy := (HB.out.cell (World.block_lt_of_cell? w _ HY.out)).trans HY.out
  have hy2 : w1.cell? ad1 = some (.int .i64 (rd_T71 l1 0).f0) := by
    have e : ad1.add ((0 : Int).toNat * 2) = ad1 := by cases ad1; rfl
    rw [e] at hy; exact hy
  go_big_region_o
  go_wp2
  go_ret
  exact ⟨_, rfl, Kd.R_lower HO.out (by simp), by repeat first | exact HB.out | apply below_drew1⟩
theorem enc2_set (n : Int) : ∀ (i : Nat) (xs : List S71) (h : i < xs.length), (enc2 xs).set (i * 2 + 1) (.int .i64 n) = enc2 (xs.set i ⟨xs[i].f0, n⟩)
  | 0, x :: r, _ => rfl
  | i + 1, x :: r, h => by
    rw [show (i + 1) * 2 + 1 = i * 2 + 1 + 2 by omega]
    simp only [enc2, List.set_cons_succ, List.getElem_cons_succ]
    rw [enc2_set n i r (by simpa using h)]
theorem enc2_at : ∀ (i : Nat) (xs : List S71) (h : i < xs.length), (enc2 xs)[i * 2 + 1]? = some (.int .i64 xs[i].f1)
  | 0, x :: r, _ => rfl
  | i + 1, x :: r, h => by
    rw [show (i + 1) * 2 + 1 = i * 2 + 1 + 2 by omega]
    simp only [enc2, List.getElem?_cons_succ, List.getElem_cons_succ]
    exact enc2_at i r (by simpa using h)
theorem own_set {w : World} {base g cap : Nat} {xs : List S71} (ho : w.ownsRow base 71 2 (.slice (some ⟨g, 0, none⟩) xs.length cap) xs.length (enc2 xs)) (i : Nat) (h : i < xs.length) (n : Int) :
    (w.setCell ⟨g, i * 2 + 1, none⟩ (.int .i64 n)).ownsRow base 71 2 (.slice (some ⟨g, 0, none⟩) xs.length cap) xs.length (enc2 (xs.set i ⟨xs[i].f0, n⟩)) := by
  obtain ⟨hl0, ⟨hv, _⟩ | ⟨g', cap', cur, hv, hbase, hb, h1, h2, h3, h4⟩⟩ := ho
  · cases hv
  cases hv
  refine ⟨by rw [enc2_len, List.length_set], .inr ⟨g, cap, _, rfl, hbase, blk_set hb _ _, h1, h2, by simpa using h3, ?_⟩⟩
  rw [← enc2_set n i xs h, ← h4, Array.toList_setIfInBounds, List.take_set]
theorem own_cell {w : World} {base g cap : Nat} {xs : List S71} (ho : w.ownsRow base 71 2 (.slice (some ⟨g, 0, none⟩) xs.length cap) xs.length (enc2 xs)) (i : Nat) (h : i < xs.length) :
    w.cell? ⟨g, i * 2 + 1, none⟩ = some (.int .i64 xs[i].f1) ∧ w.frozen? ⟨g, i * 2 + 1, none⟩ = false := by
  obtain ⟨hl0, ⟨hv, _⟩ | ⟨g', cap', cur, hv, hbase, hb, h1, h2, h3, h4⟩⟩ := ho
  · cases hv
  cases hv
  refine ⟨?_, blk_frozen hb _⟩
  rw [blk_cell hb, ← Array.getElem?_toList]
  have h5 := enc2_at i xs h
  rw [← h4, List.getElem?_take] at h5
  split at h5
  · exact h5
  · cases h5
set_option maxHeartbeats 4000000 in
set_option maxRecDepth 100000 in
theorem joined_meet (A0 : Option Addr) (c0 : Nat) (l0 : List S71) (A1 : Option Addr) (c1 : Nat) (l1 : List S71) (w : World) (hr0 : Kd.C k71 w A0 l0.length l0) (hr1 : Kd.C k71 w A1 l1.length l1) (hlen : l0.length + l1.length ≤ 1000000000) (h0 : meets l0 l1) :
    Calls Try.prog 81 #[.slice A0 l0.length c0, .slice A1 l1.length c1] w fun e w' => ∃ v0_ : Value, e = .returned (v0_) ∧ Kd.R k71 71 w' w.heap.size (fun _ => True) v0_ (((l0 ++ l1).set (l0.length - 1) ⟨((l0 ++ l1).getD (l0.length - 1) z71).f0, wrap64 (((l0 ++ l1).getD (l0.length - 1) z71).f1 + (rd_T71 l1 0).f1)⟩).eraseIdx l0.length) ∧ Below w.heap.size w w' := by
  have HR0 := Aside0.mk hr0
  have HR1 := Aside0.mk hr1
  have HLEN := Aside0.mk hlen
  clear hr0 hr1 hlen
  have mixed : Try.prog.follows Departure.mixedOrders = true := by kernel_rfl
  have e0 := h0.1
  have e1 := h0.2.1
  have p0 : 0 < l0.length := List.length_pos_iff.2 e0
  have d0 : decide ((0 : Int) < (l0.length : Int)) = true := decide_eq_true (by omega)
  have d0' : decide (0 < l0.length) = true := decide_eq_true p0
  have p1 : 0 < l1.length := List.length_pos_iff.2 e1
  have d1 : decide ((0 : Int) < (l1.length : Int)) = true := decide_eq_true (by omega)
  have d1' : decide (0 < l1.length) = true := decide_eq_true p1
  have hne : (rd_T71 l0 ((l0.length : Int) - 1)).f0 = (rd_T71 l1 0).f0 := h0.2.2
  have b0 : ((rd_T71 l0 ((l0.length : Int) - 1)).f0 == (rd_T71 l1 0).f0) = true := beq_iff_eq.2 hne
  obtain ⟨ad0, a0, hx0, hx1⟩ := at_T71 HR0.out ((l0.length : Int) - 1) (by omega) (by omega)
  obtain ⟨ad1, a1, hy0, hy1⟩ := at_T71 HR1.out 0 (by omega) (by omega)
  cases a0
  cases a1
  have k1 : (0 ≤ (l0.length : Int) - 1) = True := eq_true (by omega)
  have k2 : ((l0.length : Int) - 1 < (l0.length : Int)) = True := eq_true (by omega)
  have k3 : (0 < l1.length) = True := eq_true p1
  have k4 : ((0 : Int) < (l1.length : Int)) = True := eq_true (by omega)
  have q1 : wrap64 ((l0.length : Int) - 1) = (l0.length : Int) - 1 := by have := HLEN.out; unfold wrap64; omega
  have HX := Aside0.mk hx0
  have HY1 := Aside0.mk hy1
  have HY := Aside0.mk hy0
  clear hx0 hx1 hy0 hy1 h0 e0 e1
  have hln : (l0 ++ l1).length = l0.length + l1.length := List.length_append
  have hk : l0.length - 1 < (l0 ++ l1).length := by omega
  have egd : (l0 ++ l1).getD (l0.length - 1) z71 = (l0 ++ l1)[l0.length - 1] := by simp [List.getD, List.getElem?_eq_getElem hk]
  rw [egd]
  go_enter Try.func81, Try.ntmps81
  go_wp2_with (go_at_call 102; refine (concat_two w.heap.size (some ad0) c0 l0 (some ad1) c1 l1 _ (Kd.C_below HR0.out (below_alloc (Below.refl _ _) _)) (Kd.C_below HR1.out (below_alloc (Below.refl _ _) _)) HLEN.out ((blk_cell (blk_new _ _) 0).trans rfl) ((blk_cell (blk_new _ _) 1).trans rfl)).mono ?_; rintro e w1 ⟨v1, rfl, ho, hb⟩; have HO := Aside0.mk ho; have HB := Aside0.mk (below_step (below_alloc (Below.refl _ _) _) hb); clear ho hb)
  have hx := (HB.out.cell (World.block_lt_of_cell? w _ HX.out)).trans HX.out
  have hx2 : w1.cell? (ad0.add ((l0.length - 1) * 2)) = some (.int .i64 (rd_T71 l0 ((l0.length : Int) - 1)).f0) := by
    have e : ((l0.length : Int) - 1).toNat = l0.length - 1 := by omega
    rw [e] at hx; exact hx
  have hy := (HB.out.cell (World.block_lt_of_cell? w _ HY.out)).trans HY.out
  have hy2 : w1.cell? ad1 = some (.int .i64 (rd_T71 l1 0).f0) := by
    have e : ad1.add ((0 : Int).toNat * 2) = ad1 := by cases ad1; rfl
    rw [e] at hy; exact hy
  have hy3 : w1.cell? ⟨ad1.block, ad1.off + 1, none⟩ = some (.int .i64 (rd_T71 l1 0).f1) := by
    have h := (HB.out.cell (World.block_lt_of_cell? w _ HY1.out)).trans HY1.out
    have e : ad1.add ((0 : Int).toNat * 2) = ad1 := by cases ad1; rfl
    rw [e] at h; exact h
  obtain ⟨g, cap, hvs, hge⟩ : ∃ g cap, v1 = .slice (some ⟨g, 0, none⟩) (l0 ++ l1).length cap ∧ w.heap.size ≤ g := by
    obtain ⟨_, ⟨hv, hn⟩ | ⟨g, cap, cur, hv, hbs, _⟩⟩ := R2_own HO.out
    · omega
    · exact ⟨g, cap, hv, Nat.le_trans (by simp) hbs⟩
  subst hvs
  have HGE := Aside0.mk hge
  clear hge
  have hown := R2_own HO.out
  obtain ⟨hc, hf⟩ := own_cell hown (l0.length - 1) hk
  have hg1 := own_set hown (l0.length - 1) hk
  have HOWN := Aside0.mk hg1
  clear hown hg1
  have k5 : ((l0.length : Int) - 1 < (l0.length : Int) + (l1.length : Int)) = True := eq_true (by have := HLEN.out; omega)
  have k6 : ((l0.length : Int) - 1).toNat = l0.length - 1 := by omega
  go_big_region_o
  go_wp2
  go_big_region_o
  have HG0 := Aside0.mk (below_size HB.out)
  have q6 : wrap64 ((l0.length : Int) + 1) = (l0.length : Int) + 1 := by have := HLEN.out; unfold wrap64; omega
  obtain ⟨XS, hXS⟩ : ∃ XS, XS = (l0 ++ l1).set (l0.length - 1) ⟨(l0 ++ l1)[l0.length - 1].f0, wrap64 ((l0 ++ l1)[l0.length - 1].f1 + (rd_T71 l1 0).f1)⟩ := ⟨_, rfl⟩
  have hxl : XS.length = l0.length + l1.length := by rw [hXS, List.length_set, hln]
  have ho4 := HOWN.out (wrap64 ((l0 ++ l1)[l0.length - 1].f1 + (rd_T71 l1 0).f1))
  rw [← hXS, hln] at ho4
  have HO4 := Aside0.mk ho4
  have D := fun B W h => delete_one XS g cap l0.length B (by rw [hxl]; omega) (by rw [hxl]; exact HLEN.out) W h
  simp only [hxl] at D
  have HD := Aside0.mk D
  clear D ho4 HOWN
  go_wp2_with (go_at_call 103; refine (HD.out ?B _ ?ho).mono ?_; (case ho => exact HO4.out); rintro e w2 ⟨rfl, ho2, hg2⟩)
  go_ret
  have er : XS.eraseIdx l0.length = XS.take l0.length ++ XS.drop (l0.length + 1) := List.eraseIdx_eq_take_drop_succ _ _
  have el : (XS.take l0.length ++ XS.drop (l0.length + 1)).length = l0.length + (l0.length + l1.length - (l0.length + 1)) := by rw [List.length_append, List.length_take, List.length_drop, hxl]; omega
  refine ⟨_, rfl, ?_, ?_⟩
  · rw [← hXS, er]
    rw [← el] at ho2 ⊢
    exact Kd.R_lower (R2_of ho2) (by simp)
  · refine Below.grown (row := some g) ?_ hg2 ?_ (fun j hj => by cases hj; exact HGE.out)
    · repeat first | exact HB.out | apply below_drew1 | refine below_set ?_ HGE.out
    · have := HB.out.size; simpa using this
def meetsB (a b : List S71) : Bool := decide (0 < a.length) && decide (0 < b.length) && decide ((rd_T71 a ((a.length : Int) - 1)).f0 = (rd_T71 b 0).f0)
theorem meetsB_iff (a b : List S71) : meetsB a b = true ↔ meets a b := by
  unfold meetsB meets
  rw [Bool.and_eq_true, Bool.and_eq_true, decide_eq_true_eq, decide_eq_true_eq, decide_eq_true_eq, List.length_pos_iff, List.length_pos_iff, and_assoc]
def joinedL (l0 l1 : List S71) : List S71 := if meetsB l0 l1 = true then ((l0 ++ l1).set (l0.length - 1) ⟨((l0 ++ l1).getD (l0.length - 1) z71).f0, wrap64 (((l0 ++ l1).getD (l0.length - 1) z71).f1 + (rd_T71 l1 0).f1)⟩).eraseIdx l0.length else l0 ++ l1
def runs_joined.f (l0 l1 : List S71) : Option (List S71) := if l0.length + l1.length ≤ 1000000000 then some (joinedL l0 l1) else none
theorem runs_joined.calls (A0 : Option Addr) (c0 : Nat) (l0 : List (S71)) (A1 : Option Addr) (c1 : Nat) (l1 : List (S71)) (r : List (S71)) (w : World) (hr0 : Kd.C k71 w A0 l0.length l0) (hc0 : l0.length ≤ c0) (hr1 : Kd.C k71 w A1 l1.length l1) (hc1 : l1.length ≤ c1) (h : runs_joined.f l0 l1 = some r) :
    Calls Try.prog 81 #[.slice A0 l0.length c0, .slice A1 l1.length c1] w fun e w' => ∃ v0_ : Value, e = .returned (v0_) ∧ Kd.R k71 71 w' w.heap.size (fun _ => True) v0_ r ∧ Below w.heap.size w w' := by
  unfold runs_joined.f at h
  split at h
  · obtain rfl := Option.some.inj h
    unfold joinedL
    by_cases hm : meetsB l0 l1 = true
    · rw [if_pos hm]; exact joined_meet A0 c0 l0 A1 c1 l1 w hr0 hr1 ‹_› ((meetsB_iff _ _).1 hm)
    · rw [if_neg hm]; exact joined_apart A0 c0 l0 A1 c1 l1 w hr0 hr1 ‹_› (fun z => hm ((meetsB_iff _ _).2 z))
  · cases h
end Go.Proofs.Ytbigeaknbhmniaa.H
/- word.text: the first text of a variable, by slices.IndexFunc and a closure that reads the variable; in the printed shape. -/
namespace Go.Proofs.Ytbigeaknbhmniaa.H
set_option linter.unusedSimpArgs false
set_option linter.unusedVariables false
open Go.RowKit Go.Proofs.YtbigeaknbhmniaaW.PrintWords Go.Proofs.YtbigeaknbhmniaaW.PrintLast Go.Proofs.YtbigeaknbhmniaaW.PrintMore Go.Proofs.Ytbigeaknbhmniaa.PB
def idxT (v : Int) : List S41 → Int → Int
  | [], _ => -1
  | x :: r, i => if x.f0 = v then i else idxT v r (i + 1)
theorem idxT_step (v : Int) (l : List S41) (i : Nat) (h : i < l.length) : idxT v (l.drop i) (i : Int) = if (rd_T41 l (i : Int)).f0 = v then (i : Int) else idxT v (l.drop (i + 1)) ((i + 1 : Nat) : Int) := by
  have e : rd_T41 l (i : Int) = l[i] := by unfold rd_T41; rw [Int.toNat_natCast]; simp [h]
  rw [List.drop_eq_getElem_cons h, e]
  rfl
theorem idxT_range (v : Int) : ∀ (l : List S41) (i : Int), idxT v l i = -1 ∨ (i ≤ idxT v l i ∧ idxT v l i < i + l.length)
  | [], i => .inl rfl
  | x :: r, i => by
    unfold idxT
    by_cases h : x.f0 = v
    · rw [if_pos h]; right; simp only [List.length_cons]; omega
    · rw [if_neg h]
      have := idxT_range v r (i + 1)
      simp only [List.length_cons]; omega
set_option maxHeartbeats 1000000 in
theorem clo_text (v x0 : Int) (A1 : Option Addr) (n1 c1 g : Nat) (w : World) (hg : w.cell? ⟨g, 0, none⟩ = some (.int .i64 v)) :
    Calls Try.prog 79 #[.agg #[.int .i64 x0, .slice A1 n1 c1], .pointer (some ⟨g, 0, none⟩)] w fun e w' => e = .returned (.bool (x0 == v)) ∧ Below w.heap.size w w' := by
  have hlt := World.block_lt_of_cell? w _ hg
  have hu := Try.underlying41
  go_enter Try.func79, Try.ntmps79
  go_wp2
  go_ret
  exact ⟨rfl, by repeat first | exact Below.refl _ _ | apply below_drew1 | apply below_alloc⟩
set_option maxHeartbeats 4000000 in
set_option maxRecDepth 100000 in
theorem index_text (v : Int) (g : Nat) (A0 : Option Addr) (c0 : Nat) (l : List S41) (w : World) (hr : Kd.C k41 w A0 l.length l) (hl : l.length ≤ 1000000000) (hg : w.cell? ⟨g, 0, none⟩ = some (.int .i64 v)) :
    Calls Try.prog 78 #[.slice A0 l.length c0, .func (.func 79) #[] #[.pointer (some ⟨g, 0, none⟩)]] w fun e w' => e = .returned (.int .i64 (idxT v l 0)) ∧ Below w.heap.size w w' := by
  have HR := Aside0.mk hr
  have HL := Aside0.mk hl
  have HG := Aside0.mk hg
  have hu := Try.underlying41
  clear hr hl hg
  go_enter Try.func78, Try.ntmps78
  go_wp2
  go_loopw [8] (fun v8 wr => ∃ i : Nat, v8 = .int .i64 (i : Int) ∧ Aside0 (i ≤ l.length) ∧ Aside0 (idxT v (l.drop i) (i : Int) = idxT v l 0) ∧ Aside0 (Below w.heap.size w wr)) (fun v8 _ => l.length - (RowKit.intOf v8).toNat)
  case atStart => exact ⟨0, rfl, ⟨Nat.zero_le _⟩, ⟨rfl⟩, ⟨Below.refl _ _⟩⟩
  case round =>
    obtain ⟨i, rfl, HI, HE, HB⟩ := hrel
    by_cases hlt : i < l.length
    · have hL := HL.out
      have hst := idxT_step v l i hlt
      rw [HE.out] at hst
      have hw : wrap64 ((i : Int) + 1) = ((i + 1 : Nat) : Int) := by unfold wrap64; omega
      have HW := Aside0.mk hw
      clear hw
      obtain ⟨ad, A1, c1, e, hx0, hx1, hl1, hi1⟩ := at_T41 (Kd.C_below HR.out HB.out) (i : Int) (by omega) (by omega)
      cases e
      rw [Int.toNat_natCast] at hx0 hx1
      have hgc := Aside0.mk ((HB.out.cell (World.block_lt_of_cell? w _ HG.out)).trans HG.out)
      have c1' : decide ((i : Int) < (l.length : Int)) = true := decide_eq_true (by omega)
      have c2' : decide (i < l.length) = true := decide_eq_true hlt
      have p1 : (0 ≤ (i : Int)) = True := eq_true (by omega)
      have q1 : ((i : Int) < (l.length : Int)) = True := eq_true (by omega)
      by_cases hv : (rd_T41 l (i : Int)).f0 = v
      · rw [if_pos hv] at hst
        have HST := Aside0.mk hst
        have hb : ((rd_T41 l (i : Int)).f0 == v) = true := beq_iff_eq.2 hv
        have HBE := Aside0.mk hb
        clear hst hv hb hl1 hi1
        go_wp2_with (go_at_call 79; (with_reducible refine (clo_text v _ _ _ _ g _ ?side).mono ?_); (case side => exact hgc.out); rw [HBE.out]; rintro e w1 ⟨rfl, hb1⟩; have HB1 := Aside0.mk (below_step HB.out hb1); clear hb1)
        go_ret
        exact ⟨by first | (rw [HST.out]; done) | (rw [HST.out]; rfl), by repeat first | exact HB1.out | apply below_drew1⟩
      · rw [if_neg hv] at hst
        have HST := Aside0.mk hst
        have hb : ((rd_T41 l (i : Int)).f0 == v) = false := beq_eq_false_iff_ne.2 hv
        have HBE := Aside0.mk hb
        clear hst hv hb hl1 hi1
        go_wp2_with (go_at_call 79; (with_reducible refine (clo_text v _ _ _ _ g _ ?side).mono ?_); (case side => exact hgc.out); rw [HBE.out]; rintro e w1 ⟨rfl, hb1⟩; have HB1 := Aside0.mk (below_step HB.out hb1); clear hb1)
        go_roundw
        case rel => exact ⟨i + 1, by go_num, ⟨by omega⟩, ⟨HST.out.symm⟩, ⟨by repeat first | exact HB1.out | apply below_drew1⟩⟩
        case measure => simp [RowKit.intOf, HW.out]; omega
    · have hi := HI.out
      have he : i = l.length := by omega
      subst he
      have hE : idxT v l 0 = -1 := by rw [← HE.out, List.drop_eq_nil_of_le (Nat.le_refl _)]; rfl
      have HE2 := Aside0.mk hE
      have c1' : decide ((l.length : Int) < (l.length : Int)) = false := decide_eq_false (by omega)
      have c2' : decide (l.length < l.length) = false := decide_eq_false (by omega)
      clear hE hlt
      go_wp2
      go_ret
      exact ⟨by rw [HE2.out]; rfl, HB.out⟩
def word_text.f (k : Nat) (a0 : Int) (l1 : List S41) : Option (List S71) := if l1.length ≤ 1000000000 then (if idxT a0 l1 0 < 0 then some [] else (runs_May.f k (rd_T41 l1 (idxT a0 l1 0)).f1).bind fun b => if b = true then some (rd_T41 l1 (idxT a0 l1 0)).f1 else some []) else none
set_option maxHeartbeats 4000000 in
set_option maxRecDepth 100000 in
theorem word_text.calls (k : Nat) (a0 : Int) (P1_ : Nat → Prop) (A1 : Option Addr) (c1 : Nat) (l1 : List (S41)) (r : List (S71)) (w : World) (hs1 : Kd.V k41 41 w w.heap.size (fun k_ => P1_ k_) (.slice A1 l1.length c1) l1) (h : word_text.f k a0 l1 = some r) :
    Calls Try.prog 47 #[.int .i64 a0, .slice A1 l1.length c1] w fun e w' => ∃ v0_ : Value, e = .returned (v0_) ∧ Kd.V k71 71 w' w.heap.size (fun k_ => (P1_ k_ ∨ w.heap.size ≤ k_)) v0_ r ∧ Below w.heap.size w w' := by
  unfold word_text.f at h
  split at h
  case isFalse => cases h
  case isTrue hlen =>
  have HS := Aside0.mk hs1
  have hr := (Kd.V_reads' hs1).2.2
  have HR := Aside0.mk hr
  have HL := Aside0.mk hlen
  have hrg := idxT_range a0 l1 0
  have hbA := below_alloc (Below.refl w.heap.size w) (.cells #[.int .i64 a0] 3 (0, 0))
  have HI : ∀ W, Below w.heap.size w W → W.cell? ⟨w.heap.size, 0, none⟩ = some (.int .i64 a0) → Calls Try.prog 78 #[.slice A1 l1.length c1, .func (.func 79) #[] #[.pointer (some ⟨w.heap.size, 0, none⟩)]] W fun e w' => e = .returned (.int .i64 (idxT a0 l1 0)) ∧ Below W.heap.size W w' :=
    fun W hb hc => index_text a0 w.heap.size A1 c1 l1 W (Kd.C_below hr hb) hlen hc
  have HIX := Aside0.mk HI
  clear hs1 hr hlen HI hbA
  generalize hj : idxT a0 l1 0 = j at h hrg HIX
  clear hj
  by_cases hn : j < 0
  · rw [if_pos hn] at h
    obtain rfl := Option.some.inj h
    have d1 : decide (j < 0) = true := decide_eq_true hn
    clear h hn hrg
    go_enter Try.func47, Try.ntmps47
    go_wp2_with (go_at_call 78; (with_reducible refine (HIX.out _ ?sb ?sc).mono ?_); (case sb => repeat first | exact Below.refl _ _ | apply below_drew1 | apply below_alloc); (case sc => exact (blk_cell (blk_new _ _) 0).trans rfl); rintro e w1 ⟨rfl, hb1⟩; have HB1 := Aside0.mk (below_step (below_alloc (Below.refl _ _) _) hb1); clear hb1)
    go_ret
    exact ⟨_, rfl, Kd.V_nil _ _ _ _ _, by repeat first | exact HB1.out | apply below_drew1⟩
  · rw [if_neg hn] at h
    obtain ⟨b, hm, h⟩ := Option.bind_eq_some_iff.1 h
    have h0 : 0 ≤ j := by omega
    have h1 : j < (l1.length : Int) := by omega
    have d1 : decide (j < 0) = false := decide_eq_false hn
    obtain ⟨ad, A2, c2, e, hx0, hx1, hl2, hi2⟩ := at_T41 HR.out j h0 h1
    cases e
    obtain ⟨ce, hce, hMe, hcc⟩ := Kd.V_get HS.out z41 j h0 h1
    obtain ⟨ua, uc, rfl, ul, ge⟩ := k41_openF hMe
    have hv := hcc 1 _ rfl
    rw [add_field _ _ 1 (by omega)] at hv
    replace hv := Option.some.inj (hv.symm.trans hx1)
    injection hv with hva hvn hvc
    subst hva
    subst hvc
    have HV := Aside0.mk (show Kd.V k71 71 w w.heap.size _ _ (rd_T41 l1 j).f1 from Kd.V_mk ul ge)
    have HM := Aside0.mk hm
    have HX := Aside0.mk hx1
    have HC2 := Aside0.mk hi2
    have HL2 := Aside0.mk hl2
    have p1 := eq_true h0
    have q1 := eq_true h1
    clear hrg hn hx0 hx1 hl2 hi2 hce hMe hcc hvn ul ge hm h0 h1
    cases b with
    | false =>
      obtain rfl := Option.some.inj h
      clear h
      go_enter Try.func47, Try.ntmps47
      go_wp2_with (first
        | (go_at_call 78; (with_reducible refine (HIX.out _ ?sb ?sc).mono ?_); (case sb => repeat first | exact Below.refl _ _ | apply below_drew1 | apply below_alloc); (case sc => exact (blk_cell (blk_new _ _) 0).trans rfl); rintro e w1 ⟨rfl, hb1⟩; have HB1 := Aside0.mk (below_step (below_alloc (Below.refl _ _) _) hb1); have hx := (HB1.out.cell (World.block_lt_of_cell? w _ HX.out)).trans HX.out; clear hb1)
        | (go_at_call 38; (with_reducible refine (runs_May.calls k _ _ _ false _ ?sa ?sd HM.out).mono ?_); (case sa => exact Kd.C_below HC2.out HB1.out); (case sd => exact HL2.out); rintro e w2 ⟨rfl, hb2⟩; have HB2 := Aside0.mk (below_step HB1.out hb2); have hx := (HB2.out.cell (World.block_lt_of_cell? w _ HX.out)).trans HX.out; clear hb2))
      go_ret
      exact ⟨_, rfl, Kd.V_nil _ _ _ _ _, by repeat first | exact HB2.out | apply below_drew1 | apply pw_below_drewN⟩
    | true =>
      obtain rfl := Option.some.inj h
      clear h
      go_enter Try.func47, Try.ntmps47
      go_wp2_with (first
        | (go_at_call 78; (with_reducible refine (HIX.out _ ?sb ?sc).mono ?_); (case sb => repeat first | exact Below.refl _ _ | apply below_drew1 | apply below_alloc); (case sc => exact (blk_cell (blk_new _ _) 0).trans rfl); rintro e w1 ⟨rfl, hb1⟩; have HB1 := Aside0.mk (below_step (below_alloc (Below.refl _ _) _) hb1); have hx := (HB1.out.cell (World.block_lt_of_cell? w _ HX.out)).trans HX.out; clear hb1)
        | (go_at_call 38; (with_reducible refine (runs_May.calls k _ _ _ true _ ?sa ?sd HM.out).mono ?_); (case sa => exact Kd.C_below HC2.out HB1.out); (case sd => exact HL2.out); rintro e w2 ⟨rfl, hb2⟩; have HB2 := Aside0.mk (below_step HB1.out hb2); have hx := (HB2.out.cell (World.block_lt_of_cell? w _ HX.out)).trans HX.out; clear hb2))
      go_ret
      exact ⟨_, rfl, Kd.V_mono (by (with_reducible repeat (first | apply Kd.V_drewN | apply Kd.V_drew)); exact Kd.V_below HV.out HB2.out) (fun _ hk => .inl hk), by repeat first | exact HB2.out | apply below_drew1 | apply pw_below_drewN⟩
end Go.Proofs.Ytbigeaknbhmniaa.H
