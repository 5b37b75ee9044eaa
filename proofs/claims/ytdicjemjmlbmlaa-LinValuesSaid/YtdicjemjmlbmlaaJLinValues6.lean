/- Joined by wip/tools/shake.py for the claim of LinValues: PAx16, PAx17, NatT, WhoR, HSameE, HRd, LinC, LinD, HAwk, PAx18, LinF, LawV, HLin, LawLinValues. -/
import Derived.Test.YtdicjemjmlbmlaaJLinValues2
import Derived.Test.YtdicjemjmlbmlaaJLinValues5
import Derived.Test.YtdicjemjmlbmlaaJLinValues4
import Derived.StillTailTactics
import Derived.Deep.QuietTactic
import Derived.BigQuiet
import Derived.WalkKit
import Derived.KernelRfl
import Derived.Shelf.RegionOpenPlain
import Derived.Lib.SmallJoins
import Derived.Test.YtdicjemjmlbmlaaRows
import Derived.ProofKit
import Derived.OpenShut
import Derived.ShutString
import Derived.ChangeOld
import Derived.Below
import Derived.SizedLaws
import Derived.ChangeSlices
import Derived.Deep.SlicePairs
/- Written by a program of this session, wip/tools/patch_print.py, over the kit's print of the loaded functions. -/
namespace Go.Proofs.Ytdicjemjmlbmlaa.H
end Go.Proofs.Ytdicjemjmlbmlaa.H
namespace Go.Proofs.Ytdicjemjmlbmlaa.PA
open Go.RowKit Go.Proofs.YtdicjemjmlbmlaaW.PrintWords Go.Proofs.YtdicjemjmlbmlaaW.PrintLast Go.Proofs.YtdicjemjmlbmlaaW.PrintMore Go.Proofs.Ytdicjemjmlbmlaa.H
attribute [local go_sem] max2_int min2_int max_two min_two max_three min_three max_four min_four   -- for this text's walks alone
attribute [local go_sem] box_twice
set_option linter.unusedVariables false
set_option linter.unusedSimpArgs false

/-! ### gudgeonref01_sub: function 96 -/
mutual
def gudgeonref01_sub.l0 : Nat → List Bool → List Bool → List Bool → Bool → Int → Option (List Bool)
 | 0, _, _, _, _, _ => none
 | k + 1, x0, x1, x5, x6, x7 => if x7 < (x0.length : Int) then (if 0 ≤ x7 then (if rdOf false x0 x7 = true then (gudgeonref01_sub.j1 k x0 x1 x5 x6 x7 (0 + 1)) else (gudgeonref01_sub.j1 k x0 x1 x5 x6 x7 0)) else (none)) else ((gudgeonref01_trim.f k x5).bind fun t694 => (some t694))
def gudgeonref01_sub.j1 : Nat → List Bool → List Bool → List Bool → Bool → Int → Int → Option (List Bool)
 | 0, _, _, _, _, _, _ => none
 | k + 1, x0, x1, x5, x6, x7, x8 => (gudgeonref01_at.f x1 x7).bind fun t698 => (if t698 = true then (if x6 = true then (if (wrap64 ((wrap64 (x8 - 1)) - 1)) = 1 then (if x5.length < 140737488355328 then (gudgeonref01_sub.l0 k x0 x1 (x5 ++ [true]) (decide ((wrap64 ((wrap64 (x8 - 1)) - 1)) < 0)) (wrap64 (x7 + 1))) else (none)) else (if x5.length < 140737488355328 then (gudgeonref01_sub.l0 k x0 x1 (x5 ++ [((wrap64 ((wrap64 (x8 - 1)) - 1)) == (-1))]) (decide ((wrap64 ((wrap64 (x8 - 1)) - 1)) < 0)) (wrap64 (x7 + 1))) else (none))) else (if (wrap64 (x8 - 1)) = 1 then (if x5.length < 140737488355328 then (gudgeonref01_sub.l0 k x0 x1 (x5 ++ [true]) (decide ((wrap64 (x8 - 1)) < 0)) (wrap64 (x7 + 1))) else (none)) else (if x5.length < 140737488355328 then (gudgeonref01_sub.l0 k x0 x1 (x5 ++ [((wrap64 (x8 - 1)) == (-1))]) (decide ((wrap64 (x8 - 1)) < 0)) (wrap64 (x7 + 1))) else (none)))) else (if x6 = true then (if (wrap64 (x8 - 1)) = 1 then (if x5.length < 140737488355328 then (gudgeonref01_sub.l0 k x0 x1 (x5 ++ [true]) (decide ((wrap64 (x8 - 1)) < 0)) (wrap64 (x7 + 1))) else (none)) else (if x5.length < 140737488355328 then (gudgeonref01_sub.l0 k x0 x1 (x5 ++ [((wrap64 (x8 - 1)) == (-1))]) (decide ((wrap64 (x8 - 1)) < 0)) (wrap64 (x7 + 1))) else (none))) else (if x8 = 1 then (if x5.length < 140737488355328 then (gudgeonref01_sub.l0 k x0 x1 (x5 ++ [true]) (decide (x8 < 0)) (wrap64 (x7 + 1))) else (none)) else (if x5.length < 140737488355328 then (gudgeonref01_sub.l0 k x0 x1 (x5 ++ [(x8 == (-1))]) (decide (x8 < 0)) (wrap64 (x7 + 1))) else (none)))))
end
def gudgeonref01_sub.f (k : Nat) (l0 : List Bool) (l1 : List Bool) : Option (List Bool) := gudgeonref01_sub.l0 k l0 l1 ([] : List Bool) false 0
set_option maxHeartbeats 8000000 in
set_option maxRecDepth 100000 in
theorem gudgeonref01_sub.calls (k : Nat) (A0 : Option Addr) (c0 : Nat) (l0 : List Bool) (A1 : Option Addr) (c1 : Nat) (l1 : List Bool) (r : List Bool) (w : World) (hr0 : Kd.C Kd.bool w A0 l0.length l0) (hc0 : l0.length ≤ c0) (hr1 : Kd.C Kd.bool w A1 l1.length l1) (hc1 : l1.length ≤ c1) (h : gudgeonref01_sub.f k l0 l1 = some r) :
  Calls Try.prog 96 #[.slice A0 l0.length c0, .slice A1 l1.length c1] w fun e w' => ∃ v0_ : Value, e = .returned (v0_) ∧ Kd.R Kd.bool 4 w' w.heap.size (fun _ => True) v0_ r ∧ Below w.heap.size w w' := by
 have HR0 := Aside0.mk hr0
 have HC0 := Aside0.mk hc0
 clear hr0 hc0
 have HR1 := Aside0.mk hr1
 have HC1 := Aside0.mk hc1
 clear hr1 hc1
 have HB := Aside0.mk (Below.refl w.heap.size w)
 have H : (gudgeonref01_sub.l0 k l0 l1 ([] : List Bool) false 0) = some r := h
 clear h
 have H' := Aside0.mk H
 clear H
 go_enter Try.func96, Try.ntmps96
 go_wp2
 go_loopg [5, 6, 7] k (fun kq v5 v6 v7 w' => ∃ (x5_1 : List Bool) (x6_1 : Bool) (x7_1 : Int), v6 = .bool x6_1 ∧ v7 = .int .i64 x7_1 ∧ Aside0 (gudgeonref01_sub.l0 kq l0 l1 x5_1 x6_1 x7_1 = some r) ∧ Aside0 (kq ≤ k) ∧ Aside0 (Kd.R Kd.bool 4 w' w.heap.size (fun _ => True) v5 x5_1) ∧ Aside0 (Below w.heap.size w w'))
 case atStart => exact ⟨(([] : List Bool)), (false), (0), (by first | rfl | (simp; done)), (by first | rfl | (simp; done)), H', ⟨Nat.le_refl _⟩, ⟨by first | exact Kd.R_nil _ _ _ _ _ | exact Kd.N_nil _ _ _ _ _ | exact Kd.V_nil _ _ _ _ _ | exact Kd.Q_nil _ _ _ _ _ | exact Kd.S_nil _ _ _ _ _⟩, ⟨HB.out⟩⟩
 case round =>
  clear H'
  try clear c1
  try clear p2
  obtain ⟨x5_1, x6_1, x7_1, rfl, rfl, HA, HK1, HO_5, HB⟩ := hrel
  cases gk with
  | zero => exact absurd HA.out (by simp [gudgeonref01_sub.l0])
  | succ k1 =>
   have H := HA.out
   clear HA
   simp only [gudgeonref01_sub.l0] at H
   by_cases c3 : x7_1 < (l0.length : Int)
   ·rw [if_pos c3] at H
    have c3b0 : decide (x7_1 < (l0.length : Int)) = true := decide_eq_true c3
    clear c3
    by_cases c4 : 0 ≤ x7_1
    ·rw [if_pos c4] at H
     have c4b0 : decide (0 ≤ x7_1) = true := decide_eq_true c4
     clear c4
     have HC5 := Aside0.mk H
     clear H
     have p697 : 0 ≤ (x7_1 : Int) := of_decide_eq_true (by first | (with_reducible assumption) | assumption)
     have q697 : x7_1 < (l0.length : Int) := of_decide_eq_true (by first | (with_reducible assumption) | assumption)
     obtain ⟨ad697, e697, hx697_0⟩ := Kd.at_bool HR0.out x7_1 p697 q697
     cases e697
     replace hx697_0 := (HB.out.cell (World.block_lt_of_cell? w _ hx697_0)).trans hx697_0
     replace p697 := eq_true p697
     replace q697 := eq_true q697
     go_upto_if 18 with (fail)
     go_cut [8] (fun v8 wc => ∃ (kq : Nat) (x8_4 : Int), v8 = .int .i64 x8_4 ∧ Aside0 (gudgeonref01_sub.j1 kq l0 l1 x5_1 x6_1 x7_1 x8_4 = some r) ∧ Aside0 (kq ≤ k1) ∧ Aside0 (Kd.R Kd.bool 4 wc w.heap.size (fun _ => True) u5 x5_1) ∧ Aside0 (Below w.heap.size w wc))
     case first =>
      have H := HC5.out
      clear HC5
      obtain ⟨bq6, hbq6⟩ : ∃ b_ : Bool, b_ = (rdOf false l0 x7_1) := ⟨_, rfl⟩
      replace H : (if bq6 = true then (gudgeonref01_sub.j1 k1 l0 l1 x5_1 x6_1 x7_1 (0 + 1)) else (gudgeonref01_sub.j1 k1 l0 l1 x5_1 x6_1 x7_1 0)) = some r := by rw [← hbq6] at H; exact H
      have Nbq6 := Aside0.mk hbq6
      clear hbq6
      (try rw [← Nbq6.out])
      by_cases c7 : bq6 = true
      ·subst c7
       rw [if_pos rfl] at H
       have H' := Aside0.mk H
       clear H
       go_wp2
       go_meet
       case rel => exact ⟨_, (0 + 1), (by first | rfl | (simp; done)), H', ⟨by have := HK1.out; first | omega | exact Nat.le_refl _⟩, ⟨HO_5.out⟩, ⟨HB.out⟩⟩
      ·replace c7 := Bool.eq_false_iff.mpr c7
       subst c7
       rw [if_neg (show ¬ (false = true) by decide)] at H
       have H' := Aside0.mk H
       clear H
       go_wp2
       go_meet
       case rel => exact ⟨_, (0), (by first | rfl | (simp; done)), H', ⟨by have := HK1.out; first | omega | exact Nat.le_refl _⟩, ⟨HO_5.out⟩, ⟨HB.out⟩⟩
     case rest =>
      clear HC5
      try clear c1
      try clear p2
      try clear c3
      try clear c3b0
      try clear c4
      try clear c4b0
      try clear p6
      try clear q6
      try clear hx6
      try clear c7
      try clear hx697_0
      try clear p2
      try clear p697
      try clear q697
      obtain ⟨kq, x8_4, rfl, HA, HJ4, HO_5, HB⟩ := hcut
      cases kq with
      | zero => exact absurd HA.out (by simp [gudgeonref01_sub.j1])
      | succ kj4 =>
       have H := HA.out
       clear HA
       simp only [gudgeonref01_sub.j1] at H
       obtain ⟨t698, A80, H⟩ := Option.bind_eq_some_iff.mp H
       try dsimp only at H
       have A8 := Aside0.mk A80
       clear A80
       by_cases c9 : t698 = true
       ·subst c9
        rw [if_pos rfl] at H
        by_cases c10 : x6_1 = true
        ·subst c10
         rw [if_pos rfl] at H
         by_cases c11 : (wrap64 ((wrap64 (x8_4 - 1)) - 1)) = 1
         ·rw [if_pos c11] at H
          have c11b0 : ((wrap64 ((wrap64 (x8_4 - 1)) - 1)) == 1) = true := beq_iff_eq.mpr c11
          have c11b1 : ((wrap64 ((wrap64 (x8_4 - 1)) - 1)) != 1) = false := bne_eq_false_iff_eq.mpr c11
          clear c11
          by_cases c12 : x5_1.length < 140737488355328
          ·rw [if_pos c12] at H
           have LMc12 := Aside0.mk c12
           clear c12
           obtain ⟨y699, hy699⟩ : ∃ y_ : List Bool, y_ = (x5_1 ++ [true]) := ⟨_, rfl⟩
           replace H : (gudgeonref01_sub.l0 kj4 l0 l1 y699 (decide ((wrap64 ((wrap64 (x8_4 - 1)) - 1)) < 0)) (wrap64 (x7_1 + 1))) = some r := by first | (rw [hy699]; with_reducible exact H) | (have H2_ := (Option.bind_some _ _).symm.trans H; rw [hy699]; with_reducible exact H2_) | (have H2_ := (Option.bind_some _ _).symm.trans H; with_reducible exact H2_) | with_reducible exact H | (rw [hy699]; exact H) | exact H
           have Ny699 := Aside0.mk hy699
           clear hy699
           have H' := Aside0.mk H
           clear H
           go_wp2_with (first | ((with_reducible refine gate_callee (f := 111) rfl ?_); refine goL (some 23) Try.func111 [.slice A1 l1.length c1, .int .i64 x7_1] ?_; (with_reducible refine (gudgeonref01_at.calls _ _ l1 x7_1 true _ ?side1 ?side2 A8.out).mono ?_); (case side1 => repeat (first | exact (Kd.C_below HR1.out HB.out) | (with_reducible refine Kd.C_alloc ?_ _) | (with_reducible refine Kd.C_drewN ?_ _) | (with_reducible refine Kd.C_drew ?_))); (case side2 => exact HC1.out); rintro e w' ⟨rfl, ⟨nd, rfl⟩⟩; refine ⟨_, rfl, ?_⟩) | ((with_reducible refine gate_builtin (b := .append) (xs := #[.tmp 29, .tmp 36]) rfl ?_); at_builtin; refine Kd.R_append Kd.bool (w0 := w) w.heap.size rfl (.tmp 29) (.tmp 36) 90 4 (.bool false) 1 rfl Try.underlying90 info4 rfl (by decide) (by omega) u5 x5_1 true [.bool true] (fun _ => True) (fun _ => False) rfl rfl ?aP (fun _ hk => hk.elim) ?aF ?aO ?aB ?aS ?aL ?_; (case aP => exact rfl); (case aB => exact (by repeat first | exact HB.out | refine bxSet ?_ (by assumption) | apply below_alloc | apply pw_below_drewN)); (case aF => exact (fun _ _ => trivial)); (case aO => exact (by (with_reducible repeat (first | apply Kd.R_alloc | apply Kd.R_drewN | apply Kd.R_drew)); exact HO_5.out)); (case aS => exact (below_size (by repeat first | exact HB.out | refine bxSet ?_ (by assumption) | apply below_alloc | apply pw_below_drewN))); (case aL => have := LMc12.out; omega); intro v700 w13 ho hb hg hat; rw [← Ny699.out] at ho; have n0_ := Aside0.mk (hb); have n1_ := Aside0.mk (ho); clear HB; clear HO_5; have HB := n0_; have HO701 := n1_; clear n0_ n1_; clear ho hb hg hat))
           go_roundg kj4
           case measure => have := HK1.out; have := HJ4.out; omega
           case rel => exact ⟨(y699), (decide ((wrap64 ((wrap64 (x8_4 - 1)) - 1)) < 0)), (wrap64 (x7_1 + 1)), (by first | rfl | (simp; done)), (by first | rfl | (simp; done)), H', ⟨by have := HK1.out; have := HJ4.out; omega⟩, ⟨HO701.out⟩, ⟨HB.out⟩⟩
          ·rw [if_neg c12] at H
           exact absurd H (by simp)
         ·rw [if_neg c11] at H
          have c11b0 : ((wrap64 ((wrap64 (x8_4 - 1)) - 1)) == 1) = false := beq_eq_false_iff_ne.mpr c11
          have c11b1 : ((wrap64 ((wrap64 (x8_4 - 1)) - 1)) != 1) = true := bne_iff_ne.mpr c11
          by_cases c14 : x5_1.length < 140737488355328
          ·rw [if_pos c14] at H
           have LMc14 := Aside0.mk c14
           clear c14
           obtain ⟨y702, hy702⟩ : ∃ y_ : List Bool, y_ = (x5_1 ++ [((wrap64 ((wrap64 (x8_4 - 1)) - 1)) == (-1))]) := ⟨_, rfl⟩
           replace H : (gudgeonref01_sub.l0 kj4 l0 l1 y702 (decide ((wrap64 ((wrap64 (x8_4 - 1)) - 1)) < 0)) (wrap64 (x7_1 + 1))) = some r := by first | (rw [hy702]; with_reducible exact H) | (have H2_ := (Option.bind_some _ _).symm.trans H; rw [hy702]; with_reducible exact H2_) | (have H2_ := (Option.bind_some _ _).symm.trans H; with_reducible exact H2_) | with_reducible exact H | (rw [hy702]; exact H) | exact H
           have Ny702 := Aside0.mk hy702
           clear hy702
           have H' := Aside0.mk H
           clear H
           go_wp2_with (first | ((with_reducible refine gate_callee (f := 111) rfl ?_); refine goL (some 23) Try.func111 [.slice A1 l1.length c1, .int .i64 x7_1] ?_; (with_reducible refine (gudgeonref01_at.calls _ _ l1 x7_1 true _ ?side1 ?side2 A8.out).mono ?_); (case side1 => repeat (first | exact (Kd.C_below HR1.out HB.out) | (with_reducible refine Kd.C_alloc ?_ _) | (with_reducible refine Kd.C_drewN ?_ _) | (with_reducible refine Kd.C_drew ?_))); (case side2 => exact HC1.out); rintro e w' ⟨rfl, ⟨nd, rfl⟩⟩; refine ⟨_, rfl, ?_⟩) | ((with_reducible refine gate_builtin (b := .append) (xs := #[.tmp 29, .tmp 36]) rfl ?_); at_builtin; refine Kd.R_append Kd.bool (w0 := w) w.heap.size rfl (.tmp 29) (.tmp 36) 90 4 (.bool false) 1 rfl Try.underlying90 info4 rfl (by decide) (by omega) u5 x5_1 ((wrap64 ((wrap64 (x8_4 - 1)) - 1)) == (-1)) [.bool ((wrap64 ((wrap64 (x8_4 - 1)) - 1)) == (-1))] (fun _ => True) (fun _ => False) rfl rfl ?aP (fun _ hk => hk.elim) ?aF ?aO ?aB ?aS ?aL ?_; (case aP => exact rfl); (case aB => exact (by repeat first | exact HB.out | refine bxSet ?_ (by assumption) | apply below_alloc | apply pw_below_drewN)); (case aF => exact (fun _ _ => trivial)); (case aO => exact (by (with_reducible repeat (first | apply Kd.R_alloc | apply Kd.R_drewN | apply Kd.R_drew)); exact HO_5.out)); (case aS => exact (below_size (by repeat first | exact HB.out | refine bxSet ?_ (by assumption) | apply below_alloc | apply pw_below_drewN))); (case aL => have := LMc14.out; omega); intro v703 w15 ho hb hg hat; rw [← Ny702.out] at ho; have n0_ := Aside0.mk (hb); have n1_ := Aside0.mk (ho); clear HB; clear HO_5; have HB := n0_; have HO704 := n1_; clear n0_ n1_; clear ho hb hg hat))
           go_roundg kj4
           case measure => have := HK1.out; have := HJ4.out; omega
           case rel => exact ⟨(y702), (decide ((wrap64 ((wrap64 (x8_4 - 1)) - 1)) < 0)), (wrap64 (x7_1 + 1)), (by first | rfl | (simp; done)), (by first | rfl | (simp; done)), H', ⟨by have := HK1.out; have := HJ4.out; omega⟩, ⟨HO704.out⟩, ⟨HB.out⟩⟩
          ·rw [if_neg c14] at H
           exact absurd H (by simp)
        ·replace c10 := Bool.eq_false_iff.mpr c10
         subst c10
         rw [if_neg (show ¬ (false = true) by decide)] at H
         by_cases c16 : (wrap64 (x8_4 - 1)) = 1
         ·rw [if_pos c16] at H
          have c16b0 : ((wrap64 (x8_4 - 1)) == 1) = true := beq_iff_eq.mpr c16
          have c16b1 : ((wrap64 (x8_4 - 1)) != 1) = false := bne_eq_false_iff_eq.mpr c16
          clear c16
          by_cases c17 : x5_1.length < 140737488355328
          ·rw [if_pos c17] at H
           have LMc17 := Aside0.mk c17
           clear c17
           obtain ⟨y705, hy705⟩ : ∃ y_ : List Bool, y_ = (x5_1 ++ [true]) := ⟨_, rfl⟩
           replace H : (gudgeonref01_sub.l0 kj4 l0 l1 y705 (decide ((wrap64 (x8_4 - 1)) < 0)) (wrap64 (x7_1 + 1))) = some r := by first | (rw [hy705]; with_reducible exact H) | (have H2_ := (Option.bind_some _ _).symm.trans H; rw [hy705]; with_reducible exact H2_) | (have H2_ := (Option.bind_some _ _).symm.trans H; with_reducible exact H2_) | with_reducible exact H | (rw [hy705]; exact H) | exact H
           have Ny705 := Aside0.mk hy705
           clear hy705
           have H' := Aside0.mk H
           clear H
           go_wp2_with (first | ((with_reducible refine gate_callee (f := 111) rfl ?_); refine goL (some 23) Try.func111 [.slice A1 l1.length c1, .int .i64 x7_1] ?_; (with_reducible refine (gudgeonref01_at.calls _ _ l1 x7_1 true _ ?side1 ?side2 A8.out).mono ?_); (case side1 => repeat (first | exact (Kd.C_below HR1.out HB.out) | (with_reducible refine Kd.C_alloc ?_ _) | (with_reducible refine Kd.C_drewN ?_ _) | (with_reducible refine Kd.C_drew ?_))); (case side2 => exact HC1.out); rintro e w' ⟨rfl, ⟨nd, rfl⟩⟩; refine ⟨_, rfl, ?_⟩) | ((with_reducible refine gate_builtin (b := .append) (xs := #[.tmp 29, .tmp 36]) rfl ?_); at_builtin; refine Kd.R_append Kd.bool (w0 := w) w.heap.size rfl (.tmp 29) (.tmp 36) 90 4 (.bool false) 1 rfl Try.underlying90 info4 rfl (by decide) (by omega) u5 x5_1 true [.bool true] (fun _ => True) (fun _ => False) rfl rfl ?aP (fun _ hk => hk.elim) ?aF ?aO ?aB ?aS ?aL ?_; (case aP => exact rfl); (case aB => exact (by repeat first | exact HB.out | refine bxSet ?_ (by assumption) | apply below_alloc | apply pw_below_drewN)); (case aF => exact (fun _ _ => trivial)); (case aO => exact (by (with_reducible repeat (first | apply Kd.R_alloc | apply Kd.R_drewN | apply Kd.R_drew)); exact HO_5.out)); (case aS => exact (below_size (by repeat first | exact HB.out | refine bxSet ?_ (by assumption) | apply below_alloc | apply pw_below_drewN))); (case aL => have := LMc17.out; omega); intro v706 w18 ho hb hg hat; rw [← Ny705.out] at ho; have n0_ := Aside0.mk (hb); have n1_ := Aside0.mk (ho); clear HB; clear HO_5; have HB := n0_; have HO707 := n1_; clear n0_ n1_; clear ho hb hg hat))
           go_roundg kj4
           case measure => have := HK1.out; have := HJ4.out; omega
           case rel => exact ⟨(y705), (decide ((wrap64 (x8_4 - 1)) < 0)), (wrap64 (x7_1 + 1)), (by first | rfl | (simp; done)), (by first | rfl | (simp; done)), H', ⟨by have := HK1.out; have := HJ4.out; omega⟩, ⟨HO707.out⟩, ⟨HB.out⟩⟩
          ·rw [if_neg c17] at H
           exact absurd H (by simp)
         ·rw [if_neg c16] at H
          have c16b0 : ((wrap64 (x8_4 - 1)) == 1) = false := beq_eq_false_iff_ne.mpr c16
          have c16b1 : ((wrap64 (x8_4 - 1)) != 1) = true := bne_iff_ne.mpr c16
          by_cases c19 : x5_1.length < 140737488355328
          ·rw [if_pos c19] at H
           have LMc19 := Aside0.mk c19
           clear c19
           obtain ⟨y708, hy708⟩ : ∃ y_ : List Bool, y_ = (x5_1 ++ [((wrap64 (x8_4 - 1)) == (-1))]) := ⟨_, rfl⟩
           replace H : (gudgeonref01_sub.l0 kj4 l0 l1 y708 (decide ((wrap64 (x8_4 - 1)) < 0)) (wrap64 (x7_1 + 1))) = some r := by first | (rw [hy708]; with_reducible exact H) | (have H2_ := (Option.bind_some _ _).symm.trans H; rw [hy708]; with_reducible exact H2_) | (have H2_ := (Option.bind_some _ _).symm.trans H; with_reducible exact H2_) | with_reducible exact H | (rw [hy708]; exact H) | exact H
           have Ny708 := Aside0.mk hy708
           clear hy708
           have H' := Aside0.mk H
           clear H
           go_wp2_with (first | ((with_reducible refine gate_callee (f := 111) rfl ?_); refine goL (some 23) Try.func111 [.slice A1 l1.length c1, .int .i64 x7_1] ?_; (with_reducible refine (gudgeonref01_at.calls _ _ l1 x7_1 true _ ?side1 ?side2 A8.out).mono ?_); (case side1 => repeat (first | exact (Kd.C_below HR1.out HB.out) | (with_reducible refine Kd.C_alloc ?_ _) | (with_reducible refine Kd.C_drewN ?_ _) | (with_reducible refine Kd.C_drew ?_))); (case side2 => exact HC1.out); rintro e w' ⟨rfl, ⟨nd, rfl⟩⟩; refine ⟨_, rfl, ?_⟩) | ((with_reducible refine gate_builtin (b := .append) (xs := #[.tmp 29, .tmp 36]) rfl ?_); at_builtin; refine Kd.R_append Kd.bool (w0 := w) w.heap.size rfl (.tmp 29) (.tmp 36) 90 4 (.bool false) 1 rfl Try.underlying90 info4 rfl (by decide) (by omega) u5 x5_1 ((wrap64 (x8_4 - 1)) == (-1)) [.bool ((wrap64 (x8_4 - 1)) == (-1))] (fun _ => True) (fun _ => False) rfl rfl ?aP (fun _ hk => hk.elim) ?aF ?aO ?aB ?aS ?aL ?_; (case aP => exact rfl); (case aB => exact (by repeat first | exact HB.out | refine bxSet ?_ (by assumption) | apply below_alloc | apply pw_below_drewN)); (case aF => exact (fun _ _ => trivial)); (case aO => exact (by (with_reducible repeat (first | apply Kd.R_alloc | apply Kd.R_drewN | apply Kd.R_drew)); exact HO_5.out)); (case aS => exact (below_size (by repeat first | exact HB.out | refine bxSet ?_ (by assumption) | apply below_alloc | apply pw_below_drewN))); (case aL => have := LMc19.out; omega); intro v709 w20 ho hb hg hat; rw [← Ny708.out] at ho; have n0_ := Aside0.mk (hb); have n1_ := Aside0.mk (ho); clear HB; clear HO_5; have HB := n0_; have HO710 := n1_; clear n0_ n1_; clear ho hb hg hat))
           go_roundg kj4
           case measure => have := HK1.out; have := HJ4.out; omega
           case rel => exact ⟨(y708), (decide ((wrap64 (x8_4 - 1)) < 0)), (wrap64 (x7_1 + 1)), (by first | rfl | (simp; done)), (by first | rfl | (simp; done)), H', ⟨by have := HK1.out; have := HJ4.out; omega⟩, ⟨HO710.out⟩, ⟨HB.out⟩⟩
          ·rw [if_neg c19] at H
           exact absurd H (by simp)
       ·replace c9 := Bool.eq_false_iff.mpr c9
        subst c9
        rw [if_neg (show ¬ (false = true) by decide)] at H
        by_cases c21 : x6_1 = true
        ·subst c21
         rw [if_pos rfl] at H
         by_cases c22 : (wrap64 (x8_4 - 1)) = 1
         ·rw [if_pos c22] at H
          have c22b0 : ((wrap64 (x8_4 - 1)) == 1) = true := beq_iff_eq.mpr c22
          have c22b1 : ((wrap64 (x8_4 - 1)) != 1) = false := bne_eq_false_iff_eq.mpr c22
          clear c22
          by_cases c23 : x5_1.length < 140737488355328
          ·rw [if_pos c23] at H
           have LMc23 := Aside0.mk c23
           clear c23
           obtain ⟨y711, hy711⟩ : ∃ y_ : List Bool, y_ = (x5_1 ++ [true]) := ⟨_, rfl⟩
           replace H : (gudgeonref01_sub.l0 kj4 l0 l1 y711 (decide ((wrap64 (x8_4 - 1)) < 0)) (wrap64 (x7_1 + 1))) = some r := by first | (rw [hy711]; with_reducible exact H) | (have H2_ := (Option.bind_some _ _).symm.trans H; rw [hy711]; with_reducible exact H2_) | (have H2_ := (Option.bind_some _ _).symm.trans H; with_reducible exact H2_) | with_reducible exact H | (rw [hy711]; exact H) | exact H
           have Ny711 := Aside0.mk hy711
           clear hy711
           have H' := Aside0.mk H
           clear H
           go_wp2_with (first | ((with_reducible refine gate_callee (f := 111) rfl ?_); refine goL (some 23) Try.func111 [.slice A1 l1.length c1, .int .i64 x7_1] ?_; (with_reducible refine (gudgeonref01_at.calls _ _ l1 x7_1 false _ ?side1 ?side2 A8.out).mono ?_); (case side1 => repeat (first | exact (Kd.C_below HR1.out HB.out) | (with_reducible refine Kd.C_alloc ?_ _) | (with_reducible refine Kd.C_drewN ?_ _) | (with_reducible refine Kd.C_drew ?_))); (case side2 => exact HC1.out); rintro e w' ⟨rfl, ⟨nd, rfl⟩⟩; refine ⟨_, rfl, ?_⟩) | ((with_reducible refine gate_builtin (b := .append) (xs := #[.tmp 29, .tmp 36]) rfl ?_); at_builtin; refine Kd.R_append Kd.bool (w0 := w) w.heap.size rfl (.tmp 29) (.tmp 36) 90 4 (.bool false) 1 rfl Try.underlying90 info4 rfl (by decide) (by omega) u5 x5_1 true [.bool true] (fun _ => True) (fun _ => False) rfl rfl ?aP (fun _ hk => hk.elim) ?aF ?aO ?aB ?aS ?aL ?_; (case aP => exact rfl); (case aB => exact (by repeat first | exact HB.out | refine bxSet ?_ (by assumption) | apply below_alloc | apply pw_below_drewN)); (case aF => exact (fun _ _ => trivial)); (case aO => exact (by (with_reducible repeat (first | apply Kd.R_alloc | apply Kd.R_drewN | apply Kd.R_drew)); exact HO_5.out)); (case aS => exact (below_size (by repeat first | exact HB.out | refine bxSet ?_ (by assumption) | apply below_alloc | apply pw_below_drewN))); (case aL => have := LMc23.out; omega); intro v712 w24 ho hb hg hat; rw [← Ny711.out] at ho; have n0_ := Aside0.mk (hb); have n1_ := Aside0.mk (ho); clear HB; clear HO_5; have HB := n0_; have HO713 := n1_; clear n0_ n1_; clear ho hb hg hat))
           go_roundg kj4
           case measure => have := HK1.out; have := HJ4.out; omega
           case rel => exact ⟨(y711), (decide ((wrap64 (x8_4 - 1)) < 0)), (wrap64 (x7_1 + 1)), (by first | rfl | (simp; done)), (by first | rfl | (simp; done)), H', ⟨by have := HK1.out; have := HJ4.out; omega⟩, ⟨HO713.out⟩, ⟨HB.out⟩⟩
          ·rw [if_neg c23] at H
           exact absurd H (by simp)
         ·rw [if_neg c22] at H
          have c22b0 : ((wrap64 (x8_4 - 1)) == 1) = false := beq_eq_false_iff_ne.mpr c22
          have c22b1 : ((wrap64 (x8_4 - 1)) != 1) = true := bne_iff_ne.mpr c22
          by_cases c25 : x5_1.length < 140737488355328
          ·rw [if_pos c25] at H
           have LMc25 := Aside0.mk c25
           clear c25
           obtain ⟨y714, hy714⟩ : ∃ y_ : List Bool, y_ = (x5_1 ++ [((wrap64 (x8_4 - 1)) == (-1))]) := ⟨_, rfl⟩
           replace H : (gudgeonref01_sub.l0 kj4 l0 l1 y714 (decide ((wrap64 (x8_4 - 1)) < 0)) (wrap64 (x7_1 + 1))) = some r := by first | (rw [hy714]; with_reducible exact H) | (have H2_ := (Option.bind_some _ _).symm.trans H; rw [hy714]; with_reducible exact H2_) | (have H2_ := (Option.bind_some _ _).symm.trans H; with_reducible exact H2_) | with_reducible exact H | (rw [hy714]; exact H) | exact H
           have Ny714 := Aside0.mk hy714
           clear hy714
           have H' := Aside0.mk H
           clear H
           go_wp2_with (first | ((with_reducible refine gate_callee (f := 111) rfl ?_); refine goL (some 23) Try.func111 [.slice A1 l1.length c1, .int .i64 x7_1] ?_; (with_reducible refine (gudgeonref01_at.calls _ _ l1 x7_1 false _ ?side1 ?side2 A8.out).mono ?_); (case side1 => repeat (first | exact (Kd.C_below HR1.out HB.out) | (with_reducible refine Kd.C_alloc ?_ _) | (with_reducible refine Kd.C_drewN ?_ _) | (with_reducible refine Kd.C_drew ?_))); (case side2 => exact HC1.out); rintro e w' ⟨rfl, ⟨nd, rfl⟩⟩; refine ⟨_, rfl, ?_⟩) | ((with_reducible refine gate_builtin (b := .append) (xs := #[.tmp 29, .tmp 36]) rfl ?_); at_builtin; refine Kd.R_append Kd.bool (w0 := w) w.heap.size rfl (.tmp 29) (.tmp 36) 90 4 (.bool false) 1 rfl Try.underlying90 info4 rfl (by decide) (by omega) u5 x5_1 ((wrap64 (x8_4 - 1)) == (-1)) [.bool ((wrap64 (x8_4 - 1)) == (-1))] (fun _ => True) (fun _ => False) rfl rfl ?aP (fun _ hk => hk.elim) ?aF ?aO ?aB ?aS ?aL ?_; (case aP => exact rfl); (case aB => exact (by repeat first | exact HB.out | refine bxSet ?_ (by assumption) | apply below_alloc | apply pw_below_drewN)); (case aF => exact (fun _ _ => trivial)); (case aO => exact (by (with_reducible repeat (first | apply Kd.R_alloc | apply Kd.R_drewN | apply Kd.R_drew)); exact HO_5.out)); (case aS => exact (below_size (by repeat first | exact HB.out | refine bxSet ?_ (by assumption) | apply below_alloc | apply pw_below_drewN))); (case aL => have := LMc25.out; omega); intro v715 w26 ho hb hg hat; rw [← Ny714.out] at ho; have n0_ := Aside0.mk (hb); have n1_ := Aside0.mk (ho); clear HB; clear HO_5; have HB := n0_; have HO716 := n1_; clear n0_ n1_; clear ho hb hg hat))
           go_roundg kj4
           case measure => have := HK1.out; have := HJ4.out; omega
           case rel => exact ⟨(y714), (decide ((wrap64 (x8_4 - 1)) < 0)), (wrap64 (x7_1 + 1)), (by first | rfl | (simp; done)), (by first | rfl | (simp; done)), H', ⟨by have := HK1.out; have := HJ4.out; omega⟩, ⟨HO716.out⟩, ⟨HB.out⟩⟩
          ·rw [if_neg c25] at H
           exact absurd H (by simp)
        ·replace c21 := Bool.eq_false_iff.mpr c21
         subst c21
         rw [if_neg (show ¬ (false = true) by decide)] at H
         by_cases c27 : x8_4 = 1
         ·rw [if_pos c27] at H
          have c27b0 : (x8_4 == 1) = true := beq_iff_eq.mpr c27
          have c27b1 : (x8_4 != 1) = false := bne_eq_false_iff_eq.mpr c27
          clear c27
          by_cases c28 : x5_1.length < 140737488355328
          ·rw [if_pos c28] at H
           have LMc28 := Aside0.mk c28
           clear c28
           obtain ⟨y717, hy717⟩ : ∃ y_ : List Bool, y_ = (x5_1 ++ [true]) := ⟨_, rfl⟩
           replace H : (gudgeonref01_sub.l0 kj4 l0 l1 y717 (decide (x8_4 < 0)) (wrap64 (x7_1 + 1))) = some r := by first | (rw [hy717]; with_reducible exact H) | (have H2_ := (Option.bind_some _ _).symm.trans H; rw [hy717]; with_reducible exact H2_) | (have H2_ := (Option.bind_some _ _).symm.trans H; with_reducible exact H2_) | with_reducible exact H | (rw [hy717]; exact H) | exact H
           have Ny717 := Aside0.mk hy717
           clear hy717
           have H' := Aside0.mk H
           clear H
           go_wp2_with (first | ((with_reducible refine gate_callee (f := 111) rfl ?_); refine goL (some 23) Try.func111 [.slice A1 l1.length c1, .int .i64 x7_1] ?_; (with_reducible refine (gudgeonref01_at.calls _ _ l1 x7_1 false _ ?side1 ?side2 A8.out).mono ?_); (case side1 => repeat (first | exact (Kd.C_below HR1.out HB.out) | (with_reducible refine Kd.C_alloc ?_ _) | (with_reducible refine Kd.C_drewN ?_ _) | (with_reducible refine Kd.C_drew ?_))); (case side2 => exact HC1.out); rintro e w' ⟨rfl, ⟨nd, rfl⟩⟩; refine ⟨_, rfl, ?_⟩) | ((with_reducible refine gate_builtin (b := .append) (xs := #[.tmp 29, .tmp 36]) rfl ?_); at_builtin; refine Kd.R_append Kd.bool (w0 := w) w.heap.size rfl (.tmp 29) (.tmp 36) 90 4 (.bool false) 1 rfl Try.underlying90 info4 rfl (by decide) (by omega) u5 x5_1 true [.bool true] (fun _ => True) (fun _ => False) rfl rfl ?aP (fun _ hk => hk.elim) ?aF ?aO ?aB ?aS ?aL ?_; (case aP => exact rfl); (case aB => exact (by repeat first | exact HB.out | refine bxSet ?_ (by assumption) | apply below_alloc | apply pw_below_drewN)); (case aF => exact (fun _ _ => trivial)); (case aO => exact (by (with_reducible repeat (first | apply Kd.R_alloc | apply Kd.R_drewN | apply Kd.R_drew)); exact HO_5.out)); (case aS => exact (below_size (by repeat first | exact HB.out | refine bxSet ?_ (by assumption) | apply below_alloc | apply pw_below_drewN))); (case aL => have := LMc28.out; omega); intro v718 w29 ho hb hg hat; rw [← Ny717.out] at ho; have n0_ := Aside0.mk (hb); have n1_ := Aside0.mk (ho); clear HB; clear HO_5; have HB := n0_; have HO719 := n1_; clear n0_ n1_; clear ho hb hg hat))
           go_roundg kj4
           case measure => have := HK1.out; have := HJ4.out; omega
           case rel => exact ⟨(y717), (decide (x8_4 < 0)), (wrap64 (x7_1 + 1)), (by first | rfl | (simp; done)), (by first | rfl | (simp; done)), H', ⟨by have := HK1.out; have := HJ4.out; omega⟩, ⟨HO719.out⟩, ⟨HB.out⟩⟩
          ·rw [if_neg c28] at H
           exact absurd H (by simp)
         ·rw [if_neg c27] at H
          have c27b0 : (x8_4 == 1) = false := beq_eq_false_iff_ne.mpr c27
          have c27b1 : (x8_4 != 1) = true := bne_iff_ne.mpr c27
          by_cases c30 : x5_1.length < 140737488355328
          ·rw [if_pos c30] at H
           have LMc30 := Aside0.mk c30
           clear c30
           obtain ⟨y720, hy720⟩ : ∃ y_ : List Bool, y_ = (x5_1 ++ [(x8_4 == (-1))]) := ⟨_, rfl⟩
           replace H : (gudgeonref01_sub.l0 kj4 l0 l1 y720 (decide (x8_4 < 0)) (wrap64 (x7_1 + 1))) = some r := by first | (rw [hy720]; with_reducible exact H) | (have H2_ := (Option.bind_some _ _).symm.trans H; rw [hy720]; with_reducible exact H2_) | (have H2_ := (Option.bind_some _ _).symm.trans H; with_reducible exact H2_) | with_reducible exact H | (rw [hy720]; exact H) | exact H
           have Ny720 := Aside0.mk hy720
           clear hy720
           have H' := Aside0.mk H
           clear H
           go_wp2_with (first | ((with_reducible refine gate_callee (f := 111) rfl ?_); refine goL (some 23) Try.func111 [.slice A1 l1.length c1, .int .i64 x7_1] ?_; (with_reducible refine (gudgeonref01_at.calls _ _ l1 x7_1 false _ ?side1 ?side2 A8.out).mono ?_); (case side1 => repeat (first | exact (Kd.C_below HR1.out HB.out) | (with_reducible refine Kd.C_alloc ?_ _) | (with_reducible refine Kd.C_drewN ?_ _) | (with_reducible refine Kd.C_drew ?_))); (case side2 => exact HC1.out); rintro e w' ⟨rfl, ⟨nd, rfl⟩⟩; refine ⟨_, rfl, ?_⟩) | ((with_reducible refine gate_builtin (b := .append) (xs := #[.tmp 29, .tmp 36]) rfl ?_); at_builtin; refine Kd.R_append Kd.bool (w0 := w) w.heap.size rfl (.tmp 29) (.tmp 36) 90 4 (.bool false) 1 rfl Try.underlying90 info4 rfl (by decide) (by omega) u5 x5_1 (x8_4 == (-1)) [.bool (x8_4 == (-1))] (fun _ => True) (fun _ => False) rfl rfl ?aP (fun _ hk => hk.elim) ?aF ?aO ?aB ?aS ?aL ?_; (case aP => exact rfl); (case aB => exact (by repeat first | exact HB.out | refine bxSet ?_ (by assumption) | apply below_alloc | apply pw_below_drewN)); (case aF => exact (fun _ _ => trivial)); (case aO => exact (by (with_reducible repeat (first | apply Kd.R_alloc | apply Kd.R_drewN | apply Kd.R_drew)); exact HO_5.out)); (case aS => exact (below_size (by repeat first | exact HB.out | refine bxSet ?_ (by assumption) | apply below_alloc | apply pw_below_drewN))); (case aL => have := LMc30.out; omega); intro v721 w31 ho hb hg hat; rw [← Ny720.out] at ho; have n0_ := Aside0.mk (hb); have n1_ := Aside0.mk (ho); clear HB; clear HO_5; have HB := n0_; have HO722 := n1_; clear n0_ n1_; clear ho hb hg hat))
           go_roundg kj4
           case measure => have := HK1.out; have := HJ4.out; omega
           case rel => exact ⟨(y720), (decide (x8_4 < 0)), (wrap64 (x7_1 + 1)), (by first | rfl | (simp; done)), (by first | rfl | (simp; done)), H', ⟨by have := HK1.out; have := HJ4.out; omega⟩, ⟨HO722.out⟩, ⟨HB.out⟩⟩
          ·rw [if_neg c30] at H
           exact absurd H (by simp)
    ·rw [if_neg c4] at H
     exact absurd H (by simp)
   ·rw [if_neg c3] at H
    have c3b0 : decide (x7_1 < (l0.length : Int)) = false := decide_eq_false c3
    clear c3
    obtain ⟨t694, A320, H⟩ := Option.bind_eq_some_iff.mp H
    try dsimp only at H
    have A32 := Aside0.mk A320
    clear A320
    obtain rfl := Option.some.inj H
    obtain ⟨Ao33, co33, eo33⟩ := Kd.R_slice HO_5.out
    subst eo33
    go_wp2_with (first | ((with_reducible refine gate_callee (f := 108) rfl ?_); refine goL (some 41) Try.func108 [.slice Ao33 x5_1.length co33] ?_; (with_reducible refine (gudgeonref01_trim.calls k1 _ _ x5_1 t694 _ ?side1 ?side2 A32.out).mono ?_); (case side1 => exact (Kd.R_reads' HO_5.out).2.2); (case side2 => exact (Kd.R_reads' HO_5.out).2.1); rintro e w34 ⟨v695, rfl, ho0, hb⟩; refine ⟨_, rfl, ?_⟩; have HO696 := Aside0.mk (Kd.R_lower (Kd.R_new' ho0 (Kd.R_lt HO_5.out)) (below_size HB.out)); replace HB := Aside0.mk (below_step HB.out hb)))
    go_ret
    exact ⟨_, rfl, Kd.R_mono HO696.out (fun _ hk => trivial), HB.out⟩

/-! ### gudgeonref01_Sub: function 78 -/
def gudgeonref01_Sub.f (k : Nat) (l0 : List Int) (l1 : List Int) : Option (List Int × Int) := (gudgeonref01_Bits.f k l0).bind fun t723 => ((gudgeonref01_Bits.f k l1).bind fun t726 => ((gudgeonref01_cmp.f k t723 t726).bind fun t729 => (if t729 < 0 then (some (([] : List Int), 6)) else ((gudgeonref01_sub.f k t723 t726).bind fun t730 => ((gudgeonref01_Limbs.f k t730).bind fun t733 => (some (t733, 0)))))))
set_option maxHeartbeats 8000000 in
set_option maxRecDepth 100000 in
theorem gudgeonref01_Sub.calls (k : Nat) (A0 : Option Addr) (c0 : Nat) (l0 : List Int) (A1 : Option Addr) (c1 : Nat) (l1 : List Int) (r1 : List Int) (r2 : Int) (w : World) (hr0 : Kd.C (Kd.int .u32) w A0 l0.length l0) (hc0 : l0.length ≤ c0) (hr1 : Kd.C (Kd.int .u32) w A1 l1.length l1) (hc1 : l1.length ≤ c1) (h : gudgeonref01_Sub.f k l0 l1 = some (r1, r2)) :
  Calls Try.prog 78 #[.slice A0 l0.length c0, .slice A1 l1.length c1] w fun e w' => ∃ v0_ : Value, e = .returned (.tuple #[v0_, .int .i64 r2]) ∧ Kd.R (Kd.int .u32) 81 w' w.heap.size (fun _ => True) v0_ r1 ∧ Below w.heap.size w w' := by
 have HR0 := Aside0.mk hr0
 have HC0 := Aside0.mk hc0
 clear hr0 hc0
 have HR1 := Aside0.mk hr1
 have HC1 := Aside0.mk hc1
 clear hr1 hc1
 have HB := Aside0.mk (Below.refl w.heap.size w)
 have H : ((gudgeonref01_Bits.f k l0).bind fun t723 => ((gudgeonref01_Bits.f k l1).bind fun t726 => ((gudgeonref01_cmp.f k t723 t726).bind fun t729 => (if t729 < 0 then (some (([] : List Int), 6)) else ((gudgeonref01_sub.f k t723 t726).bind fun t730 => ((gudgeonref01_Limbs.f k t730).bind fun t733 => (some (t733, 0)))))))) = some (r1, r2) := h
 clear h
 obtain ⟨t723, A30, H⟩ := Option.bind_eq_some_iff.mp H
 try dsimp only at H
 have A3 := Aside0.mk A30
 clear A30
 obtain ⟨t726, A40, H⟩ := Option.bind_eq_some_iff.mp H
 try dsimp only at H
 have A4 := Aside0.mk A40
 clear A40
 obtain ⟨t729, A50, H⟩ := Option.bind_eq_some_iff.mp H
 try dsimp only at H
 have A5 := Aside0.mk A50
 clear A50
 by_cases c6 : t729 < 0
 ·rw [if_pos c6] at H
  have c6b0 : decide (t729 < 0) = true := decide_eq_true c6
  clear c6
  simp only [Option.some.injEq, Prod.mk.injEq] at H
  obtain ⟨rfl, rfl⟩ := H
  go_enter Try.func78, Try.ntmps78
  go_wp2_with (first | ((with_reducible refine gate_callee (f := 86) rfl ?_); refine goL (some 9) Try.func86 [.slice A0 l0.length c0] ?_; (with_reducible refine (gudgeonref01_Bits.calls k _ _ l0 t723 _ ?side1 ?side2 A3.out).mono ?_); (case side1 => exact HR0.out); (case side2 => exact HC0.out); rintro e w7 ⟨v724, rfl, ho0, hb⟩; refine ⟨_, rfl, ?_⟩; have HO725 := Aside0.mk (Kd.R_lower ho0 (below_size HB.out)); replace HB := Aside0.mk (below_step HB.out hb)) | ((with_reducible refine gate_callee (f := 86) rfl ?_); refine goL (some 11) Try.func86 [.slice A1 l1.length c1] ?_; (with_reducible refine (gudgeonref01_Bits.calls k _ _ l1 t726 _ ?side1 ?side2 A4.out).mono ?_); (case side1 => exact (Kd.C_below HR1.out HB.out)); (case side2 => exact HC1.out); rintro e w8 ⟨v727, rfl, ho0, hb⟩; refine ⟨_, rfl, ?_⟩; have HO728 := Aside0.mk (Kd.R_lower (Kd.R_new' ho0 (Kd.R_lt HO725.out)) (below_size HB.out)); replace HO725 := Aside0.mk (Kd.R_elder' HO725.out (Kd.R_base ho0) hb); replace HB := Aside0.mk (below_step HB.out hb); obtain ⟨Ao9, co9, eo9⟩ := Kd.R_slice HO725.out; subst eo9; obtain ⟨Ao10, co10, eo10⟩ := Kd.R_slice HO728.out; subst eo10) | ((with_reducible refine gate_callee (f := 95) rfl ?_); refine goL (some 14) Try.func95 [.slice Ao9 t723.length co9, .slice Ao10 t726.length co10] ?_; (with_reducible refine (gudgeonref01_cmp.calls k _ _ t723 _ _ t726 t729 _ ?side1 ?side2 ?side3 ?side4 A5.out).mono ?_); (case side1 => exact (Kd.R_reads' HO725.out).2.2); (case side2 => exact (Kd.R_reads' HO725.out).2.1); (case side3 => exact (Kd.R_reads' HO728.out).2.2); (case side4 => exact (Kd.R_reads' HO728.out).2.1); rintro e w' ⟨rfl, ⟨nd, rfl⟩⟩; refine ⟨_, rfl, ?_⟩))
  go_ret2
  exact ⟨_, by first | rfl | (simp [errW_none, errW_some] <;> rfl), by first | exact Kd.R_nil _ _ _ _ _ | exact Kd.N_nil _ _ _ _ _ | exact Kd.V_nil _ _ _ _ _ | exact Kd.Q_nil _ _ _ _ _ | exact Kd.S_nil _ _ _ _ _, by repeat first | exact HB.out | refine bxSet ?_ (by assumption) | apply below_alloc | apply pw_below_drewN⟩
 ·rw [if_neg c6] at H
  have c6b0 : decide (t729 < 0) = false := decide_eq_false c6
  clear c6
  obtain ⟨t730, A110, H⟩ := Option.bind_eq_some_iff.mp H
  try dsimp only at H
  have A11 := Aside0.mk A110
  clear A110
  obtain ⟨t733, A120, H⟩ := Option.bind_eq_some_iff.mp H
  try dsimp only at H
  have A12 := Aside0.mk A120
  clear A120
  simp only [Option.some.injEq, Prod.mk.injEq] at H
  obtain ⟨rfl, rfl⟩ := H
  go_enter Try.func78, Try.ntmps78
  go_wp2_with (first | ((with_reducible refine gate_callee (f := 86) rfl ?_); refine goL (some 9) Try.func86 [.slice A0 l0.length c0] ?_; (with_reducible refine (gudgeonref01_Bits.calls k _ _ l0 t723 _ ?side1 ?side2 A3.out).mono ?_); (case side1 => repeat (first | exact HR0.out | (with_reducible refine Kd.C_alloc ?_ _) | (with_reducible refine Kd.C_drewN ?_ _) | (with_reducible refine Kd.C_drew ?_))); (case side2 => exact HC0.out); rintro e w13 ⟨v724, rfl, ho0, hb⟩; refine ⟨_, rfl, ?_⟩; have HO725 := Aside0.mk (Kd.R_lower ho0 (below_size (by repeat first | exact HB.out | refine bxSet ?_ (by assumption) | apply below_alloc | apply pw_below_drewN))); replace HB := Aside0.mk (below_step (by repeat first | exact HB.out | refine bxSet ?_ (by assumption) | apply below_alloc | apply pw_below_drewN) hb)) | ((with_reducible refine gate_callee (f := 86) rfl ?_); refine goL (some 11) Try.func86 [.slice A1 l1.length c1] ?_; (with_reducible refine (gudgeonref01_Bits.calls k _ _ l1 t726 _ ?side1 ?side2 A4.out).mono ?_); (case side1 => repeat (first | exact (Kd.C_below HR1.out HB.out) | (with_reducible refine Kd.C_alloc ?_ _) | (with_reducible refine Kd.C_drewN ?_ _) | (with_reducible refine Kd.C_drew ?_))); (case side2 => exact HC1.out); rintro e w14 ⟨v727, rfl, ho0, hb⟩; refine ⟨_, rfl, ?_⟩; have HO728 := Aside0.mk (Kd.R_lower (Kd.R_new' ho0 (Kd.R_lt (by (with_reducible repeat (first | apply Kd.R_alloc | apply Kd.R_drewN | apply Kd.R_drew)); exact HO725.out))) (below_size (by repeat first | exact HB.out | refine bxSet ?_ (by assumption) | apply below_alloc | apply pw_below_drewN))); replace HO725 := Aside0.mk (Kd.R_elder' (by (with_reducible repeat (first | apply Kd.R_alloc | apply Kd.R_drewN | apply Kd.R_drew)); exact HO725.out) (Kd.R_base ho0) hb); replace HB := Aside0.mk (below_step (by repeat first | exact HB.out | refine bxSet ?_ (by assumption) | apply below_alloc | apply pw_below_drewN) hb); obtain ⟨Ao15, co15, eo15⟩ := Kd.R_slice HO725.out; subst eo15; obtain ⟨Ao16, co16, eo16⟩ := Kd.R_slice HO728.out; subst eo16) | ((with_reducible refine gate_callee (f := 95) rfl ?_); refine goL (some 14) Try.func95 [.slice Ao15 t723.length co15, .slice Ao16 t726.length co16] ?_; (with_reducible refine (gudgeonref01_cmp.calls k _ _ t723 _ _ t726 t729 _ ?side1 ?side2 ?side3 ?side4 A5.out).mono ?_); (case side1 => repeat (first | exact (Kd.R_reads' HO725.out).2.2 | (with_reducible refine Kd.C_alloc ?_ _) | (with_reducible refine Kd.C_drewN ?_ _) | (with_reducible refine Kd.C_drew ?_))); (case side2 => exact (Kd.R_reads' HO725.out).2.1); (case side3 => repeat (first | exact (Kd.R_reads' HO728.out).2.2 | (with_reducible refine Kd.C_alloc ?_ _) | (with_reducible refine Kd.C_drewN ?_ _) | (with_reducible refine Kd.C_drew ?_))); (case side4 => exact (Kd.R_reads' HO728.out).2.1); rintro e w' ⟨rfl, ⟨nd, rfl⟩⟩; refine ⟨_, rfl, ?_⟩) | ((with_reducible refine gate_callee (f := 96) rfl ?_); refine goL (some 18) Try.func96 [.slice Ao15 t723.length co15, .slice Ao16 t726.length co16] ?_; (with_reducible refine (gudgeonref01_sub.calls k _ _ t723 _ _ t726 t730 _ ?side1 ?side2 ?side3 ?side4 A11.out).mono ?_); (case side1 => repeat (first | exact (Kd.R_reads' HO725.out).2.2 | (with_reducible refine Kd.C_alloc ?_ _) | (with_reducible refine Kd.C_drewN ?_ _) | (with_reducible refine Kd.C_drew ?_))); (case side2 => exact (Kd.R_reads' HO725.out).2.1); (case side3 => repeat (first | exact (Kd.R_reads' HO728.out).2.2 | (with_reducible refine Kd.C_alloc ?_ _) | (with_reducible refine Kd.C_drewN ?_ _) | (with_reducible refine Kd.C_drew ?_))); (case side4 => exact (Kd.R_reads' HO728.out).2.1); rintro e w17 ⟨v731, rfl, ho0, hb⟩; refine ⟨_, rfl, ?_⟩; have HO732 := Aside0.mk (Kd.R_lower (Kd.R_new' (Kd.R_new' ho0 (Kd.R_lt (by (with_reducible repeat (first | apply Kd.R_alloc | apply Kd.R_drewN | apply Kd.R_drew)); exact HO725.out))) (Kd.R_lt (by (with_reducible repeat (first | apply Kd.R_alloc | apply Kd.R_drewN | apply Kd.R_drew)); exact HO728.out))) (below_size (by repeat first | exact HB.out | refine bxSet ?_ (by assumption) | apply below_alloc | apply pw_below_drewN))); replace HB := Aside0.mk (below_step (by repeat first | exact HB.out | refine bxSet ?_ (by assumption) | apply below_alloc | apply pw_below_drewN) hb); obtain ⟨Ao18, co18, eo18⟩ := Kd.R_slice HO732.out; subst eo18) | ((with_reducible refine gate_callee (f := 88) rfl ?_); refine goL (some 19) Try.func88 [.slice Ao18 t730.length co18] ?_; (with_reducible refine (gudgeonref01_Limbs.calls k _ _ t730 t733 _ ?side1 ?side2 A12.out).mono ?_); (case side1 => repeat (first | exact (Kd.R_reads' HO732.out).2.2 | (with_reducible refine Kd.C_alloc ?_ _) | (with_reducible refine Kd.C_drewN ?_ _) | (with_reducible refine Kd.C_drew ?_))); (case side2 => exact (Kd.R_reads' HO732.out).2.1); rintro e w19 ⟨v734, rfl, ho0, hb⟩; refine ⟨_, rfl, ?_⟩; have HO735 := Aside0.mk (Kd.R_lower ho0 (below_size (by repeat first | exact HB.out | refine bxSet ?_ (by assumption) | apply below_alloc | apply pw_below_drewN))); replace HB := Aside0.mk (below_step (by repeat first | exact HB.out | refine bxSet ?_ (by assumption) | apply below_alloc | apply pw_below_drewN) hb)))
  go_ret2
  exact ⟨_, rfl, HO735.out, HB.out⟩

/-! ### gudgeonref02_Add: function 55 -/
def gudgeonref02_Add.f (k : Nat) (a0_0 : Bool) (l0_1 : List Int) (a1_0 : Bool) (l1_1 : List Int) : Option (Bool × List Int) := if (a0_0 == a1_0) = true then ((gudgeonref01_Add.f k l0_1 l1_1).bind fun t739 => ((gudgeonref02_Norm.f k a0_0 t739).bind fun bt742 => (some (bt742.1, bt742.2)))) else ((gudgeonref01_Sub.f k l0_1 l1_1).bind fun bt746 => (if bt746.2 = 0 then ((gudgeonref02_Norm.f k a0_0 bt746.1).bind fun bt750 => (some (bt750.1, bt750.2))) else ((gudgeonref01_Sub.f k l1_1 l0_1).bind fun bt754 => ((gudgeonref02_Norm.f k a1_0 bt754.1).bind fun bt758 => (some (bt758.1, bt758.2))))))
def gudgeonref02_Add.T2 : Bool × List (List Nat × List Nat) := (true, [([], []), ([0], [0]), ([], []), ([2], [2]), ([], []), ([4], [4]), ([3, 5], [3, 5]), ([1, 6], [1, 6]), ([7, 6], [7]), ([8, 8, 0, 1, 2, 3, 4, 5, 6, 7, 8], [8])])
def gudgeonref02_Add.B2 : List Nat := [0, 1, 0, 4, 0, 16, 60, 127, 255, 511]
theorem gudgeonref02_Add.tab2 : rtab .any (opsOf Try.f55 2) = gudgeonref02_Add.T2 := by kernel_rfl
theorem gudgeonref02_Add.bits2 : waitsOk gudgeonref02_Add.T2.2 gudgeonref02_Add.B2 = true := by kernel_rfl
set_option maxHeartbeats 8000000 in
set_option maxRecDepth 100000 in
theorem gudgeonref02_Add.calls (k : Nat) (a0_0 : Bool) (A0_1 : Option Addr) (c0_1 : Nat) (l0_1 : List Int) (a1_0 : Bool) (A1_1 : Option Addr) (c1_1 : Nat) (l1_1 : List Int) (r1 : Bool) (r2 : List Int) (w : World) (hr0_1 : Kd.C (Kd.int .u32) w A0_1 l0_1.length l0_1) (hc0_1 : l0_1.length ≤ c0_1) (hr1_1 : Kd.C (Kd.int .u32) w A1_1 l1_1.length l1_1) (hc1_1 : l1_1.length ≤ c1_1) (h : gudgeonref02_Add.f k a0_0 l0_1 a1_0 l1_1 = some (r1, r2)) :
  Calls Try.prog 55 #[.agg #[.bool a0_0, .slice A0_1 l0_1.length c0_1], .agg #[.bool a1_0, .slice A1_1 l1_1.length c1_1]] w fun e w' => ∃ v1_ : Value, e = .returned (.agg #[.bool r1, v1_]) ∧ Kd.R (Kd.int .u32) 81 w' w.heap.size (fun _ => True) v1_ r2 ∧ Below w.heap.size w w' := by
 have hu24 := Try.underlying24
 have HR0_1 := Aside0.mk hr0_1
 have HC0_1 := Aside0.mk hc0_1
 clear hr0_1 hc0_1
 have HR1_1 := Aside0.mk hr1_1
 have HC1_1 := Aside0.mk hc1_1
 clear hr1_1 hc1_1
 have HB := Aside0.mk (Below.refl w.heap.size w)
 have H : (if (a0_0 == a1_0) = true then ((gudgeonref01_Add.f k l0_1 l1_1).bind fun t739 => ((gudgeonref02_Norm.f k a0_0 t739).bind fun bt742 => (some (bt742.1, bt742.2)))) else ((gudgeonref01_Sub.f k l0_1 l1_1).bind fun bt746 => (if bt746.2 = 0 then ((gudgeonref02_Norm.f k a0_0 bt746.1).bind fun bt750 => (some (bt750.1, bt750.2))) else ((gudgeonref01_Sub.f k l1_1 l0_1).bind fun bt754 => ((gudgeonref02_Norm.f k a1_0 bt754.1).bind fun bt758 => (some (bt758.1, bt758.2))))))) = some (r1, r2) := h
 clear h
 by_cases c3 : (a0_0 == a1_0) = true
 ·rw [if_pos c3] at H
  have c3b0 : (a0_0 == a1_0) = true := c3
  (try (have c3b1 : decide (a0_0 = a1_0) = true := by simpa using c3))
  (try (have c3b2 : (a0_0 == a1_0) = true := by simpa using c3))
  clear c3
  obtain ⟨t739, A40, H⟩ := Option.bind_eq_some_iff.mp H
  try dsimp only at H
  have A4 := Aside0.mk A40
  clear A40
  obtain ⟨⟨t742, t743⟩, A50, H⟩ := Option.bind_eq_some_iff.mp H
  try dsimp only at H
  have A5 := Aside0.mk A50
  clear A50
  simp only [Option.some.injEq, Prod.mk.injEq] at H
  obtain ⟨rfl, rfl⟩ := H
  go_enter Try.func55, Try.ntmps55
  try go_wp2_with (first | ((with_reducible refine gate_dst (N := 2) rfl ?_); refine box_event ?hg (N := 2) ?hd (cs := #[.bool a0_0, .slice A0_1 l0_1.length c0_1]) (t := 24) ?hr ?_; (case hd => rfl); (case hg => rfl); (case hr => first | (go_simp; done) | (go_simp; rfl)); intro gb736 hg w6 hbox hb; have BK736 := Aside0.mk (hbox); have GW736 := Aside0.mk (bxLe HB.out hg); have GE736 := GW736; replace HB := Aside0.mk (below_step HB.out hb); clear hb hbox hg) | ((with_reducible refine gate_dst (N := 3) rfl ?_); refine box_event ?hg (N := 3) ?hd (cs := #[.bool a1_0, .slice A1_1 l1_1.length c1_1]) (t := 24) ?hr ?_; (case hd => rfl); (case hg => rfl); (case hr => first | (go_simp; done) | (go_simp; rfl)); intro gb737 hg w7 hbox hb; have BK737 := Aside0.mk (hbox); have GW737 := Aside0.mk (bxLe HB.out hg); have GE737 := GW737; replace HB := Aside0.mk (below_step HB.out hb); have NB736_737 := Aside0.mk (neL BK736.out hg); have NB737_736 := Aside0.mk (neR BK736.out hg); replace BK736 := Aside0.mk (blk_below BK736.out hb); clear hb hbox hg) | ((with_reducible refine gate_dst (N := 4) rfl ?_); refine box_event ?hg (N := 4) ?hd (cs := #[.bool false, .slice none 0 0]) (t := 24) ?hr ?_; (case hd => rfl); (case hg => rfl); (case hr => first | (go_simp; done) | (go_simp; rfl)); intro gb738 hg w8 hbox hb; have BK738 := Aside0.mk (hbox); have GW738 := Aside0.mk (bxLe HB.out hg); have GE738 := GW738; replace HB := Aside0.mk (below_step HB.out hb); have NB736_738 := Aside0.mk (neL BK736.out hg); have NB738_736 := Aside0.mk (neR BK736.out hg); replace BK736 := Aside0.mk (blk_below BK736.out hb); have NB737_738 := Aside0.mk (neL BK737.out hg); have NB738_737 := Aside0.mk (neR BK737.out hg); replace BK737 := Aside0.mk (blk_below BK737.out hb); clear hb hbox hg; have hnb9 := NB736_737.out; have hnc9 := NB737_736.out; have hnb10 := NB736_738.out; have hnc10 := NB738_736.out; have hcz11_0 : w8.cell? ⟨gb736, 0, none⟩ = some (.bool a0_0) := bc0 BK736.out; have hcz11_1 : w8.cell? ⟨gb736, 1, none⟩ = some (.slice A0_1 l0_1.length c0_1) := bc1 BK736.out; have hfz11_0 := blk_frozen BK736.out 0; have hfz11_1 := blk_frozen BK736.out 1; have hnb12 := NB737_738.out; have hnc12 := NB738_737.out; have hcz13_0 : w8.cell? ⟨gb737, 0, none⟩ = some (.bool a1_0) := bc0 BK737.out; have hcz13_1 : w8.cell? ⟨gb737, 1, none⟩ = some (.slice A1_1 l1_1.length c1_1) := bc1 BK737.out; have hfz13_0 := blk_frozen BK737.out 0; have hfz13_1 := blk_frozen BK737.out 1))
  replace BK736 := Aside0.mk (blk_drew BK736.out)
  replace BK737 := Aside0.mk (blk_drew BK737.out)
  replace BK738 := Aside0.mk (blk_drew BK738.out)
  replace HB := Aside0.mk (below_drew1 HB.out)
  refine start_ (n := 10) (S := fun w' => w'.cell? ⟨gb736, 0, none⟩ = some (.bool a0_0) ∧ w'.cell? ⟨gb736, 1, none⟩ = some (.slice A0_1 l0_1.length c0_1) ∧ w'.cell? ⟨gb737, 0, none⟩ = some (.bool a1_0) ∧ w'.cell? ⟨gb737, 1, none⟩ = some (.slice A1_1 l1_1.length c1_1)) (ds := []) #[false, false, false, false, false, false, false, false, false, false] (by kernel_rfl) rfl rfl ⟨bc0 BK736.out, bc1 BK736.out, bc0 BK737.out, bc1 BK737.out⟩ (fun hHeld => ?_); refine with_tabW gudgeonref02_Add.tab2 gudgeonref02_Add.bits2 (fun HT_ HW_ => ?_)
  generalize w8.drew = w14 at BK736 BK737 BK738 HB hHeld ⊢
  refine pure_ (i := 0) (N := some 14) (v := ?_) (a' := ?_) #[true, false, false, false, false, false, false, false, false, false] rfl rfl (any_of HT_.out (by kernel_rfl)) (fun _ _ _ h => h) (Or.inl ⟨by rfl, ?_⟩) ?_ ?_
  rotate_left
  ·intro w'
   go_simp
   with_reducible rfl
  rotate_left
  ·simp only [Act.put, List.setIfInBounds_toArray, List.set_cons_zero, List.set_cons_succ, i64_w, i32_w]
   rfl
  refine pure_ (i := 2) (N := some 16) (v := ?_) (a' := ?_) #[true, false, true, false, false, false, false, false, false, false] rfl rfl (any_of HT_.out (by kernel_rfl)) (fun _ _ _ h => h) (Or.inl ⟨by rfl, ?_⟩) ?_ ?_
  rotate_left
  ·intro w'
   go_simp
   with_reducible rfl
  rotate_left
  ·simp only [Act.put, List.setIfInBounds_toArray, List.set_cons_zero, List.set_cons_succ, i64_w, i32_w]
   rfl
  refine pure_ (i := 4) (N := some 18) (v := ?_) (a' := ?_) #[true, false, true, false, true, false, false, false, false, false] rfl rfl (any_of HT_.out (by kernel_rfl)) (fun _ _ _ h => h) (Or.inl ⟨by rfl, ?_⟩) ?_ ?_
  rotate_left
  ·intro w'
   go_simp
   with_reducible rfl
  rotate_left
  ·simp only [Act.put, List.setIfInBounds_toArray, List.set_cons_zero, List.set_cons_succ, i64_w, i32_w]
   rfl
  refine take_ (i := 1) (N := some 15) (v := ?_) (a' := ?_) #[true, true, true, false, true, false, false, false, false, false] rfl rfl (take_ofW HT_.out HW_.out (by kernel_rfl)) (fun _ _ _ h => h) (Or.inl ⟨by rfl, ?_⟩) hHeld ?_ ?_
  rotate_left
  ·rintro w' ⟨s0, s1, s2, s3⟩
   go_simp
   with_reducible rfl
  rotate_left
  ·simp only [Act.put, List.setIfInBounds_toArray, List.set_cons_zero, List.set_cons_succ, i64_w, i32_w]
   rfl
  refine take_ (i := 3) (N := some 17) (v := ?_) (a' := ?_) #[true, true, true, true, true, false, false, false, false, false] rfl rfl (take_ofW HT_.out HW_.out (by kernel_rfl)) (fun _ _ _ h => h) (Or.inl ⟨by rfl, ?_⟩) hHeld ?_ ?_
  rotate_left
  ·rintro w' ⟨s0, s1, s2, s3⟩
   go_simp
   with_reducible rfl
  rotate_left
  ·simp only [Act.put, List.setIfInBounds_toArray, List.set_cons_zero, List.set_cons_succ, i64_w, i32_w]
   rfl
  refine take_ (i := 5) (N := some 19) (v := ?_) (a' := ?_) #[true, true, true, true, true, true, false, false, false, false] rfl rfl (take_ofW HT_.out HW_.out (by kernel_rfl)) (fun _ _ _ h => h) (Or.inl ⟨by rfl, ?_⟩) hHeld ?_ ?_
  rotate_left
  ·rintro w' ⟨s0, s1, s2, s3⟩
   go_simp
   with_reducible rfl
  rotate_left
  ·simp only [Act.put, List.setIfInBounds_toArray, List.set_cons_zero, List.set_cons_succ, i64_w, i32_w]
   rfl
  refine one_ (i := 6) (N := some 20) #[true, true, true, true, true, true, true, false, false, false] rfl rfl (one_of HT_.out (by kernel_rfl)) (by decide) (fun K hK => ?_)
  refine goR Try.func76 [.slice A0_1 l0_1.length c0_1, .slice A1_1 l1_1.length c1_1] ?_
  with_reducible refine (gudgeonref01_Add.calls k _ _ l0_1 _ _ l1_1 t739 _ ?side1 ?side2 ?side3 ?side4 A4.out).mono ?_
  (case side1 => exact (Kd.C_below HR0_1.out HB.out))
  (case side2 => exact HC0_1.out)
  (case side3 => exact (Kd.C_below HR1_1.out HB.out))
  (case side4 => exact HC1_1.out)
  rintro e w15 ⟨v740, rfl, ho0, hb⟩
  refine ⟨_, rfl, ?_⟩
  have HO741 := Aside0.mk (Kd.R_lower ho0 (below_size HB.out))
  replace BK736 := Aside0.mk (blk_below BK736.out hb)
  replace BK737 := Aside0.mk (blk_below BK737.out hb)
  replace BK738 := Aside0.mk (blk_below BK738.out hb)
  replace HB := Aside0.mk (below_step HB.out hb)
  (try clear hb)
  (try clear hb2)
  (try clear hk)
  (try clear hi)
  (try clear ho0)
  obtain ⟨Ao16, co16, eo16⟩ := Kd.R_slice HO741.out
  subst eo16
  refine hK.out _ _ ⟨bc0 BK736.out, bc1 BK736.out, bc0 BK737.out, bc1 BK737.out⟩ (fun hHeld => ?_)
  clear hK K
  refine norm_ (a' := ?_) ?_ ?_
  rotate_left
  ·show Act.put _ (some 20) _ = _
   simp only [Act.put, List.setIfInBounds_toArray, List.set_cons_zero, List.set_cons_succ, i64_w, i32_w]
   rfl
  refine pure_ (i := 7) (N := some 21) (v := ?_) (a' := ?_) #[true, true, true, true, true, true, true, true, false, false] rfl rfl (any_of HT_.out (by kernel_rfl)) (fun _ _ _ h => h) (Or.inl ⟨by rfl, ?_⟩) ?_ ?_
  rotate_left
  ·intro w'
   go_simp
   with_reducible rfl
  rotate_left
  ·simp only [Act.put, List.setIfInBounds_toArray, List.set_cons_zero, List.set_cons_succ, i64_w, i32_w]
   rfl
  refine one_ (i := 8) (N := some 22) #[true, true, true, true, true, true, true, true, true, false] rfl rfl (one_of HT_.out (by kernel_rfl)) (by decide) (fun K hK => ?_)
  refine goR Try.func54 [.agg #[.bool a0_0, .slice Ao16 t739.length co16]] ?_
  with_reducible refine (gudgeonref02_Norm.calls k a0_0 _ _ t739 t742 t743 _ ?side1 ?side2 A5.out).mono ?_
  (case side1 => exact (Kd.R_reads' HO741.out).2.2)
  (case side2 => exact (Kd.R_reads' HO741.out).2.1)
  rintro e w17 ⟨v744, rfl, ho0, hb⟩
  refine ⟨_, rfl, ?_⟩
  have HO745 := Aside0.mk (Kd.R_lower (Kd.R_new' ho0 (Kd.R_lt HO741.out)) (below_size HB.out))
  replace BK736 := Aside0.mk (blk_below BK736.out hb)
  replace BK737 := Aside0.mk (blk_below BK737.out hb)
  replace BK738 := Aside0.mk (blk_below BK738.out hb)
  replace HB := Aside0.mk (below_step HB.out hb)
  (try clear hb)
  (try clear hb2)
  (try clear hk)
  (try clear hi)
  (try clear ho0)
  obtain ⟨Ao19, co19, eo19⟩ := Kd.R_slice HO745.out
  subst eo19
  refine hK.out _ _ ⟨bc0 BK736.out, bc1 BK736.out, bc0 BK737.out, bc1 BK737.out⟩ (fun hHeld => ?_)
  clear hK K
  refine norm_ (a' := ?_) ?_ ?_
  rotate_left
  ·show Act.put _ (some 22) _ = _
   simp only [Act.put, List.setIfInBounds_toArray, List.set_cons_zero, List.set_cons_succ, i64_w, i32_w]
   rfl
  refine one_ (i := 9) (N := none) #[true, true, true, true, true, true, true, true, true, true] rfl rfl (one_of HT_.out (by kernel_rfl)) (by decide) (fun K hK => ?_)
  have hs18 : w17.cell? ⟨gb738, 0, none⟩ = some (.bool false) := bc0 BK738.out
  have hfs18 := blk_frozen BK738.out 0
  have hns18_0 := NB736_738.out
  have hns18_1 := NB737_738.out
  have hms18_0 := NB738_736.out
  have hms18_1 := NB738_737.out
  have hs20 : w17.cell? ⟨gb738, 1, none⟩ = some (.slice none 0 0) := bc1 BK738.out
  have hfs20 := blk_frozen BK738.out 1
  have hns20_0 := NB736_738.out
  have hns20_1 := NB737_738.out
  have hms20_0 := NB738_736.out
  have hms20_1 := NB738_737.out
  refine skip_ (w1 := ?_) (by rfl) rfl ?_ ?_
  rotate_left
  ·go_simp
   rfl
  refine hK.out _ _ ⟨((cell_far (p := ⟨gb738, _, none⟩) NB736_738.out _).trans (((cell_far (p := ⟨gb738, _, none⟩) NB736_738.out _).trans (hHeld.1)))), ((cell_far (p := ⟨gb738, _, none⟩) NB736_738.out _).trans (((cell_far (p := ⟨gb738, _, none⟩) NB736_738.out _).trans (hHeld.2.1)))), ((cell_far (p := ⟨gb738, _, none⟩) NB737_738.out _).trans (((cell_far (p := ⟨gb738, _, none⟩) NB737_738.out _).trans (hHeld.2.2.1)))), ((cell_far (p := ⟨gb738, _, none⟩) NB737_738.out _).trans (((cell_far (p := ⟨gb738, _, none⟩) NB737_738.out _).trans (hHeld.2.2.2))))⟩ (fun hHeld => ?_)
  clear hK K
  refine done_ (done_of HT_.out (by kernel_rfl)) ?_
  try go_wp2
  refine bodyPost_ret (results_cell_row rfl _ _ gb738 24 #[.bool t742, .slice Ao19 t743.length co19] (0, 0) _ rfl (by refine blk_put (cs := #[.bool t742, .slice none 0 0]) ?_ 1 _ rfl; refine blk_put (cs := #[.bool false, .slice none 0 0]) ?_ 0 _ rfl; exact BK738.out) Try.underlying24 rfl (by kernel_rfl)) rfl ?_
  exact ⟨_, rfl, Kd.R_mono (Kd.R_far (p := ⟨gb738, 1, none⟩) (Kd.R_far (p := ⟨gb738, 0, none⟩) (Kd.R_types HO745.out BK738.out (by decide)) (fun _ hk => hk.2) (.bool t742)) (fun _ hk => hk.2) (.slice Ao19 t743.length co19)) (fun _ hk => trivial), by repeat first | exact HB.out | refine bxSet ?_ (by assumption) | apply below_alloc | apply pw_below_drewN⟩
 ·rw [if_neg c3] at H
  have c3b0 : (a0_0 == a1_0) = false := by simpa using c3
  (try (have c3b1 : decide (a0_0 = a1_0) = false := by simpa using c3))
  (try (have c3b2 : (a0_0 == a1_0) = false := by simpa using c3))
  (try (have c3b3 : ¬ (a0_0 = a1_0) := by simpa using c3))
  clear c3
  obtain ⟨⟨t746, t747⟩, A210, H⟩ := Option.bind_eq_some_iff.mp H
  try dsimp only at H
  have A21 := Aside0.mk A210
  clear A210
  by_cases c22 : t747 = 0
  ·rw [if_pos c22] at H
   have c22b0 : (t747 == 0) = true := beq_iff_eq.mpr c22
   have c22b1 : (t747 != 0) = false := bne_eq_false_iff_eq.mpr c22
   clear c22
   obtain ⟨⟨t750, t751⟩, A230, H⟩ := Option.bind_eq_some_iff.mp H
   try dsimp only at H
   have A23 := Aside0.mk A230
   clear A230
   simp only [Option.some.injEq, Prod.mk.injEq] at H
   obtain ⟨rfl, rfl⟩ := H
   go_enter Try.func55, Try.ntmps55
   go_wp2_with (first | ((with_reducible refine gate_dst (N := 2) rfl ?_); refine box_event ?hg (N := 2) ?hd (cs := #[.bool a0_0, .slice A0_1 l0_1.length c0_1]) (t := 24) ?hr ?_; (case hd => rfl); (case hg => rfl); (case hr => first | (go_simp; done) | (go_simp; rfl)); intro gb736 hg w24 hbox hb; have BK736 := Aside0.mk (hbox); have GW736 := Aside0.mk (bxLe HB.out hg); have GE736 := GW736; replace HB := Aside0.mk (below_step HB.out hb); clear hb hbox hg) | ((with_reducible refine gate_dst (N := 3) rfl ?_); refine box_event ?hg (N := 3) ?hd (cs := #[.bool a1_0, .slice A1_1 l1_1.length c1_1]) (t := 24) ?hr ?_; (case hd => rfl); (case hg => rfl); (case hr => first | (go_simp; done) | (go_simp; rfl)); intro gb737 hg w25 hbox hb; have BK737 := Aside0.mk (hbox); have GW737 := Aside0.mk (bxLe HB.out hg); have GE737 := GW737; replace HB := Aside0.mk (below_step HB.out hb); have NB736_737 := Aside0.mk (neL BK736.out hg); have NB737_736 := Aside0.mk (neR BK736.out hg); replace BK736 := Aside0.mk (blk_below BK736.out hb); clear hb hbox hg) | ((with_reducible refine gate_dst (N := 4) rfl ?_); refine box_event ?hg (N := 4) ?hd (cs := #[.bool false, .slice none 0 0]) (t := 24) ?hr ?_; (case hd => rfl); (case hg => rfl); (case hr => first | (go_simp; done) | (go_simp; rfl)); intro gb738 hg w26 hbox hb; have BK738 := Aside0.mk (hbox); have GW738 := Aside0.mk (bxLe HB.out hg); have GE738 := GW738; replace HB := Aside0.mk (below_step HB.out hb); have NB736_738 := Aside0.mk (neL BK736.out hg); have NB738_736 := Aside0.mk (neR BK736.out hg); replace BK736 := Aside0.mk (blk_below BK736.out hb); have NB737_738 := Aside0.mk (neL BK737.out hg); have NB738_737 := Aside0.mk (neR BK737.out hg); replace BK737 := Aside0.mk (blk_below BK737.out hb); clear hb hbox hg; have hnb27 := NB736_737.out; have hnc27 := NB737_736.out; have hnb28 := NB736_738.out; have hnc28 := NB738_736.out; have hcz29_0 : w26.cell? ⟨gb736, 0, none⟩ = some (.bool a0_0) := bc0 BK736.out; have hcz29_1 : w26.cell? ⟨gb736, 1, none⟩ = some (.slice A0_1 l0_1.length c0_1) := bc1 BK736.out; have hfz29_0 := blk_frozen BK736.out 0; have hfz29_1 := blk_frozen BK736.out 1; have hnb30 := NB737_738.out; have hnc30 := NB738_737.out; have hcz31_0 : w26.cell? ⟨gb737, 0, none⟩ = some (.bool a1_0) := bc0 BK737.out; have hcz31_1 : w26.cell? ⟨gb737, 1, none⟩ = some (.slice A1_1 l1_1.length c1_1) := bc1 BK737.out; have hfz31_0 := blk_frozen BK737.out 0; have hfz31_1 := blk_frozen BK737.out 1) | ((with_reducible refine gate_callee (f := 78) rfl ?_); refine goL (some 28) Try.func78 [.slice A0_1 l0_1.length c0_1, .slice A1_1 l1_1.length c1_1] ?_; (with_reducible refine (gudgeonref01_Sub.calls k _ _ l0_1 _ _ l1_1 t746 t747 _ ?side1 ?side2 ?side3 ?side4 A21.out).mono ?_); (case side1 => exact (Kd.C_below HR0_1.out HB.out)); (case side2 => exact HC0_1.out); (case side3 => exact (Kd.C_below HR1_1.out HB.out)); (case side4 => exact HC1_1.out); rintro e w32 ⟨v748, rfl, ho0, hb⟩; refine ⟨_, rfl, ?_⟩; have HO749 := Aside0.mk (Kd.R_lower ho0 (below_size HB.out)); replace BK736 := Aside0.mk (blk_below BK736.out hb); replace BK738 := Aside0.mk (blk_below BK738.out hb); replace HB := Aside0.mk (below_step HB.out hb); have hcz33_0 : w32.cell? ⟨gb736, 0, none⟩ = some (.bool a0_0) := bc0 BK736.out; have hcz33_1 : w32.cell? ⟨gb736, 1, none⟩ = some (.slice A0_1 l0_1.length c0_1) := bc1 BK736.out; have hfz33_0 := blk_frozen BK736.out 0; have hfz33_1 := blk_frozen BK736.out 1; obtain ⟨Ao34, co34, eo34⟩ := Kd.R_slice HO749.out; subst eo34) | ((with_reducible refine gate_callee (f := 54) rfl ?_); refine goL (some 37) Try.func54 [.agg #[.bool a0_0, .slice Ao34 t746.length co34]] ?_; (with_reducible refine (gudgeonref02_Norm.calls k a0_0 _ _ t746 t750 t751 _ ?side1 ?side2 A23.out).mono ?_); (case side1 => exact (Kd.R_reads' HO749.out).2.2); (case side2 => exact (Kd.R_reads' HO749.out).2.1); rintro e w35 ⟨v752, rfl, ho0, hb⟩; refine ⟨_, rfl, ?_⟩; have HO753 := Aside0.mk (Kd.R_lower (Kd.R_new' ho0 (Kd.R_lt HO749.out)) (below_size HB.out)); replace BK738 := Aside0.mk (blk_below BK738.out hb); replace HB := Aside0.mk (below_step HB.out hb); have hcz36_0 : w35.cell? ⟨gb738, 0, none⟩ = some (.bool false) := bc0 BK738.out; have hcz36_1 : w35.cell? ⟨gb738, 1, none⟩ = some (.slice none 0 0) := bc1 BK738.out; have hfz36_0 := blk_frozen BK738.out 0; have hfz36_1 := blk_frozen BK738.out 1; obtain ⟨Ao37, co37, eo37⟩ := Kd.R_slice HO753.out; subst eo37))
   refine bodyPost_ret (results_cell_row rfl _ _ gb738 24 #[.bool t750, .slice Ao37 t751.length co37] (0, 0) _ rfl (by refine blk_put (cs := #[.bool t750, .slice none 0 0]) ?_ 1 _ rfl; refine blk_put (cs := #[.bool false, .slice none 0 0]) ?_ 0 _ rfl; exact BK738.out) Try.underlying24 rfl (by kernel_rfl)) rfl ?_
   exact ⟨_, rfl, Kd.R_mono (Kd.R_far (p := ⟨gb738, 1, none⟩) (Kd.R_far (p := ⟨gb738, 0, none⟩) (Kd.R_types HO753.out BK738.out (by decide)) (fun _ hk => hk.2) (.bool t750)) (fun _ hk => hk.2) (.slice Ao37 t751.length co37)) (fun _ hk => trivial), by repeat first | exact HB.out | refine bxSet ?_ (by assumption) | apply below_alloc | apply pw_below_drewN⟩
  ·rw [if_neg c22] at H
   have c22b0 : (t747 == 0) = false := beq_eq_false_iff_ne.mpr c22
   have c22b1 : (t747 != 0) = true := bne_iff_ne.mpr c22
   obtain ⟨⟨t754, t755⟩, A380, H⟩ := Option.bind_eq_some_iff.mp H
   try dsimp only at H
   have A38 := Aside0.mk A380
   clear A380
   obtain ⟨⟨t758, t759⟩, A390, H⟩ := Option.bind_eq_some_iff.mp H
   try dsimp only at H
   have A39 := Aside0.mk A390
   clear A390
   simp only [Option.some.injEq, Prod.mk.injEq] at H
   obtain ⟨rfl, rfl⟩ := H
   go_enter Try.func55, Try.ntmps55
   go_wp2_with (first | ((with_reducible refine gate_dst (N := 2) rfl ?_); refine box_event ?hg (N := 2) ?hd (cs := #[.bool a0_0, .slice A0_1 l0_1.length c0_1]) (t := 24) ?hr ?_; (case hd => rfl); (case hg => rfl); (case hr => first | (go_simp; done) | (go_simp; rfl)); intro gb736 hg w40 hbox hb; have BK736 := Aside0.mk (hbox); have GW736 := Aside0.mk (bxLe HB.out hg); have GE736 := GW736; replace HB := Aside0.mk (below_step HB.out hb); clear hb hbox hg) | ((with_reducible refine gate_dst (N := 3) rfl ?_); refine box_event ?hg (N := 3) ?hd (cs := #[.bool a1_0, .slice A1_1 l1_1.length c1_1]) (t := 24) ?hr ?_; (case hd => rfl); (case hg => rfl); (case hr => first | (go_simp; done) | (go_simp; rfl)); intro gb737 hg w41 hbox hb; have BK737 := Aside0.mk (hbox); have GW737 := Aside0.mk (bxLe HB.out hg); have GE737 := GW737; replace HB := Aside0.mk (below_step HB.out hb); have NB736_737 := Aside0.mk (neL BK736.out hg); have NB737_736 := Aside0.mk (neR BK736.out hg); replace BK736 := Aside0.mk (blk_below BK736.out hb); clear hb hbox hg) | ((with_reducible refine gate_dst (N := 4) rfl ?_); refine box_event ?hg (N := 4) ?hd (cs := #[.bool false, .slice none 0 0]) (t := 24) ?hr ?_; (case hd => rfl); (case hg => rfl); (case hr => first | (go_simp; done) | (go_simp; rfl)); intro gb738 hg w42 hbox hb; have BK738 := Aside0.mk (hbox); have GW738 := Aside0.mk (bxLe HB.out hg); have GE738 := GW738; replace HB := Aside0.mk (below_step HB.out hb); have NB736_738 := Aside0.mk (neL BK736.out hg); have NB738_736 := Aside0.mk (neR BK736.out hg); replace BK736 := Aside0.mk (blk_below BK736.out hb); have NB737_738 := Aside0.mk (neL BK737.out hg); have NB738_737 := Aside0.mk (neR BK737.out hg); replace BK737 := Aside0.mk (blk_below BK737.out hb); clear hb hbox hg; have hnb43 := NB736_737.out; have hnc43 := NB737_736.out; have hnb44 := NB736_738.out; have hnc44 := NB738_736.out; have hcz45_0 : w42.cell? ⟨gb736, 0, none⟩ = some (.bool a0_0) := bc0 BK736.out; have hcz45_1 : w42.cell? ⟨gb736, 1, none⟩ = some (.slice A0_1 l0_1.length c0_1) := bc1 BK736.out; have hfz45_0 := blk_frozen BK736.out 0; have hfz45_1 := blk_frozen BK736.out 1; have hnb46 := NB737_738.out; have hnc46 := NB738_737.out; have hcz47_0 : w42.cell? ⟨gb737, 0, none⟩ = some (.bool a1_0) := bc0 BK737.out; have hcz47_1 : w42.cell? ⟨gb737, 1, none⟩ = some (.slice A1_1 l1_1.length c1_1) := bc1 BK737.out; have hfz47_0 := blk_frozen BK737.out 0; have hfz47_1 := blk_frozen BK737.out 1) | ((with_reducible refine gate_callee (f := 78) rfl ?_); refine goL (some 28) Try.func78 [.slice A0_1 l0_1.length c0_1, .slice A1_1 l1_1.length c1_1] ?_; (with_reducible refine (gudgeonref01_Sub.calls k _ _ l0_1 _ _ l1_1 t746 t747 _ ?side1 ?side2 ?side3 ?side4 A21.out).mono ?_); (case side1 => exact (Kd.C_below HR0_1.out HB.out)); (case side2 => exact HC0_1.out); (case side3 => exact (Kd.C_below HR1_1.out HB.out)); (case side4 => exact HC1_1.out); rintro e w48 ⟨v748, rfl, ho0, hb⟩; refine ⟨_, rfl, ?_⟩; have HO749 := Aside0.mk (Kd.R_lower ho0 (below_size HB.out)); replace BK736 := Aside0.mk (blk_below BK736.out hb); replace BK737 := Aside0.mk (blk_below BK737.out hb); replace BK738 := Aside0.mk (blk_below BK738.out hb); replace HB := Aside0.mk (below_step HB.out hb); have hcz49_0 : w48.cell? ⟨gb737, 0, none⟩ = some (.bool a1_0) := bc0 BK737.out; have hcz49_1 : w48.cell? ⟨gb737, 1, none⟩ = some (.slice A1_1 l1_1.length c1_1) := bc1 BK737.out; have hfz49_0 := blk_frozen BK737.out 0; have hfz49_1 := blk_frozen BK737.out 1; have hcz50_0 : w48.cell? ⟨gb736, 0, none⟩ = some (.bool a0_0) := bc0 BK736.out; have hcz50_1 : w48.cell? ⟨gb736, 1, none⟩ = some (.slice A0_1 l0_1.length c0_1) := bc1 BK736.out; have hfz50_0 := blk_frozen BK736.out 0; have hfz50_1 := blk_frozen BK736.out 1) | ((with_reducible refine gate_callee (f := 78) rfl ?_); refine goL (some 43) Try.func78 [.slice A1_1 l1_1.length c1_1, .slice A0_1 l0_1.length c0_1] ?_; (with_reducible refine (gudgeonref01_Sub.calls k _ _ l1_1 _ _ l0_1 t754 t755 _ ?side1 ?side2 ?side3 ?side4 A38.out).mono ?_); (case side1 => exact (Kd.C_below HR1_1.out HB.out)); (case side2 => exact HC1_1.out); (case side3 => exact (Kd.C_below HR0_1.out HB.out)); (case side4 => exact HC0_1.out); rintro e w51 ⟨v756, rfl, ho0, hb⟩; refine ⟨_, rfl, ?_⟩; have HO757 := Aside0.mk (Kd.R_lower (Kd.R_new' ho0 (Kd.R_lt HO749.out)) (below_size HB.out)); replace HO749 := Aside0.mk (Kd.R_elder' HO749.out (Kd.R_base ho0) hb); replace BK737 := Aside0.mk (blk_below BK737.out hb); replace BK738 := Aside0.mk (blk_below BK738.out hb); replace HB := Aside0.mk (below_step HB.out hb); have hcz52_0 : w51.cell? ⟨gb737, 0, none⟩ = some (.bool a1_0) := bc0 BK737.out; have hcz52_1 : w51.cell? ⟨gb737, 1, none⟩ = some (.slice A1_1 l1_1.length c1_1) := bc1 BK737.out; have hfz52_0 := blk_frozen BK737.out 0; have hfz52_1 := blk_frozen BK737.out 1; obtain ⟨Ao53, co53, eo53⟩ := Kd.R_slice HO757.out; subst eo53) | ((with_reducible refine gate_callee (f := 54) rfl ?_); refine goL (some 50) Try.func54 [.agg #[.bool a1_0, .slice Ao53 t754.length co53]] ?_; (with_reducible refine (gudgeonref02_Norm.calls k a1_0 _ _ t754 t758 t759 _ ?side1 ?side2 A39.out).mono ?_); (case side1 => exact (Kd.R_reads' HO757.out).2.2); (case side2 => exact (Kd.R_reads' HO757.out).2.1); rintro e w54 ⟨v760, rfl, ho0, hb⟩; refine ⟨_, rfl, ?_⟩; have HO761 := Aside0.mk (Kd.R_lower (Kd.R_new' (Kd.R_new' ho0 (Kd.R_lt HO749.out)) (Kd.R_lt HO757.out)) (below_size HB.out)); replace BK738 := Aside0.mk (blk_below BK738.out hb); replace HB := Aside0.mk (below_step HB.out hb); have hcz55_0 : w54.cell? ⟨gb738, 0, none⟩ = some (.bool false) := bc0 BK738.out; have hcz55_1 : w54.cell? ⟨gb738, 1, none⟩ = some (.slice none 0 0) := bc1 BK738.out; have hfz55_0 := blk_frozen BK738.out 0; have hfz55_1 := blk_frozen BK738.out 1; obtain ⟨Ao56, co56, eo56⟩ := Kd.R_slice HO761.out; subst eo56))
   refine bodyPost_ret (results_cell_row rfl _ _ gb738 24 #[.bool t758, .slice Ao56 t759.length co56] (0, 0) _ rfl (by refine blk_put (cs := #[.bool t758, .slice none 0 0]) ?_ 1 _ rfl; refine blk_put (cs := #[.bool false, .slice none 0 0]) ?_ 0 _ rfl; exact BK738.out) Try.underlying24 rfl (by kernel_rfl)) rfl ?_
   exact ⟨_, rfl, Kd.R_mono (Kd.R_far (p := ⟨gb738, 1, none⟩) (Kd.R_far (p := ⟨gb738, 0, none⟩) (Kd.R_types HO761.out BK738.out (by decide)) (fun _ hk => hk.2) (.bool t758)) (fun _ hk => hk.2) (.slice Ao56 t759.length co56)) (fun _ hk => trivial), by repeat first | exact HB.out | refine bxSet ?_ (by assumption) | apply below_alloc | apply pw_below_drewN⟩

/-! ### gudgeonref01_mul: function 97 -/
def gudgeonref01_mul.l0 : Nat → List Bool → List Bool → List Bool → Int → Option (List Bool)
 | 0, _, _, _, _ => none
 | k + 1, x0, x1, x5, x6 => if x6 ≥ 0 then ((some (([false] : List Bool) : List Bool)).bind fun y762 => (if y762.length + x5.length < 140737488355328 then ((some (y762 ++ x5 : List Bool)).bind fun y765 => (if 0 ≤ x6 then (if x6 < (x0.length : Int) then (if rdOf false x0 x6 = true then ((gudgeonref01_add.f k y765 x1).bind fun t769 => (gudgeonref01_mul.l0 k x0 x1 t769 (wrap64 (x6 - 1)))) else (gudgeonref01_mul.l0 k x0 x1 y765 (wrap64 (x6 - 1)))) else (none)) else (none))) else (none))) else ((gudgeonref01_trim.f k x5).bind fun t772 => (some t772))
def gudgeonref01_mul.f (k : Nat) (l0 : List Bool) (l1 : List Bool) : Option (List Bool) := gudgeonref01_mul.l0 k l0 l1 ([] : List Bool) (wrap64 ((l0.length : Int) - 1))
set_option maxHeartbeats 8000000 in
set_option maxRecDepth 100000 in
theorem gudgeonref01_mul.calls (k : Nat) (A0 : Option Addr) (c0 : Nat) (l0 : List Bool) (A1 : Option Addr) (c1 : Nat) (l1 : List Bool) (r : List Bool) (w : World) (hr0 : Kd.C Kd.bool w A0 l0.length l0) (hc0 : l0.length ≤ c0) (hr1 : Kd.C Kd.bool w A1 l1.length l1) (hc1 : l1.length ≤ c1) (h : gudgeonref01_mul.f k l0 l1 = some r) :
  Calls Try.prog 97 #[.slice A0 l0.length c0, .slice A1 l1.length c1] w fun e w' => ∃ v0_ : Value, e = .returned (v0_) ∧ Kd.R Kd.bool 4 w' w.heap.size (fun _ => True) v0_ r ∧ Below w.heap.size w w' := by
 have HR0 := Aside0.mk hr0
 have HC0 := Aside0.mk hc0
 clear hr0 hc0
 have HR1 := Aside0.mk hr1
 have HC1 := Aside0.mk hc1
 clear hr1 hc1
 have HB := Aside0.mk (Below.refl w.heap.size w)
 have H : (gudgeonref01_mul.l0 k l0 l1 ([] : List Bool) (wrap64 ((l0.length : Int) - 1))) = some r := h
 clear h
 have H' := Aside0.mk H
 clear H
 go_enter Try.func97, Try.ntmps97
 go_wp2
 go_loopg [5, 6] k (fun kq v5 v6 w' => ∃ (x5_1 : List Bool) (x6_1 : Int), v6 = .int .i64 x6_1 ∧ Aside0 (gudgeonref01_mul.l0 kq l0 l1 x5_1 x6_1 = some r) ∧ Aside0 (kq ≤ k) ∧ Aside0 (Kd.R Kd.bool 4 w' w.heap.size (fun _ => True) v5 x5_1) ∧ Aside0 (Below w.heap.size w w'))
 case atStart => exact ⟨(([] : List Bool)), (wrap64 ((l0.length : Int) - 1)), (by first | rfl | (simp; done)), H', ⟨Nat.le_refl _⟩, ⟨by first | exact Kd.R_nil _ _ _ _ _ | exact Kd.N_nil _ _ _ _ _ | exact Kd.V_nil _ _ _ _ _ | exact Kd.Q_nil _ _ _ _ _ | exact Kd.S_nil _ _ _ _ _⟩, ⟨HB.out⟩⟩
 case round =>
  clear H'
  try clear c1
  try clear p2
  obtain ⟨x5_1, x6_1, rfl, HA, HK1, HO_5, HB⟩ := hrel
  cases gk with
  | zero => exact absurd HA.out (by simp [gudgeonref01_mul.l0])
  | succ k1 =>
   have H := HA.out
   clear HA
   simp only [gudgeonref01_mul.l0] at H
   by_cases c3 : x6_1 ≥ 0
   ·rw [if_pos c3] at H
    have c3b0 : decide (0 ≤ x6_1) = true := decide_eq_true c3
    clear c3
    obtain ⟨y762, hy762⟩ : ∃ y_ : List Bool, y_ = (([false] : List Bool)) := ⟨_, rfl⟩
    replace H : (if y762.length + x5_1.length < 140737488355328 then ((some (y762 ++ x5_1 : List Bool)).bind fun y765 => (if 0 ≤ x6_1 then (if x6_1 < (l0.length : Int) then (if rdOf false l0 x6_1 = true then ((gudgeonref01_add.f k1 y765 l1).bind fun t769 => (gudgeonref01_mul.l0 k1 l0 l1 t769 (wrap64 (x6_1 - 1)))) else (gudgeonref01_mul.l0 k1 l0 l1 y765 (wrap64 (x6_1 - 1)))) else (none)) else (none))) else (none)) = some r := by first | (rw [hy762]; with_reducible exact H) | (have H2_ := (Option.bind_some _ _).symm.trans H; rw [hy762]; with_reducible exact H2_) | (have H2_ := (Option.bind_some _ _).symm.trans H; with_reducible exact H2_) | with_reducible exact H | (rw [hy762]; exact H) | exact H
    have Ny762 := Aside0.mk hy762
    clear hy762
    by_cases c4 : y762.length + x5_1.length < 140737488355328
    ·rw [if_pos c4] at H
     have LMc4 := Aside0.mk c4
     clear c4
     obtain ⟨y765, hy765⟩ : ∃ y_ : List Bool, y_ = (y762 ++ x5_1) := ⟨_, rfl⟩
     replace H : (if 0 ≤ x6_1 then (if x6_1 < (l0.length : Int) then (if rdOf false l0 x6_1 = true then ((gudgeonref01_add.f k1 y765 l1).bind fun t769 => (gudgeonref01_mul.l0 k1 l0 l1 t769 (wrap64 (x6_1 - 1)))) else (gudgeonref01_mul.l0 k1 l0 l1 y765 (wrap64 (x6_1 - 1)))) else (none)) else (none)) = some r := by first | (rw [hy765]; with_reducible exact H) | (have H2_ := (Option.bind_some _ _).symm.trans H; rw [hy765]; with_reducible exact H2_) | (have H2_ := (Option.bind_some _ _).symm.trans H; with_reducible exact H2_) | with_reducible exact H | (rw [hy765]; exact H) | exact H
     have Ny765 := Aside0.mk hy765
     clear hy765
     by_cases c5 : 0 ≤ x6_1
     ·rw [if_pos c5] at H
      have c5b0 : decide (0 ≤ x6_1) = true := decide_eq_true c5
      clear c5
      by_cases c6 : x6_1 < (l0.length : Int)
      ·rw [if_pos c6] at H
       have c6b0 : decide (x6_1 < (l0.length : Int)) = true := decide_eq_true c6
       clear c6
       obtain ⟨bq7, hbq7⟩ : ∃ b_ : Bool, b_ = (rdOf false l0 x6_1) := ⟨_, rfl⟩
       replace H : (if bq7 = true then ((gudgeonref01_add.f k1 y765 l1).bind fun t769 => (gudgeonref01_mul.l0 k1 l0 l1 t769 (wrap64 (x6_1 - 1)))) else (gudgeonref01_mul.l0 k1 l0 l1 y765 (wrap64 (x6_1 - 1)))) = some r := by rw [← hbq7] at H; exact H
       have Nbq7 := Aside0.mk hbq7
       clear hbq7
       by_cases c8 : bq7 = true
       ·subst c8
        rw [if_pos rfl] at H
        obtain ⟨t769, A90, H⟩ := Option.bind_eq_some_iff.mp H
        try dsimp only at H
        have A9 := Aside0.mk A90
        clear A90
        have H' := Aside0.mk H
        clear H
        go_wp2_with (first | ((with_reducible refine gate_dst (N := 14) rfl ?_); refine Kd.R_lit Kd.bool _ 4 ?hg (N := 14) ?hd (xs := ([false] : List Bool)) (inner := [.bool false]) (ok := fun _ => True) (okp := fun _ => True) ?hr ?hp (fun _ hk => hk) trivial (Below.refl _ _) (Nat.le_refl _) (by simp) ?_; (case hd => rfl); (case hg => rfl); (case hr => first | (go_simp; done) | (go_simp; rfl)); (case hp => exact (Reps.one (show Kd.M Kd.bool _ _ _ false [.bool false] from rfl) (Reps.none _ _))); intro v763 w10 ho11 hb hg_ hnew_; clear hg_ hnew_; (first | rw [← Ny762.out] at ho11 | (simp only [Int.reduceToNat] at ho11; rw [← Ny762.out] at ho11)); have HO764 := Aside0.mk (Kd.R_lower (Kd.R_new' ho11 (Kd.R_lt HO_5.out)) (below_size HB.out)); replace HO_5 := Aside0.mk (Kd.R_elder' HO_5.out (Kd.R_base ho11) hb); replace HB := Aside0.mk (below_step HB.out hb); clear hb ho11; obtain ⟨Ao13, co13, eo13⟩ := Kd.R_slice HO_5.out; subst eo13) | ((with_reducible refine gate_builtin (b := .append) (xs := #[.tmp 14, .tmp 15]) rfl ?_); at_builtin; refine Kd.R_append_rows Kd.bool (w0 := w) w.heap.size rfl (.tmp 14) (.tmp 15) 90 4 (.bool false) 1 rfl Try.underlying90 info4 rfl (by decide) (by omega) v763 y762 x5_1 _ _ _ (fun k_ => some k_ ≠ (.slice Ao13 x5_1.length co13 : Value).ownBlock) (fun _ => False) rfl rfl ?aO ?aR (fun _ _ h => h) (fun _ h => h.elim) ?aF ?aB ?aS ?aL ?_; (case aR => repeat (first | exact (Kd.R_reads' HO_5.out).2.2 | (with_reducible refine Kd.C_alloc ?_ _) | (with_reducible refine Kd.C_drewN ?_ _) | (with_reducible refine Kd.C_drew ?_))); (case aB => exact HB.out); (case aF => exact (fun k_ hk => Kd.fresh' (Kd.R_lt HO_5.out) k_ hk)); (case aO => exact (Kd.R_mono HO764.out (fun _ hk => hk.2))); (case aS => exact (below_size HB.out)); (case aL => have := LMc4.out; omega); intro v766 w12 ho hb hg hat; rw [← Ny765.out] at ho; have n0_ := Aside0.mk (Kd.R_after (ok := (fun _ => True)) HO_5.out hg hat); have n1_ := Aside0.mk (hb); have n2_ := Aside0.mk (ho); clear HO_5; clear HB; clear HO764; have HO_5 := n0_; have HB := n1_; have HO767 := n2_; clear n0_ n1_ n2_; clear ho hb hg hat; have p768 : 0 ≤ (x6_1 : Int) := of_decide_eq_true (by first | (with_reducible assumption) | assumption); have q768 : x6_1 < (l0.length : Int) := of_decide_eq_true (by first | (with_reducible assumption) | assumption); obtain ⟨ad768, e768, hx768_0⟩ := Kd.at_bool HR0.out x6_1 p768 q768; (try rw [← Nbq7.out] at hx768_0); cases e768; replace hx768_0 := (HB.out.cell (World.block_lt_of_cell? w _ hx768_0)).trans hx768_0; replace p768 := eq_true p768; replace q768 := eq_true q768; obtain ⟨Ao14, co14, eo14⟩ := Kd.R_slice HO767.out; subst eo14) | ((with_reducible refine gate_callee (f := 94) rfl ?_); refine goL (some 23) Try.func94 [.slice Ao14 y765.length co14, .slice A1 l1.length c1] ?_; (with_reducible refine (gudgeonref01_add.calls k1 _ _ y765 _ _ l1 t769 _ ?side1 ?side2 ?side3 ?side4 A9.out).mono ?_); (case side1 => exact (Kd.R_reads' HO767.out).2.2); (case side2 => exact (Kd.R_reads' HO767.out).2.1); (case side3 => exact (Kd.C_below HR1.out HB.out)); (case side4 => exact HC1.out); rintro e w15 ⟨v770, rfl, ho0, hb⟩; refine ⟨_, rfl, ?_⟩; have HO771 := Aside0.mk (Kd.R_lower (Kd.R_new' (Kd.R_new' ho0 (Kd.R_lt HO_5.out)) (Kd.R_lt HO767.out)) (below_size HB.out)); replace HB := Aside0.mk (below_step HB.out hb)))
        go_roundg k1
        case measure => have := HK1.out; omega
        case rel => exact ⟨(t769), (wrap64 (x6_1 - 1)), (by first | rfl | (simp; done)), H', ⟨by have := HK1.out; omega⟩, ⟨Kd.R_mono HO771.out (fun _ hk => trivial)⟩, ⟨HB.out⟩⟩
       ·replace c8 := Bool.eq_false_iff.mpr c8
        subst c8
        rw [if_neg (show ¬ (false = true) by decide)] at H
        have H' := Aside0.mk H
        clear H
        go_wp2_with (first | ((with_reducible refine gate_dst (N := 14) rfl ?_); refine Kd.R_lit Kd.bool _ 4 ?hg (N := 14) ?hd (xs := ([false] : List Bool)) (inner := [.bool false]) (ok := fun _ => True) (okp := fun _ => True) ?hr ?hp (fun _ hk => hk) trivial (Below.refl _ _) (Nat.le_refl _) (by simp) ?_; (case hd => rfl); (case hg => rfl); (case hr => first | (go_simp; done) | (go_simp; rfl)); (case hp => exact (Reps.one (show Kd.M Kd.bool _ _ _ false [.bool false] from rfl) (Reps.none _ _))); intro v763 w16 ho17 hb hg_ hnew_; clear hg_ hnew_; (first | rw [← Ny762.out] at ho17 | (simp only [Int.reduceToNat] at ho17; rw [← Ny762.out] at ho17)); have HO764 := Aside0.mk (Kd.R_lower (Kd.R_new' ho17 (Kd.R_lt HO_5.out)) (below_size HB.out)); replace HO_5 := Aside0.mk (Kd.R_elder' HO_5.out (Kd.R_base ho17) hb); replace HB := Aside0.mk (below_step HB.out hb); clear hb ho17; obtain ⟨Ao19, co19, eo19⟩ := Kd.R_slice HO_5.out; subst eo19) | ((with_reducible refine gate_builtin (b := .append) (xs := #[.tmp 14, .tmp 15]) rfl ?_); at_builtin; refine Kd.R_append_rows Kd.bool (w0 := w) w.heap.size rfl (.tmp 14) (.tmp 15) 90 4 (.bool false) 1 rfl Try.underlying90 info4 rfl (by decide) (by omega) v763 y762 x5_1 _ _ _ (fun k_ => some k_ ≠ (.slice Ao19 x5_1.length co19 : Value).ownBlock) (fun _ => False) rfl rfl ?aO ?aR (fun _ _ h => h) (fun _ h => h.elim) ?aF ?aB ?aS ?aL ?_; (case aR => repeat (first | exact (Kd.R_reads' HO_5.out).2.2 | (with_reducible refine Kd.C_alloc ?_ _) | (with_reducible refine Kd.C_drewN ?_ _) | (with_reducible refine Kd.C_drew ?_))); (case aB => exact HB.out); (case aF => exact (fun k_ hk => Kd.fresh' (Kd.R_lt HO_5.out) k_ hk)); (case aO => exact (Kd.R_mono HO764.out (fun _ hk => hk.2))); (case aS => exact (below_size HB.out)); (case aL => have := LMc4.out; omega); intro v766 w18 ho hb hg hat; rw [← Ny765.out] at ho; have n0_ := Aside0.mk (Kd.R_after (ok := (fun _ => True)) HO_5.out hg hat); have n1_ := Aside0.mk (hb); have n2_ := Aside0.mk (ho); clear HO_5; clear HB; clear HO764; have HO_5 := n0_; have HB := n1_; have HO767 := n2_; clear n0_ n1_ n2_; clear ho hb hg hat; have p768 : 0 ≤ (x6_1 : Int) := of_decide_eq_true (by first | (with_reducible assumption) | assumption); have q768 : x6_1 < (l0.length : Int) := of_decide_eq_true (by first | (with_reducible assumption) | assumption); obtain ⟨ad768, e768, hx768_0⟩ := Kd.at_bool HR0.out x6_1 p768 q768; (try rw [← Nbq7.out] at hx768_0); cases e768; replace hx768_0 := (HB.out.cell (World.block_lt_of_cell? w _ hx768_0)).trans hx768_0; replace p768 := eq_true p768; replace q768 := eq_true q768))
        go_roundg k1
        case measure => have := HK1.out; omega
        case rel => exact ⟨(y765), (wrap64 (x6_1 - 1)), (by first | rfl | (simp; done)), H', ⟨by have := HK1.out; omega⟩, ⟨Kd.R_mono HO767.out (fun _ hk => trivial)⟩, ⟨HB.out⟩⟩
      ·rw [if_neg c6] at H
       exact absurd H (by simp)
     ·rw [if_neg c5] at H
      exact absurd H (by simp)
    ·rw [if_neg c4] at H
     exact absurd H (by simp)
   ·rw [if_neg c3] at H
    have c3b0 : decide (0 ≤ x6_1) = false := decide_eq_false c3
    clear c3
    obtain ⟨t772, A200, H⟩ := Option.bind_eq_some_iff.mp H
    try dsimp only at H
    have A20 := Aside0.mk A200
    clear A200
    obtain rfl := Option.some.inj H
    obtain ⟨Ao21, co21, eo21⟩ := Kd.R_slice HO_5.out
    subst eo21
    go_wp2_with (first | ((with_reducible refine gate_callee (f := 108) rfl ?_); refine goL (some 25) Try.func108 [.slice Ao21 x5_1.length co21] ?_; (with_reducible refine (gudgeonref01_trim.calls k1 _ _ x5_1 t772 _ ?side1 ?side2 A20.out).mono ?_); (case side1 => exact (Kd.R_reads' HO_5.out).2.2); (case side2 => exact (Kd.R_reads' HO_5.out).2.1); rintro e w22 ⟨v773, rfl, ho0, hb⟩; refine ⟨_, rfl, ?_⟩; have HO774 := Aside0.mk (Kd.R_lower (Kd.R_new' ho0 (Kd.R_lt HO_5.out)) (below_size HB.out)); replace HB := Aside0.mk (below_step HB.out hb)))
    go_ret
    exact ⟨_, rfl, Kd.R_mono HO774.out (fun _ hk => trivial), HB.out⟩

end Go.Proofs.Ytdicjemjmlbmlaa.PA
/- Written by a program of this session, wip/tools/patch_print.py, over the kit's print of the loaded functions. -/
namespace Go.Proofs.Ytdicjemjmlbmlaa.H
end Go.Proofs.Ytdicjemjmlbmlaa.H
namespace Go.Proofs.Ytdicjemjmlbmlaa.PA
open Go.RowKit Go.Proofs.YtdicjemjmlbmlaaW.PrintWords Go.Proofs.YtdicjemjmlbmlaaW.PrintLast Go.Proofs.YtdicjemjmlbmlaaW.PrintMore Go.Proofs.Ytdicjemjmlbmlaa.H
attribute [local go_sem] max2_int min2_int max_two min_two max_three min_three max_four min_four   -- for this text's walks alone
attribute [local go_sem] box_twice
set_option linter.unusedVariables false
set_option linter.unusedSimpArgs false

/-! ### gudgeonref01_Mul: function 79 -/
def gudgeonref01_Mul.f (k : Nat) (l0 : List Int) (l1 : List Int) : Option (List Int) := (gudgeonref01_Bits.f k l0).bind fun t775 => ((gudgeonref01_Bits.f k l1).bind fun t778 => ((gudgeonref01_mul.f k t775 t778).bind fun t781 => ((gudgeonref01_Limbs.f k t781).bind fun t784 => (some t784))))
set_option maxHeartbeats 8000000 in
set_option maxRecDepth 100000 in
theorem gudgeonref01_Mul.calls (k : Nat) (A0 : Option Addr) (c0 : Nat) (l0 : List Int) (A1 : Option Addr) (c1 : Nat) (l1 : List Int) (r : List Int) (w : World) (hr0 : Kd.C (Kd.int .u32) w A0 l0.length l0) (hc0 : l0.length ≤ c0) (hr1 : Kd.C (Kd.int .u32) w A1 l1.length l1) (hc1 : l1.length ≤ c1) (h : gudgeonref01_Mul.f k l0 l1 = some r) :
  Calls Try.prog 79 #[.slice A0 l0.length c0, .slice A1 l1.length c1] w fun e w' => ∃ v0_ : Value, e = .returned (v0_) ∧ Kd.R (Kd.int .u32) 81 w' w.heap.size (fun _ => True) v0_ r ∧ Below w.heap.size w w' := by
 have HR0 := Aside0.mk hr0
 have HC0 := Aside0.mk hc0
 clear hr0 hc0
 have HR1 := Aside0.mk hr1
 have HC1 := Aside0.mk hc1
 clear hr1 hc1
 have HB := Aside0.mk (Below.refl w.heap.size w)
 have H : ((gudgeonref01_Bits.f k l0).bind fun t775 => ((gudgeonref01_Bits.f k l1).bind fun t778 => ((gudgeonref01_mul.f k t775 t778).bind fun t781 => ((gudgeonref01_Limbs.f k t781).bind fun t784 => (some t784))))) = some r := h
 clear h
 obtain ⟨t775, A30, H⟩ := Option.bind_eq_some_iff.mp H
 try dsimp only at H
 have A3 := Aside0.mk A30
 clear A30
 obtain ⟨t778, A40, H⟩ := Option.bind_eq_some_iff.mp H
 try dsimp only at H
 have A4 := Aside0.mk A40
 clear A40
 obtain ⟨t781, A50, H⟩ := Option.bind_eq_some_iff.mp H
 try dsimp only at H
 have A5 := Aside0.mk A50
 clear A50
 obtain ⟨t784, A60, H⟩ := Option.bind_eq_some_iff.mp H
 try dsimp only at H
 have A6 := Aside0.mk A60
 clear A60
 obtain rfl := Option.some.inj H
 go_enter Try.func79, Try.ntmps79
 go_wp2_with (first | ((with_reducible refine gate_callee (f := 86) rfl ?_); refine goL (some 6) Try.func86 [.slice A0 l0.length c0] ?_; (with_reducible refine (gudgeonref01_Bits.calls k _ _ l0 t775 _ ?side1 ?side2 A3.out).mono ?_); (case side1 => exact HR0.out); (case side2 => exact HC0.out); rintro e w7 ⟨v776, rfl, ho0, hb⟩; refine ⟨_, rfl, ?_⟩; have HO777 := Aside0.mk (Kd.R_lower ho0 (below_size HB.out)); replace HB := Aside0.mk (below_step HB.out hb)) | ((with_reducible refine gate_callee (f := 86) rfl ?_); refine goL (some 8) Try.func86 [.slice A1 l1.length c1] ?_; (with_reducible refine (gudgeonref01_Bits.calls k _ _ l1 t778 _ ?side1 ?side2 A4.out).mono ?_); (case side1 => exact (Kd.C_below HR1.out HB.out)); (case side2 => exact HC1.out); rintro e w8 ⟨v779, rfl, ho0, hb⟩; refine ⟨_, rfl, ?_⟩; have HO780 := Aside0.mk (Kd.R_lower (Kd.R_new' ho0 (Kd.R_lt HO777.out)) (below_size HB.out)); replace HO777 := Aside0.mk (Kd.R_elder' HO777.out (Kd.R_base ho0) hb); replace HB := Aside0.mk (below_step HB.out hb); obtain ⟨Ao9, co9, eo9⟩ := Kd.R_slice HO777.out; subst eo9; obtain ⟨Ao10, co10, eo10⟩ := Kd.R_slice HO780.out; subst eo10) | ((with_reducible refine gate_callee (f := 97) rfl ?_); refine goL (some 9) Try.func97 [.slice Ao9 t775.length co9, .slice Ao10 t778.length co10] ?_; (with_reducible refine (gudgeonref01_mul.calls k _ _ t775 _ _ t778 t781 _ ?side1 ?side2 ?side3 ?side4 A5.out).mono ?_); (case side1 => exact (Kd.R_reads' HO777.out).2.2); (case side2 => exact (Kd.R_reads' HO777.out).2.1); (case side3 => exact (Kd.R_reads' HO780.out).2.2); (case side4 => exact (Kd.R_reads' HO780.out).2.1); rintro e w11 ⟨v782, rfl, ho0, hb⟩; refine ⟨_, rfl, ?_⟩; have HO783 := Aside0.mk (Kd.R_lower (Kd.R_new' (Kd.R_new' ho0 (Kd.R_lt HO777.out)) (Kd.R_lt HO780.out)) (below_size HB.out)); replace HB := Aside0.mk (below_step HB.out hb); obtain ⟨Ao12, co12, eo12⟩ := Kd.R_slice HO783.out; subst eo12) | ((with_reducible refine gate_callee (f := 88) rfl ?_); refine goL (some 10) Try.func88 [.slice Ao12 t781.length co12] ?_; (with_reducible refine (gudgeonref01_Limbs.calls k _ _ t781 t784 _ ?side1 ?side2 A6.out).mono ?_); (case side1 => exact (Kd.R_reads' HO783.out).2.2); (case side2 => exact (Kd.R_reads' HO783.out).2.1); rintro e w13 ⟨v785, rfl, ho0, hb⟩; refine ⟨_, rfl, ?_⟩; have HO786 := Aside0.mk (Kd.R_lower ho0 (below_size HB.out)); replace HB := Aside0.mk (below_step HB.out hb)))
 go_ret
 exact ⟨_, rfl, HO786.out, HB.out⟩

/-! ### gudgeonref02_Mul: function 56 -/
def gudgeonref02_Mul.f (k : Nat) (a0_0 : Bool) (l0_1 : List Int) (a1_0 : Bool) (l1_1 : List Int) : Option (Bool × List Int) := (gudgeonref01_Mul.f k l0_1 l1_1).bind fun t790 => ((gudgeonref02_Norm.f k (a0_0 != a1_0) t790).bind fun bt793 => (some (bt793.1, bt793.2)))
def gudgeonref02_Mul.T1 : Bool × List (List Nat × List Nat) := (true, [([], []), ([0], [0]), ([], []), ([2], [2]), ([1, 3], [1, 3]), ([], []), ([5], [5]), ([], []), ([7], [7]), ([6, 8], [6, 8]), ([4, 9], [4, 9]), ([10, 9], [10]), ([11, 11, 0, 1, 2, 3, 4, 5, 6, 7, 8, 9, 10, 11], [11])])
def gudgeonref02_Mul.B1 : List Nat := [0, 1, 0, 4, 15, 0, 32, 0, 128, 480, 1023, 2047, 4095]
theorem gudgeonref02_Mul.tab1 : rtab .any (opsOf Try.f56 1) = gudgeonref02_Mul.T1 := by kernel_rfl
theorem gudgeonref02_Mul.bits1 : waitsOk gudgeonref02_Mul.T1.2 gudgeonref02_Mul.B1 = true := by kernel_rfl
set_option maxHeartbeats 8000000 in
set_option maxRecDepth 100000 in
theorem gudgeonref02_Mul.calls (k : Nat) (a0_0 : Bool) (A0_1 : Option Addr) (c0_1 : Nat) (l0_1 : List Int) (a1_0 : Bool) (A1_1 : Option Addr) (c1_1 : Nat) (l1_1 : List Int) (r1 : Bool) (r2 : List Int) (w : World) (hr0_1 : Kd.C (Kd.int .u32) w A0_1 l0_1.length l0_1) (hc0_1 : l0_1.length ≤ c0_1) (hr1_1 : Kd.C (Kd.int .u32) w A1_1 l1_1.length l1_1) (hc1_1 : l1_1.length ≤ c1_1) (h : gudgeonref02_Mul.f k a0_0 l0_1 a1_0 l1_1 = some (r1, r2)) :
  Calls Try.prog 56 #[.agg #[.bool a0_0, .slice A0_1 l0_1.length c0_1], .agg #[.bool a1_0, .slice A1_1 l1_1.length c1_1]] w fun e w' => ∃ v1_ : Value, e = .returned (.agg #[.bool r1, v1_]) ∧ Kd.R (Kd.int .u32) 81 w' w.heap.size (fun _ => True) v1_ r2 ∧ Below w.heap.size w w' := by
 have hu24 := Try.underlying24
 have HR0_1 := Aside0.mk hr0_1
 have HC0_1 := Aside0.mk hc0_1
 clear hr0_1 hc0_1
 have HR1_1 := Aside0.mk hr1_1
 have HC1_1 := Aside0.mk hc1_1
 clear hr1_1 hc1_1
 have HB := Aside0.mk (Below.refl w.heap.size w)
 have H : ((gudgeonref01_Mul.f k l0_1 l1_1).bind fun t790 => ((gudgeonref02_Norm.f k (a0_0 != a1_0) t790).bind fun bt793 => (some (bt793.1, bt793.2)))) = some (r1, r2) := h
 clear h
 obtain ⟨t790, A30, H⟩ := Option.bind_eq_some_iff.mp H
 try dsimp only at H
 have A3 := Aside0.mk A30
 clear A30
 obtain ⟨⟨t793, t794⟩, A40, H⟩ := Option.bind_eq_some_iff.mp H
 try dsimp only at H
 have A4 := Aside0.mk A40
 clear A40
 simp only [Option.some.injEq, Prod.mk.injEq] at H
 obtain ⟨rfl, rfl⟩ := H
 go_enter Try.func56, Try.ntmps56
 try go_wp2_with (first | ((with_reducible refine gate_dst (N := 2) rfl ?_); refine box_event ?hg (N := 2) ?hd (cs := #[.bool a0_0, .slice A0_1 l0_1.length c0_1]) (t := 24) ?hr ?_; (case hd => rfl); (case hg => rfl); (case hr => first | (go_simp; done) | (go_simp; rfl)); intro gb787 hg w5 hbox hb; have BK787 := Aside0.mk (hbox); have GW787 := Aside0.mk (bxLe HB.out hg); have GE787 := GW787; replace HB := Aside0.mk (below_step HB.out hb); clear hb hbox hg) | ((with_reducible refine gate_dst (N := 3) rfl ?_); refine box_event ?hg (N := 3) ?hd (cs := #[.bool a1_0, .slice A1_1 l1_1.length c1_1]) (t := 24) ?hr ?_; (case hd => rfl); (case hg => rfl); (case hr => first | (go_simp; done) | (go_simp; rfl)); intro gb788 hg w6 hbox hb; have BK788 := Aside0.mk (hbox); have GW788 := Aside0.mk (bxLe HB.out hg); have GE788 := GW788; replace HB := Aside0.mk (below_step HB.out hb); have NB787_788 := Aside0.mk (neL BK787.out hg); have NB788_787 := Aside0.mk (neR BK787.out hg); replace BK787 := Aside0.mk (blk_below BK787.out hb); clear hb hbox hg) | ((with_reducible refine gate_dst (N := 4) rfl ?_); refine box_event ?hg (N := 4) ?hd (cs := #[.bool false, .slice none 0 0]) (t := 24) ?hr ?_; (case hd => rfl); (case hg => rfl); (case hr => first | (go_simp; done) | (go_simp; rfl)); intro gb789 hg w7 hbox hb; have BK789 := Aside0.mk (hbox); have GW789 := Aside0.mk (bxLe HB.out hg); have GE789 := GW789; replace HB := Aside0.mk (below_step HB.out hb); have NB787_789 := Aside0.mk (neL BK787.out hg); have NB789_787 := Aside0.mk (neR BK787.out hg); replace BK787 := Aside0.mk (blk_below BK787.out hb); have NB788_789 := Aside0.mk (neL BK788.out hg); have NB789_788 := Aside0.mk (neR BK788.out hg); replace BK788 := Aside0.mk (blk_below BK788.out hb); clear hb hbox hg))
 replace BK787 := Aside0.mk (blk_drew BK787.out)
 replace BK788 := Aside0.mk (blk_drew BK788.out)
 replace BK789 := Aside0.mk (blk_drew BK789.out)
 replace HB := Aside0.mk (below_drew1 HB.out)
 refine start_ (n := 13) (S := fun w' => w'.cell? ⟨gb787, 0, none⟩ = some (.bool a0_0) ∧ w'.cell? ⟨gb787, 1, none⟩ = some (.slice A0_1 l0_1.length c0_1) ∧ w'.cell? ⟨gb788, 0, none⟩ = some (.bool a1_0) ∧ w'.cell? ⟨gb788, 1, none⟩ = some (.slice A1_1 l1_1.length c1_1)) (ds := []) #[false, false, false, false, false, false, false, false, false, false, false, false, false] (by kernel_rfl) rfl rfl ⟨bc0 BK787.out, bc1 BK787.out, bc0 BK788.out, bc1 BK788.out⟩ (fun hHeld => ?_); refine with_tabW gudgeonref02_Mul.tab1 gudgeonref02_Mul.bits1 (fun HT_ HW_ => ?_)
 generalize w7.drew = w8 at BK787 BK788 BK789 HB hHeld ⊢
 refine pure_ (i := 0) (N := some 5) (v := ?_) (a' := ?_) #[true, false, false, false, false, false, false, false, false, false, false, false, false] rfl rfl (any_of HT_.out (by kernel_rfl)) (fun _ _ _ h => h) (Or.inl ⟨by rfl, ?_⟩) ?_ ?_
 rotate_left
 ·intro w'
  go_simp
  with_reducible rfl
 rotate_left
 ·simp only [Act.put, List.setIfInBounds_toArray, List.set_cons_zero, List.set_cons_succ, i64_w, i32_w]
  rfl
 refine pure_ (i := 2) (N := some 7) (v := ?_) (a' := ?_) #[true, false, true, false, false, false, false, false, false, false, false, false, false] rfl rfl (any_of HT_.out (by kernel_rfl)) (fun _ _ _ h => h) (Or.inl ⟨by rfl, ?_⟩) ?_ ?_
 rotate_left
 ·intro w'
  go_simp
  with_reducible rfl
 rotate_left
 ·simp only [Act.put, List.setIfInBounds_toArray, List.set_cons_zero, List.set_cons_succ, i64_w, i32_w]
  rfl
 refine pure_ (i := 5) (N := some 10) (v := ?_) (a' := ?_) #[true, false, true, false, false, true, false, false, false, false, false, false, false] rfl rfl (any_of HT_.out (by kernel_rfl)) (fun _ _ _ h => h) (Or.inl ⟨by rfl, ?_⟩) ?_ ?_
 rotate_left
 ·intro w'
  go_simp
  with_reducible rfl
 rotate_left
 ·simp only [Act.put, List.setIfInBounds_toArray, List.set_cons_zero, List.set_cons_succ, i64_w, i32_w]
  rfl
 refine pure_ (i := 7) (N := some 12) (v := ?_) (a' := ?_) #[true, false, true, false, false, true, false, true, false, false, false, false, false] rfl rfl (any_of HT_.out (by kernel_rfl)) (fun _ _ _ h => h) (Or.inl ⟨by rfl, ?_⟩) ?_ ?_
 rotate_left
 ·intro w'
  go_simp
  with_reducible rfl
 rotate_left
 ·simp only [Act.put, List.setIfInBounds_toArray, List.set_cons_zero, List.set_cons_succ, i64_w, i32_w]
  rfl
 refine take_ (i := 1) (N := some 6) (v := ?_) (a' := ?_) #[true, true, true, false, false, true, false, true, false, false, false, false, false] rfl rfl (take_ofW HT_.out HW_.out (by kernel_rfl)) (fun _ _ _ h => h) (Or.inl ⟨by rfl, ?_⟩) hHeld ?_ ?_
 rotate_left
 ·rintro w' ⟨s0, s1, s2, s3⟩
  go_simp
  with_reducible rfl
 rotate_left
 ·simp only [Act.put, List.setIfInBounds_toArray, List.set_cons_zero, List.set_cons_succ, i64_w, i32_w]
  rfl
 refine take_ (i := 3) (N := some 8) (v := ?_) (a' := ?_) #[true, true, true, true, false, true, false, true, false, false, false, false, false] rfl rfl (take_ofW HT_.out HW_.out (by kernel_rfl)) (fun _ _ _ h => h) (Or.inl ⟨by rfl, ?_⟩) hHeld ?_ ?_
 rotate_left
 ·rintro w' ⟨s0, s1, s2, s3⟩
  go_simp
  with_reducible rfl
 rotate_left
 ·simp only [Act.put, List.setIfInBounds_toArray, List.set_cons_zero, List.set_cons_succ, i64_w, i32_w]
  rfl
 refine pure_ (i := 4) (N := some 9) (v := ?_) (a' := ?_) #[true, true, true, true, true, true, false, true, false, false, false, false, false] rfl rfl (any_of HT_.out (by kernel_rfl)) (fun _ _ _ h => h) (Or.inl ⟨by rfl, ?_⟩) ?_ ?_
 rotate_left
 ·intro w'
  go_simp
  with_reducible rfl
 rotate_left
 ·simp only [Act.put, List.setIfInBounds_toArray, List.set_cons_zero, List.set_cons_succ, i64_w, i32_w]
  rfl
 refine take_ (i := 6) (N := some 11) (v := ?_) (a' := ?_) #[true, true, true, true, true, true, true, true, false, false, false, false, false] rfl rfl (take_ofW HT_.out HW_.out (by kernel_rfl)) (fun _ _ _ h => h) (Or.inl ⟨by rfl, ?_⟩) hHeld ?_ ?_
 rotate_left
 ·rintro w' ⟨s0, s1, s2, s3⟩
  go_simp
  with_reducible rfl
 rotate_left
 ·simp only [Act.put, List.setIfInBounds_toArray, List.set_cons_zero, List.set_cons_succ, i64_w, i32_w]
  rfl
 refine take_ (i := 8) (N := some 13) (v := ?_) (a' := ?_) #[true, true, true, true, true, true, true, true, true, false, false, false, false] rfl rfl (take_ofW HT_.out HW_.out (by kernel_rfl)) (fun _ _ _ h => h) (Or.inl ⟨by rfl, ?_⟩) hHeld ?_ ?_
 rotate_left
 ·rintro w' ⟨s0, s1, s2, s3⟩
  go_simp
  with_reducible rfl
 rotate_left
 ·simp only [Act.put, List.setIfInBounds_toArray, List.set_cons_zero, List.set_cons_succ, i64_w, i32_w]
  rfl
 refine one_ (i := 9) (N := some 14) #[true, true, true, true, true, true, true, true, true, true, false, false, false] rfl rfl (one_of HT_.out (by kernel_rfl)) (by decide) (fun K hK => ?_)
 refine goR Try.func79 [.slice A0_1 l0_1.length c0_1, .slice A1_1 l1_1.length c1_1] ?_
 with_reducible refine (gudgeonref01_Mul.calls k _ _ l0_1 _ _ l1_1 t790 _ ?side1 ?side2 ?side3 ?side4 A3.out).mono ?_
 (case side1 => exact (Kd.C_below HR0_1.out HB.out))
 (case side2 => exact HC0_1.out)
 (case side3 => exact (Kd.C_below HR1_1.out HB.out))
 (case side4 => exact HC1_1.out)
 rintro e w9 ⟨v791, rfl, ho0, hb⟩
 refine ⟨_, rfl, ?_⟩
 have HO792 := Aside0.mk (Kd.R_lower ho0 (below_size HB.out))
 replace BK787 := Aside0.mk (blk_below BK787.out hb)
 replace BK788 := Aside0.mk (blk_below BK788.out hb)
 replace BK789 := Aside0.mk (blk_below BK789.out hb)
 replace HB := Aside0.mk (below_step HB.out hb)
 (try clear hb)
 (try clear hb2)
 (try clear hk)
 (try clear hi)
 (try clear ho0)
 obtain ⟨Ao10, co10, eo10⟩ := Kd.R_slice HO792.out
 subst eo10
 refine hK.out _ _ ⟨bc0 BK787.out, bc1 BK787.out, bc0 BK788.out, bc1 BK788.out⟩ (fun hHeld => ?_)
 clear hK K
 refine norm_ (a' := ?_) ?_ ?_
 rotate_left
 ·show Act.put _ (some 14) _ = _
  simp only [Act.put, List.setIfInBounds_toArray, List.set_cons_zero, List.set_cons_succ, i64_w, i32_w]
  rfl
 refine pure_ (i := 10) (N := some 15) (v := ?_) (a' := ?_) #[true, true, true, true, true, true, true, true, true, true, true, false, false] rfl rfl (any_of HT_.out (by kernel_rfl)) (fun _ _ _ h => h) (Or.inl ⟨by rfl, ?_⟩) ?_ ?_
 rotate_left
 ·intro w'
  go_simp
  with_reducible rfl
 rotate_left
 ·simp only [Act.put, List.setIfInBounds_toArray, List.set_cons_zero, List.set_cons_succ, i64_w, i32_w]
  rfl
 refine one_ (i := 11) (N := some 16) #[true, true, true, true, true, true, true, true, true, true, true, true, false] rfl rfl (one_of HT_.out (by kernel_rfl)) (by decide) (fun K hK => ?_)
 refine goR Try.func54 [.agg #[.bool (a0_0 != a1_0), .slice Ao10 t790.length co10]] ?_
 with_reducible refine (gudgeonref02_Norm.calls k (a0_0 != a1_0) _ _ t790 t793 t794 _ ?side1 ?side2 A4.out).mono ?_
 (case side1 => exact (Kd.R_reads' HO792.out).2.2)
 (case side2 => exact (Kd.R_reads' HO792.out).2.1)
 rintro e w11 ⟨v795, rfl, ho0, hb⟩
 refine ⟨_, rfl, ?_⟩
 have HO796 := Aside0.mk (Kd.R_lower (Kd.R_new' ho0 (Kd.R_lt HO792.out)) (below_size HB.out))
 replace BK787 := Aside0.mk (blk_below BK787.out hb)
 replace BK788 := Aside0.mk (blk_below BK788.out hb)
 replace BK789 := Aside0.mk (blk_below BK789.out hb)
 replace HB := Aside0.mk (below_step HB.out hb)
 (try clear hb)
 (try clear hb2)
 (try clear hk)
 (try clear hi)
 (try clear ho0)
 obtain ⟨Ao13, co13, eo13⟩ := Kd.R_slice HO796.out
 subst eo13
 refine hK.out _ _ ⟨bc0 BK787.out, bc1 BK787.out, bc0 BK788.out, bc1 BK788.out⟩ (fun hHeld => ?_)
 clear hK K
 refine norm_ (a' := ?_) ?_ ?_
 rotate_left
 ·show Act.put _ (some 16) _ = _
  simp only [Act.put, List.setIfInBounds_toArray, List.set_cons_zero, List.set_cons_succ, i64_w, i32_w]
  rfl
 refine one_ (i := 12) (N := none) #[true, true, true, true, true, true, true, true, true, true, true, true, true] rfl rfl (one_of HT_.out (by kernel_rfl)) (by decide) (fun K hK => ?_)
 have hs12 : w11.cell? ⟨gb789, 0, none⟩ = some (.bool false) := bc0 BK789.out
 have hfs12 := blk_frozen BK789.out 0
 have hns12_0 := NB787_789.out
 have hns12_1 := NB788_789.out
 have hms12_0 := NB789_787.out
 have hms12_1 := NB789_788.out
 have hs14 : w11.cell? ⟨gb789, 1, none⟩ = some (.slice none 0 0) := bc1 BK789.out
 have hfs14 := blk_frozen BK789.out 1
 have hns14_0 := NB787_789.out
 have hns14_1 := NB788_789.out
 have hms14_0 := NB789_787.out
 have hms14_1 := NB789_788.out
 refine skip_ (w1 := ?_) (by rfl) rfl ?_ ?_
 rotate_left
 ·go_simp
  rfl
 refine hK.out _ _ ⟨((cell_far (p := ⟨gb789, _, none⟩) NB787_789.out _).trans (((cell_far (p := ⟨gb789, _, none⟩) NB787_789.out _).trans (hHeld.1)))), ((cell_far (p := ⟨gb789, _, none⟩) NB787_789.out _).trans (((cell_far (p := ⟨gb789, _, none⟩) NB787_789.out _).trans (hHeld.2.1)))), ((cell_far (p := ⟨gb789, _, none⟩) NB788_789.out _).trans (((cell_far (p := ⟨gb789, _, none⟩) NB788_789.out _).trans (hHeld.2.2.1)))), ((cell_far (p := ⟨gb789, _, none⟩) NB788_789.out _).trans (((cell_far (p := ⟨gb789, _, none⟩) NB788_789.out _).trans (hHeld.2.2.2))))⟩ (fun hHeld => ?_)
 clear hK K
 refine done_ (done_of HT_.out (by kernel_rfl)) ?_
 try go_wp2
 refine bodyPost_ret (results_cell_row rfl _ _ gb789 24 #[.bool t793, .slice Ao13 t794.length co13] (0, 0) _ rfl (by refine blk_put (cs := #[.bool t793, .slice none 0 0]) ?_ 1 _ rfl; refine blk_put (cs := #[.bool false, .slice none 0 0]) ?_ 0 _ rfl; exact BK789.out) Try.underlying24 rfl (by kernel_rfl)) rfl ?_
 exact ⟨_, rfl, Kd.R_mono (Kd.R_far (p := ⟨gb789, 1, none⟩) (Kd.R_far (p := ⟨gb789, 0, none⟩) (Kd.R_types HO796.out BK789.out (by decide)) (fun _ hk => hk.2) (.bool t793)) (fun _ hk => hk.2) (.slice Ao13 t794.length co13)) (fun _ hk => trivial), by repeat first | exact HB.out | refine bxSet ?_ (by assumption) | apply below_alloc | apply pw_below_drewN⟩

end Go.Proofs.Ytdicjemjmlbmlaa.PA
/- The reference's differences, products, and numbers by limbs again; its sums of limbs. -/
namespace Go.Proofs.Ytdicjemjmlbmlaa.V
set_option linter.unusedVariables false
set_option linter.unusedSimpArgs false
open Go.RowKit Go.Proofs.Ytdicjemjmlbmlaa.PA Go.Proofs.Ytdicjemjmlbmlaa.H Go.Proofs.YtdicjemjmlbmlaaW.PrintWords Go.Proofs.YtdicjemjmlbmlaaW.PrintLast Go.Proofs.YtdicjemjmlbmlaaW.PrintMore

/-! ### differences -/
theorem step_bsub {V P c A B x y q r : Int} (h : V - P * c = A - B) (e : r - 2 * q = x - y - c) : V + P * r - (2 * P) * q = A + P * x - (B + P * y) := by grind
theorem bsub_j1 (a b out : List Bool) (c : Bool) (i : Nat) (x : Bool) (n : Int) (hn : n = b2i x) (ho : out.length ≤ 2000000000) (hi : i ≤ 2000000000) (r : List Bool)
    (h : Ev (fun k => gudgeonref01_sub.l0 k a b (out ++ [decide ((b2i x - b2i (b.getD i false) - b2i c) % 2 = 1)]) (decide (b2i x - b2i (b.getD i false) - b2i c < 0)) ((i + 1 : Nat) : Int)) r) : Ev (fun k => gudgeonref01_sub.j1 k a b out c (i : Int) n) r := by
  subst hn
  refine Ev.step (fun k => ?_) h
  simp only [gudgeonref01_sub.j1]
  rw [at_ev, Option.bind_some]
  have hlim : out.length < 140737488355328 := by omega
  cases b.getD i false <;> cases x <;> cases c <;> simp only [b2i, if_true, Bool.false_eq_true, if_false] <;> rw [w64 (x := (i : Int) + 1) (by omega) (by omega)] <;> simp [wm1, wm2, wm0, w01, hlim]
theorem bsub_l0 (a b : List Bool) (ha : LB a) (hb : LB b) (hab : bval b ≤ bval a) (d : Nat) : ∀ (i : Nat) (out : List Bool) (c : Bool), i + d = a.length → out.length = i → bval out - p2 i * b2i c = bval (a.take i) - bval (b.take i) →
    Ev (fun k => gudgeonref01_sub.l0 k a b out c (i : Int)) (bits (bval a - bval b)) := by
  unfold LB at ha hb
  induction d with
  | zero =>
    intro i out c hi ho hv
    obtain rfl : i = a.length := by omega
    rw [List.take_of_length_le (Nat.le_refl _)] at hv
    have hbt : bval (b.take a.length) = bval b := by
      by_cases hl : b.length ≤ a.length
      · rw [List.take_of_length_le hl]
      · have e := bval_take_drop b a.length (by omega)
        have h1 := bval_lt a
        have h2 := bval_nonneg (b.take a.length)
        have h3 := bval_nonneg (b.drop a.length)
        have h4 := p2_pos a.length
        by_cases hz : bval (b.drop a.length) = 0
        · rw [hz] at e; omega
        · have : p2 a.length * 1 ≤ p2 a.length * bval (b.drop a.length) := Int.mul_le_mul_of_nonneg_left (by omega) (by omega)
          omega
    rw [hbt] at hv
    have h1 := bval_lt out
    rw [ho] at h1
    have hc : c = false := by
      cases c
      · rfl
      · simp only [b2i, if_true] at hv; omega
    subst hc
    simp only [b2i, Bool.false_eq_true, if_false, Int.mul_zero, Int.sub_zero] at hv
    have ht := btrim_ev out (by omega)
    rw [hv] at ht
    refine Ev.step (fun k => ?_) (Ev.bind (f := fun _ t => some t) ht (Ev.now _))
    simp only [gudgeonref01_sub.l0]
    rw [if_neg (by omega)]
  | succ d ih =>
    intro i out c hi ho hv
    have hia : i < a.length := by omega
    have hnext := ih (i + 1) (out ++ [decide ((b2i (a.getD i false) - b2i (b.getD i false) - b2i c) % 2 = 1)]) (decide (b2i (a.getD i false) - b2i (b.getD i false) - b2i c < 0)) (by omega) (by simp [ho]) (by
      rw [bval_snoc, ho, p2_succ, bval_take_getD a, bval_take_getD b]
      apply step_bsub hv
      cases a.getD i false <;> cases b.getD i false <;> cases c <;> rfl)
    refine Ev.step (f := fun k => gudgeonref01_sub.j1 k a b out c (i : Int) (b2i (a.getD i false))) (fun k => ?_) (bsub_j1 a b out c i _ _ rfl (by omega) (by omega) _ hnext)
    simp only [gudgeonref01_sub.l0]
    rw [if_pos (by omega), if_pos (by omega), rdOf_D]
    cases a.getD i false
    · rw [if_neg (by decide)]; rfl
    · rw [if_pos rfl]; rfl
theorem bsub_ev (a b : List Bool) (ha : LB a) (hb : LB b) (hab : bval b ≤ bval a) : Ev (fun k => gudgeonref01_sub.f k a b) (bits (bval a - bval b)) :=
  Ev.congr (fun k => rfl) (bsub_l0 a b ha hb hab a.length 0 [] false (by omega) rfl (by simp [bval, b2i]))
/-! ### products -/
theorem bmul_bound {x y : Int} {m n : Nat} (h0 : 0 ≤ x) (h1 : x < p2 m) (g0 : 0 ≤ y) (g1 : y < p2 n) : x * y < p2 (m + n) := by
  rw [p2_add]
  have a1 : x * y ≤ x * p2 n := Int.mul_le_mul_of_nonneg_left (by omega) h0
  have a2 : x * p2 n < p2 m * p2 n := Int.mul_lt_mul_of_pos_right h1 (p2_pos n)
  omega
theorem bmul_l0 (a b : List Bool) (ha : a.length ≤ 400000000) (hb : b.length ≤ 400000000) (d : Nat) : ∀ (out : List Bool), d ≤ a.length → out.length ≤ (a.length - d) + b.length → bval out = bval (a.drop d) * bval b →
    Ev (fun k => gudgeonref01_mul.l0 k a b out ((d : Int) - 1)) (bits (bval a * bval b)) := by
  induction d with
  | zero =>
    intro out hd ho hv
    rw [List.drop_zero] at hv
    have ht := btrim_ev out (by omega)
    rw [hv] at ht
    refine Ev.step (fun k => ?_) (Ev.bind (f := fun _ t => some t) ht (Ev.now _))
    simp only [gudgeonref01_mul.l0]
    rw [if_neg (by omega)]
  | succ d ih =>
    intro out hd ho hv
    have hda : d < a.length := by omega
    have e0 : ((d + 1 : Nat) : Int) - 1 = (d : Int) := by omega
    have hdrop := bval_drop_getD a d
    have hv2 : bval (false :: out) = 2 * bval out := by simp [bval, b2i]
    rw [e0]
    cases hx : a.getD d false with
    | true =>
      rw [hx] at hdrop
      simp only [b2i, if_true] at hdrop
      have hadd := badd_ev (false :: out) b (by unfold LB; simp; omega) (by unfold LB; omega)
      have e1 : bval (false :: out) + bval b = bval (a.drop d) * bval b := by rw [hv2, hv, hdrop]; grind
      rw [e1] at hadd
      have hb1 := bmul_bound (bval_nonneg (a.drop d)) (bval_lt (a.drop d)) (bval_nonneg b) (bval_lt b)
      have h0 := Int.mul_nonneg (bval_nonneg (a.drop d)) (bval_nonneg b)
      have hl := bits_length_le h0 hb1
      rw [List.length_drop] at hl
      refine Ev.step (fun k => ?_) (Ev.bind (f := fun k t => gudgeonref01_mul.l0 k a b t ((d : Int) - 1)) hadd (ih _ (by omega) (by omega) (bval_bits h0)))
      simp only [gudgeonref01_mul.l0]
      rw [if_pos (by omega), Option.bind_some, if_pos (by simp; omega), Option.bind_some, if_pos (by omega), if_pos (by omega), rdOf_D, hx, if_pos rfl, w64 (by omega) (by omega)]
      rfl
    | false =>
      rw [hx] at hdrop
      simp only [b2i, Bool.false_eq_true, if_false, Int.zero_add] at hdrop
      refine Ev.step (fun k => ?_) (ih (false :: out) (by omega) (by simp; omega) (by rw [hv2, hv, hdrop]; grind))
      simp only [gudgeonref01_mul.l0]
      rw [if_pos (by omega), Option.bind_some, if_pos (by simp; omega), Option.bind_some, if_pos (by omega), if_pos (by omega), rdOf_D, hx, if_neg (by decide), w64 (by omega) (by omega)]
      rfl
theorem bmul_ev (a b : List Bool) (ha : a.length ≤ 400000000) (hb : b.length ≤ 400000000) : Ev (fun k => gudgeonref01_mul.f k a b) (bits (bval a * bval b)) := by
  refine Ev.congr (fun k => ?_) (bmul_l0 a b ha hb a.length [] (Nat.le_refl _) (by simp) (by rw [List.drop_eq_nil_of_le (Nat.le_refl _)]; simp [bval]))
  unfold gudgeonref01_mul.f
  rw [w64 (by omega) (by omega)]
/-! ### limbs -/
theorem lim_inj (a : List Int) : ∀ b, Lim a → Lim b → a.length = b.length → val a = val b → a = b := by
  induction a with
  | nil => intro b _ _ hl _; exact (List.eq_nil_of_length_eq_zero (by simpa using hl.symm)).symm
  | cons x a ih =>
    intro b ha hb hl hv
    cases b with
    | nil => simp at hl
    | cons y b =>
      have hx := ha.head
      have hy := hb.head
      simp only [val] at hv
      have e1 : x = y := by omega
      have e2 : val a = val b := by omega
      rw [e1, ih b ha.tail hb.tail (by simpa using hl) e2]
theorem getD_win (l : List Bool) (i j : Nat) (hj : j < 32) : ((l.drop i).take 32).getD j false = l.getD (i + j) false := by
  simp [List.getD_eq_getElem?_getD, List.getElem?_take, hj]
theorem Limbs_l1 (l : List Bool) (hl : l.length ≤ 1000000000) (m : Nat) (hm : m ≤ 100000000) (out : List Int) (ho : out.length ≤ 100000000) (r : List Int) (h : Ev (fun k => gudgeonref01_Limbs.l0 k l (out ++ [bval ((l.drop (32 * m)).take 32)]) ((32 * (m + 1) : Nat) : Int)) r) (j : Nat) (hj : j ≤ 32) :
    Ev (fun k => gudgeonref01_Limbs.l1 k l out ((32 * m : Nat) : Int) (bval (((l.drop (32 * m)).take 32).drop j)) (((32 * m + j : Nat) : Int) - 1)) r := by
  induction j with
  | zero =>
    rw [List.drop_zero]
    refine Ev.step (fun k => ?_) h
    simp only [gudgeonref01_Limbs.l1]
    rw [if_neg (by omega), if_pos (by omega), w64 (by omega) (by omega), show ((32 * m : Nat) : Int) + 32 = ((32 * (m + 1) : Nat) : Int) by omega]
  | succ j ih =>
    have hd := bval_drop_getD ((l.drop (32 * m)).take 32) j
    rw [getD_win l (32 * m) j (by omega)] at hd
    have h0 := bval_nonneg (((l.drop (32 * m)).take 32).drop (j + 1))
    have h1 : bval (((l.drop (32 * m)).take 32).drop (j + 1)) < p2 31 := by
      have := bval_lt (((l.drop (32 * m)).take 32).drop (j + 1))
      have h2 := p2_le (show (((l.drop (32 * m)).take 32).drop (j + 1)).length ≤ 31 by rw [List.length_drop, List.length_take]; omega)
      omega
    have e31 : p2 31 = 2147483648 := rfl
    have e0 : ((32 * m + (j + 1) : Nat) : Int) - 1 = ((32 * m + j : Nat) : Int) := by omega
    rw [e0]
    refine Ev.step (fun k => ?_) (ih (by omega))
    simp only [gudgeonref01_Limbs.l1]
    by_cases hlt : 32 * m + j < l.length
    · rw [if_pos (by omega), if_pos (by omega), if_pos (by omega), rdOf_D]
      cases hb : l.getD (32 * m + j) false with
      | true =>
        rw [hb] at hd
        simp only [b2i, if_true] at hd
        rw [if_pos rfl, w64 (by omega) (by omega), hd]
        congr 1
        omega
      | false =>
        rw [hb] at hd
        simp only [b2i, Bool.false_eq_true, if_false] at hd
        rw [if_neg (by decide), w64 (by omega) (by omega), hd]
        congr 1
        omega
    · have hb : l.getD (32 * m + j) false = false := by rw [List.getD_eq_getElem?_getD, List.getElem?_eq_none (by omega)]; rfl
      rw [hb] at hd
      simp only [b2i, Bool.false_eq_true, if_false] at hd
      rw [if_pos (by omega), if_neg (by omega), w64 (by omega) (by omega), hd]
      congr 1
      omega
theorem Limbs_l0 (x : Int) (h0 : 0 ≤ x) (hl : (bits x).length ≤ 1000000000) (d : Nat) : ∀ (m : Nat) (out : List Int), d + 32 * m = (bits x).length + 32 ∨ ((bits x).length ≤ 32 * m ∧ 32 * m < (bits x).length + 32) → d ≤ (bits x).length + 32 → 32 * m < (bits x).length + 32 → out.length = m → Lim out → val out = bval ((bits x).take (32 * m)) → Ev (fun k => gudgeonref01_Limbs.l0 k (bits x) out ((32 * m : Nat) : Int)) (dig x) := by
  induction d using Nat.strongRecOn with
  | _ d ih =>
    intro m out hd hd2 hm ho hL hv
    by_cases hend : (bits x).length ≤ 32 * m
    · rw [List.take_of_length_le hend, bval_bits h0] at hv
      have e : out = dig x := by
        refine lim_inj _ _ hL (dig_lim _) ?_ (by rw [hv, val_dig h0])
        have hlt : x < pw m := by
          rw [pw_p2]
          exact lt_of_bits_length h0 hend
        have h1 := dig_length_le h0 hlt
        by_cases h2 : m ≤ (dig x).length
        · omega
        · have h3 : x < pw (m - 1) := lt_of_dig_length h0 (by omega)
          rw [pw_p2] at h3
          have h4 := bits_length_le h0 h3
          omega
      refine Ev.step (f := fun _ => some _) (fun k => ?_) (Ev.now _)
      simp only [gudgeonref01_Limbs.l0]
      rw [if_neg (by omega), e]
    · have hwl : ((bits x).take (32 * m)).length = 32 * m := by rw [List.length_take]; omega
      have hW : bval (((bits x).drop (32 * m)).take 32) < 4294967296 := by
        have h1 := bval_lt (((bits x).drop (32 * m)).take 32)
        have h2 := p2_le (show (((bits x).drop (32 * m)).take 32).length ≤ 32 by rw [List.length_take]; omega)
        have e : p2 32 = 4294967296 := rfl
        omega
      have hW0 := bval_nonneg (((bits x).drop (32 * m)).take 32)
      have hnext := ih (d - 32) (by omega) (m + 1) (out ++ [bval (((bits x).drop (32 * m)).take 32)]) (by omega) (by omega) (by omega) (by simp [ho]) (hL.append (Lim.cons hW0 hW Lim.nil)) (by
        rw [val_append, ho, hv, show val [bval (((bits x).drop (32 * m)).take 32)] = bval (((bits x).drop (32 * m)).take 32) by simp [val], show 32 * (m + 1) = 32 * m + 32 by omega, List.take_add, bval_append, hwl, pw_p2])
      have h1 := Limbs_l1 (bits x) hl m (by omega) out (by omega) _ hnext 32 (Nat.le_refl _)
      rw [List.drop_eq_nil_of_le (by rw [List.length_take]; omega)] at h1
      refine Ev.step (fun k => ?_) h1
      simp only [gudgeonref01_Limbs.l0]
      rw [if_pos (by omega), w64 (by omega) (by omega), show ((32 * m : Nat) : Int) + 31 = ((32 * m + 32 : Nat) : Int) - 1 by omega]
      rfl
theorem bits_bits (x : Int) (h0 : 0 ≤ x) : bits (bval (bits x)) = bits x := by rw [bval_bits h0]
theorem Limbs_ev (x : Int) (h0 : 0 ≤ x) (hl : (bits x).length ≤ 1000000000) : Ev (fun k => gudgeonref01_Limbs.f k (bits x)) (dig x) := by
  have ht := btrim_ev (bits x) (by omega)
  rw [bits_bits x h0] at ht
  have := Limbs_l0 x h0 hl ((bits x).length + 32) 0 [] (by omega) (by omega) (by omega) rfl Lim.nil (by simp [val, bval])
  exact Ev.congr (fun k => rfl) (Ev.bind ht this)
/-! ### the reference's functions of limbs -/
def SZ (l : List Int) : Prop := l.length ≤ 10000
theorem bits_len_of (l : List Int) (hL : Lim l) (hs : SZ l) : (bits (val l)).length ≤ 320000 := by
  have h := val_lt hL
  rw [pw_p2] at h
  have := bits_length_le (val_nonneg hL) h
  unfold SZ at hs
  omega
theorem refNorm_ev (l : List Int) (hL : Lim l) (hs : SZ l) : Ev (fun k => gudgeonref01_Norm.f k l) (dig (val l)) := by
  have h1 := bits_len_of l hL hs
  have hs' := hs
  unfold SZ at hs'
  exact Ev.congr (fun k => rfl) (Ev.bind (Bits_ev l hL (by omega)) (Ev.bind (f := fun _ t => some t) (Limbs_ev _ (val_nonneg hL) (by omega)) (Ev.now _)))
theorem refAdd_ev (a b : List Int) (ha : Lim a) (hb : Lim b) (sa : SZ a) (sb : SZ b) : Ev (fun k => gudgeonref01_Add.f k a b) (dig (val a + val b)) := by
  have h1 := bits_len_of a ha sa
  have h2 := bits_len_of b hb sb
  have va := val_nonneg ha
  have vb := val_nonneg hb
  have sa' := sa
  have sb' := sb
  unfold SZ at sa' sb'
  have hadd := badd_ev (bits (val a)) (bits (val b)) (by unfold LB; omega) (by unfold LB; omega)
  rw [bval_bits va, bval_bits vb] at hadd
  have hl : (bits (val a + val b)).length ≤ 320001 := by
    have e1 := lt_of_bits_length va h1
    have e2 := lt_of_bits_length vb h2
    exact bits_length_le (by omega) (by rw [p2_succ]; omega)
  exact Ev.congr (fun k => rfl) (Ev.bind (Bits_ev a ha (by omega)) (Ev.bind (Bits_ev b hb (by omega)) (Ev.bind hadd (Ev.bind (f := fun _ t => some t) (Limbs_ev _ (by omega) (by omega)) (Ev.now _)))))
theorem refMul_ev (a b : List Int) (ha : Lim a) (hb : Lim b) (sa : SZ a) (sb : SZ b) : Ev (fun k => gudgeonref01_Mul.f k a b) (dig (val a * val b)) := by
  have h1 := bits_len_of a ha sa
  have h2 := bits_len_of b hb sb
  have va := val_nonneg ha
  have vb := val_nonneg hb
  have sa' := sa
  have sb' := sb
  unfold SZ at sa' sb'
  have hmul := bmul_ev (bits (val a)) (bits (val b)) (by omega) (by omega)
  rw [bval_bits va, bval_bits vb] at hmul
  have h0 := Int.mul_nonneg va vb
  have hl := bits_length_le h0 (bmul_bound va (lt_of_bits_length va h1) vb (lt_of_bits_length vb h2))
  exact Ev.congr (fun k => rfl) (Ev.bind (Bits_ev a ha (by omega)) (Ev.bind (Bits_ev b hb (by omega)) (Ev.bind hmul (Ev.bind (f := fun _ t => some t) (Limbs_ev _ h0 (by omega)) (Ev.now _)))))
theorem refSub_ev (a b : List Int) (ha : Lim a) (hb : Lim b) (sa : SZ a) (sb : SZ b) : Ev (fun k => gudgeonref01_Sub.f k a b) (if val a < val b then ([], 6) else (dig (val a - val b), 0)) := by
  have h1 := bits_len_of a ha sa
  have h2 := bits_len_of b hb sb
  have va := val_nonneg ha
  have vb := val_nonneg hb
  have sa' := sa
  have sb' := sb
  unfold SZ at sa' sb'
  have hc := bcmp_ev (bits (val a)) (bits (val b)) (by unfold LB; omega) (by unfold LB; omega)
  rw [bval_bits va, bval_bits vb] at hc
  refine Ev.congr (fun k => rfl) (Ev.bind (Bits_ev a ha (by omega)) (Ev.bind (Bits_ev b hb (by omega)) (Ev.bind hc ?_)))
  by_cases hlt : val a < val b
  · refine Ev.congr (f := fun _ => some _) (fun k => ?_) (Ev.now _)
    unfold cmpI
    rw [if_pos hlt, if_pos hlt, if_pos (by decide)]
  · have hs := bsub_ev (bits (val a)) (bits (val b)) (by unfold LB; omega) (by unfold LB; omega) (by rw [bval_bits va, bval_bits vb]; omega)
    rw [bval_bits va, bval_bits vb] at hs
    have hl : (bits (val a - val b)).length ≤ 320000 := bits_length_le (by omega) (by have := lt_of_bits_length va h1; omega)
    rw [if_neg hlt]
    refine Ev.congr (fun k => by
      unfold cmpI
      rw [if_neg hlt, if_neg (by split <;> decide)]) (Ev.bind hs (Ev.bind (f := fun _ t => some (t, (0 : Int))) (Limbs_ev (val a - val b) (by omega) (by omega)) (Ev.now _)))
end Go.Proofs.Ytdicjemjmlbmlaa.V
/- What the reference's sums and products of whole are, as numbers (WhoC's, for a seat without the laws of whole). -/
namespace Go.Proofs.Ytdicjemjmlbmlaa.S
set_option linter.unusedVariables false
set_option linter.unusedSimpArgs false
open Go.RowKit Go.Proofs.Ytdicjemjmlbmlaa.V Go.Proofs.Ytdicjemjmlbmlaa.PA Go.Proofs.Ytdicjemjmlbmlaa.H Go.Proofs.YtdicjemjmlbmlaaW.PrintWords Go.Proofs.YtdicjemjmlbmlaaW.PrintLast Go.Proofs.YtdicjemjmlbmlaaW.PrintMore

theorem rNorm_ev (b : Bool) (l : List Int) (h : Lim l) (hs : SZ l) : Ev (fun k => gudgeonref02_Norm.f k b l) (W (wv b l)) := by
 have v := val_nonneg h
 refine Ev.congr (fun k => rfl) (Ev.bind (refNorm_ev l h hs) ?_)
 unfold W
 rw [az_wv b h]
 cases b with
 | true =>
  refine evP rfl (evR ?_)
  congr 1
  refine decide_eq_decide.2 ?_
  have := dig_eq_nil v
  unfold wv; rw [if_pos rfl]
  constructor
  ·intro z
   have hne : ¬ val l = 0 := fun y => by rw [this.2 y] at z; simp at z
   omega
  ·intro z
   have hne : dig (val l) ≠ [] := fun y => by have := this.1 y; omega
   have := List.length_pos_iff.2 hne
   omega
 | false =>
  refine evN (by decide) (evR ?_)
  congr 1
  unfold wv; rw [if_neg (by decide)]
  exact (decide_eq_false (by omega)).symm
theorem rAdd_ev (a b : Bool) (x y : List Int) (hx : Lim x) (hy : Lim y) (nx : x.length ≤ 4000) (ny : y.length ≤ 4000) : Ev (fun k => gudgeonref02_Add.f k a x b y) (W (wv a x + wv b y)) := by
 have vx := val_nonneg hx
 have vy := val_nonneg hy
 have dx := dig_length x hx
 have dy := dig_length y hy
 have lxy := len_add vx vy
 have sx : SZ x := Nat.le_trans nx (by decide)
 have sy : SZ y := Nat.le_trans ny (by decide)
 by_cases h : a = b
 ·subst h
  refine Ev.congr (fun k => rfl) (evP (by simp) (Ev.bind (refAdd_ev x y hx hy sx sy) (pair_ev ?_)))
  have := rNorm_ev a (dig (val x + val y)) (dig_lim _) (by unfold SZ; omega)
  rw [show wv a (dig (val x + val y)) = wv a x + wv a y by unfold wv; rw [val_dig (by omega)]; cases a <;> simp <;> omega] at this
  exact this
 ·have hb : b = !a := by cases a <;> cases b <;> simp_all
  refine Ev.congr (fun k => rfl) (evN (by simpa using h) (Ev.bind (refSub_ev x y hx hy sx sy) ?_))
  by_cases hlt : val x < val y
  ·have l1 := len_le (x := val y - val x) (y := val y) (by omega) (by omega)
   rw [if_pos hlt]
   refine evN (by decide) (Ev.bind (refSub_ev y x hy hx sy sx) (pair_ev ?_))
   rw [if_neg (by omega)]
   have := rNorm_ev b (dig (val y - val x)) (dig_lim _) (by unfold SZ; omega)
   rw [show wv b (dig (val y - val x)) = wv a x + wv b y by rw [hb]; unfold wv; rw [val_dig (by omega)]; cases a <;> simp <;> omega] at this
   exact this
  ·have l1 := len_le (x := val x - val y) (y := val x) (by omega) (by omega)
   rw [if_neg hlt]
   refine evP rfl (pair_ev ?_)
   have := rNorm_ev a (dig (val x - val y)) (dig_lim _) (by unfold SZ; omega)
   rw [show wv a (dig (val x - val y)) = wv a x + wv b y by rw [hb]; unfold wv; rw [val_dig (by omega)]; cases a <;> simp <;> omega] at this
   exact this
theorem rMul_ev (a b : Bool) (x y : List Int) (hx : Lim x) (hy : Lim y) (nx : x.length ≤ 4000) (ny : y.length ≤ 4000) : Ev (fun k => gudgeonref02_Mul.f k a x b y) (W (wv a x * wv b y)) := by
 have vx := val_nonneg hx
 have vy := val_nonneg hy
 have dx := dig_length x hx
 have dy := dig_length y hy
 have lxy := len_mul vx vy
 refine Ev.congr (fun k => rfl) (Ev.bind (refMul_ev x y hx hy (Nat.le_trans nx (by decide)) (Nat.le_trans ny (by decide))) (pair_ev ?_))
 have := rNorm_ev (a != b) (dig (val x * val y)) (dig_lim _) (by unfold SZ; omega)
 rw [show wv (a != b) (dig (val x * val y)) = wv a x * wv b y by unfold wv; rw [val_dig (Int.mul_nonneg vx vy)]; cases a <;> cases b <;> simp [Int.neg_mul, Int.mul_neg]] at this
 exact this
end Go.Proofs.Ytdicjemjmlbmlaa.S
/- Two sums that are one are the same. -/
namespace Go.Proofs.Ytdicjemjmlbmlaa.H
set_option linter.unusedSimpArgs false
set_option linter.unusedVariables false
open Go.RowKit Go.Proofs.YtdicjemjmlbmlaaW.PrintWords Go.Proofs.YtdicjemjmlbmlaaW.PrintLast Go.Proofs.YtdicjemjmlbmlaaW.PrintMore Go.Proofs.Ytdicjemjmlbmlaa.PA Go.Proofs.Ytdicjemjmlbmlaa.V Go.Proofs.Ytdicjemjmlbmlaa.S
theorem blk_all {w : World} {g : Nat} {t : TypeId} {cs : Array Value} (h : w.heap[g]? = some (.cells cs t (0, 0))) : ∀ i, w.cell? ⟨g, i, none⟩ = cs[i]? := fun i => blk_cell h i
theorem rSame_self (b : Bool) (l : List Int) (hl : l.length ≤ 1000000) : Ev (fun k => gudgeonref02_Same.f k b l b l) true := by
  refine Ev.congr (fun k => rfl) (Ev.bind (same_self _ _ rfl (by omega)) (evP rfl (evR ?_)))
  simp
theorem q_rSame {w : World} {b : Bool} {A A' : Option Addr} {c c' : Nat} {l : List Int} (h1 : Kd.C (Kd.int .u32) w A l.length l) (s1 : l.length ≤ c) (h2 : Kd.C (Kd.int .u32) w A' l.length l) (s2 : l.length ≤ c') (hl : l.length ≤ 1000000) :
    Calls Try.prog 16 #[.agg #[.bool b, .slice A l.length c], .agg #[.bool b, .slice A' l.length c']] w fun e w' => e = .returned (.bool true) ∧ Below w.heap.size w w' := by
  obtain ⟨k, hk⟩ := (rSame_self b l hl).rounds
  exact gudgeonref02_Same.calls k b A c l b A' c' l true w h1 s1 h2 s2 hk
set_option maxHeartbeats 8000000 in
set_option maxRecDepth 100000 in
theorem q_SameE {w : World} {b : Bool} {A B A' B' : Option Addr} {c d c' d' : Nat} {l : List Int} {p : List S46} (h1 : Kd.C (Kd.int .u32) w A l.length l) (s1 : l.length ≤ c) (h2 : Kd.C k46 w B p.length p) (s2 : p.length ≤ d)
    (h3 : Kd.C (Kd.int .u32) w A' l.length l) (s3 : l.length ≤ c') (h4 : Kd.C k46 w B' p.length p) (s4 : p.length ≤ d') (hl : l.length ≤ 1000000) (hp : p.length ≤ 1000000) (hx : ∀ x ∈ p, x.f1.f1.length ≤ 1000000) :
    Calls Try.prog 15 #[.agg #[.bool b, .slice A l.length c, .slice B p.length d], .agg #[.bool b, .slice A' l.length c', .slice B' p.length d']] w fun e w' => e = .returned (.bool true) ∧ Below w.heap.size w w' := by
  have mixed : Try.prog.follows Departure.mixedOrders = true := by kernel_rfl
  have hu27 := Try.underlying27
  obtain ⟨rs, hp1, hr1, hd1⟩ := raws h2
  obtain ⟨ts, hp2, hr2, hd2⟩ := raws h4
  have H1 := Aside0.mk h1
  have H3 := Aside0.mk h3
  have HR := Aside0.mk hr1
  have HT := Aside0.mk hr2
  have HD := Aside0.mk (And.intro hd1 hd2)
  have HP := Aside0.mk (And.intro hp1 hp2)
  have HX := Aside0.mk hx
  have HL := Aside0.mk hl
  have HS := Aside0.mk (And.intro s1 s3)
  clear h1 h2 h3 h4 hr1 hr2 hd1 hd2 hp1 hp2 hx hl s1 s2 s3 s4
  generalize hn : p.length = n at *
  have HN := Aside0.mk hn
  have HM := Aside0.mk hp
  clear hn hp
  go_enter Try.func15, Try.ntmps15
  go_wp2_with (first
    | ((with_reducible refine gate_dst (N := 2) rfl ?_); refine box_event ?hg (N := 2) ?hd (cs := #[.bool b, .slice A l.length c, .slice B n d]) (t := 27) ?hr ?_; (case hd => rfl); (case hg => rfl); (case hr => first | (go_simp; done) | (go_simp; rfl)); intro gA hg w1 hbox hb; have KA := Aside0.mk hbox; have HB := Aside0.mk hb; clear hg hbox hb)
    | ((with_reducible refine gate_dst (N := 3) rfl ?_); refine box_event ?hg (N := 3) ?hd (cs := #[.bool b, .slice A' l.length c', .slice B' n d']) (t := 27) ?hr ?_; (case hd => rfl); (case hg => rfl); (case hr => first | (go_simp; done) | (go_simp; rfl)); intro gB hg w2 hbox hb; have KB := Aside0.mk hbox; have KA := Aside0.mk (blk_below KA.out hb); have HB := Aside0.mk (below_step HB.out hb); clear hg hbox hb; have cA := blk_all KA.out; have cB := blk_all KB.out)
    | (go_at_call 16; (with_reducible refine (q_rSame (Kd.C_below H1.out HB.out) HS.out.1 (Kd.C_below H3.out HB.out) HS.out.2 HL.out).mono ?_); rintro e w3 ⟨rfl, hb⟩; have KA := Aside0.mk (blk_below KA.out hb); have KB := Aside0.mk (blk_below KB.out hb); have HB := Aside0.mk (below_step HB.out hb); clear hb cA cB; have cA := blk_all KA.out; have cB := blk_all KB.out))
  go_loopg [6] (n + 1) (fun kq v6 wr => ∃ i : Int, v6 = .int .i64 i ∧ Aside0 (0 ≤ i ∧ i ≤ (n : Int)) ∧ Aside0 ((n : Int) - i < (kq : Int)) ∧ Aside0 (Below w3.heap.size w3 wr))
  case atStart => exact ⟨0, rfl, ⟨Int.le_refl 0, by omega⟩, ⟨by omega⟩, ⟨Below.refl _ _⟩⟩
  case round =>
    clear cA cB
    obtain ⟨i, rfl, HI, HQ, HBr⟩ := hrel
    have KA := Aside0.mk (blk_below KA.out HBr.out)
    have KB := Aside0.mk (blk_below KB.out HBr.out)
    have cA := blk_all KA.out
    have cB := blk_all KB.out
    cases gk with
    | zero => exact absurd HQ.out (by have := HI.out; omega)
    | succ k1 =>
    by_cases hc : i < (n : Int)
    · obtain ⟨ad, x, eA, hx, hx0, hx1, hx2⟩ := cM_at HR.out i HI.out.1 hc
      obtain ⟨ad', y, eB, hy, hy0, hy1, hy2⟩ := cM_at HT.out i HI.out.1 hc
      cases eA
      cases eB
      have hw := below_step HB.out HBr.out
      have X0 := pw_cell_below hw hx0
      have X1 := pw_cell_below hw hx1
      have X2 := pw_cell_below hw hx2
      have Y0 := pw_cell_below hw hy0
      have Y1 := pw_cell_below hw hy1
      have Y2 := pw_cell_below hw hy2
      obtain ⟨xv, xb, XA, xc, xl⟩ := x
      obtain ⟨yv, yb, YA, yc, yl⟩ := y
      have hxy : toM ⟨xv, xb, XA, xc, xl⟩ = toM ⟨yv, yb, YA, yc, yl⟩ := by
        have e1 := congrArg (fun z => z[i.toNat]?) (HP.out.1.trans HP.out.2.symm)
        simp only [List.getElem?_map, hx, hy, Option.map_some, Option.some.injEq] at e1
        exact e1
      unfold toM at hxy
      simp only [S46.mk.injEq, S24.mk.injEq] at hxy
      obtain ⟨rfl, rfl, rfl⟩ := hxy
      have LX := Aside0.mk (show xl.length ≤ xc ∧ Kd.C (Kd.int .u32) wr XA xl.length xl from (HD.out.1 _ (List.mem_of_getElem? hx)).below hw)
      have LY := Aside0.mk (show xl.length ≤ yc ∧ Kd.C (Kd.int .u32) wr YA xl.length xl from (HD.out.2 _ (List.mem_of_getElem? hy)).below hw)
      have HXL := Aside0.mk (show xl.length ≤ 1000000 from HX.out (toM ⟨xv, xb, XA, xc, xl⟩) (by rw [← HP.out.1]; exact List.mem_map_of_mem (List.mem_of_getElem? hx)))
      have d1 : decide (i < (n : Int)) = true := decide_eq_true hc
      have d2 : decide (0 ≤ i) = true := decide_eq_true HI.out.1
      have p1 : (0 ≤ i) = True := eq_true HI.out.1
      have p2 : (i < (n : Int)) = True := eq_true hc
      have HC := Aside0.mk hc
      clear hx0 hx1 hx2 hy0 hy1 hy2 hw hx hy hc
      dsimp only at X0 X1 X2 Y0 Y1 Y2
      go_wp2_with fail
      go_still_tail 12, (by kernel_rfl)
      change wpList _ _ _ _ _ wr.drew
      have hd := below_drew1 (Below.refl wr.heap.size wr)
      generalize wr.drew = wd at hd ⊢
      go_wp2_with (first
        | (go_at_call 16; (with_reducible refine (q_rSame (Kd.C_below LX.out.2 hd) LX.out.1 (Kd.C_below LY.out.2 hd) LY.out.1 HXL.out).mono ?_); rintro e w4 ⟨rfl, hb⟩; have hy := below_step hd hb; have KA := Aside0.mk (blk_below KA.out hy); have KB := Aside0.mk (blk_below KB.out hy); have HBr := Aside0.mk (below_step HBr.out hy); have X0 := pw_cell_below hy X0; have Y0 := pw_cell_below hy Y0; clear hb hd hy cA cB X1 X2 Y1 Y2; have cA := blk_all KA.out; have cB := blk_all KB.out))
      go_quiet (fail)
      go_wp2
      have hwi : wrap64 (i + 1) = i + 1 := by
        have h1 := HI.out
        have h2 := HM.out
        unfold wrap64; omega
      rw [hwi]
      have hi1 : 0 ≤ i + 1 ∧ i + 1 ≤ (n : Int) := by have h1 := HI.out; have h2 := HC.out; omega
      have hq1 : (n : Int) - (i + 1) < (k1 : Int) := by have h1 := HQ.out; omega
      go_roundg k1
      case measure => omega
      case rel => exact ⟨i + 1, rfl, ⟨hi1⟩, ⟨hq1⟩, ⟨pw_below_drewN HBr.out _⟩⟩
    · have d1 : decide (i < (n : Int)) = false := decide_eq_false hc
      go_wp2
      go_ret
      exact ⟨rfl, below_step HB.out HBr.out⟩
end Go.Proofs.Ytdicjemjmlbmlaa.H
/- Calls whose answers are only read. -/
namespace Go.Proofs.Ytdicjemjmlbmlaa.H
set_option linter.unusedSimpArgs false
set_option linter.unusedVariables false
open Go.RowKit Go.Proofs.YtdicjemjmlbmlaaW.PrintWords Go.Proofs.YtdicjemjmlbmlaaW.PrintLast Go.Proofs.YtdicjemjmlbmlaaW.PrintMore Go.Proofs.Ytdicjemjmlbmlaa.PA

theorem frz_all {w : World} {g : Nat} {t : TypeId} {cs : Array Value} (h : w.heap[g]? = some (.cells cs t (0, 0))) : ∀ i, w.frozen? ⟨g, i, none⟩ = false := fun i => blk_frozen h i
/-- A row of limbs, a row of parts, that can be read. -/
structure RI (w : World) (A : Option Addr) (c : Nat) (l : List Int) : Prop where
  r : Kd.C (Kd.int .u32) w A l.length l
  s : l.length ≤ c
structure RP (w : World) (A : Option Addr) (c : Nat) (l : List S46) : Prop where
  r : Kd.C k46 w A l.length l
  s : l.length ≤ c
theorem RI.b {w w1 : World} {A : Option Addr} {c : Nat} {l : List Int} (h : RI w A c l) (hb : Below w.heap.size w w1) : RI w1 A c l := ⟨Kd.C_below h.r hb, h.s⟩
theorem RP.b {w w1 : World} {A : Option Addr} {c : Nat} {l : List S46} (h : RP w A c l) (hb : Below w.heap.size w w1) : RP w1 A c l := ⟨Kd.C_below h.r hb, h.s⟩
theorem RI.of {w : World} {base : Nat} {ok : Nat → Prop} {v : Value} {l : List Int} (h : Kd.R (Kd.int .u32) 81 w base ok v l) : ∃ A c, v = .slice A l.length c ∧ RI w A c l := by
  obtain ⟨A, c, e, h1, h2⟩ := Kd.R_reads h
  exact ⟨A, c, e, h2, h1⟩
theorem RI.ofV {w : World} {base : Nat} {ok : Nat → Prop} {v : Value} {l : List Int} (h : Kd.V (Kd.int .u32) 81 w base ok v l) : ∃ A c, v = .slice A l.length c ∧ RI w A c l := by
  obtain ⟨A, c, rfl⟩ := Kd.V_slice h
  exact ⟨A, c, rfl, (Kd.V_reads' h).2.2, (Kd.V_reads' h).2.1⟩
theorem RP.of {w : World} {base : Nat} {ok : Nat → Prop} {v : Value} {l : List S46} (h : Kd.S k46 46 w base ok v l) : ∃ A c, v = .slice A l.length c ∧ RP w A c l := by
  obtain ⟨A, c, rfl⟩ := Kd.S_slice h
  exact ⟨A, c, rfl, (Kd.S_reads' h).2.2, (Kd.S_reads' h).2.1⟩
theorem RI.nil (w : World) : RI w Option.none 0 [] := ⟨⟨rfl, Nat.zero_le _, fun h => absurd h (Nat.lt_irrefl 0)⟩, Nat.le_refl _⟩
theorem RP.nil (w : World) : RP w Option.none 0 [] := ⟨⟨rfl, Nat.zero_le _, fun h => absurd h (Nat.lt_irrefl 0)⟩, Nat.le_refl _⟩
/-- What is answered: a number; a sum. -/
def AW (w : World) (b : Bool) (l : List Int) (e : Ending) (w' : World) : Prop := ∃ A c, e = .returned (.agg #[.bool b, .slice A l.length c]) ∧ RI w' A c l ∧ Below w.heap.size w w'
def AL (w : World) (b : Bool) (l : List Int) (p : List S46) (e : Ending) (w' : World) : Prop := ∃ A c B d, e = .returned (.agg #[.bool b, .slice A l.length c, .slice B p.length d]) ∧ RI w' A c l ∧ RP w' B d p ∧ Below w.heap.size w w'
def AT (w : World) (b : Bool) (l : List Int) (p : List S46) (n : Int) (e : Ending) (w' : World) : Prop := ∃ A c B d, e = .returned (.tuple #[.agg #[.bool b, .slice A l.length c, .slice B p.length d], .int .i64 n]) ∧ RI w' A c l ∧ RP w' B d p ∧ Below w.heap.size w w'
theorem q_Value {w : World} {b : Bool} {A B D : Option Addr} {c d f : Nat} {l : List Int} {p q : List S46} {rb : Bool} {rl : List Int} (h1 : RI w A c l) (h2 : RP w B d p) (h3 : RP w D f q) (h : lin_Value.f b l p q = some (rb, rl)) :
    Calls Try.prog 17 #[.agg #[.bool b, .slice A l.length c, .slice B p.length d], .slice D q.length f] w (AW w rb rl) := by
  refine (lin_Value.calls b _ _ l _ _ p _ _ q rb rl w h1.r h1.s h2.r h2.s h3.r h3.s h).mono ?_
  rintro e w' ⟨v, rfl, ho, hb⟩
  obtain ⟨A, c, rfl, hr⟩ := RI.of ho
  exact ⟨A, c, rfl, hr, hb⟩
theorem q_Tight {w : World} {b : Bool} {A B : Option Addr} {c d : Nat} {l : List Int} {p : List S46} {rb : Bool} {rl : List Int} {rp : List S46} {n : Int} (h1 : RI w A c l) (h2 : RP w B d p) (h : lin_Tight.f b l p = some (rb, rl, rp, n)) :
    Calls Try.prog 11 #[.agg #[.bool b, .slice A l.length c, .slice B p.length d]] w (AT w rb rl rp n) := by
  refine (lin_Tight.calls b _ _ l _ _ p rb rl rp n w h1.r h1.s h2.r h2.s h).mono ?_
  rintro e w' ⟨v1, v2, rfl, ho, hs, hb⟩
  obtain ⟨A, c, rfl, hr⟩ := RI.ofV ho
  obtain ⟨B, d, rfl, hr2⟩ := RP.of hs
  exact ⟨A, c, B, d, rfl, hr, hr2, hb⟩
theorem q_Even {w : World} {b : Bool} {A B : Option Addr} {c d : Nat} {l : List Int} {p : List S46} {rb : Bool} {rl : List Int} {rp : List S46} {n : Int} (h1 : RI w A c l) (h2 : RP w B d p) (h : lin_Even.f b l p = some (rb, rl, rp, n)) :
    Calls Try.prog 13 #[.agg #[.bool b, .slice A l.length c, .slice B p.length d]] w (AT w rb rl rp n) := by
  refine (lin_Even.calls b _ _ l _ _ p rb rl rp n w h1.r h1.s h2.r h2.s h).mono ?_
  rintro e w' ⟨v1, v2, rfl, ho, hs, hb⟩
  obtain ⟨A, c, rfl, hr⟩ := RI.ofV ho
  obtain ⟨B, d, rfl, hr2⟩ := RP.of hs
  exact ⟨A, c, B, d, rfl, hr, hr2, hb⟩
theorem q_light {w : World} {b b' : Bool} {A B A' B' : Option Addr} {c d c' d' : Nat} {l l' : List Int} {p p' : List S46} {k : Nat} {r : Bool} (h1 : RI w A c l) (h2 : RP w B d p) (h3 : RI w A' c' l') (h4 : RP w B' d' p') (h : gudgeonlaw13_light.f k b l p b' l' p' = some r) :
    Calls Try.prog 10 #[.agg #[.bool b, .slice A l.length c, .slice B p.length d], .agg #[.bool b', .slice A' l'.length c', .slice B' p'.length d']] w fun e w' => e = .returned (.bool r) ∧ Below w.heap.size w w' := gudgeonlaw13_light.calls k b A c l B d p b' A' c' l' B' d' p' r w h1.r h1.s h2.r h2.s h3.r h3.s h4.r h4.s h

set_option maxRecDepth 100000 in
theorem q_light0 {w : World} {b : Bool} {A B B' : Option Addr} {c d d' : Nat} {l : List Int} {p p' : List S46} {k : Nat} {r : Bool} (h1 : RI w A c l) (h2 : RP w B d p) (h4 : RP w B' d' p') (h : gudgeonlaw13_light.f k b l p false [] p' = some r) :
    Calls Try.prog 10 #[.agg #[.bool b, .slice A l.length c, .slice B p.length d], .agg #[.bool false, .slice none 0 0, .slice B' p'.length d']] w fun e w' => e = .returned (.bool r) ∧ Below w.heap.size w w' := q_light (A' := none) (c' := 0) (l' := []) h1 h2 (RI.nil w) h4 h
theorem RP.ofN {w : World} {base : Nat} {ok : Nat → Prop} {v : Value} {l : List S46} (h : Kd.N k46 46 w base ok v l) : ∃ A c, v = .slice A l.length c ∧ RP w A c l := by
  obtain ⟨A, c, rfl⟩ := Kd.N_slice h
  exact ⟨A, c, rfl, (Kd.N_reads' h).2.2, (Kd.N_reads' h).2.1⟩
/-- A row of one part. -/
theorem RP.one {w : World} {A : Option Addr} {c : Nat} {l : List Int} (v : Int) (b : Bool) (h : RI w A c l) : RP (w.alloc (.cells #[.int .i64 v, .bool b, .slice A l.length c] 46 (0, 0))) (some ⟨w.heap.size, 0, none⟩) 1 [⟨v, ⟨b, l⟩⟩] := by
  have hb := blk_new w (.cells #[.int .i64 v, .bool b, .slice A l.length c] 46 (0, 0))
  refine ⟨⟨rfl, by show 1 ≤ _; decide, fun _ => ⟨_, rfl, fun j p hj => ?_⟩⟩, Nat.le_refl _⟩
  match j, hj with
  | 0, hj =>
    obtain rfl := Option.some.inj hj
    refine ⟨[.int .i64 v, .bool b, .slice A l.length c], rfl, k46_mk _ ⟨v, ⟨b, l⟩⟩ h.s (Kd.C_below h.r (below_alloc (Below.refl _ _) _)), fun i u hu => ?_⟩
    rw [show (0 * k46.sz + i) = i by omega, add_plain]
    rw [blk_cell hb]
    match i, hu with
    | 0, hu => exact hu
    | 1, hu => exact hu
    | 2, hu => exact hu
theorem q_sum {w : World} {k : Nat} {x y z : Int} {rb : Bool} {rl : List Int} {rp : List S46} (h : gudgeonlaw13_sum.f k x y z = some (rb, rl, rp)) : Calls Try.prog 39 #[.int .i64 x, .int .i64 y, .int .i64 z] w (AL w rb rl rp) := by
  refine (gudgeonlaw13_sum.calls k x y z rb rl rp w h).mono ?_
  rintro e w' ⟨v1, v2, rfl, ho, hs, hb⟩
  obtain ⟨A, c, rfl, hr⟩ := RI.of ho
  obtain ⟨B, d, rfl, hr2⟩ := RP.ofN hs
  exact ⟨A, c, B, d, rfl, hr, hr2, hb⟩
theorem q_rOf {w : World} {k : Nat} {x : Int} {rb : Bool} {rl : List Int} (h : gudgeonref02_Of.f k x = some (rb, rl)) : Calls Try.prog 32 #[.int .i64 x] w (AW w rb rl) := by
  refine (gudgeonref02_Of.calls k x rb rl w h).mono ?_
  rintro e w' ⟨v, rfl, ho, hb⟩
  obtain ⟨A, c, rfl, hr⟩ := RI.of ho
  exact ⟨A, c, rfl, hr, hb⟩
/-- A sum whose rows are not too long. -/
structure OkS (l : List Int) (p : List S46) : Prop where
  hl : l.length ≤ 1000000
  hp : p.length ≤ 1000000
  hx : ∀ x ∈ p, x.f1.f1.length ≤ 1000000
theorem q_Same {w : World} {b : Bool} {A B A' B' : Option Addr} {c d c' d' : Nat} {l : List Int} {p : List S46} (h1 : RI w A c l) (h2 : RP w B d p) (h3 : RI w A' c' l) (h4 : RP w B' d' p) (h : OkS l p) :
    Calls Try.prog 15 #[.agg #[.bool b, .slice A l.length c, .slice B p.length d], .agg #[.bool b, .slice A' l.length c', .slice B' p.length d']] w fun e w' => e = .returned (.bool true) ∧ Below w.heap.size w w' := q_SameE h1.r h1.s h2.r h2.s h3.r h3.s h4.r h4.s h.hl h.hp h.hx
/-- A sum stored into a block of its own. -/
theorem blk_put3 {w : World} {g : Nat} {t : TypeId} {x y z : Value} (h : w.heap[g]? = some (.cells #[x, y, z] t (0, 0))) (a b c : Value) : (((w.setCell ⟨g, 0, none⟩ a).setCell ⟨g, 1, none⟩ b).setCell ⟨g, 2, none⟩ c).heap[g]? = some (.cells #[a, b, c] t (0, 0)) :=
  blk_put (cs := #[a, b, z]) (blk_put (cs := #[a, y, z]) (blk_put (cs := #[x, y, z]) h 0 a rfl) 1 b rfl) 2 c rfl
theorem below_set3 {w w1 : World} {g : Nat} (h : Below w.heap.size w w1) (hg : w.heap.size ≤ g) (a b c : Value) : Below w.heap.size w (((w1.setCell ⟨g, 0, none⟩ a).setCell ⟨g, 1, none⟩ b).setCell ⟨g, 2, none⟩ c) := below_set (below_set (below_set h hg) hg) hg
end Go.Proofs.Ytdicjemjmlbmlaa.H
/- What comes in: small enough. -/
namespace Go.Proofs.Ytdicjemjmlbmlaa.S
set_option linter.unusedVariables false
set_option linter.unusedSimpArgs false
open Go.RowKit Go.Proofs.Ytdicjemjmlbmlaa.V Go.Proofs.Ytdicjemjmlbmlaa.PA Go.Proofs.Ytdicjemjmlbmlaa.H Go.Proofs.YtdicjemjmlbmlaaW.PrintWords Go.Proofs.YtdicjemjmlbmlaaW.PrintLast Go.Proofs.YtdicjemjmlbmlaaW.PrintMore

theorem limT_mk {n : Nat} {l : List Int} (h : Lim l) (hl : l.length ≤ n) (hn : n ≤ 10000) : limT l = true := by
  unfold limT
  rw [limB_mk h (by omega), decide_eq_true (show l.length ≤ 10000 by omega)]; rfl
theorem Small.guardT {m n : Nat} {l1 : List Int} {l2 : List S46} (h : Small m n l1 l2) (hm : m ≤ 10000) (hn : n ≤ 10000) : guardT l1 l2 = true := by
  have h2 := h.num
  unfold H.guardT
  rw [limT_mk h.lim h.len hn, decide_eq_true (show l2.length ≤ 10000 by omega), Bool.true_and, Bool.true_and, List.all_eq_true]
  exact fun x hx => limT_mk (h.each x hx).1 (h.each x hx).2 hn
theorem tight_ev {m n : Nat} {l1 : List Int} {l2 : List S46} (h : Small m n l1 l2) (hm : m ≤ 10000) (hn : n ≤ 10000) (b : Bool) : lin_Tight.f b l1 l2 = some (OU (tightP (wv b l1) (normP (l2.map prM)))) := if_pos (h.guardT hm hn)
theorem even_ev {m n : Nat} {l1 : List Int} {l2 : List S46} (h : Small m n l1 l2) (hm : m ≤ 10000) (hn : n ≤ 10000) (b : Bool) : lin_Even.f b l1 l2 = some (OU (evenP (wv b l1) (normP (l2.map prM)))) := if_pos (h.guardT hm hn)
/-! ### small enough -/
def lightB (l1 : List Int) (l2 : List S46) : Bool := decide (l2.length ≤ 20) && decide (l1.length ≤ 8) && l2.all (fun x => decide (x.f1.f1.length ≤ 8))
theorem light_l0 (b : Bool) (l1 : List Int) (l2 : List S46) (hl : l2.length ≤ 20) : ∀ d i, i + d = l2.length → Ev (fun k => gudgeonref13_Light.l0 k 8 (i : Int) b l1 l2) ((l2.drop i).all (fun x => decide (x.f1.f1.length ≤ 8))) := by
  intro d
  induction d with
  | zero =>
    intro i hi
    refine Ev.step (fun k => by rw [gudgeonref13_Light.l0]) (evN (by omega) (evR ?_))
    rw [List.drop_eq_nil_of_le (by omega)]; rfl
  | succ d ih =>
    intro i hi
    have hi' : i < l2.length := by omega
    refine Ev.step (fun k => by rw [gudgeonref13_Light.l0]) (evP (by omega) (evP (by omega) ?_))
    rw [rdM l2 i hi', List.drop_eq_getElem_cons hi', List.all_cons]
    by_cases h : (l2[i].f1.f1.length : Int) > 8
    · refine evP h (evR ?_)
      rw [decide_eq_false (by omega), Bool.false_and]
    · refine evN h ?_
      rw [wnext (by omega), decide_eq_true (by omega), Bool.true_and]
      exact ih (i + 1) (by omega)
theorem rlight_ev (b : Bool) (l1 : List Int) (l2 : List S46) : Ev (fun k => gudgeonref13_Light.f k b l1 l2 20 8) (lightB l1 l2) := by
  unfold lightB
  refine Ev.congr (fun k => rfl) ?_
  by_cases h1 : (l2.length : Int) > 20
  · refine evP h1 (Ev.step (fun k => by rw [gudgeonref13_Light.j0]) (evP rfl (evR ?_)))
    rw [decide_eq_false (show ¬l2.length ≤ 20 by omega), Bool.false_and, Bool.false_and]
  · refine evN h1 ?_
    rw [decide_eq_true (show l2.length ≤ 20 by omega), Bool.true_and]
    by_cases h2 : (l1.length : Int) > 8
    · rw [decide_eq_true h2, decide_eq_false (show ¬l1.length ≤ 8 by omega), Bool.false_and]
      exact Ev.step (fun k => by rw [gudgeonref13_Light.j0]) (evP rfl (evR rfl))
    · rw [decide_eq_false h2, decide_eq_true (show l1.length ≤ 8 by omega), Bool.true_and]
      refine Ev.step (fun k => by rw [gudgeonref13_Light.j0]) (evN Bool.false_ne_true ?_)
      exact light_l0 b l1 l2 (by omega) l2.length 0 (by omega)
theorem light_ev (b b2 : Bool) (l1 l3 : List Int) (l2 l4 : List S46) : Ev (fun k => gudgeonlaw13_light.f k b l1 l2 b2 l3 l4) (lightB l1 l2 && lightB l3 l4) := by
  refine Ev.congr (fun k => rfl) (Ev.bind (rlight_ev b l1 l2) (Ev.bind (rlight_ev b2 l3 l4) ?_))
  cases lightB l1 l2 with
  | true => exact evP rfl (evR rfl)
  | false => exact evN Bool.false_ne_true (evR rfl)
theorem small_of {l1 : List Int} {l2 : List S46} (h : lightB l1 l2 = true) (h1 : Lim l1) (h2 : ∀ x ∈ l2, Lim x.f1.f1) : Small 20 8 l1 l2 := by
  unfold lightB at h
  rw [Bool.and_eq_true, Bool.and_eq_true, decide_eq_true_eq, decide_eq_true_eq, List.all_eq_true] at h
  obtain ⟨⟨h3, h4⟩, h5⟩ := h
  exact ⟨h1, h4, h3, fun x hx => ⟨h2 x hx, of_decide_eq_true (h5 x hx)⟩⟩
theorem lookV_B {n : Nat} (v : Int) : ∀ L : List (Int × Int), BQ n L → B n (lookV v L)
  | [], _ => B0.mono (by omega)
  | q :: r, h => by
    unfold lookV
    split
    · exact h q List.mem_cons_self
    · exact lookV_B v r (fun x hx => h x (List.mem_cons_of_mem _ hx))
theorem dot_B {n n' : Nat} {L : List (Int × Int)} (hL : BQ n' L) : ∀ p : List (Int × Int), BQ n p → B (n + n' + p.length) (dot L p)
  | [], _ => B0.mono (by omega)
  | q :: r, h => by
    have h1 := dot_B hL r (fun x hx => h x (List.mem_cons_of_mem _ hx))
    have h2 := (h q List.mem_cons_self).mul (lookV_B q.1 L hL)
    unfold dot
    exact ((h2.mono (by omega)).add h1).mono (by simp only [List.length_cons]; omega)
end Go.Proofs.Ytdicjemjmlbmlaa.S
/- The examples. -/
namespace Go.Proofs.Ytdicjemjmlbmlaa.S
set_option linter.unusedVariables false
set_option linter.unusedSimpArgs false
open Go.RowKit Go.Proofs.Ytdicjemjmlbmlaa.V Go.Proofs.Ytdicjemjmlbmlaa.PA Go.Proofs.Ytdicjemjmlbmlaa.H Go.Proofs.YtdicjemjmlbmlaaW.PrintWords Go.Proofs.YtdicjemjmlbmlaaW.PrintLast Go.Proofs.YtdicjemjmlbmlaaW.PrintMore

theorem small_dec {l1 : List Int} {l2 : List S46} (h : (lightB l1 l2 && limB l1 && l2.all (fun x => limB x.f1.f1)) = true) : Small 20 8 l1 l2 := by
  rw [Bool.and_eq_true, Bool.and_eq_true, List.all_eq_true] at h
  exact small_of h.1.1 (limB_of h.1.2).2 (fun x hx => (limB_of (h.2 x hx)).2)
theorem dig_lit {x : Int} (h0 : 0 < x) (h1 : x < 4294967296) : dig x = [x] := by
  have h : Lim [x] := fun y hy => by rw [List.mem_singleton.1 hy]; omega
  have := dig_val_of_last h (by intro _; simp; omega)
  rwa [show val [x] = x by simp [val]] at this
theorem W_pos {x : Int} (h0 : 0 < x) (h1 : x < 4294967296) : W x = (false, [x]) := by
  unfold W az
  rw [if_neg (by omega), decide_eq_false (by omega), dig_lit h0 h1]
theorem W_neg {x : Int} (h0 : 0 < x) (h1 : x < 4294967296) : W (-x) = (true, [x]) := by
  unfold W az
  rw [if_pos (by omega), decide_eq_true (by omega), Int.neg_neg, dig_lit h0 h1]
theorem sum1 : Ev (fun k => gudgeonlaw13_sum.f k 7 4 6) (false, [7], [⟨0, ⟨false, [4]⟩⟩, ⟨1, ⟨false, [6]⟩⟩]) := Ev.of (fun k => gudgeonlaw13_sum.mono _ _ _ k) (k := 300) (by kernel_rfl)
theorem sum2 : Ev (fun k => gudgeonlaw13_sum.f k 6 (-2) 4) (false, [6], [⟨0, ⟨true, [2]⟩⟩, ⟨1, ⟨false, [4]⟩⟩]) := Ev.of (fun k => gudgeonlaw13_sum.mono _ _ _ k) (k := 300) (by kernel_rfl)
theorem sum3 : Ev (fun k => gudgeonlaw13_sum.f k 3 2 3) (false, [3], [⟨0, ⟨false, [2]⟩⟩, ⟨1, ⟨false, [3]⟩⟩]) := Ev.of (fun k => gudgeonlaw13_sum.mono _ _ _ k) (k := 300) (by kernel_rfl)
theorem sum4 : Ev (fun k => gudgeonlaw13_sum.f k (-3) 1 (-2)) (true, [3], [⟨0, ⟨false, [1]⟩⟩, ⟨1, ⟨true, [2]⟩⟩]) := Ev.of (fun k => gudgeonlaw13_sum.mono _ _ _ k) (k := 300) (by kernel_rfl)
theorem of1 : Ev (fun k => gudgeonref02_Of.f k 1) (false, [1]) := Ev.of (fun k => gudgeonref02_Of.mono _ k) (k := 300) (by kernel_rfl)
theorem of2 : Ev (fun k => gudgeonref02_Of.f k 2) (false, [2]) := Ev.of (fun k => gudgeonref02_Of.mono _ k) (k := 300) (by kernel_rfl)
theorem tight1 : lin_Tight.f false [7] [⟨0, ⟨false, [4]⟩⟩, ⟨1, ⟨false, [6]⟩⟩] = some (false, [3], [⟨0, ⟨false, [2]⟩⟩, ⟨1, ⟨false, [3]⟩⟩], 0) := by
  have h := tight_ev (m := 20) (n := 8) (l1 := [7]) (l2 := [⟨0, ⟨false, [4]⟩⟩, ⟨1, ⟨false, [6]⟩⟩]) (small_dec (by decide +kernel)) (by omega) (by omega) false
  have e : tightP (wv false [7]) (normP ([(⟨0, ⟨false, [4]⟩⟩ : S46), ⟨1, ⟨false, [6]⟩⟩].map prM)) = (3, [(0, 2), (1, 3)], 0) := by decide +kernel
  rw [e] at h
  have e2 : OU (3, [(0, 2), (1, 3)], 0) = (false, [3], [⟨0, ⟨false, [2]⟩⟩, ⟨1, ⟨false, [3]⟩⟩], 0) := by
    simp only [OU, enP, List.map_cons, List.map_nil, W_pos (x := 3) (by omega) (by omega), W_pos (x := 2) (by omega) (by omega)]
  rw [e2] at h
  exact h
theorem even1 : lin_Even.f false [6] [⟨0, ⟨true, [2]⟩⟩, ⟨1, ⟨false, [4]⟩⟩] = some (true, [3], [⟨0, ⟨false, [1]⟩⟩, ⟨1, ⟨true, [2]⟩⟩], 0) := by
  have h := even_ev (m := 20) (n := 8) (l1 := [6]) (l2 := [⟨0, ⟨true, [2]⟩⟩, ⟨1, ⟨false, [4]⟩⟩]) (small_dec (by decide +kernel)) (by omega) (by omega) false
  have e : evenP (wv false [6]) (normP ([(⟨0, ⟨true, [2]⟩⟩ : S46), ⟨1, ⟨false, [4]⟩⟩].map prM)) = (-3, [(0, 1), (1, -2)], 0) := by decide +kernel
  rw [e] at h
  have e2 : OU (-3, [(0, 1), (1, -2)], 0) = (true, [3], [⟨0, ⟨false, [1]⟩⟩, ⟨1, ⟨true, [2]⟩⟩], 0) := by
    simp only [OU, enP, List.map_cons, List.map_nil, W_neg (x := 3) (by omega) (by omega), W_pos (x := 1) (by omega) (by omega), W_neg (x := 2) (by omega) (by omega)]
  rw [e2] at h
  exact h
theorem even2 : lin_Even.f false [1] [⟨0, ⟨false, [2]⟩⟩] = some (OU (1, [(0, 2)], -1)) := by
  have h := even_ev (m := 20) (n := 8) (l1 := [1]) (l2 := [⟨0, ⟨false, [2]⟩⟩]) (small_dec (by decide +kernel)) (by omega) (by omega) false
  have e : evenP (wv false [1]) (normP ([(⟨0, ⟨false, [2]⟩⟩ : S46)].map prM)) = (1, [(0, 2)], -1) := by decide +kernel
  rw [e] at h
  exact h
/-- What the examples' calls answer. -/
theorem awake_facts : ∃ k1 k2 k3 k4 k5 k6 b1 l1 p1 b2 l2 p2 b3 l3 b4 l4 b5 l5 p5 b6 l6 p6 zb zl zp,
    gudgeonlaw13_sum.f k1 7 4 6 = some (b1, l1, p1) ∧ gudgeonlaw13_sum.f k2 6 (-2) 4 = some (b2, l2, p2) ∧ gudgeonref02_Of.f k3 1 = some (b3, l3) ∧ gudgeonref02_Of.f k4 2 = some (b4, l4) ∧
    gudgeonlaw13_sum.f k5 3 2 3 = some (b5, l5, p5) ∧ gudgeonlaw13_sum.f k6 (-3) 1 (-2) = some (b6, l6, p6) ∧
    lin_Tight.f b1 l1 p1 = some (b5, l5, p5, 0) ∧ lin_Even.f b2 l2 p2 = some (b6, l6, p6, 0) ∧ lin_Even.f b3 l3 [⟨0, ⟨b4, l4⟩⟩] = some (zb, zl, zp, -1) ∧ OkS l5 p5 ∧ OkS l6 p6 := by
  obtain ⟨k1, h1⟩ := sum1.rounds
  obtain ⟨k2, h2⟩ := sum2.rounds
  obtain ⟨k3, h3⟩ := of1.rounds
  obtain ⟨k4, h4⟩ := of2.rounds
  obtain ⟨k5, h5⟩ := sum3.rounds
  obtain ⟨k6, h6⟩ := sum4.rounds
  exact ⟨k1, k2, k3, k4, k5, k6, _, _, _, _, _, _, _, _, _, _, _, _, _, _, _, _, _, _, _, h1, h2, h3, h4, h5, h6, tight1, even1, even2, ⟨by decide, by decide, by decide⟩, ⟨by decide, by decide, by decide⟩⟩
end Go.Proofs.Ytdicjemjmlbmlaa.S
/- The chapter's examples: the walk. -/
namespace Go.Proofs.Ytdicjemjmlbmlaa.H
set_option linter.unusedSimpArgs false
set_option linter.unusedVariables false
open Go.RowKit Go.Proofs.YtdicjemjmlbmlaaW.PrintWords Go.Proofs.YtdicjemjmlbmlaaW.PrintLast Go.Proofs.YtdicjemjmlbmlaaW.PrintMore Go.Proofs.Ytdicjemjmlbmlaa.PA Go.Proofs.Ytdicjemjmlbmlaa.V Go.Proofs.Ytdicjemjmlbmlaa.S
set_option maxHeartbeats 8000000 in
set_option maxRecDepth 100000 in
theorem q_awake (w : World) : Calls Try.prog 9 #[] w fun e w' => e = .returned (.bool true) ∧ Below w.heap.size w w' := by
  have mixed : Try.prog.follows Departure.mixedOrders = true := by kernel_rfl
  have hu27 := Try.underlying27
  have hu24 := Try.underlying24
  have hu46 := Try.underlying46
  obtain ⟨k1, k2, k3, k4, k5, k6, b1, l1, p1, b2, l2, p2, b3, l3, b4, l4, b5, l5, p5, b6, l6, p6, zb, zl, zp, h1, h2, h3, h4, h5, h6, hT, hE, hF, h7, h8⟩ := awake_facts
  have H1 := Aside0.mk h1; have H2 := Aside0.mk h2; have H3 := Aside0.mk h3; have H4 := Aside0.mk h4; have H5 := Aside0.mk h5; have H6 := Aside0.mk h6; have H7 := Aside0.mk h7; have H8 := Aside0.mk h8; have HT := Aside0.mk hT; have HE := Aside0.mk hE; have HF := Aside0.mk hF
  clear h1 h2 h3 h4 h5 h6 h7 h8 hT hE hF
  go_enter Try.func9, Try.ntmps9
  go_upto_region 4 with (first
    | (go_at_call 39; (with_reducible refine (q_sum H1.out).mono ?_); rintro e w1 ⟨A1, c1, B1, d1, rfl, r1, s1, hb⟩; have R1 := Aside0.mk r1; have S1 := Aside0.mk s1; have HB := Aside0.mk hb; clear r1 s1 hb)
    | (go_at_call 11; (with_reducible refine (q_Tight R1.out S1.out HT.out).mono ?_); rintro e w2 ⟨AX, cX, BX, dX, rfl, rX, sX, hb⟩; have RX := Aside0.mk rX; have SX := Aside0.mk sX; have HB := Aside0.mk (below_step HB.out hb); clear rX sX hb R1 S1)
    | ((with_reducible refine gate_dst (N := 1) rfl ?_); refine box_event ?hg (N := 1) ?hd (cs := #[.bool false, .slice none 0 0, .slice none 0 0]) (t := 27) ?hr ?_; (case hd => rfl); (case hg => rfl); (case hr => first | (go_simp; done) | (go_simp; rfl)); intro gX hg w3 hbox hb; have KX := Aside0.mk hbox; have HN := Aside0.mk hb; have GN := Aside0.mk (show w2.heap.size ≤ gX by rw [hg]; exact Nat.le_refl _); have cgX := blk_all hbox; have fgX := frz_all hbox; clear hg hbox hb)
    | (go_at_call 39; (with_reducible refine (q_sum H2.out).mono ?_); rintro e w4 ⟨A3, c3, B3, d3, rfl, r3, s3, hb⟩; have hx := below_step (below_set3 HN.out GN.out _ _ _) hb; have KX := Aside0.mk (blk_below (blk_put3 KX.out _ _ _) hb); have R3 := Aside0.mk r3; have S3 := Aside0.mk s3; have RX := Aside0.mk (RX.out.b hx); have SX := Aside0.mk (SX.out.b hx); have HB := Aside0.mk (below_step HB.out hx); clear r3 s3 hb hx HN GN cgX fgX)
    | (go_at_call 13; (with_reducible refine (q_Even R3.out S3.out HE.out).mono ?_); rintro e w5 ⟨AY, cY, BY, dY, rfl, rY, sY, hb⟩; have RY := Aside0.mk rY; have SY := Aside0.mk sY; have KX := Aside0.mk (blk_below KX.out hb); have RX := Aside0.mk (RX.out.b hb); have SX := Aside0.mk (SX.out.b hb); have HB := Aside0.mk (below_step HB.out hb); clear rY sY hb R3 S3)
    | ((with_reducible refine gate_dst (N := 3) rfl ?_); refine box_event ?hg (N := 3) ?hd (cs := #[.bool false, .slice none 0 0, .slice none 0 0]) (t := 27) ?hr ?_; (case hd => rfl); (case hg => rfl); (case hr => first | (go_simp; done) | (go_simp; rfl)); intro gY hg w6 hbox hb; have KY := Aside0.mk hbox; have HN := Aside0.mk hb; have GN := Aside0.mk (show w5.heap.size ≤ gY by rw [hg]; exact Nat.le_refl _); have cgY := blk_all hbox; have fgY := frz_all hbox; clear hg hbox hb)
    | (go_at_call 32; (with_reducible refine (q_rOf H3.out).mono ?_); rintro e w7 ⟨A7, c7, rfl, r7, hb⟩; have hx := below_step (below_set3 HN.out GN.out _ _ _) hb; have KY := Aside0.mk (blk_below (blk_put3 KY.out _ _ _) hb); have R7 := Aside0.mk r7; have KX := Aside0.mk (blk_below KX.out hx); have RX := Aside0.mk (RX.out.b hx); have SX := Aside0.mk (SX.out.b hx); have RY := Aside0.mk (RY.out.b hx); have SY := Aside0.mk (SY.out.b hx); have HB := Aside0.mk (below_step HB.out hx); clear r7 hb hx HN GN cgY fgY)
    | (go_at_call 32; (with_reducible refine (q_rOf H4.out).mono ?_); rintro e w8 ⟨A8, c8, rfl, r8, hb⟩; have R8 := Aside0.mk r8; have KX := Aside0.mk (blk_below KX.out hb); have KY := Aside0.mk (blk_below KY.out hb); have RX := Aside0.mk (RX.out.b hb); have SX := Aside0.mk (SX.out.b hb); have RY := Aside0.mk (RY.out.b hb); have SY := Aside0.mk (SY.out.b hb); have R7 := Aside0.mk (R7.out.b hb); have HB := Aside0.mk (below_step HB.out hb); clear r8 hb)
    | (go_at_call 13; (refine (q_Even (R7.out.b (below_alloc (Below.refl _ _) _)) (RP.one 0 b4 R8.out) HF.out).mono ?_); rintro e w9 ⟨AZ, cZ, BZ, dZ, rfl, rZ, sZ, hb⟩; have hx := below_step (below_alloc (Below.refl _ _) _) hb; have KX := Aside0.mk (blk_below KX.out hx); have KY := Aside0.mk (blk_below KY.out hx); have RX := Aside0.mk (RX.out.b hx); have SX := Aside0.mk (SX.out.b hx); have RY := Aside0.mk (RY.out.b hx); have SY := Aside0.mk (SY.out.b hx); have HB := Aside0.mk (below_step HB.out hx); clear rZ sZ hb hx R7 R8)
    | ((with_reducible refine gate_dst (N := 5) rfl ?_); refine box_event ?hg (N := 5) ?hd (cs := #[.bool false, .slice none 0 0, .slice none 0 0]) (t := 27) ?hr ?_; (case hd => rfl); (case hg => rfl); (case hr => first | (go_simp; done) | (go_simp; rfl)); intro gZ hg w10 hbox hb; have KZ := Aside0.mk hbox; have HN := Aside0.mk hb; have GN := Aside0.mk (show w9.heap.size ≤ gZ by rw [hg]; exact Nat.le_refl _); have cgZ := blk_all hbox; have fgZ := frz_all hbox; clear hg hbox hb))
  have hx := below_drew1 (below_set3 HN.out GN.out (.bool zb) (.slice AZ zl.length cZ) (.slice BZ zp.length dZ))
  clear cgZ fgZ
  refine start_ (n := 4) (S := fun w' => ∀ i : Nat, w'.cell? ⟨gX, i, none⟩ = (#[.bool b5, .slice AX l5.length cX, .slice BX p5.length dX] : Array Value)[i]?) (ds := []) #[false, false, false, false] (by kernel_rfl) rfl rfl (blk_all (blk_below KX.out hx)) (fun hHeld => ?_)
  refine take_ (i := 0) (N := some 28) (v := ?_) (a' := ?_) #[true, false, false, false] rfl rfl (by kernel_rfl) (fun _ _ _ h => h) (Or.inl ⟨by rfl, ?_⟩) hHeld ?_ ?_
  rotate_left
  · intro w' s0
    go_simp
    with_reducible rfl
  rotate_left
  · simp only [Act.put, List.setIfInBounds_toArray, List.set_cons_zero, List.set_cons_succ, i64_w, i32_w]
    rfl
  refine one_ (i := 1) (N := some 29) #[true, true, false, false] rfl rfl (by kernel_rfl) (by decide) (fun K hK => ?_)
  refine goes_ Try.func39 (by kernel_rfl) rfl #[.int .i64 3, .int .i64 2, .int .i64 3] (by rfl) rfl rfl (by simp only [List.map_toArray, List.map_cons, List.map_nil]; rfl) ?_
  with_reducible refine (q_sum H5.out).mono ?_
  rintro e w11 ⟨A5, c5, B5, d5, rfl, r5, s5, hb⟩
  have hy := below_step hx hb
  have R5 := Aside0.mk r5; have S5 := Aside0.mk s5; have KX := Aside0.mk (blk_below KX.out hy); have KY := Aside0.mk (blk_below KY.out hy); have RX := Aside0.mk (RX.out.b hy); have SX := Aside0.mk (SX.out.b hy); have RY := Aside0.mk (RY.out.b hy); have SY := Aside0.mk (SY.out.b hy); have HB := Aside0.mk (below_step HB.out hy)
  clear r5 s5 hb hy hx
  refine ⟨_, rfl, ?_⟩
  refine hK.out _ _ (blk_all KX.out) (fun hHeld => ?_)
  clear hK K
  refine norm_ (a' := ?_) ?_ ?_
  rotate_left
  · show Act.put _ (some 29) _ = _
    simp only [Act.put, List.setIfInBounds_toArray, List.set_cons_zero, List.set_cons_succ, i64_w, i32_w]
    rfl
  refine one_ (i := 2) (N := some 30) #[true, true, true, false] rfl rfl (by kernel_rfl) (by decide) (fun K hK => ?_)
  refine goes_ Try.func15 (by kernel_rfl) rfl #[.agg #[.bool b5, .slice AX l5.length cX, .slice BX p5.length dX], .agg #[.bool b5, .slice A5 l5.length c5, .slice B5 p5.length d5]] (by rfl) rfl rfl (by simp only [List.map_toArray, List.map_cons, List.map_nil]; rfl) ?_
  with_reducible refine (q_Same RX.out SX.out R5.out S5.out H7.out).mono ?_
  rintro e w12 ⟨rfl, hb⟩
  have KX := Aside0.mk (blk_below KX.out hb); have KY := Aside0.mk (blk_below KY.out hb); have RX := Aside0.mk (RX.out.b hb); have SX := Aside0.mk (SX.out.b hb); have RY := Aside0.mk (RY.out.b hb); have SY := Aside0.mk (SY.out.b hb); have HB := Aside0.mk (below_step HB.out hb)
  clear hb
  refine ⟨_, rfl, ?_⟩
  refine hK.out _ _ (blk_all KX.out) (fun hHeld => ?_)
  clear hK K
  refine norm_ (a' := ?_) ?_ ?_
  rotate_left
  · show Act.put _ (some 30) _ = _
    simp only [Act.put, List.setIfInBounds_toArray, List.set_cons_zero, List.set_cons_succ, i64_w, i32_w]
    rfl
  refine pure_ (i := 3) (N := some 7) (v := ?_) (a' := ?_) #[true, true, true, true] rfl rfl (by kernel_rfl) (fun _ _ _ h => h) (Or.inl ⟨by rfl, ?_⟩) ?_ ?_
  rotate_left
  · intro w'
    go_simp
    with_reducible rfl
  rotate_left
  · simp only [Act.put, List.setIfInBounds_toArray, List.set_cons_zero, List.set_cons_succ, i64_w, i32_w]
    rfl
  refine done_ (by kernel_rfl) ?_

  go_wp2_with fail
  refine start_ (n := 4) (S := fun w' => ∀ i : Nat, w'.cell? ⟨gY, i, none⟩ = (#[.bool b6, .slice AY l6.length cY, .slice BY p6.length dY] : Array Value)[i]?) (ds := []) #[false, false, false, false] (by kernel_rfl) rfl rfl (blk_all KY.out) (fun hHeld => ?_)
  refine take_ (i := 0) (N := some 31) (v := ?_) (a' := ?_) #[true, false, false, false] rfl rfl (by kernel_rfl) (fun _ _ _ h => h) (Or.inl ⟨by rfl, ?_⟩) hHeld ?_ ?_
  rotate_left
  · intro w' s0
    go_simp
    with_reducible rfl
  rotate_left
  · simp only [Act.put, List.setIfInBounds_toArray, List.set_cons_zero, List.set_cons_succ, i64_w, i32_w]
    rfl
  refine one_ (i := 1) (N := some 32) #[true, true, false, false] rfl rfl (by kernel_rfl) (by decide) (fun K hK => ?_)
  refine goes_ Try.func39 (by kernel_rfl) rfl #[.int .i64 (-3), .int .i64 1, .int .i64 (-2)] (by rfl) rfl rfl (by simp only [List.map_toArray, List.map_cons, List.map_nil]; rfl) ?_
  with_reducible refine (q_sum H6.out).mono ?_
  rintro e w13 ⟨A6, c6, B6, d6, rfl, r6, s6, hb⟩
  have hy := below_step (below_drew1 (Below.refl w12.heap.size w12)) hb
  have R6 := Aside0.mk r6; have S6 := Aside0.mk s6; have KY := Aside0.mk (blk_below KY.out hy); have RY := Aside0.mk (RY.out.b hy); have SY := Aside0.mk (SY.out.b hy); have HB := Aside0.mk (below_step HB.out hy)
  clear r6 s6 hb hy
  refine ⟨_, rfl, ?_⟩
  refine hK.out _ _ (blk_all KY.out) (fun hHeld => ?_)
  clear hK K
  refine norm_ (a' := ?_) ?_ ?_
  rotate_left
  · show Act.put _ (some 32) _ = _
    simp only [Act.put, List.setIfInBounds_toArray, List.set_cons_zero, List.set_cons_succ, i64_w, i32_w]
    rfl
  refine one_ (i := 2) (N := some 33) #[true, true, true, false] rfl rfl (by kernel_rfl) (by decide) (fun K hK => ?_)
  refine goes_ Try.func15 (by kernel_rfl) rfl #[.agg #[.bool b6, .slice AY l6.length cY, .slice BY p6.length dY], .agg #[.bool b6, .slice A6 l6.length c6, .slice B6 p6.length d6]] (by rfl) rfl rfl (by simp only [List.map_toArray, List.map_cons, List.map_nil]; rfl) ?_
  with_reducible refine (q_Same RY.out SY.out R6.out S6.out H8.out).mono ?_
  rintro e w14 ⟨rfl, hb⟩
  have KY := Aside0.mk (blk_below KY.out hb); have HB := Aside0.mk (below_step HB.out hb)
  clear hb
  refine ⟨_, rfl, ?_⟩
  refine hK.out _ _ (blk_all KY.out) (fun hHeld => ?_)
  clear hK K
  refine norm_ (a' := ?_) ?_ ?_
  rotate_left
  · show Act.put _ (some 33) _ = _
    simp only [Act.put, List.setIfInBounds_toArray, List.set_cons_zero, List.set_cons_succ, i64_w, i32_w]
    rfl
  refine pure_ (i := 3) (N := some 8) (v := ?_) (a' := ?_) #[true, true, true, true] rfl rfl (by kernel_rfl) (fun _ _ _ h => h) (Or.inl ⟨by rfl, ?_⟩) ?_ ?_
  rotate_left
  · intro w'
    go_simp
    with_reducible rfl
  rotate_left
  · simp only [Act.put, List.setIfInBounds_toArray, List.set_cons_zero, List.set_cons_succ, i64_w, i32_w]
    rfl
  refine done_ (by kernel_rfl) ?_

  go_wp2
  go_ret
  exact ⟨rfl, by repeat first | exact HB.out | apply below_drew1⟩
end Go.Proofs.Ytdicjemjmlbmlaa.H
/- Written by a program of this session, wip/tools/patch_print.py, over the kit's print of the loaded functions. -/
namespace Go.Proofs.Ytdicjemjmlbmlaa.H
end Go.Proofs.Ytdicjemjmlbmlaa.H
namespace Go.Proofs.Ytdicjemjmlbmlaa.PA
open Go.RowKit Go.Proofs.YtdicjemjmlbmlaaW.PrintWords Go.Proofs.YtdicjemjmlbmlaaW.PrintLast Go.Proofs.YtdicjemjmlbmlaaW.PrintMore Go.Proofs.Ytdicjemjmlbmlaa.H
attribute [local go_sem] max2_int min2_int max_two min_two max_three min_three max_four min_four   -- for this text's walks alone
attribute [local go_sem] box_twice
set_option linter.unusedVariables false
set_option linter.unusedSimpArgs false

/-! ### gudgeonref13_Value: function 18 -/
mutual
def gudgeonref13_Value.l0 : Nat → List (S46) → Int → Bool → List Int → List (S46) → Bool → List Int → Option (Bool × List Int)
 | 0, _, _, _, _, _, _, _ => none
 | k + 1, x1, x6, x798000, x798001, x798002, x804000, x804001 => if x6 < (x798002.length : Int) then (gudgeonref13_Value.l1 k x1 x6 0 x798000 x798001 x798002 x804000 x804001) else (some (x804000, x804001))
def gudgeonref13_Value.l1 : Nat → List (S46) → Int → Int → Bool → List Int → List (S46) → Bool → List Int → Option (Bool × List Int)
 | 0, _, _, _, _, _, _, _, _ => none
 | k + 1, x1, x6, x7, x798000, x798001, x798002, x804000, x804001 => if x7 < (x1.length : Int) then (if 0 ≤ x7 then (if 0 ≤ x6 then (if x6 < (x798002.length : Int) then (if ((rd_T46 x1 x7).f0) = ((rd_T46 x798002 x6).f0) then ((gudgeonref02_Mul.f k ((rd_T46 x798002 x6).f1.f0) ((rd_T46 x798002 x6).f1.f1) ((rd_T46 x1 x7).f1.f0) ((rd_T46 x1 x7).f1.f1)).bind fun bt808 => ((gudgeonref02_Add.f k x804000 x804001 bt808.1 bt808.2).bind fun bt812 => (gudgeonref13_Value.l0 k x1 (wrap64 (x6 + 1)) x798000 x798001 x798002 bt812.1 bt812.2))) else (gudgeonref13_Value.l1 k x1 x6 (wrap64 (x7 + 1)) x798000 x798001 x798002 x804000 x804001)) else (none)) else (none)) else (none)) else (gudgeonref13_Value.l0 k x1 (wrap64 (x6 + 1)) x798000 x798001 x798002 x804000 x804001)
end
def gudgeonref13_Value.f (k : Nat) (a0_0 : Bool) (l0_1 : List Int) (l0_2 : List (S46)) (l1 : List (S46)) : Option (Bool × List Int) := (gudgeonref02_Norm.f k a0_0 l0_1).bind fun bt799 => (gudgeonref13_Value.l0 k l1 0 a0_0 l0_1 l0_2 bt799.1 bt799.2)
def gudgeonref13_Value.T8 : Bool × List (List Nat × List Nat) := (true, [([], []), ([], []), ([0, 1], [0, 1]), ([2], [2]), ([3], [3]), ([], []), ([5], [5]), ([], []), ([6, 7], [6, 7]), ([8], [8]), ([9], [9]), ([4, 10], [4, 10])])
def gudgeonref13_Value.B8 : List Nat := [0, 0, 3, 7, 15, 0, 32, 0, 224, 480, 992, 2047]
theorem gudgeonref13_Value.tab8 : rtab .any (opsOf Try.f18 8) = gudgeonref13_Value.T8 := by kernel_rfl
theorem gudgeonref13_Value.bits8 : waitsOk gudgeonref13_Value.T8.2 gudgeonref13_Value.B8 = true := by kernel_rfl
def gudgeonref13_Value.T9 : Bool × List (List Nat × List Nat) := (true, [([], []), ([], []), ([1], [1]), ([], []), ([2, 3], [2, 3]), ([4], [4]), ([5], [5]), ([], []), ([], []), ([7, 8], [7, 8]), ([9], [9]), ([10], [10]), ([6, 11], [6, 11]), ([0, 12, 12], [0, 12]), ([13, 13, 0, 1, 2, 3, 4, 5, 6, 7, 8, 9, 10, 11, 12, 13], [13])])
def gudgeonref13_Value.B9 : List Nat := [0, 0, 2, 0, 14, 30, 62, 0, 0, 384, 896, 1920, 4094, 8191, 16383]
theorem gudgeonref13_Value.tab9 : rtab .any (opsOf Try.f18 9) = gudgeonref13_Value.T9 := by kernel_rfl
theorem gudgeonref13_Value.bits9 : waitsOk gudgeonref13_Value.T9.2 gudgeonref13_Value.B9 = true := by kernel_rfl
set_option maxHeartbeats 8000000 in
set_option maxRecDepth 100000 in
theorem gudgeonref13_Value.calls (k : Nat) (a0_0 : Bool) (A0_1 : Option Addr) (c0_1 : Nat) (l0_1 : List Int) (A0_2 : Option Addr) (c0_2 : Nat) (l0_2 : List (S46)) (A1 : Option Addr) (c1 : Nat) (l1 : List (S46)) (r1 : Bool) (r2 : List Int) (w : World) (hr0_1 : Kd.C (Kd.int .u32) w A0_1 l0_1.length l0_1) (hc0_1 : l0_1.length ≤ c0_1) (hr0_2 : Kd.C k46 w A0_2 l0_2.length l0_2) (hc0_2 : l0_2.length ≤ c0_2) (hr1 : Kd.C k46 w A1 l1.length l1) (hc1 : l1.length ≤ c1) (h : gudgeonref13_Value.f k a0_0 l0_1 l0_2 l1 = some (r1, r2)) :
  Calls Try.prog 18 #[.agg #[.bool a0_0, .slice A0_1 l0_1.length c0_1, .slice A0_2 l0_2.length c0_2], .slice A1 l1.length c1] w fun e w' => ∃ v1_ : Value, e = .returned (.agg #[.bool r1, v1_]) ∧ Kd.R (Kd.int .u32) 81 w' w.heap.size (fun _ => True) v1_ r2 ∧ Below w.heap.size w w' := by
 have hu27 := Try.underlying27
 have hu24 := Try.underlying24
 have HR0_1 := Aside0.mk hr0_1
 have HC0_1 := Aside0.mk hc0_1
 clear hr0_1 hc0_1
 have HR0_2 := Aside0.mk hr0_2
 have HC0_2 := Aside0.mk hc0_2
 clear hr0_2 hc0_2
 have HR1 := Aside0.mk hr1
 have HC1 := Aside0.mk hc1
 clear hr1 hc1
 have HB := Aside0.mk (Below.refl w.heap.size w)
 have H : ((gudgeonref02_Norm.f k a0_0 l0_1).bind fun bt799 => (gudgeonref13_Value.l0 k l1 0 a0_0 l0_1 l0_2 bt799.1 bt799.2)) = some (r1, r2) := h
 clear h
 obtain ⟨⟨t799, t800⟩, A30, H⟩ := Option.bind_eq_some_iff.mp H
 try dsimp only at H
 have A3 := Aside0.mk A30
 clear A30
 have H' := Aside0.mk H
 clear H
 go_enter Try.func18, Try.ntmps18
 go_wp2_with (first | ((with_reducible refine gate_dst (N := 2) rfl ?_); refine box_event ?hg (N := 2) ?hd (cs := #[.bool a0_0, .slice A0_1 l0_1.length c0_1, .slice A0_2 l0_2.length c0_2]) (t := 27) ?hr ?_; (case hd => rfl); (case hg => rfl); (case hr => first | (go_simp; done) | (go_simp; rfl)); intro gb797 hg w4 hbox hb; have BK797 := Aside0.mk (hbox); have GW797 := Aside0.mk (bxLe HB.out hg); have GE797 := GW797; replace HB := Aside0.mk (below_step HB.out hb); clear hb hbox hg) | ((with_reducible refine gate_dst (N := 4) rfl ?_); refine box_event ?hg (N := 4) ?hd (cs := #[.bool false, .slice none 0 0]) (t := 24) ?hr ?_; (case hd => rfl); (case hg => rfl); (case hr => first | (go_simp; done) | (go_simp; rfl)); intro gb798 hg w5 hbox hb; have BK798 := Aside0.mk (hbox); have GW798 := Aside0.mk (bxLe HB.out hg); have GE798 := GW798; replace HB := Aside0.mk (below_step HB.out hb); have NB797_798 := Aside0.mk (neL BK797.out hg); have NB798_797 := Aside0.mk (neR BK797.out hg); replace BK797 := Aside0.mk (blk_below BK797.out hb); clear hb hbox hg; have hnb6 := NB797_798.out; have hnc6 := NB798_797.out; have hcz7_0 : w5.cell? ⟨gb797, 0, none⟩ = some (.bool a0_0) := bc0 BK797.out; have hcz7_1 : w5.cell? ⟨gb797, 1, none⟩ = some (.slice A0_1 l0_1.length c0_1) := bc1 BK797.out; have hcz7_2 : w5.cell? ⟨gb797, 2, none⟩ = some (.slice A0_2 l0_2.length c0_2) := bc2 BK797.out; have hfz7_0 := blk_frozen BK797.out 0; have hfz7_1 := blk_frozen BK797.out 1; have hfz7_2 := blk_frozen BK797.out 2) | ((with_reducible refine gate_callee (f := 54) rfl ?_); refine goL (some 10) Try.func54 [.agg #[.bool a0_0, .slice A0_1 l0_1.length c0_1]] ?_; (with_reducible refine (gudgeonref02_Norm.calls k a0_0 _ _ l0_1 t799 t800 _ ?side1 ?side2 A3.out).mono ?_); (case side1 => exact (Kd.C_below HR0_1.out HB.out)); (case side2 => exact HC0_1.out); rintro e w8 ⟨v801, rfl, ho0, hb⟩; refine ⟨_, rfl, ?_⟩; have HO802 := Aside0.mk (Kd.R_lower ho0 (below_size HB.out)); replace BK797 := Aside0.mk (blk_below BK797.out hb); replace BK798 := Aside0.mk (blk_below BK798.out hb); replace HB := Aside0.mk (below_step HB.out hb)) | ((with_reducible refine gate_dst (N := 5) rfl ?_); refine box_event ?hg (N := 5) ?hd (cs := #[.bool false, .slice none 0 0]) (t := 24) ?hr ?_; (case hd => rfl); (case hg => rfl); (case hr => first | (go_simp; done) | (go_simp; rfl)); intro gb803 hg w9 hbox hb; replace HO802 := Aside0.mk (Kd.R_below HO802.out hb); have BK803 := Aside0.mk (hbox); have GW803 := Aside0.mk (bxLe HB.out hg); have GE803 := GW803; replace HB := Aside0.mk (below_step HB.out hb); have NB797_803 := Aside0.mk (neL BK797.out hg); have NB803_797 := Aside0.mk (neR BK797.out hg); replace BK797 := Aside0.mk (blk_below BK797.out hb); have NB798_803 := Aside0.mk (neL BK798.out hg); have NB803_798 := Aside0.mk (neR BK798.out hg); replace BK798 := Aside0.mk (blk_below BK798.out hb); clear hb hbox hg; have hnb10 := NB803_797.out; have hnc10 := NB797_803.out; have hnb11 := NB803_798.out; have hnc11 := NB798_803.out; have hcz12_0 : w9.cell? ⟨gb803, 0, none⟩ = some (.bool false) := bc0 BK803.out; have hcz12_1 : w9.cell? ⟨gb803, 1, none⟩ = some (.slice none 0 0) := bc1 BK803.out; have hfz12_0 := blk_frozen BK803.out 0; have hfz12_1 := blk_frozen BK803.out 1; obtain ⟨Ao13, co13, eo13⟩ := Kd.R_slice HO802.out; subst eo13))
 go_loopg [6] k (fun kq v6 w' => ∃ (x6_1 : Int) (x804000_1 : Bool) (x804001_1 : List Int) (u804001 : Value), v6 = .int .i64 x6_1 ∧ Aside0 (gudgeonref13_Value.l0 kq l1 x6_1 a0_0 l0_1 l0_2 x804000_1 x804001_1 = some (r1, r2)) ∧ Aside0 (kq ≤ k) ∧ Aside0 (Kd.R (Kd.int .u32) 81 w' w.heap.size (fun _ => True) u804001 x804001_1) ∧ Aside0 (w'.heap[gb797]? = some (.cells #[.bool a0_0, (.slice A0_1 l0_1.length c0_1), (.slice A0_2 l0_2.length c0_2)] 27 (0, 0))) ∧ Aside0 (w'.heap[gb798]? = some (.cells #[.bool false, (.slice none 0 0)] 24 (0, 0))) ∧ Aside0 (w'.heap[gb803]? = some (.cells #[.bool x804000_1, u804001] 24 (0, 0))) ∧ Aside0 (Below w.heap.size w w'))
 case atStart => exact ⟨(0), (t799), (t800), (.slice Ao13 t800.length co13), (by first | rfl | (simp; done)), H', ⟨Nat.le_refl _⟩, ⟨Kd.R_mono (Kd.R_far (p := ⟨gb803, 1, none⟩) (Kd.R_far (p := ⟨gb803, 0, none⟩) (Kd.R_types HO802.out BK803.out (by decide)) (fun _ hk => hk.2) (.bool t799)) (fun _ hk => hk.2) (.slice Ao13 t800.length co13)) (fun _ hk => trivial)⟩, ⟨by refine blk_far ?_ NB797_803.out _; refine blk_far ?_ NB797_803.out _; exact BK797.out⟩, ⟨by refine blk_far ?_ NB798_803.out _; refine blk_far ?_ NB798_803.out _; exact BK798.out⟩, ⟨by refine blk_put (cs := #[.bool t799, .slice none 0 0]) ?_ 1 _ rfl; refine blk_put (cs := #[.bool false, .slice none 0 0]) ?_ 0 _ rfl; exact BK803.out⟩, ⟨by repeat first | exact HB.out | refine bxSet ?_ (by assumption) | apply below_alloc | apply pw_below_drewN⟩⟩
 case round =>
  clear H'
  try clear c1
  try clear p2
  try clear c5
  try clear c6
  try clear c10
  try clear c11
  try clear hcz12_0
  try clear hcz12_1
  try clear hcz7_0
  try clear hcz7_1
  try clear hcz7_2
  try clear hfz12_0
  try clear hfz12_1
  try clear hfz7_0
  try clear hfz7_1
  try clear hfz7_2
  obtain ⟨x6_1, x804000_1, x804001_1, u804001, rfl, HA, HK1, HO_804001, BK797, BK798, BK803, HB⟩ := hrel
  cases gk with
  | zero => exact absurd HA.out (by simp [gudgeonref13_Value.l0])
  | succ k1 =>
   have H := HA.out
   clear HA
   simp only [gudgeonref13_Value.l0] at H
   by_cases c14 : x6_1 < (l0_2.length : Int)
   ·rw [if_pos c14] at H
    have c14b0 : decide (x6_1 < (l0_2.length : Int)) = true := decide_eq_true c14
    clear c14
    have H' := Aside0.mk H
    clear H
    have hnb15 := NB797_798.out
    have hnc15 := NB798_797.out
    have hnb16 := NB797_803.out
    have hnc16 := NB803_797.out
    have hcz17_0 : wr.cell? ⟨gb797, 0, none⟩ = some (.bool a0_0) := bc0 BK797.out
    have hcz17_1 : wr.cell? ⟨gb797, 1, none⟩ = some (.slice A0_1 l0_1.length c0_1) := bc1 BK797.out
    have hcz17_2 : wr.cell? ⟨gb797, 2, none⟩ = some (.slice A0_2 l0_2.length c0_2) := bc2 BK797.out
    have hfz17_0 := blk_frozen BK797.out 0
    have hfz17_1 := blk_frozen BK797.out 1
    have hfz17_2 := blk_frozen BK797.out 2
    go_wp2
    go_loopg [7] k1 (fun kq v7 w' => ∃ (x7_2 : Int) (x804000_2 : Bool) (x804001_2 : List Int) (u804001 : Value), v7 = .int .i64 x7_2 ∧ Aside0 (gudgeonref13_Value.l1 kq l1 x6_1 x7_2 a0_0 l0_1 l0_2 x804000_2 x804001_2 = some (r1, r2)) ∧ Aside0 (kq ≤ k1) ∧ Aside0 (Kd.R (Kd.int .u32) 81 w' w.heap.size (fun _ => True) u804001 x804001_2) ∧ Aside0 (w'.heap[gb797]? = some (.cells #[.bool a0_0, (.slice A0_1 l0_1.length c0_1), (.slice A0_2 l0_2.length c0_2)] 27 (0, 0))) ∧ Aside0 (w'.heap[gb798]? = some (.cells #[.bool false, (.slice none 0 0)] 24 (0, 0))) ∧ Aside0 (w'.heap[gb803]? = some (.cells #[.bool x804000_2, u804001] 24 (0, 0))) ∧ Aside0 (Below w.heap.size w w'))
    case atStart => exact ⟨(0), (x804000_1), (x804001_1), (u804001), (by first | rfl | (simp; done)), H', ⟨Nat.le_refl _⟩, ⟨HO_804001.out⟩, ⟨BK797.out⟩, ⟨BK798.out⟩, ⟨BK803.out⟩, ⟨HB.out⟩⟩
    case round =>
     clear H'
     try clear c1
     try clear p2
     try clear c5
     try clear c6
     try clear c10
     try clear c11
     try clear c14
     try clear c14b0
     try clear c15
     try clear c16
     try clear hcz12_0
     try clear hcz12_1
     try clear hcz17_0
     try clear hcz17_1
     try clear hcz17_2
     try clear hcz7_0
     try clear hcz7_1
     try clear hcz7_2
     try clear hfz12_0
     try clear hfz12_1
     try clear hfz17_0
     try clear hfz17_1
     try clear hfz17_2
     try clear hfz7_0
     try clear hfz7_1
     try clear hfz7_2
     try clear p2
     obtain ⟨x7_2, x804000_2, x804001_2, u804001, rfl, HA, HK2, HO_804001, BK797, BK798, BK803, HB⟩ := hrel
     cases gk with
     | zero => exact absurd HA.out (by simp [gudgeonref13_Value.l1])
     | succ k2 =>
      have H := HA.out
      clear HA
      simp only [gudgeonref13_Value.l1] at H
      by_cases c18 : x7_2 < (l1.length : Int)
      ·rw [if_pos c18] at H
       have c18b0 : decide (x7_2 < (l1.length : Int)) = true := decide_eq_true c18
       clear c18
       by_cases c19 : 0 ≤ x7_2
       ·rw [if_pos c19] at H
        have c19b0 : decide (0 ≤ x7_2) = true := decide_eq_true c19
        clear c19
        by_cases c20 : 0 ≤ x6_1
        ·rw [if_pos c20] at H
         have c20b0 : decide (0 ≤ x6_1) = true := decide_eq_true c20
         clear c20
         by_cases c21 : x6_1 < (l0_2.length : Int)
         ·rw [if_pos c21] at H
          have c21b0 : decide (x6_1 < (l0_2.length : Int)) = true := decide_eq_true c21
          clear c21
          by_cases c22 : ((rd_T46 l1 x7_2).f0) = ((rd_T46 l0_2 x6_1).f0)
          ·rw [if_pos c22] at H
           have c22b0 : (((rd_T46 l1 x7_2).f0) == ((rd_T46 l0_2 x6_1).f0)) = true := beq_iff_eq.mpr c22
           have c22b1 : (((rd_T46 l1 x7_2).f0) != ((rd_T46 l0_2 x6_1).f0)) = false := bne_eq_false_iff_eq.mpr c22
           clear c22
           obtain ⟨⟨t808, t809⟩, A230, H⟩ := Option.bind_eq_some_iff.mp H
           try dsimp only at H
           have A23 := Aside0.mk A230
           clear A230
           obtain ⟨⟨t812, t813⟩, A240, H⟩ := Option.bind_eq_some_iff.mp H
           try dsimp only at H
           have A24 := Aside0.mk A240
           clear A240
           have H' := Aside0.mk H
           clear H
           try go_wp2
           replace HO_804001 := Aside0.mk (Kd.R_drew HO_804001.out)
           replace BK797 := Aside0.mk (blk_drew BK797.out)
           replace BK798 := Aside0.mk (blk_drew BK798.out)
           replace BK803 := Aside0.mk (blk_drew BK803.out)
           replace HB := Aside0.mk (below_drew1 HB.out)
           have p804 : 0 ≤ (x7_2 : Int) := of_decide_eq_true (by first | (with_reducible assumption) | assumption)
           have q804 : x7_2 < (l1.length : Int) := of_decide_eq_true (by first | (with_reducible assumption) | assumption)
           obtain ⟨ad804, A804_2, c804_2, e804, hx804_0, hx804_1, hx804_2, hl804_2, hi804_2⟩ := at_T46 HR1.out x7_2 p804 q804
           have hw804_2 := hx804_2
           have hw804_1 := hx804_1
           have hw804_0 := hx804_0
           cases e804
           replace hx804_0 := (HB.out.cell (World.block_lt_of_cell? w _ hx804_0)).trans hx804_0
           replace hx804_1 := (HB.out.cell (World.block_lt_of_cell? w _ hx804_1)).trans hx804_1
           replace hx804_2 := (HB.out.cell (World.block_lt_of_cell? w _ hx804_2)).trans hx804_2
           have HR804_2 := Aside0.mk hi804_2
           have HC804_2 := Aside0.mk hl804_2
           clear hi804_2 hl804_2
           replace p804 := eq_true p804
           replace q804 := eq_true q804
           have p805 : 0 ≤ (x6_1 : Int) := of_decide_eq_true (by first | (with_reducible assumption) | assumption)
           have q805 : x6_1 < (l0_2.length : Int) := of_decide_eq_true (by first | (with_reducible assumption) | assumption)
           obtain ⟨ad805, A805_2, c805_2, e805, hx805_0, hx805_1, hx805_2, hl805_2, hi805_2⟩ := at_T46 HR0_2.out x6_1 p805 q805
           have hw805_2 := hx805_2
           have hw805_1 := hx805_1
           have hw805_0 := hx805_0
           cases e805
           replace hx805_0 := (HB.out.cell (World.block_lt_of_cell? w _ hx805_0)).trans hx805_0
           replace hx805_1 := (HB.out.cell (World.block_lt_of_cell? w _ hx805_1)).trans hx805_1
           replace hx805_2 := (HB.out.cell (World.block_lt_of_cell? w _ hx805_2)).trans hx805_2
           have HR805_2 := Aside0.mk hi805_2
           have HC805_2 := Aside0.mk hl805_2
           clear hi805_2 hl805_2
           replace p805 := eq_true p805
           replace q805 := eq_true q805
           refine start_ (n := 12) (S := fun w' => w'.cell? ⟨gb797, 0, none⟩ = some (.bool a0_0) ∧ w'.cell? ⟨gb797, 1, none⟩ = some (.slice A0_1 l0_1.length c0_1) ∧ w'.cell? ⟨gb797, 2, none⟩ = some (.slice (some ad805) l0_2.length c0_2) ∧ w'.cell? (ad804.add ((x7_2).toNat * 3)) = some (.int .i64 ((rd_T46 l1 x7_2).f0)) ∧ w'.cell? ⟨(ad804.add ((x7_2).toNat * 3)).block, (ad804.add ((x7_2).toNat * 3)).off + 1, none⟩ = some (.bool ((rd_T46 l1 x7_2).f1.f0)) ∧ w'.cell? ⟨(ad804.add ((x7_2).toNat * 3)).block, (ad804.add ((x7_2).toNat * 3)).off + 2, none⟩ = some (.slice A804_2 ((rd_T46 l1 x7_2).f1.f1).length c804_2) ∧ w'.cell? (ad805.add ((x6_1).toNat * 3)) = some (.int .i64 ((rd_T46 l0_2 x6_1).f0)) ∧ w'.cell? ⟨(ad805.add ((x6_1).toNat * 3)).block, (ad805.add ((x6_1).toNat * 3)).off + 1, none⟩ = some (.bool ((rd_T46 l0_2 x6_1).f1.f0)) ∧ w'.cell? ⟨(ad805.add ((x6_1).toNat * 3)).block, (ad805.add ((x6_1).toNat * 3)).off + 2, none⟩ = some (.slice A805_2 ((rd_T46 l0_2 x6_1).f1.f1).length c805_2)) (ds := []) #[false, false, false, false, false, false, false, false, false, false, false, false] (by kernel_rfl) rfl rfl ⟨bc0 BK797.out, bc1 BK797.out, bc2 BK797.out, ((HB.out.cell (World.block_lt_of_cell? w _ hw804_0)).trans hw804_0), ((HB.out.cell (World.block_lt_of_cell? w _ hw804_1)).trans hw804_1), ((HB.out.cell (World.block_lt_of_cell? w _ hw804_2)).trans hw804_2), ((HB.out.cell (World.block_lt_of_cell? w _ hw805_0)).trans hw805_0), ((HB.out.cell (World.block_lt_of_cell? w _ hw805_1)).trans hw805_1), ((HB.out.cell (World.block_lt_of_cell? w _ hw805_2)).trans hw805_2)⟩ (fun hHeld => ?_); refine with_tabW gudgeonref13_Value.tab8 gudgeonref13_Value.bits8 (fun HT_ HW_ => ?_)
           generalize wr.drew = w25 at HO_804001 BK797 BK798 BK803 HB HR804_2 HR805_2 hx804_0 hx804_1 hx804_2 hx805_0 hx805_1 hx805_2 hHeld ⊢
           refine pure_ (i := 0) (N := some 24) (v := ?_) (a' := ?_) #[true, false, false, false, false, false, false, false, false, false, false, false] rfl rfl (any_of HT_.out (by kernel_rfl)) (fun _ _ _ h => h) (Or.inl ⟨by rfl, ?_⟩) ?_ ?_
           rotate_left
           ·intro w'
            go_simp
            with_reducible rfl
           rotate_left
           ·simp only [Act.put, List.setIfInBounds_toArray, List.set_cons_zero, List.set_cons_succ, i64_w, i32_w]
            rfl
           refine pure_ (i := 1) (N := some 25) (v := ?_) (a' := ?_) #[true, true, false, false, false, false, false, false, false, false, false, false] rfl rfl (any_of HT_.out (by kernel_rfl)) (fun _ _ _ h => h) (Or.inl ⟨by rfl, ?_⟩) ?_ ?_
           rotate_left
           ·intro w'
            go_simp
            with_reducible rfl
           rotate_left
           ·simp only [Act.put, List.setIfInBounds_toArray, List.set_cons_zero, List.set_cons_succ, i64_w, i32_w]
            rfl
           refine pure_ (i := 2) (N := some 26) (v := ?_) (a' := ?_) #[true, true, true, false, false, false, false, false, false, false, false, false] rfl rfl (any_of HT_.out (by kernel_rfl)) (fun _ _ _ h => h) (Or.inl ⟨by rfl, ?_⟩) ?_ ?_
           rotate_left
           ·intro w'
            go_simp
            with_reducible rfl
           rotate_left
           ·simp only [Act.put, List.setIfInBounds_toArray, List.set_cons_zero, List.set_cons_succ, i64_w, i32_w]
            rfl
           refine pure_ (i := 3) (N := some 27) (v := ?_) (a' := ?_) #[true, true, true, true, false, false, false, false, false, false, false, false] rfl rfl (any_of HT_.out (by kernel_rfl)) (fun _ _ _ h => h) (Or.inl ⟨by rfl, ?_⟩) ?_ ?_
           rotate_left
           ·intro w'
            go_simp
            with_reducible rfl
           rotate_left
           ·simp only [Act.put, List.setIfInBounds_toArray, List.set_cons_zero, List.set_cons_succ, i64_w, i32_w]
            rfl
           refine pure_ (i := 5) (N := some 29) (v := ?_) (a' := ?_) #[true, true, true, true, false, true, false, false, false, false, false, false] rfl rfl (any_of HT_.out (by kernel_rfl)) (fun _ _ _ h => h) (Or.inl ⟨by rfl, ?_⟩) ?_ ?_
           rotate_left
           ·intro w'
            go_simp
            with_reducible rfl
           rotate_left
           ·simp only [Act.put, List.setIfInBounds_toArray, List.set_cons_zero, List.set_cons_succ, i64_w, i32_w]
            rfl
           refine pure_ (i := 7) (N := some 31) (v := ?_) (a' := ?_) #[true, true, true, true, false, true, false, true, false, false, false, false] rfl rfl (any_of HT_.out (by kernel_rfl)) (fun _ _ _ h => h) (Or.inl ⟨by rfl, ?_⟩) ?_ ?_
           rotate_left
           ·intro w'
            go_simp
            with_reducible rfl
           rotate_left
           ·simp only [Act.put, List.setIfInBounds_toArray, List.set_cons_zero, List.set_cons_succ, i64_w, i32_w]
            rfl
           refine take_ (i := 4) (N := some 28) (v := ?_) (a' := ?_) #[true, true, true, true, true, true, false, true, false, false, false, false] rfl rfl (take_ofW HT_.out HW_.out (by kernel_rfl)) (fun _ _ _ h => h) (Or.inl ⟨by rfl, ?_⟩) hHeld ?_ ?_
           rotate_left
           ·rintro w' ⟨s0, s1, s2, s3, s4, s5, s6, s7, s8⟩
            go_simp
            with_reducible rfl
           rotate_left
           ·simp only [Act.put, List.setIfInBounds_toArray, List.set_cons_zero, List.set_cons_succ, i64_w, i32_w]
            rfl
           refine take_ (i := 6) (N := some 30) (v := ?_) (a' := ?_) #[true, true, true, true, true, true, true, true, false, false, false, false] rfl rfl (take_ofW HT_.out HW_.out (by kernel_rfl)) (fun _ _ _ h => h) (Or.inl ⟨by rfl, ?_⟩) hHeld ?_ ?_
           rotate_left
           ·rintro w' ⟨s0, s1, s2, s3, s4, s5, s6, s7, s8⟩
            go_simp
            with_reducible rfl
           rotate_left
           ·simp only [Act.put, List.setIfInBounds_toArray, List.set_cons_zero, List.set_cons_succ, i64_w, i32_w]
            rfl
           refine pure_ (i := 8) (N := some 32) (v := ?_) (a' := ?_) #[true, true, true, true, true, true, true, true, true, false, false, false] rfl rfl (any_of HT_.out (by kernel_rfl)) (fun _ _ _ h => h) (Or.inl ⟨by rfl, ?_⟩) ?_ ?_
           rotate_left
           ·intro w'
            go_simp
            with_reducible rfl
           rotate_left
           ·simp only [Act.put, List.setIfInBounds_toArray, List.set_cons_zero, List.set_cons_succ, i64_w, i32_w]
            rfl
           refine pure_ (i := 9) (N := some 33) (v := ?_) (a' := ?_) #[true, true, true, true, true, true, true, true, true, true, false, false] rfl rfl (any_of HT_.out (by kernel_rfl)) (fun _ _ _ h => h) (Or.inl ⟨by rfl, ?_⟩) ?_ ?_
           rotate_left
           ·intro w'
            go_simp
            with_reducible rfl
           rotate_left
           ·simp only [Act.put, List.setIfInBounds_toArray, List.set_cons_zero, List.set_cons_succ, i64_w, i32_w]
            rfl
           refine take_ (i := 10) (N := some 34) (v := ?_) (a' := ?_) #[true, true, true, true, true, true, true, true, true, true, true, false] rfl rfl (take_ofW HT_.out HW_.out (by kernel_rfl)) (fun _ _ _ h => h) (Or.inl ⟨by rfl, ?_⟩) hHeld ?_ ?_
           rotate_left
           ·rintro w' ⟨s0, s1, s2, s3, s4, s5, s6, s7, s8⟩
            go_simp
            with_reducible rfl
           rotate_left
           ·simp only [Act.put, List.setIfInBounds_toArray, List.set_cons_zero, List.set_cons_succ, i64_w, i32_w]
            rfl
           refine pure_ (i := 11) (N := some 35) (v := ?_) (a' := ?_) #[true, true, true, true, true, true, true, true, true, true, true, true] rfl rfl (any_of HT_.out (by kernel_rfl)) (fun _ _ _ h => h) (Or.inl ⟨by rfl, ?_⟩) ?_ ?_
           rotate_left
           ·intro w'
            go_simp
            with_reducible rfl
           rotate_left
           ·simp only [Act.put, List.setIfInBounds_toArray, List.set_cons_zero, List.set_cons_succ, i64_w, i32_w]
            rfl
           refine done_ (done_of HT_.out (by kernel_rfl)) ?_
           try go_wp2
           replace HO_804001 := Aside0.mk (Kd.R_drew HO_804001.out)
           replace BK797 := Aside0.mk (blk_drew BK797.out)
           replace BK798 := Aside0.mk (blk_drew BK798.out)
           replace BK803 := Aside0.mk (blk_drew BK803.out)
           replace HB := Aside0.mk (below_drew1 HB.out)
           have p806 : 0 ≤ (x6_1 : Int) := of_decide_eq_true (by first | (with_reducible assumption) | assumption)
           have q806 : x6_1 < (l0_2.length : Int) := of_decide_eq_true (by first | (with_reducible assumption) | assumption)
           obtain ⟨ad806, A806_2, c806_2, e806, hx806_0, hx806_1, hx806_2, hl806_2, hi806_2⟩ := at_T46 HR0_2.out x6_1 p806 q806
           have hw806_2 := hx806_2
           have hw806_1 := hx806_1
           have hw806_0 := hx806_0
           obtain rfl : ad805 = ad806 := (by injection e806)
           replace hx806_0 := (HB.out.cell (World.block_lt_of_cell? w _ hx806_0)).trans hx806_0
           replace hx806_1 := (HB.out.cell (World.block_lt_of_cell? w _ hx806_1)).trans hx806_1
           replace hx806_2 := (HB.out.cell (World.block_lt_of_cell? w _ hx806_2)).trans hx806_2
           have HR806_2 := Aside0.mk hi806_2
           have HC806_2 := Aside0.mk hl806_2
           clear hi806_2 hl806_2
           replace p806 := eq_true p806
           replace q806 := eq_true q806
           have p807 : 0 ≤ (x7_2 : Int) := of_decide_eq_true (by first | (with_reducible assumption) | assumption)
           have q807 : x7_2 < (l1.length : Int) := of_decide_eq_true (by first | (with_reducible assumption) | assumption)
           obtain ⟨ad807, A807_2, c807_2, e807, hx807_0, hx807_1, hx807_2, hl807_2, hi807_2⟩ := at_T46 HR1.out x7_2 p807 q807
           have hw807_2 := hx807_2
           have hw807_1 := hx807_1
           have hw807_0 := hx807_0
           obtain rfl : ad804 = ad807 := (by injection e807)
           replace hx807_0 := (HB.out.cell (World.block_lt_of_cell? w _ hx807_0)).trans hx807_0
           replace hx807_1 := (HB.out.cell (World.block_lt_of_cell? w _ hx807_1)).trans hx807_1
           replace hx807_2 := (HB.out.cell (World.block_lt_of_cell? w _ hx807_2)).trans hx807_2
           have HR807_2 := Aside0.mk hi807_2
           have HC807_2 := Aside0.mk hl807_2
           clear hi807_2 hl807_2
           replace p807 := eq_true p807
           replace q807 := eq_true q807
           refine start_ (n := 15) (S := fun w' => w'.cell? ⟨gb803, 0, none⟩ = some (.bool x804000_2) ∧ w'.cell? ⟨gb803, 1, none⟩ = some (u804001) ∧ w'.cell? ⟨gb797, 0, none⟩ = some (.bool a0_0) ∧ w'.cell? ⟨gb797, 1, none⟩ = some (.slice A0_1 l0_1.length c0_1) ∧ w'.cell? ⟨gb797, 2, none⟩ = some (.slice (some ad805) l0_2.length c0_2) ∧ w'.cell? (ad805.add ((x6_1).toNat * 3)) = some (.int .i64 ((rd_T46 l0_2 x6_1).f0)) ∧ w'.cell? ⟨(ad805.add ((x6_1).toNat * 3)).block, (ad805.add ((x6_1).toNat * 3)).off + 1, none⟩ = some (.bool ((rd_T46 l0_2 x6_1).f1.f0)) ∧ w'.cell? ⟨(ad805.add ((x6_1).toNat * 3)).block, (ad805.add ((x6_1).toNat * 3)).off + 2, none⟩ = some (.slice A806_2 ((rd_T46 l0_2 x6_1).f1.f1).length c806_2) ∧ w'.cell? (ad804.add ((x7_2).toNat * 3)) = some (.int .i64 ((rd_T46 l1 x7_2).f0)) ∧ w'.cell? ⟨(ad804.add ((x7_2).toNat * 3)).block, (ad804.add ((x7_2).toNat * 3)).off + 1, none⟩ = some (.bool ((rd_T46 l1 x7_2).f1.f0)) ∧ w'.cell? ⟨(ad804.add ((x7_2).toNat * 3)).block, (ad804.add ((x7_2).toNat * 3)).off + 2, none⟩ = some (.slice A807_2 ((rd_T46 l1 x7_2).f1.f1).length c807_2)) (ds := [14]) #[false, false, false, false, false, false, false, false, false, false, false, false, false, false, false] (by kernel_rfl) rfl rfl ⟨bc0 BK803.out, bc1 BK803.out, bc0 BK797.out, bc1 BK797.out, bc2 BK797.out, ((HB.out.cell (World.block_lt_of_cell? w _ hw806_0)).trans hw806_0), ((HB.out.cell (World.block_lt_of_cell? w _ hw806_1)).trans hw806_1), ((HB.out.cell (World.block_lt_of_cell? w _ hw806_2)).trans hw806_2), ((HB.out.cell (World.block_lt_of_cell? w _ hw807_0)).trans hw807_0), ((HB.out.cell (World.block_lt_of_cell? w _ hw807_1)).trans hw807_1), ((HB.out.cell (World.block_lt_of_cell? w _ hw807_2)).trans hw807_2)⟩ (fun hHeld => ?_); refine with_tabW gudgeonref13_Value.tab9 gudgeonref13_Value.bits9 (fun HT_ HW_ => ?_)
           generalize w25.drew = w26 at HO_804001 BK797 BK798 BK803 HB HR806_2 HR807_2 hx806_0 hx806_1 hx806_2 hx807_0 hx807_1 hx807_2 hHeld ⊢
           refine pure_ (i := 1) (N := some 37) (v := ?_) (a' := ?_) #[false, true, false, false, false, false, false, false, false, false, false, false, false, false, false] rfl rfl (any_of HT_.out (by kernel_rfl)) (fun _ _ _ h => h) (Or.inl ⟨by rfl, ?_⟩) ?_ ?_
           rotate_left
           ·intro w'
            go_simp
            with_reducible rfl
           rotate_left
           ·simp only [Act.put, List.setIfInBounds_toArray, List.set_cons_zero, List.set_cons_succ, i64_w, i32_w]
            rfl
           refine pure_ (i := 3) (N := some 39) (v := ?_) (a' := ?_) #[false, true, false, true, false, false, false, false, false, false, false, false, false, false, false] rfl rfl (any_of HT_.out (by kernel_rfl)) (fun _ _ _ h => h) (Or.inl ⟨by rfl, ?_⟩) ?_ ?_
           rotate_left
           ·intro w'
            go_simp
            with_reducible rfl
           rotate_left
           ·simp only [Act.put, List.setIfInBounds_toArray, List.set_cons_zero, List.set_cons_succ, i64_w, i32_w]
            rfl
           refine pure_ (i := 7) (N := some 43) (v := ?_) (a' := ?_) #[false, true, false, true, false, false, false, true, false, false, false, false, false, false, false] rfl rfl (any_of HT_.out (by kernel_rfl)) (fun _ _ _ h => h) (Or.inl ⟨by rfl, ?_⟩) ?_ ?_
           rotate_left
           ·intro w'
            go_simp
            with_reducible rfl
           rotate_left
           ·simp only [Act.put, List.setIfInBounds_toArray, List.set_cons_zero, List.set_cons_succ, i64_w, i32_w]
            rfl
           refine pure_ (i := 8) (N := some 44) (v := ?_) (a' := ?_) #[false, true, false, true, false, false, false, true, true, false, false, false, false, false, false] rfl rfl (any_of HT_.out (by kernel_rfl)) (fun _ _ _ h => h) (Or.inl ⟨by rfl, ?_⟩) ?_ ?_
           rotate_left
           ·intro w'
            go_simp
            with_reducible rfl
           rotate_left
           ·simp only [Act.put, List.setIfInBounds_toArray, List.set_cons_zero, List.set_cons_succ, i64_w, i32_w]
            rfl
           refine pure_ (i := 9) (N := some 45) (v := ?_) (a' := ?_) #[false, true, false, true, false, false, false, true, true, true, false, false, false, false, false] rfl rfl (any_of HT_.out (by kernel_rfl)) (fun _ _ _ h => h) (Or.inl ⟨by rfl, ?_⟩) ?_ ?_
           rotate_left
           ·intro w'
            go_simp
            with_reducible rfl
           rotate_left
           ·simp only [Act.put, List.setIfInBounds_toArray, List.set_cons_zero, List.set_cons_succ, i64_w, i32_w]
            rfl
           refine pure_ (i := 10) (N := some 46) (v := ?_) (a' := ?_) #[false, true, false, true, false, false, false, true, true, true, true, false, false, false, false] rfl rfl (any_of HT_.out (by kernel_rfl)) (fun _ _ _ h => h) (Or.inl ⟨by rfl, ?_⟩) ?_ ?_
           rotate_left
           ·intro w'
            go_simp
            with_reducible rfl
           rotate_left
           ·simp only [Act.put, List.setIfInBounds_toArray, List.set_cons_zero, List.set_cons_succ, i64_w, i32_w]
            rfl
           refine take_ (i := 0) (N := some 36) (v := ?_) (a' := ?_) #[true, true, false, true, false, false, false, true, true, true, true, false, false, false, false] rfl rfl (take_ofW HT_.out HW_.out (by kernel_rfl)) (fun _ _ _ h => h) (Or.inl ⟨by rfl, ?_⟩) hHeld ?_ ?_
           rotate_left
           ·rintro w' ⟨s0, s1, s2, s3, s4, s5, s6, s7, s8, s9, s10⟩
            go_simp
            with_reducible rfl
           rotate_left
           ·simp only [Act.put, List.setIfInBounds_toArray, List.set_cons_zero, List.set_cons_succ, i64_w, i32_w]
            rfl
           refine take_ (i := 2) (N := some 38) (v := ?_) (a' := ?_) #[true, true, true, true, false, false, false, true, true, true, true, false, false, false, false] rfl rfl (take_ofW HT_.out HW_.out (by kernel_rfl)) (fun _ _ _ h => h) (Or.inl ⟨by rfl, ?_⟩) hHeld ?_ ?_
           rotate_left
           ·rintro w' ⟨s0, s1, s2, s3, s4, s5, s6, s7, s8, s9, s10⟩
            go_simp
            with_reducible rfl
           rotate_left
           ·simp only [Act.put, List.setIfInBounds_toArray, List.set_cons_zero, List.set_cons_succ, i64_w, i32_w]
            rfl
           refine pure_ (i := 4) (N := some 40) (v := ?_) (a' := ?_) #[true, true, true, true, true, false, false, true, true, true, true, false, false, false, false] rfl rfl (any_of HT_.out (by kernel_rfl)) (fun _ _ _ h => h) (Or.inl ⟨by rfl, ?_⟩) ?_ ?_
           rotate_left
           ·intro w'
            go_simp
            with_reducible rfl
           rotate_left
           ·simp only [Act.put, List.setIfInBounds_toArray, List.set_cons_zero, List.set_cons_succ, i64_w, i32_w]
            rfl
           refine pure_ (i := 5) (N := some 41) (v := ?_) (a' := ?_) #[true, true, true, true, true, true, false, true, true, true, true, false, false, false, false] rfl rfl (any_of HT_.out (by kernel_rfl)) (fun _ _ _ h => h) (Or.inl ⟨by rfl, ?_⟩) ?_ ?_
           rotate_left
           ·intro w'
            go_simp
            with_reducible rfl
           rotate_left
           ·simp only [Act.put, List.setIfInBounds_toArray, List.set_cons_zero, List.set_cons_succ, i64_w, i32_w]
            rfl
           refine take_ (i := 6) (N := some 42) (v := ?_) (a' := ?_) #[true, true, true, true, true, true, true, true, true, true, true, false, false, false, false] rfl rfl (take_ofW HT_.out HW_.out (by kernel_rfl)) (fun _ _ _ h => h) (Or.inl ⟨by rfl, ?_⟩) hHeld ?_ ?_
           rotate_left
           ·rintro w' ⟨s0, s1, s2, s3, s4, s5, s6, s7, s8, s9, s10⟩
            go_simp
            with_reducible rfl
           rotate_left
           ·simp only [Act.put, List.setIfInBounds_toArray, List.set_cons_zero, List.set_cons_succ, i64_w, i32_w]
            rfl
           refine take_ (i := 11) (N := some 47) (v := ?_) (a' := ?_) #[true, true, true, true, true, true, true, true, true, true, true, true, false, false, false] rfl rfl (take_ofW HT_.out HW_.out (by kernel_rfl)) (fun _ _ _ h => h) (Or.inl ⟨by rfl, ?_⟩) hHeld ?_ ?_
           rotate_left
           ·rintro w' ⟨s0, s1, s2, s3, s4, s5, s6, s7, s8, s9, s10⟩
            go_simp
            with_reducible rfl
           rotate_left
           ·simp only [Act.put, List.setIfInBounds_toArray, List.set_cons_zero, List.set_cons_succ, i64_w, i32_w]
            rfl
           refine one_ (i := 12) (N := some 48) #[true, true, true, true, true, true, true, true, true, true, true, true, true, false, false] rfl rfl (one_of HT_.out (by kernel_rfl)) (by decide) (fun K hK => ?_)
           refine goR Try.func56 [.agg #[.bool ((rd_T46 l0_2 x6_1).f1.f0), .slice A806_2 ((rd_T46 l0_2 x6_1).f1.f1).length c806_2], .agg #[.bool ((rd_T46 l1 x7_2).f1.f0), .slice A807_2 ((rd_T46 l1 x7_2).f1.f1).length c807_2]] ?_
           with_reducible refine (gudgeonref02_Mul.calls k2 ((rd_T46 l0_2 x6_1).f1.f0) _ _ ((rd_T46 l0_2 x6_1).f1.f1) ((rd_T46 l1 x7_2).f1.f0) _ _ ((rd_T46 l1 x7_2).f1.f1) t808 t809 _ ?side1 ?side2 ?side3 ?side4 A23.out).mono ?_
           (case side1 => exact (Kd.C_below HR806_2.out HB.out))
           (case side2 => exact HC806_2.out)
           (case side3 => exact (Kd.C_below HR807_2.out HB.out))
           (case side4 => exact HC807_2.out)
           rintro e w27 ⟨v810, rfl, ho0, hb⟩
           refine ⟨_, rfl, ?_⟩
           have HO811 := Aside0.mk (Kd.R_lower (Kd.R_new' ho0 (Kd.R_lt HO_804001.out)) (below_size HB.out))
           replace HO_804001 := Aside0.mk (Kd.R_elder' HO_804001.out (Kd.R_base ho0) hb)
           replace BK797 := Aside0.mk (blk_below BK797.out hb)
           replace BK798 := Aside0.mk (blk_below BK798.out hb)
           replace BK803 := Aside0.mk (blk_below BK803.out hb)
           replace HB := Aside0.mk (below_step HB.out hb)
           (try clear hb)
           (try clear hb2)
           (try clear hk)
           (try clear hi)
           (try clear ho0)
           obtain ⟨Ao28, co28, eo28⟩ := Kd.R_slice HO_804001.out
           subst eo28
           obtain ⟨Ao29, co29, eo29⟩ := Kd.R_slice HO811.out
           subst eo29
           refine hK.out _ _ ⟨bc0 BK803.out, bc1 BK803.out, bc0 BK797.out, bc1 BK797.out, bc2 BK797.out, ((HB.out.cell (World.block_lt_of_cell? w _ hw806_0)).trans hw806_0), ((HB.out.cell (World.block_lt_of_cell? w _ hw806_1)).trans hw806_1), ((HB.out.cell (World.block_lt_of_cell? w _ hw806_2)).trans hw806_2), ((HB.out.cell (World.block_lt_of_cell? w _ hw807_0)).trans hw807_0), ((HB.out.cell (World.block_lt_of_cell? w _ hw807_1)).trans hw807_1), ((HB.out.cell (World.block_lt_of_cell? w _ hw807_2)).trans hw807_2)⟩ (fun hHeld => ?_)
           clear hK K
           refine norm_ (a' := ?_) ?_ ?_
           rotate_left
           ·show Act.put _ (some 48) _ = _
            simp only [Act.put, List.setIfInBounds_toArray, List.set_cons_zero, List.set_cons_succ, i64_w, i32_w]
            rfl
           refine one_ (i := 13) (N := some 49) #[true, true, true, true, true, true, true, true, true, true, true, true, true, true, false] rfl rfl (one_of HT_.out (by kernel_rfl)) (by decide) (fun K hK => ?_)
           refine goR Try.func55 [.agg #[.bool x804000_2, .slice Ao28 x804001_2.length co28], .agg #[.bool t808, .slice Ao29 t809.length co29]] ?_
           with_reducible refine (gudgeonref02_Add.calls k2 x804000_2 _ _ x804001_2 t808 _ _ t809 t812 t813 _ ?side1 ?side2 ?side3 ?side4 A24.out).mono ?_
           (case side1 => exact (Kd.R_reads' HO_804001.out).2.2)
           (case side2 => exact (Kd.R_reads' HO_804001.out).2.1)
           (case side3 => exact (Kd.R_reads' HO811.out).2.2)
           (case side4 => exact (Kd.R_reads' HO811.out).2.1)
           rintro e w30 ⟨v814, rfl, ho0, hb⟩
           refine ⟨_, rfl, ?_⟩
           have HO815 := Aside0.mk (Kd.R_lower (Kd.R_new' (Kd.R_new' ho0 (Kd.R_lt HO_804001.out)) (Kd.R_lt HO811.out)) (below_size HB.out))
           replace BK797 := Aside0.mk (blk_below BK797.out hb)
           replace BK798 := Aside0.mk (blk_below BK798.out hb)
           replace BK803 := Aside0.mk (blk_below BK803.out hb)
           replace HB := Aside0.mk (below_step HB.out hb)
           (try clear hb)
           (try clear hb2)
           (try clear hk)
           (try clear hi)
           (try clear ho0)
           obtain ⟨Ao32, co32, eo32⟩ := Kd.R_slice HO815.out
           subst eo32
           refine hK.out _ _ ⟨bc0 BK803.out, bc1 BK803.out, bc0 BK797.out, bc1 BK797.out, bc2 BK797.out, ((HB.out.cell (World.block_lt_of_cell? w _ hw806_0)).trans hw806_0), ((HB.out.cell (World.block_lt_of_cell? w _ hw806_1)).trans hw806_1), ((HB.out.cell (World.block_lt_of_cell? w _ hw806_2)).trans hw806_2), ((HB.out.cell (World.block_lt_of_cell? w _ hw807_0)).trans hw807_0), ((HB.out.cell (World.block_lt_of_cell? w _ hw807_1)).trans hw807_1), ((HB.out.cell (World.block_lt_of_cell? w _ hw807_2)).trans hw807_2)⟩ (fun hHeld => ?_)
           clear hK K
           refine norm_ (a' := ?_) ?_ ?_
           rotate_left
           ·show Act.put _ (some 49) _ = _
            simp only [Act.put, List.setIfInBounds_toArray, List.set_cons_zero, List.set_cons_succ, i64_w, i32_w]
            rfl
           refine last_ (i := 14) (N := none) #[true, true, true, true, true, true, true, true, true, true, true, true, true, true, true] rfl rfl (one_of HT_.out (by kernel_rfl)) (by decide) (fun K hK => ?_)
           have hs31 : w30.cell? ⟨gb803, 0, none⟩ = some (.bool x804000_2) := bc0 BK803.out
           have hfs31 := blk_frozen BK803.out 0
           have hns31_0 := NB797_803.out
           have hns31_1 := NB798_803.out
           have hms31_0 := NB803_797.out
           have hms31_1 := NB803_798.out
           have hs33 : w30.cell? ⟨gb803, 1, none⟩ = some (.slice Ao28 x804001_2.length co28) := bc1 BK803.out
           have hfs33 := blk_frozen BK803.out 1
           have hns33_0 := NB797_803.out
           have hns33_1 := NB798_803.out
           have hms33_0 := NB803_797.out
           have hms33_1 := NB803_798.out
           refine skip_ (w1 := ?_) (by rfl) rfl ?_ ?_
           rotate_left
           ·go_simp
            rfl
           refine hK.out _ _ ?_
           clear hK K
           refine done_ (done_of HT_.out (by kernel_rfl)) ?_
           try go_wp2
           go_roundg k2
           case measure => have := HK1.out; have := HK2.out; omega
           case rel => exact ⟨(wrap64 (x6_1 + 1)), (t812), (t813), (.slice Ao32 t813.length co32), (by first | rfl | (simp; done)), H', ⟨by have := HK1.out; have := HK2.out; omega⟩, ⟨Kd.R_mono (Kd.R_far (p := ⟨gb803, 1, none⟩) (Kd.R_far (p := ⟨gb803, 0, none⟩) (Kd.R_types HO815.out BK803.out (by decide)) (fun _ hk => hk.2) (.bool t812)) (fun _ hk => hk.2) (.slice Ao32 t813.length co32)) (fun _ hk => trivial)⟩, ⟨by refine blk_far ?_ NB797_803.out _; refine blk_far ?_ NB797_803.out _; exact BK797.out⟩, ⟨by refine blk_far ?_ NB798_803.out _; refine blk_far ?_ NB798_803.out _; exact BK798.out⟩, ⟨by refine blk_put (cs := #[.bool t812, .slice Ao28 x804001_2.length co28]) ?_ 1 _ rfl; refine blk_put (cs := #[.bool x804000_2, .slice Ao28 x804001_2.length co28]) ?_ 0 _ rfl; exact BK803.out⟩, ⟨by repeat first | exact HB.out | refine bxSet ?_ (by assumption) | apply below_alloc | apply pw_below_drewN⟩⟩
          ·rw [if_neg c22] at H
           have c22b0 : (((rd_T46 l1 x7_2).f0) == ((rd_T46 l0_2 x6_1).f0)) = false := beq_eq_false_iff_ne.mpr c22
           have c22b1 : (((rd_T46 l1 x7_2).f0) != ((rd_T46 l0_2 x6_1).f0)) = true := bne_iff_ne.mpr c22
           have H' := Aside0.mk H
           clear H
           try go_wp2
           replace HO_804001 := Aside0.mk (Kd.R_drew HO_804001.out)
           replace BK797 := Aside0.mk (blk_drew BK797.out)
           replace BK798 := Aside0.mk (blk_drew BK798.out)
           replace BK803 := Aside0.mk (blk_drew BK803.out)
           replace HB := Aside0.mk (below_drew1 HB.out)
           have p804 : 0 ≤ (x7_2 : Int) := of_decide_eq_true (by first | (with_reducible assumption) | assumption)
           have q804 : x7_2 < (l1.length : Int) := of_decide_eq_true (by first | (with_reducible assumption) | assumption)
           obtain ⟨ad804, A804_2, c804_2, e804, hx804_0, hx804_1, hx804_2, hl804_2, hi804_2⟩ := at_T46 HR1.out x7_2 p804 q804
           have hw804_2 := hx804_2
           have hw804_1 := hx804_1
           have hw804_0 := hx804_0
           cases e804
           replace hx804_0 := (HB.out.cell (World.block_lt_of_cell? w _ hx804_0)).trans hx804_0
           replace hx804_1 := (HB.out.cell (World.block_lt_of_cell? w _ hx804_1)).trans hx804_1
           replace hx804_2 := (HB.out.cell (World.block_lt_of_cell? w _ hx804_2)).trans hx804_2
           have HR804_2 := Aside0.mk hi804_2
           have HC804_2 := Aside0.mk hl804_2
           clear hi804_2 hl804_2
           replace p804 := eq_true p804
           replace q804 := eq_true q804
           have p805 : 0 ≤ (x6_1 : Int) := of_decide_eq_true (by first | (with_reducible assumption) | assumption)
           have q805 : x6_1 < (l0_2.length : Int) := of_decide_eq_true (by first | (with_reducible assumption) | assumption)
           obtain ⟨ad805, A805_2, c805_2, e805, hx805_0, hx805_1, hx805_2, hl805_2, hi805_2⟩ := at_T46 HR0_2.out x6_1 p805 q805
           have hw805_2 := hx805_2
           have hw805_1 := hx805_1
           have hw805_0 := hx805_0
           cases e805
           replace hx805_0 := (HB.out.cell (World.block_lt_of_cell? w _ hx805_0)).trans hx805_0
           replace hx805_1 := (HB.out.cell (World.block_lt_of_cell? w _ hx805_1)).trans hx805_1
           replace hx805_2 := (HB.out.cell (World.block_lt_of_cell? w _ hx805_2)).trans hx805_2
           have HR805_2 := Aside0.mk hi805_2
           have HC805_2 := Aside0.mk hl805_2
           clear hi805_2 hl805_2
           replace p805 := eq_true p805
           replace q805 := eq_true q805
           refine start_ (n := 12) (S := fun w' => w'.cell? ⟨gb797, 0, none⟩ = some (.bool a0_0) ∧ w'.cell? ⟨gb797, 1, none⟩ = some (.slice A0_1 l0_1.length c0_1) ∧ w'.cell? ⟨gb797, 2, none⟩ = some (.slice (some ad805) l0_2.length c0_2) ∧ w'.cell? (ad804.add ((x7_2).toNat * 3)) = some (.int .i64 ((rd_T46 l1 x7_2).f0)) ∧ w'.cell? ⟨(ad804.add ((x7_2).toNat * 3)).block, (ad804.add ((x7_2).toNat * 3)).off + 1, none⟩ = some (.bool ((rd_T46 l1 x7_2).f1.f0)) ∧ w'.cell? ⟨(ad804.add ((x7_2).toNat * 3)).block, (ad804.add ((x7_2).toNat * 3)).off + 2, none⟩ = some (.slice A804_2 ((rd_T46 l1 x7_2).f1.f1).length c804_2) ∧ w'.cell? (ad805.add ((x6_1).toNat * 3)) = some (.int .i64 ((rd_T46 l0_2 x6_1).f0)) ∧ w'.cell? ⟨(ad805.add ((x6_1).toNat * 3)).block, (ad805.add ((x6_1).toNat * 3)).off + 1, none⟩ = some (.bool ((rd_T46 l0_2 x6_1).f1.f0)) ∧ w'.cell? ⟨(ad805.add ((x6_1).toNat * 3)).block, (ad805.add ((x6_1).toNat * 3)).off + 2, none⟩ = some (.slice A805_2 ((rd_T46 l0_2 x6_1).f1.f1).length c805_2)) (ds := []) #[false, false, false, false, false, false, false, false, false, false, false, false] (by kernel_rfl) rfl rfl ⟨bc0 BK797.out, bc1 BK797.out, bc2 BK797.out, ((HB.out.cell (World.block_lt_of_cell? w _ hw804_0)).trans hw804_0), ((HB.out.cell (World.block_lt_of_cell? w _ hw804_1)).trans hw804_1), ((HB.out.cell (World.block_lt_of_cell? w _ hw804_2)).trans hw804_2), ((HB.out.cell (World.block_lt_of_cell? w _ hw805_0)).trans hw805_0), ((HB.out.cell (World.block_lt_of_cell? w _ hw805_1)).trans hw805_1), ((HB.out.cell (World.block_lt_of_cell? w _ hw805_2)).trans hw805_2)⟩ (fun hHeld => ?_); refine with_tabW gudgeonref13_Value.tab8 gudgeonref13_Value.bits8 (fun HT_ HW_ => ?_)
           generalize wr.drew = w34 at HO_804001 BK797 BK798 BK803 HB HR804_2 HR805_2 hx804_0 hx804_1 hx804_2 hx805_0 hx805_1 hx805_2 hHeld ⊢
           refine pure_ (i := 0) (N := some 24) (v := ?_) (a' := ?_) #[true, false, false, false, false, false, false, false, false, false, false, false] rfl rfl (any_of HT_.out (by kernel_rfl)) (fun _ _ _ h => h) (Or.inl ⟨by rfl, ?_⟩) ?_ ?_
           rotate_left
           ·intro w'
            go_simp
            with_reducible rfl
           rotate_left
           ·simp only [Act.put, List.setIfInBounds_toArray, List.set_cons_zero, List.set_cons_succ, i64_w, i32_w]
            rfl
           refine pure_ (i := 1) (N := some 25) (v := ?_) (a' := ?_) #[true, true, false, false, false, false, false, false, false, false, false, false] rfl rfl (any_of HT_.out (by kernel_rfl)) (fun _ _ _ h => h) (Or.inl ⟨by rfl, ?_⟩) ?_ ?_
           rotate_left
           ·intro w'
            go_simp
            with_reducible rfl
           rotate_left
           ·simp only [Act.put, List.setIfInBounds_toArray, List.set_cons_zero, List.set_cons_succ, i64_w, i32_w]
            rfl
           refine pure_ (i := 2) (N := some 26) (v := ?_) (a' := ?_) #[true, true, true, false, false, false, false, false, false, false, false, false] rfl rfl (any_of HT_.out (by kernel_rfl)) (fun _ _ _ h => h) (Or.inl ⟨by rfl, ?_⟩) ?_ ?_
           rotate_left
           ·intro w'
            go_simp
            with_reducible rfl
           rotate_left
           ·simp only [Act.put, List.setIfInBounds_toArray, List.set_cons_zero, List.set_cons_succ, i64_w, i32_w]
            rfl
           refine pure_ (i := 3) (N := some 27) (v := ?_) (a' := ?_) #[true, true, true, true, false, false, false, false, false, false, false, false] rfl rfl (any_of HT_.out (by kernel_rfl)) (fun _ _ _ h => h) (Or.inl ⟨by rfl, ?_⟩) ?_ ?_
           rotate_left
           ·intro w'
            go_simp
            with_reducible rfl
           rotate_left
           ·simp only [Act.put, List.setIfInBounds_toArray, List.set_cons_zero, List.set_cons_succ, i64_w, i32_w]
            rfl
           refine pure_ (i := 5) (N := some 29) (v := ?_) (a' := ?_) #[true, true, true, true, false, true, false, false, false, false, false, false] rfl rfl (any_of HT_.out (by kernel_rfl)) (fun _ _ _ h => h) (Or.inl ⟨by rfl, ?_⟩) ?_ ?_
           rotate_left
           ·intro w'
            go_simp
            with_reducible rfl
           rotate_left
           ·simp only [Act.put, List.setIfInBounds_toArray, List.set_cons_zero, List.set_cons_succ, i64_w, i32_w]
            rfl
           refine pure_ (i := 7) (N := some 31) (v := ?_) (a' := ?_) #[true, true, true, true, false, true, false, true, false, false, false, false] rfl rfl (any_of HT_.out (by kernel_rfl)) (fun _ _ _ h => h) (Or.inl ⟨by rfl, ?_⟩) ?_ ?_
           rotate_left
           ·intro w'
            go_simp
            with_reducible rfl
           rotate_left
           ·simp only [Act.put, List.setIfInBounds_toArray, List.set_cons_zero, List.set_cons_succ, i64_w, i32_w]
            rfl
           refine take_ (i := 4) (N := some 28) (v := ?_) (a' := ?_) #[true, true, true, true, true, true, false, true, false, false, false, false] rfl rfl (take_ofW HT_.out HW_.out (by kernel_rfl)) (fun _ _ _ h => h) (Or.inl ⟨by rfl, ?_⟩) hHeld ?_ ?_
           rotate_left
           ·rintro w' ⟨s0, s1, s2, s3, s4, s5, s6, s7, s8⟩
            go_simp
            with_reducible rfl
           rotate_left
           ·simp only [Act.put, List.setIfInBounds_toArray, List.set_cons_zero, List.set_cons_succ, i64_w, i32_w]
            rfl
           refine take_ (i := 6) (N := some 30) (v := ?_) (a' := ?_) #[true, true, true, true, true, true, true, true, false, false, false, false] rfl rfl (take_ofW HT_.out HW_.out (by kernel_rfl)) (fun _ _ _ h => h) (Or.inl ⟨by rfl, ?_⟩) hHeld ?_ ?_
           rotate_left
           ·rintro w' ⟨s0, s1, s2, s3, s4, s5, s6, s7, s8⟩
            go_simp
            with_reducible rfl
           rotate_left
           ·simp only [Act.put, List.setIfInBounds_toArray, List.set_cons_zero, List.set_cons_succ, i64_w, i32_w]
            rfl
           refine pure_ (i := 8) (N := some 32) (v := ?_) (a' := ?_) #[true, true, true, true, true, true, true, true, true, false, false, false] rfl rfl (any_of HT_.out (by kernel_rfl)) (fun _ _ _ h => h) (Or.inl ⟨by rfl, ?_⟩) ?_ ?_
           rotate_left
           ·intro w'
            go_simp
            with_reducible rfl
           rotate_left
           ·simp only [Act.put, List.setIfInBounds_toArray, List.set_cons_zero, List.set_cons_succ, i64_w, i32_w]
            rfl
           refine pure_ (i := 9) (N := some 33) (v := ?_) (a' := ?_) #[true, true, true, true, true, true, true, true, true, true, false, false] rfl rfl (any_of HT_.out (by kernel_rfl)) (fun _ _ _ h => h) (Or.inl ⟨by rfl, ?_⟩) ?_ ?_
           rotate_left
           ·intro w'
            go_simp
            with_reducible rfl
           rotate_left
           ·simp only [Act.put, List.setIfInBounds_toArray, List.set_cons_zero, List.set_cons_succ, i64_w, i32_w]
            rfl
           refine take_ (i := 10) (N := some 34) (v := ?_) (a' := ?_) #[true, true, true, true, true, true, true, true, true, true, true, false] rfl rfl (take_ofW HT_.out HW_.out (by kernel_rfl)) (fun _ _ _ h => h) (Or.inl ⟨by rfl, ?_⟩) hHeld ?_ ?_
           rotate_left
           ·rintro w' ⟨s0, s1, s2, s3, s4, s5, s6, s7, s8⟩
            go_simp
            with_reducible rfl
           rotate_left
           ·simp only [Act.put, List.setIfInBounds_toArray, List.set_cons_zero, List.set_cons_succ, i64_w, i32_w]
            rfl
           refine pure_ (i := 11) (N := some 35) (v := ?_) (a' := ?_) #[true, true, true, true, true, true, true, true, true, true, true, true] rfl rfl (any_of HT_.out (by kernel_rfl)) (fun _ _ _ h => h) (Or.inl ⟨by rfl, ?_⟩) ?_ ?_
           rotate_left
           ·intro w'
            go_simp
            with_reducible rfl
           rotate_left
           ·simp only [Act.put, List.setIfInBounds_toArray, List.set_cons_zero, List.set_cons_succ, i64_w, i32_w]
            rfl
           refine done_ (done_of HT_.out (by kernel_rfl)) ?_
           try go_wp2
           go_roundg k2
           case measure => have := HK1.out; have := HK2.out; omega
           case rel => exact ⟨(wrap64 (x7_2 + 1)), (x804000_2), (x804001_2), (u804001), (by first | rfl | (simp; done)), H', ⟨by have := HK1.out; have := HK2.out; omega⟩, ⟨HO_804001.out⟩, ⟨BK797.out⟩, ⟨BK798.out⟩, ⟨BK803.out⟩, ⟨HB.out⟩⟩
         ·rw [if_neg c21] at H
          exact absurd H (by simp)
        ·rw [if_neg c20] at H
         exact absurd H (by simp)
       ·rw [if_neg c19] at H
        exact absurd H (by simp)
      ·rw [if_neg c18] at H
       have c18b0 : decide (x7_2 < (l1.length : Int)) = false := decide_eq_false c18
       clear c18
       have H' := Aside0.mk H
       clear H
       go_wp2
       go_roundg k2
       case measure => have := HK1.out; have := HK2.out; omega
       case rel => exact ⟨(wrap64 (x6_1 + 1)), (x804000_2), (x804001_2), (u804001), (by first | rfl | (simp; done)), H', ⟨by have := HK1.out; have := HK2.out; omega⟩, ⟨HO_804001.out⟩, ⟨BK797.out⟩, ⟨BK798.out⟩, ⟨BK803.out⟩, ⟨HB.out⟩⟩
   ·rw [if_neg c14] at H
    have c14b0 : decide (x6_1 < (l0_2.length : Int)) = false := decide_eq_false c14
    clear c14
    simp only [Option.some.injEq, Prod.mk.injEq] at H
    obtain ⟨rfl, rfl⟩ := H
    have hnb35 := NB797_798.out
    have hnc35 := NB798_797.out
    have hnb36 := NB797_803.out
    have hnc36 := NB803_797.out
    have hcz37_0 : wr.cell? ⟨gb797, 0, none⟩ = some (.bool a0_0) := bc0 BK797.out
    have hcz37_1 : wr.cell? ⟨gb797, 1, none⟩ = some (.slice A0_1 l0_1.length c0_1) := bc1 BK797.out
    have hcz37_2 : wr.cell? ⟨gb797, 2, none⟩ = some (.slice A0_2 l0_2.length c0_2) := bc2 BK797.out
    have hfz37_0 := blk_frozen BK797.out 0
    have hfz37_1 := blk_frozen BK797.out 1
    have hfz37_2 := blk_frozen BK797.out 2
    have hnb38 := NB803_798.out
    have hnc38 := NB798_803.out
    have hcz39_0 : wr.cell? ⟨gb803, 0, none⟩ = some (.bool x804000_1) := bc0 BK803.out
    have hcz39_1 : wr.cell? ⟨gb803, 1, none⟩ = some (u804001) := bc1 BK803.out
    have hfz39_0 := blk_frozen BK803.out 0
    have hfz39_1 := blk_frozen BK803.out 1
    have hcz40_0 : wr.cell? ⟨gb798, 0, none⟩ = some (.bool false) := bc0 BK798.out
    have hcz40_1 : wr.cell? ⟨gb798, 1, none⟩ = some (.slice none 0 0) := bc1 BK798.out
    have hfz40_0 := blk_frozen BK798.out 0
    have hfz40_1 := blk_frozen BK798.out 1
    obtain ⟨Ao41, co41, eo41⟩ := Kd.R_slice HO_804001.out
    subst eo41
    go_wp2
    refine bodyPost_ret (results_cell_row rfl _ _ gb798 24 #[.bool x804000_1, .slice Ao41 x804001_1.length co41] (0, 0) _ rfl (by refine blk_put (cs := #[.bool x804000_1, .slice none 0 0]) ?_ 1 _ rfl; refine blk_put (cs := #[.bool false, .slice none 0 0]) ?_ 0 _ rfl; exact BK798.out) Try.underlying24 rfl (by kernel_rfl)) rfl ?_
    exact ⟨_, rfl, Kd.R_mono (Kd.R_far (p := ⟨gb798, 1, none⟩) (Kd.R_far (p := ⟨gb798, 0, none⟩) (Kd.R_types HO_804001.out BK798.out (by decide)) (fun _ hk => hk.2) (.bool x804000_1)) (fun _ hk => hk.2) (.slice Ao41 x804001_1.length co41)) (fun _ hk => trivial), by repeat first | exact HB.out | refine bxSet ?_ (by assumption) | apply below_alloc | apply pw_below_drewN⟩

end Go.Proofs.Ytdicjemjmlbmlaa.PA
/- The reference's values; LinValues. -/
namespace Go.Proofs.Ytdicjemjmlbmlaa.S
set_option linter.unusedVariables false
set_option linter.unusedSimpArgs false
open Go.RowKit Go.Proofs.Ytdicjemjmlbmlaa.V Go.Proofs.Ytdicjemjmlbmlaa.PA Go.Proofs.Ytdicjemjmlbmlaa.H Go.Proofs.YtdicjemjmlbmlaaW.PrintWords Go.Proofs.YtdicjemjmlbmlaaW.PrintLast Go.Proofs.YtdicjemjmlbmlaaW.PrintMore

theorem rvalue_l1 {l1' : List Int} (b : Bool) (l1 : List Int) {l2 l : List S46} (hs : Small 20 8 l1 l2) (hs' : Small 20 8 l1' l) (i : Nat) (hi : i < l2.length)
    (next : ∀ z : Int, B (100 + (i + 1)) z → Ev (fun k => gudgeonref13_Value.l0 k l ((i + 1 : Nat) : Int) b l1 l2 (W z).1 (W z).2) (W (valP z (l.map prM) ((l2.drop (i + 1)).map prM)))) (z : Int) (hz : B (100 + i) z) :
    ∀ e j, j + e = l.length → Ev (fun k => gudgeonref13_Value.l1 k l (i : Int) (j : Int) b l1 l2 (W z).1 (W z).2) (W (valP (z + (prM l2[i]).2 * lookV (prM l2[i]).1 ((l.drop j).map prM)) (l.map prM) ((l2.drop (i + 1)).map prM))) := by
  have h1 := hs.num
  have h2 := hs'.num
  intro e
  induction e with
  | zero =>
    intro j hj
    refine Ev.step (fun k => by rw [gudgeonref13_Value.l1]) (evN (by omega) ?_)
    rw [wnext (by omega), List.drop_eq_nil_of_le (show l.length ≤ j by omega), show lookV (prM l2[i]).1 (([] : List S46).map prM) = 0 from rfl, Int.mul_zero, Int.add_zero]
    exact next z (hz.mono (by omega))
  | succ e ih =>
    intro j hj
    have hj' : j < l.length := by omega
    refine Ev.step (fun k => by rw [gudgeonref13_Value.l1]) (evP (by omega) (evP (by omega) (evP (by omega) (evP (by omega) ?_))))
    rw [rdM l j hj', rdM l2 i hi, List.drop_eq_getElem_cons hj', List.map_cons]
    obtain ⟨a1, a2⟩ := hs.each _ (List.getElem_mem hi)
    obtain ⟨b1, b2⟩ := hs'.each _ (List.getElem_mem hj')
    by_cases h : l[j].f0 = l2[i].f0
    · rw [show lookV (prM l2[i]).1 (prM l[j] :: (l.drop (j + 1)).map prM) = (prM l[j]).2 from if_pos h]
      have hm : B 16 ((prM l2[i]).2 * (prM l[j]).2) := (((B_in l2[i].f1.f0 a1).mono a2).mul ((B_in l[j].f1.f0 b1).mono b2)).mono (by omega)
      refine evP h (Ev.bind (rMul_ev _ _ _ _ a1 b1 (by omega) (by omega)) ?_)
      have e1 := rAdd_ev (W z).1 (W ((prM l2[i]).2 * (prM l[j]).2)).1 (W z).2 (W ((prM l2[i]).2 * (prM l[j]).2)).2 (W_lim _) (W_lim _) (by have := hz.len; omega) (by have := hm.len; omega)
      rw [wv_W, wv_W] at e1
      refine Ev.bind e1 ?_
      rw [wnext (by omega)]
      exact next _ ((hz.add (hm.mono (by omega))).mono (by omega))
    · rw [show lookV (prM l2[i]).1 (prM l[j] :: (l.drop (j + 1)).map prM) = lookV (prM l2[i]).1 ((l.drop (j + 1)).map prM) from if_neg h]
      refine evN h ?_
      rw [wnext (by omega)]
      exact ih (j + 1) (by omega)
theorem rvalue_l0 {l1' : List Int} (b : Bool) (l1 : List Int) {l2 l : List S46} (hs : Small 20 8 l1 l2) (hs' : Small 20 8 l1' l) : ∀ d i (z : Int), i + d = l2.length → B (100 + i) z → Ev (fun k => gudgeonref13_Value.l0 k l (i : Int) b l1 l2 (W z).1 (W z).2) (W (valP z (l.map prM) ((l2.drop i).map prM))) := by
  intro d
  induction d with
  | zero =>
    intro i z hi hz
    refine Ev.step (fun k => by rw [gudgeonref13_Value.l0]) (evN (by omega) (evR ?_))
    rw [List.drop_eq_nil_of_le (by omega)]; rfl
  | succ d ih =>
    intro i z hi hz
    have hi' : i < l2.length := by omega
    refine Ev.step (fun k => by rw [gudgeonref13_Value.l0]) (evP (by omega) ?_)
    have := rvalue_l1 b l1 hs hs' i hi' (fun z' hz' => ih (i + 1) z' (by omega) hz') z hz l.length 0 (by omega)
    rw [List.drop_eq_getElem_cons hi', List.map_cons]
    exact this
theorem rvalue_ev {l1' : List Int} (b : Bool) (l1 : List Int) {l2 l : List S46} (hs : Small 20 8 l1 l2) (hs' : Small 20 8 l1' l) : Ev (fun k => gudgeonref13_Value.f k b l1 l2 l) (W (wv b l1 + dot (l.map prM) (l2.map prM))) := by
  refine Ev.congr (fun k => rfl) (Ev.bind (rNorm_ev b l1 hs.lim (Nat.le_trans hs.len (by decide))) ?_)
  have := rvalue_l0 b l1 hs hs' l2.length 0 (wv b l1) (by omega) ((hs.b b).mono (by omega))
  rw [List.drop_zero, valP_dot] at this
  exact this
theorem value_facts {b : Bool} {l1 : List Int} {l2 l : List S46} (hs : Small 20 8 l1 l2) (hs' : Small 20 8 [] l) : ∃ k vb vl, lin_Value.f b l1 l2 l = some (vb, vl) ∧ gudgeonref13_Value.f k b l1 l2 l = some (vb, vl) ∧ vl.length ≤ 1000000 := by
  have hd := dot_B hs'.bq _ hs.bq
  have hn := hs.num
  rw [List.length_map] at hd
  have hb : B 100 (wv b l1 + dot (l.map prM) (l2.map prM)) := (((hs.b b).mono (n := 99) (by omega)).add (hd.mono (by omega))).mono (by omega)
  obtain ⟨k, hk⟩ := (rvalue_ev b l1 hs hs').rounds
  exact ⟨k, _, _, lvalue_ev hs (by omega) (by omega) hs' (by omega) (by omega) b, hk, Nat.le_trans hb.len (by decide)⟩
end Go.Proofs.Ytdicjemjmlbmlaa.S
/- LinValues: the law's walk. -/
namespace Go.Proofs.Ytdicjemjmlbmlaa.H
set_option linter.unusedSimpArgs false
set_option linter.unusedVariables false
open Go.RowKit Go.Proofs.YtdicjemjmlbmlaaW.PrintWords Go.Proofs.YtdicjemjmlbmlaaW.PrintLast Go.Proofs.YtdicjemjmlbmlaaW.PrintMore Go.Proofs.Ytdicjemjmlbmlaa.PA Go.Proofs.Ytdicjemjmlbmlaa.V Go.Proofs.Ytdicjemjmlbmlaa.S
theorem q_rValue {w : World} {k : Nat} {b : Bool} {A B D : Option Addr} {c d f : Nat} {l : List Int} {p q : List S46} {rb : Bool} {rl : List Int} (h1 : RI w A c l) (h2 : RP w B d p) (h3 : RP w D f q) (h : gudgeonref13_Value.f k b l p q = some (rb, rl)) :
    Calls Try.prog 18 #[.agg #[.bool b, .slice A l.length c, .slice B p.length d], .slice D q.length f] w (AW w rb rl) := by
  refine (gudgeonref13_Value.calls k b _ _ l _ _ p _ _ q rb rl w h1.r h1.s h2.r h2.s h3.r h3.s h).mono ?_
  rintro e w' ⟨v, rfl, ho, hb⟩
  obtain ⟨A, c, rfl, hr⟩ := RI.of ho
  exact ⟨A, c, rfl, hr, hb⟩
set_option maxHeartbeats 8000000 in
set_option maxRecDepth 100000 in
theorem law_LinValues (b : Bool) (A1 : Option Addr) (c1 : Nat) (l1 : List Int) (A2 : Option Addr) (c2 : Nat) (l2 : List S46) (A3 : Option Addr) (c3 : Nat) (l : List S46) (w : World) (r1 : RI w A1 c1 l1) (r2 : RP w A2 c2 l2) (r3 : RP w A3 c3 l) (h1 : Lim l1) (h2 : ∀ x ∈ l2, Lim x.f1.f1) (h3 : ∀ x ∈ l, Lim x.f1.f1) :
    Calls Try.prog 4 #[.agg #[.bool b, .slice A1 l1.length c1, .slice A2 l2.length c2], .slice A3 l.length c3] w fun e w' => e = .returned (.bool true) ∧ Below w.heap.size w w' := by
  have mixed : Try.prog.follows Departure.mixedOrders = true := by kernel_rfl
  have hu27 := Try.underlying27
  obtain ⟨kl, hkl⟩ := (light_ev b false l1 [] l2 l).rounds
  generalize hlt : (lightB l1 l2 && lightB [] l) = lt at hkl
  have HLT := Aside0.mk hlt
  have HLM := Aside0.mk (And.intro h1 (And.intro h2 h3))
  have HKL := Aside0.mk hkl
  have R1 := Aside0.mk r1
  have R2 := Aside0.mk r2
  have R3 := Aside0.mk r3
  have HB := Aside0.mk (Below.refl w.heap.size w)
  clear hlt h1 h2 h3 hkl r1 r2 r3
  go_enter Try.func4, Try.ntmps4
  go_upto_region 3 with (first
    | ((with_reducible refine gate_dst (N := 2) rfl ?_); refine box_event ?hg (N := 2) ?hd (cs := #[.bool b, .slice A1 l1.length c1, .slice A2 l2.length c2]) (t := 27) ?hr ?_; (case hd => rfl); (case hg => rfl); (case hr => first | (go_simp; done) | (go_simp; rfl)); intro gA hg w1 hbox hb; have R1 := Aside0.mk (R1.out.b hb); have R2 := Aside0.mk (R2.out.b hb); have R3 := Aside0.mk (R3.out.b hb); have HB := Aside0.mk (below_step HB.out hb); have KA := Aside0.mk hbox; clear hg hbox hb)
    | (go_at_call 9; (with_reducible refine (q_awake _).mono ?_); rintro e w2 ⟨rfl, hb⟩; have KA := Aside0.mk (blk_below KA.out hb); have R1 := Aside0.mk (R1.out.b hb); have R2 := Aside0.mk (R2.out.b hb); have R3 := Aside0.mk (R3.out.b hb); have HB := Aside0.mk (below_step HB.out hb); clear hb; have cKA := blk_all KA.out)
    | (go_at_call 10; (with_reducible refine (q_light0 R1.out R2.out R3.out HKL.out).mono ?_); rintro e w3 ⟨rfl, hb⟩; have KA := Aside0.mk (blk_below KA.out hb); have R1 := Aside0.mk (R1.out.b hb); have R2 := Aside0.mk (R2.out.b hb); have R3 := Aside0.mk (R3.out.b hb); have HB := Aside0.mk (below_step HB.out hb); clear hb; have cKA := blk_all KA.out))
  cases lt with
  | false =>
    go_wp2
    go_ret
    exact ⟨rfl, HB.out⟩
  | true =>
    have hlb := HLT.out
    rw [Bool.and_eq_true] at hlb
    obtain ⟨kr, vb, vl, hv, hr, hvl⟩ := value_facts (b := b) (small_of hlb.1 HLM.out.1 HLM.out.2.1) (small_of hlb.2 Lim.nil HLM.out.2.2)
    have HV := Aside0.mk hv
    have HR := Aside0.mk hr
    have HVL := Aside0.mk hvl
    clear hv hr hvl hlb HLT HLM
    go_wp2_with fail
    refine start_ (n := 8) (S := fun w' => (∀ i : Nat, w'.cell? ⟨gA, i, none⟩ = (#[.bool b, .slice A1 l1.length c1, .slice A2 l2.length c2] : Array Value)[i]?)) (ds := []) #[false, false, false, false, false, false, false, false] (by kernel_rfl) rfl rfl (blk_all KA.out) (fun hHeld => ?_)
    refine pure_ (i := 1) (N := some 21) (v := ?_) (a' := ?_) #[false, true, false, false, false, false, false, false] rfl rfl (by kernel_rfl) (fun _ _ _ h => h) (Or.inl ⟨by rfl, ?_⟩) ?_ ?_
    rotate_left
    · intro w'
      go_simp
      with_reducible rfl
    rotate_left
    · simp only [Act.put, List.setIfInBounds_toArray, List.set_cons_zero, List.set_cons_succ, i64_w, i32_w]
      rfl
    refine pure_ (i := 4) (N := some 24) (v := ?_) (a' := ?_) #[false, true, false, false, true, false, false, false] rfl rfl (by kernel_rfl) (fun _ _ _ h => h) (Or.inl ⟨by rfl, ?_⟩) ?_ ?_
    rotate_left
    · intro w'
      go_simp
      with_reducible rfl
    rotate_left
    · simp only [Act.put, List.setIfInBounds_toArray, List.set_cons_zero, List.set_cons_succ, i64_w, i32_w]
      rfl
    refine take_ (i := 0) (N := some 20) (v := ?_) (a' := ?_) #[true, true, false, false, true, false, false, false] rfl rfl (by kernel_rfl) (fun _ _ _ h => h) (Or.inl ⟨by rfl, ?_⟩) hHeld ?_ ?_
    rotate_left
    · intro w' s0
      go_simp
      with_reducible rfl
    rotate_left
    · simp only [Act.put, List.setIfInBounds_toArray, List.set_cons_zero, List.set_cons_succ, i64_w, i32_w]
      rfl
    refine take_ (i := 3) (N := some 23) (v := ?_) (a' := ?_) #[true, true, false, true, true, false, false, false] rfl rfl (by kernel_rfl) (fun _ _ _ h => h) (Or.inl ⟨by rfl, ?_⟩) hHeld ?_ ?_
    rotate_left
    · intro w' s0
      go_simp
      with_reducible rfl
    rotate_left
    · simp only [Act.put, List.setIfInBounds_toArray, List.set_cons_zero, List.set_cons_succ, i64_w, i32_w]
      rfl
    refine one_ (i := 2) (N := some 22) #[true, true, true, true, true, false, false, false] rfl rfl (by kernel_rfl) (by decide) (fun K hK => ?_)
    refine goes_ Try.func17 (by kernel_rfl) rfl #[.agg #[.bool b, .slice A1 l1.length c1, .slice A2 l2.length c2], .slice A3 l.length c3] (by rfl) rfl rfl (by simp only [List.map_toArray, List.map_cons, List.map_nil]; rfl) ?_
    with_reducible refine (q_Value (R1.out.b (below_drew1 (Below.refl _ _))) (R2.out.b (below_drew1 (Below.refl _ _))) (R3.out.b (below_drew1 (Below.refl _ _))) HV.out).mono ?_
    rintro e wa ⟨A4, c4, rfl, r4, hb⟩
    have hy := below_step (below_drew1 (Below.refl w3.heap.size w3)) hb
    have R4 := Aside0.mk r4; have KA := Aside0.mk (blk_below KA.out hy); have R1 := Aside0.mk (R1.out.b hy); have R2 := Aside0.mk (R2.out.b hy); have R3 := Aside0.mk (R3.out.b hy); have HB := Aside0.mk (below_step HB.out hy)
    clear r4 hb hy
    refine ⟨_, rfl, ?_⟩
    refine hK.out _ _ (blk_all KA.out) (fun hHeld => ?_)
    clear hK K
    refine norm_ (a' := ?_) ?_ ?_
    rotate_left
    · show Act.put _ (some 22) _ = _
      simp only [Act.put, List.setIfInBounds_toArray, List.set_cons_zero, List.set_cons_succ, i64_w, i32_w]
      rfl
    refine one_ (i := 5) (N := some 25) #[true, true, true, true, true, true, false, false] rfl rfl (by kernel_rfl) (by decide) (fun K hK => ?_)
    refine goes_ Try.func18 (by kernel_rfl) rfl #[.agg #[.bool b, .slice A1 l1.length c1, .slice A2 l2.length c2], .slice A3 l.length c3] (by rfl) rfl rfl (by simp only [List.map_toArray, List.map_cons, List.map_nil]; rfl) ?_
    with_reducible refine (q_rValue R1.out R2.out R3.out HR.out).mono ?_
    rintro e wb ⟨A5, c5, rfl, r5, hb⟩
    have R5 := Aside0.mk r5; have KA := Aside0.mk (blk_below KA.out hb); have R4 := Aside0.mk (R4.out.b hb); have HB := Aside0.mk (below_step HB.out hb)
    clear r5 hb
    refine ⟨_, rfl, ?_⟩
    refine hK.out _ _ (blk_all KA.out) (fun hHeld => ?_)
    clear hK K
    refine norm_ (a' := ?_) ?_ ?_
    rotate_left
    · show Act.put _ (some 25) _ = _
      simp only [Act.put, List.setIfInBounds_toArray, List.set_cons_zero, List.set_cons_succ, i64_w, i32_w]
      rfl
    refine one_ (i := 6) (N := some 26) #[true, true, true, true, true, true, true, false] rfl rfl (by kernel_rfl) (by decide) (fun K hK => ?_)
    refine goes_ Try.func16 (by kernel_rfl) rfl #[.agg #[.bool vb, .slice A4 vl.length c4], .agg #[.bool vb, .slice A5 vl.length c5]] (by rfl) rfl rfl (by simp only [List.map_toArray, List.map_cons, List.map_nil]; rfl) ?_
    with_reducible refine (q_rSame R4.out.r R4.out.s R5.out.r R5.out.s HVL.out).mono ?_
    rintro e wc ⟨rfl, hb⟩
    have KA := Aside0.mk (blk_below KA.out hb); have HB := Aside0.mk (below_step HB.out hb)
    clear hb
    refine ⟨_, rfl, ?_⟩
    refine hK.out _ _ (blk_all KA.out) (fun hHeld => ?_)
    clear hK K
    refine norm_ (a' := ?_) ?_ ?_
    rotate_left
    · show Act.put _ (some 26) _ = _
      simp only [Act.put, List.setIfInBounds_toArray, List.set_cons_zero, List.set_cons_succ, i64_w, i32_w]
      rfl
    refine pure_ (i := 7) (N := some 7) (v := ?_) (a' := ?_) #[true, true, true, true, true, true, true, true] rfl rfl (by kernel_rfl) (fun _ _ _ h => h) (Or.inl ⟨by rfl, ?_⟩) ?_ ?_
    rotate_left
    · intro w'
      go_simp
      with_reducible rfl
    rotate_left
    · simp only [Act.put, List.setIfInBounds_toArray, List.set_cons_zero, List.set_cons_succ, i64_w, i32_w]
      rfl
    refine done_ (by kernel_rfl) ?_

    go_wp2
    go_ret
    exact ⟨rfl, by repeat first | exact HB.out | apply below_drew1⟩
end Go.Proofs.Ytdicjemjmlbmlaa.H
/- An argument that is a sum. -/
namespace Go.Proofs.Ytdicjemjmlbmlaa.H
open Go.RowKit Go.WideShapes Go.Proofs.YtdicjemjmlbmlaaW.PrintWords Go.Proofs.Ytdicjemjmlbmlaa.PA
theorem Opens.arg_struct {α : Type} {P : Program} {d : Kd α} {t : TypeId} {fs : Array Field} {g : α → Prop} {H : Type} {enc : TypeId × Value → H} {w : World} {r : Reach} {b0 base : Nat} {spare : Nat → Bool} {held : Bool} {v : Value} {D : DataW H} {pl : List MemPlace}
    (ht : P.underlying t = some (.struct fs)) (he : Opens P d t g) (hv : Value.okWide P w r b0 t v) (h : DataW.Trod enc P w base spare held t v D pl) : ∃ (x : α) (cs : List Value), v = .agg cs.toArray ∧ d.K w x cs ∧ g x := by
  obtain ⟨cs, rfl, hsz⟩ := okWide_struct ht hv
  obtain ⟨fuel, hf⟩ := h
  obtain ⟨x, h1, h2⟩ := he.2 _ _ _ _ _ _ _ _ _ hf
  exact ⟨x, cs.toList, rfl, h1, h2⟩
set_option maxRecDepth 100000 in
theorem opens_whole : Opens Try.prog k24 24 (fun x => True ∧ ∀ y ∈ x.f1, (Lit.int .u32 y).wf = true) := (Opens.iso (Opens.struct Try.underlying24 (by kernel_rfl) (OpensAt.cons rfl (Opens.bool (by kernel_rfl) (by kernel_rfl)) (OpensAt.last rfl (Opens.slice (by kernel_rfl) (by kernel_rfl) (Opens.int (by kernel_rfl) (by kernel_rfl))) rfl))) _ (fun a => ⟨⟨a.1, a.2⟩, rfl⟩))
set_option maxRecDepth 100000 in
theorem opens_mono : Opens Try.prog k46 46 (fun x => (Lit.int .i64 x.f0).wf = true ∧ (True ∧ ∀ y ∈ x.f1.f1, (Lit.int .u32 y).wf = true)) := (Opens.iso (Opens.struct Try.underlying46 (by kernel_rfl) (OpensAt.cons rfl (Opens.int (by kernel_rfl) (by kernel_rfl)) (OpensAt.last rfl opens_whole rfl))) _ (fun a => ⟨⟨a.1, a.2⟩, rfl⟩))
set_option maxRecDepth 100000 in
set_option linter.constructorNameAsVariable false in
theorem arg_lin {H : Type} {enc : TypeId × Value → H} {w : World} {r : Reach} {b0 base : Nat} {spare : Nat → Bool} {held : Bool} {v : Value} {D : DataW H} {pl : List MemPlace}
    (hv : Value.okWide Try.prog w r b0 27 v) (h : DataW.Trod enc Try.prog w base spare held 27 v D pl) :
    ∃ (b : Bool) (A1 : Option Addr) (c1 : Nat) (l1 : List Int) (A2 : Option Addr) (c2 : Nat) (l2 : List S46), v = .agg #[.bool b, .slice A1 l1.length c1, .slice A2 l2.length c2] ∧ Kd.C (Kd.int .u32) w A1 l1.length l1 ∧ l1.length ≤ c1 ∧ Kd.C k46 w A2 l2.length l2 ∧ l2.length ≤ c2 ∧ (∀ x ∈ l1, (Lit.int .u32 x).wf = true) ∧ ∀ x ∈ l2, (Lit.int .i64 x.f0).wf = true ∧ ∀ y ∈ x.f1.f1, (Lit.int .u32 y).wf = true := by
  obtain ⟨⟨⟨b, l1⟩, l2⟩, cs, rfl, ⟨c0, c1, rfl, ⟨cb, cl, rfl, eb, ⟨A1, n1, rfl, h1, h2⟩⟩, ⟨A2, n2, rfl, h3, h4⟩⟩, g1, g2⟩ := Opens.arg_struct (d := Kd.pair k24 (Kd.slice 46 k46)) Try.underlying27 (Opens.struct Try.underlying27 (by kernel_rfl) (OpensAt.cons rfl opens_whole (OpensAt.last rfl (Opens.slice (by kernel_rfl) (by kernel_rfl) opens_mono) rfl))) hv h
  have eb : cb = [.bool b] := eb
  subst eb
  exact ⟨b, A1, n1, l1, A2, n2, l2, rfl, h2, h1, h4, h3, g1.2, fun x hx => ⟨(g2 x hx).1, (g2 x hx).2.2⟩⟩
end Go.Proofs.Ytdicjemjmlbmlaa.H
/- Written by wip/tools/rows.py. -/
namespace Go.Proofs.Ytdicjemjmlbmlaa.linValues
open Go.ChangeShapes Go.WideShapes Go.ChangeAt Go.RowKit
open Go.ChangeMaps (open_string shut_string)
set_option linter.unusedVariables false
theorem own : ownKnob Try.prog.godebug = none := by kernel_rfl
theorem laidOut : laidOutB Try.prog = true := by kernel_rfl
def IsRow (k : IntKind) (w : World) (a : Option Addr) (len cap : Nat) (zs : List Int) : Prop :=
  (a = none ∧ len = 0 ∧ cap = 0 ∧ zs = []) ∨
  ∃ x, a = some x ∧ len ≤ cap ∧ cap ≤ maxLen ∧ zs.length = cap ∧ (∀ i, i < zs.length → w.cell? (x.add i) = some (.int k (zs.getD i 0))) ∧ ∀ n ∈ zs, (Lit.int k n).wf = true
set_option maxRecDepth 100000 in
theorem lifted (os : Os) (started : os.Started) (H : Type) (enc : TypeId × Value → H) :
    ReturnsInHanded {} Try.checked os 4 .any (Rows.linValuesSpec.pre6 enc Try.prog Try.f4 Rows.linValuesRow.domain false) (Rows.linValuesSpec.post enc Try.prog Try.f4 false true false false) := by
  refine returnsInHanded_of_change_sized (C := Try.checked) own started (by kernel_rfl) Try.func4
    (ChangeSpec.witness6 (enc := enc) (C := Try.checked) false ⟨#[], #[.agg #[.bool false, .slice none 0 0, .slice none 0 0], .slice none 0 0], []⟩ 8 (by kernel_rfl) (by kernel_rfl) (by kernel_rfl) (by kernel_rfl)) ?_
  intro W base args ds gs before hval0 hW hcnd hsz0 _
  have hsz : (DataW.weightsEach Try.prog (Try.f4.params.toList ++ Rows.linValuesSpec.plain.varTypes Try.prog) (ds ++ gs)).all (· ≤ reachBytes) = true := hsz0
  have hval : ∀ (j : Nat) t v, Try.f4.params[j]? = some t → args[j]? = some v → Value.okWide Try.prog W .any base t v := hval0
  have hW' := hW
  obtain ⟨p, q, hA0, hV, rfl, hfz, hnd⟩ := hW
  have hA : DataW.TrodAll enc Try.prog W 0 (fun _ => true) true Try.f4.params.toList args.toList ds p := hA0
  rw [Try.params4] at hA hval hsz
  obtain ⟨v0, vs0, d0, ds0, p0, q0, hargs, rfl, rfl, h0, r0⟩ := trodAll_cons hA
  obtain ⟨v1, vs1, d1, ds1, p1, q1, rfl, rfl, rfl, h1, r1⟩ := trodAll_cons r0
  obtain ⟨rfl, rfl, rfl⟩ := trodAll_nil r1
  obtain rfl : args = #[v0, v1] := by cases args; simp_all
  obtain ⟨rfl, rfl⟩ := trodVars_none hV
  have k0 := h0
  have lt0 : ∀ x ∈ p0, x.block < W.heap.size := by obtain ⟨m, hm⟩ := k0; exact DataW.trod_lt m _ _ _ hm
  obtain ⟨b0, A0, c0, l0, B0, e0, r0_, rfl, hr0, hc0, hs0, hd0, hw0, hx0⟩ := Go.Proofs.Ytdicjemjmlbmlaa.H.arg_lin (hval 0 27 v0 rfl rfl) h0
  obtain ⟨A1, len1, cap1, rfl⟩ := okWide_slice Try.underlying25 (hval 1 25 v1 rfl rfl)
  have k1 := h1
  have lt1 : ∀ x ∈ p1, x.block < W.heap.size := by obtain ⟨m, hm⟩ := k1; exact DataW.trod_lt m _ _ _ hm
  obtain ⟨l1, hll1, hlc1, hr1, hm1⟩ := Go.Proofs.Ytdicjemjmlbmlaa.H.Opens.arg_slice (d := PA.k46) Try.underlying25 (Go.Proofs.Ytdicjemjmlbmlaa.H.Opens.iso (Go.Proofs.Ytdicjemjmlbmlaa.H.Opens.struct Try.underlying46 (by kernel_rfl) (Go.Proofs.Ytdicjemjmlbmlaa.H.OpensAt.cons rfl (Go.Proofs.Ytdicjemjmlbmlaa.H.Opens.int (by kernel_rfl) (by kernel_rfl)) (Go.Proofs.Ytdicjemjmlbmlaa.H.OpensAt.last rfl (Go.Proofs.Ytdicjemjmlbmlaa.H.Opens.iso (Go.Proofs.Ytdicjemjmlbmlaa.H.Opens.struct Try.underlying24 (by kernel_rfl) (Go.Proofs.Ytdicjemjmlbmlaa.H.OpensAt.cons rfl (Go.Proofs.Ytdicjemjmlbmlaa.H.Opens.bool (by kernel_rfl) (by kernel_rfl)) (Go.Proofs.Ytdicjemjmlbmlaa.H.OpensAt.last rfl (Go.Proofs.Ytdicjemjmlbmlaa.H.Opens.slice (by kernel_rfl) (by kernel_rfl) (Go.Proofs.Ytdicjemjmlbmlaa.H.Opens.int (by kernel_rfl) (by kernel_rfl))) rfl))) _ (fun a => ⟨⟨a.1, a.2⟩, rfl⟩)) rfl))) _ (fun a => ⟨⟨a.1, a.2⟩, rfl⟩)) h1
  subst hll1
  clear hA0 hval0 hsz0 hsz
  refine (Go.Proofs.Ytdicjemjmlbmlaa.H.law_LinValues b0 _ _ l0 _ _ r0_ _ _ l1 W ⟨hr0, hc0⟩ ⟨hs0, hd0⟩ ⟨hr1, hlc1⟩ (Go.Proofs.Ytdicjemjmlbmlaa.S.lim_wf hw0) (fun x hx => Go.Proofs.Ytdicjemjmlbmlaa.S.lim_wf (hx0 x hx).2) (fun x hx => Go.Proofs.Ytdicjemjmlbmlaa.S.lim_wf (hm1 x hx).2.2)).mono fun e W' ⟨he, bel⟩ => ?_
  subst he
  exact ⟨_, rfl, _, _, _, [], _, [], hW', trodAll_mk1 (shut_bool Try.underlying4 _), (trodAll_cons_mk (Below.trod laidOut (by kernel_rfl) (of_decide_eq_true (by kernel_rfl)) k0 bel lt0) (trodAll_cons_mk (Below.trod laidOut (by kernel_rfl) (of_decide_eq_true (by kernel_rfl)) k1 bel lt1) trodAll_mk0)), rfl, bel.frame _, fun h => by cases h⟩
theorem over : Rows.linValuesRow.holds Try.pinned (OpenSpec.ofChange Rows.linValuesSpec) :=
  OpenClaim.holds_of_wide 4 Try.f4 rfl rfl rfl rfl rfl rfl rfl ⟨rfl, rfl, rfl, rfl, rfl⟩ rfl rfl rfl rfl rfl (by kernel_rfl) Try.func4 (by kernel_rfl)
    (of_decide_eq_true (by kernel_rfl)) (by unfold Func.isWrapper; first | (rw [if_pos (by decide +kernel)]; kernel_rfl) | (rw [if_neg (by decide +kernel)]; exact ⟨rfl, rfl⟩))
    (fun os started H enc _ => lifted os started H enc)
theorem proved : Rows.LinValuesSaid := over
end Go.Proofs.Ytdicjemjmlbmlaa.linValues
namespace Go.Proofs.Ytdicjemjmlbmlaa
/-- The row, under a short name, for the claim. -/
theorem linValues_holds : Rows.LinValuesSaid := linValues.proved
end Go.Proofs.Ytdicjemjmlbmlaa
