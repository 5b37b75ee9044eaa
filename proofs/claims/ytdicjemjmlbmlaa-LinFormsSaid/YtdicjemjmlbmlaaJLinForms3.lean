/- Joined by wip/tools/shake.py for the claim of LinForms: PAx5, NatC, PAx4, HWin, HDigit, NatD, HDigitW, HLz, PAx6, PAx8, NatE, NatG, NatY, HClo. -/
import Derived.Test.YtdicjemjmlbmlaaJLinForms2
import Derived.Lib.BitFns
import Derived.Test.YtdicjemjmlbmlaaJLinForms1
import Derived.Test.YtdicjemjmlbmlaaProg
import Derived.WalkKit
import Derived.KernelRfl
/- Written by a program of this session, wip/tools/patch_print.py, over the kit's print of the loaded functions. -/
namespace Go.Proofs.Ytdicjemjmlbmlaa.H
end Go.Proofs.Ytdicjemjmlbmlaa.H
namespace Go.Proofs.Ytdicjemjmlbmlaa.PA
open Go.RowKit Go.Proofs.YtdicjemjmlbmlaaW.PrintWords Go.Proofs.YtdicjemjmlbmlaaW.PrintLast Go.Proofs.YtdicjemjmlbmlaaW.PrintMore Go.Proofs.Ytdicjemjmlbmlaa.H
attribute [local go_sem] max2_int min2_int max_two min_two max_three min_three max_four min_four   -- for this text's walks alone
set_option linter.unusedVariables false
set_option linter.unusedSimpArgs false

/-! ### nat_right: function 93 -/
def nat_right.l0 : Nat → List Int → Int → List Int → Int → Int → Option (List Int)
 | 0, _, _, _, _, _ => none
 | k + 1, x0, x1, x5, x11, x12 => if x12 < x11 then ((nat_limb.f x0 (wrap64 (x12 + 1))).bind fun t284 => (if 0 ≤ x12 then (if x12 < (x0.length : Int) then (if 0 ≤ x1 then (if x12 < (x5.length : Int) then (nat_right.l0 k x0 x1 (x5.set (x12 : Int).toNat ((shr .u64 (Go.bits .or .u64 (IntKind.u64.wrap (t284 * 4294967296)) (IntKind.u64.wrap (rd x0 x12))) x1) % 4294967296)) x11 (wrap64 (x12 + 1))) else (none)) else (none)) else (none)) else (none))) else ((nat_Norm.f x5).bind fun t287 => (some t287))
def nat_right.f (k : Nat) (l0 : List Int) (a1 : Int) : Option (List Int) := if 0 ≤ (l0.length : Int) then (if ((l0.length : Int) : Int).toNat ≤ 70368744177664 then (nat_right.l0 k l0 a1 (List.replicate ((l0.length : Int) : Int).toNat 0) (l0.length : Int) 0) else (none)) else (none)
def nat_right.T5 : Bool × List (List Nat × List Nat) := (true, [([], []), ([], []), ([], []), ([], []), ([3], [3]), ([2, 4], [2, 4]), ([5], [5]), ([], []), ([], []), ([7, 8], [7, 8]), ([9], [9]), ([10], [10]), ([6, 11], [6, 11]), ([], []), ([12, 13], [12, 13]), ([14], [14]), ([0, 1, 0, 1, 2, 3, 4, 5, 6, 7, 8, 9, 10, 11, 12, 13, 14, 15], [0, 1]), ([16, 15, 5, 0, 1, 2, 3, 4, 5, 6, 7, 8, 9, 10, 11, 12, 13, 14, 15], [15, 16])])
def nat_right.B5 : List Nat := [0, 0, 0, 0, 8, 28, 60, 0, 0, 384, 896, 1920, 4092, 0, 16380, 32764, 65535, 131071]
theorem nat_right.tab5 : rtab .any (opsOf Try.f93 5) = nat_right.T5 := by kernel_rfl
theorem nat_right.bits5 : waitsOk nat_right.T5.2 nat_right.B5 = true := by kernel_rfl
set_option maxHeartbeats 8000000 in
set_option maxRecDepth 100000 in
theorem nat_right.calls (k : Nat) (A0 : Option Addr) (c0 : Nat) (l0 : List Int) (a1 : Int) (r : List Int) (w : World) (hr0 : Kd.C (Kd.int .u32) w A0 l0.length l0) (hc0 : l0.length ≤ c0) (h : nat_right.f k l0 a1 = some r) :
  Calls Try.prog 93 #[.slice A0 l0.length c0, .int .i64 a1] w fun e w' => ∃ v0_ : Value, e = .returned (v0_) ∧ Kd.R (Kd.int .u32) 81 w' w.heap.size (fun _ => True) v0_ r ∧ Below w.heap.size w w' := by
 have HR0 := Aside0.mk hr0
 have HC0 := Aside0.mk hc0
 clear hr0 hc0
 have HB := Aside0.mk (Below.refl w.heap.size w)
 have H : (if 0 ≤ (l0.length : Int) then (if ((l0.length : Int) : Int).toNat ≤ 70368744177664 then (nat_right.l0 k l0 a1 (List.replicate ((l0.length : Int) : Int).toNat 0) (l0.length : Int) 0) else (none)) else (none)) = some r := h
 clear h
 by_cases c3 : 0 ≤ (l0.length : Int)
 ·rw [if_pos c3] at H
  have c3b0 := eq_true c3
  have c3b1 : decide (0 ≤ (l0.length : Int)) = true := decide_eq_true c3
  clear c3
  by_cases c4 : ((l0.length : Int) : Int).toNat ≤ 70368744177664
  ·rw [if_pos c4] at H
   have c4b0 := eq_true c4
   have c4b1 : decide (((l0.length : Int) : Int).toNat ≤ 70368744177664) = true := decide_eq_true c4
   clear c4
   obtain ⟨y281, hy281⟩ : ∃ y_ : List Int, y_ = (List.replicate ((l0.length : Int) : Int).toNat 0) := ⟨_, rfl⟩
   replace H : (nat_right.l0 k l0 a1 y281 (l0.length : Int) 0) = some r := by first | (rw [hy281]; with_reducible exact H) | (have H2_ := (Option.bind_some _ _).symm.trans H; rw [hy281]; with_reducible exact H2_) | (have H2_ := (Option.bind_some _ _).symm.trans H; with_reducible exact H2_) | with_reducible exact H | (rw [hy281]; exact H) | exact H
   have Ny281 := Aside0.mk hy281
   clear hy281
   have H' := Aside0.mk H
   clear H
   go_enter Try.func93, Try.ntmps93
   go_wp2_with (first | ((with_reducible refine gate_dst (N := 9) rfl ?_); refine Kd.R_make (Kd.int .u32) _ 81 rfl (N := 9) rfl 22 _ _ rfl (l0.length : Int) rfl rfl Try.underlying22 (.int .u32 0) 4 info81 rfl (by decide) (by omega) 0 (ok := fun _ => True) (okp := fun _ => True) rfl (fun _ hk => hk) trivial (of_decide_eq_true (by first | (with_reducible assumption) | assumption)) (Nat.le_trans (Nat.mul_le_mul_right _ (of_decide_eq_true (by first | (with_reducible assumption) | assumption) : (l0.length : Int).toNat ≤ 70368744177664)) (by omega)) (Below.refl _ _) (Nat.le_refl _) ?_; intro v282 w5 ho6 hb hg_ hnew_; clear hg_ hnew_; (first | rw [← Ny281.out] at ho6 | (simp only [Int.reduceToNat] at ho6; rw [← Ny281.out] at ho6)); have n0_ := Aside0.mk (Kd.R_lower ho6 (below_size (by repeat (first | (with_reducible first | exact HB.out | apply below_alloc | apply pw_below_drewN | apply below_drew1) | exact HB.out)))); have n1_ := Aside0.mk (below_step (by repeat (first | (with_reducible first | exact HB.out | apply below_alloc | apply pw_below_drewN | apply below_drew1) | exact HB.out)) hb); clear HB; have HO283 := n0_; have HB := n1_; clear n0_ n1_; clear hb ho6))
   go_loopg [12] k (fun kq v12 w' => ∃ (x5_1 : List Int) (x12_1 : Int), v12 = .int .i64 x12_1 ∧ Aside0 (nat_right.l0 kq l0 a1 x5_1 (l0.length : Int) x12_1 = some r) ∧ Aside0 (kq ≤ k) ∧ Aside0 (Kd.R (Kd.int .u32) 81 w' w.heap.size (fun _ => True) v282 x5_1) ∧ Aside0 (Below w.heap.size w w'))
   case atStart => exact ⟨(y281), (0), (by first | rfl | (simp; done) | (simp [*]; done) | (refine congrArg (Value.int _) ?_; omega) | (refine congrArg Value.bool ?_; generalize ByteArray.toList _ = z_; cases z_ <;> rfl)), H', ⟨Nat.le_refl _⟩, ⟨by (with_reducible repeat (first | apply Kd.R_alloc | apply Kd.R_drewN | apply Kd.R_drew)); exact HO283.out⟩, ⟨by repeat (first | (with_reducible first | exact HB.out | apply below_alloc | apply pw_below_drewN | apply below_drew1) | exact HB.out)⟩⟩
   case round =>
    clear H'
    try clear p2
    try clear c3
    try clear c3b0
    try clear c3b1
    try clear c4
    try clear c4b0
    try clear c4b1
    obtain ⟨x5_1, x12_1, rfl, HA, HK1, HO_5, HB⟩ := hrel
    cases gk with
    | zero => exact absurd HA.out (by simp [nat_right.l0])
    | succ k1 =>
     have H := HA.out
     clear HA
     simp only [nat_right.l0] at H
     by_cases c7 : x12_1 < (l0.length : Int)
     ·rw [if_pos c7] at H
      have c7b0 : decide (x12_1 < (l0.length : Int)) = true := decide_eq_true c7
      clear c7
      replace H := Option.bind_eq_some_iff.mp H
      obtain ⟨t284, A80, H⟩ := H
      replace H : (if 0 ≤ x12_1 then (if x12_1 < (l0.length : Int) then (if 0 ≤ a1 then (if x12_1 < (x5_1.length : Int) then (nat_right.l0 k1 l0 a1 (x5_1.set (x12_1 : Int).toNat ((shr .u64 (Go.bits .or .u64 (IntKind.u64.wrap (t284 * 4294967296)) (IntKind.u64.wrap (rd l0 x12_1))) a1) % 4294967296)) (l0.length : Int) (wrap64 (x12_1 + 1))) else (none)) else (none)) else (none)) else (none)) = some r := H
      have A8 := Aside0.mk A80
      clear A80
      by_cases c9 : 0 ≤ x12_1
      ·rw [if_pos c9] at H
       have c9b0 : decide (0 ≤ x12_1) = true := decide_eq_true c9
       clear c9
       by_cases c10 : x12_1 < (l0.length : Int)
       ·rw [if_pos c10] at H
        have c10b0 : decide (x12_1 < (l0.length : Int)) = true := decide_eq_true c10
        clear c10
        by_cases c11 : 0 ≤ a1
        ·rw [if_pos c11] at H
         have c11b0 := eq_true c11
         have c11b1 : decide (0 ≤ a1) = true := decide_eq_true c11
         clear c11
         obtain ⟨ji12, hji12⟩ : ∃ j_ : Int, (shr .u64 (Go.bits .or .u64 (IntKind.u64.wrap (t284 * 4294967296)) (IntKind.u64.wrap (rd l0 x12_1))) a1) = j_ := ⟨_, rfl⟩
         replace H : (if x12_1 < (x5_1.length : Int) then (nat_right.l0 k1 l0 a1 (x5_1.set (x12_1 : Int).toNat ((ji12) % 4294967296)) (l0.length : Int) (wrap64 (x12_1 + 1))) else (none)) = some r := by first | (rw [hji12] at H; exact H) | (simp only [hji12] at H ⊢; exact H)
         (try rw [hji12] at A8)
         have hji12_ : ((Go.bits .or .u64 (IntKind.u64.wrap (t284 * 4294967296)) (IntKind.u64.wrap (rd l0 x12_1))) / 2 ^ min a1.toNat 64) = ji12 := hji12
         have hji12z : a1 ≤ 64 → ((Go.bits .or .u64 (IntKind.u64.wrap (t284 * 4294967296)) (IntKind.u64.wrap (rd l0 x12_1))) / 2 ^ a1.toNat) = ji12 := shr_small hji12
         by_cases c13 : x12_1 < (x5_1.length : Int)
         ·rw [if_pos c13] at H
          have c13b0 : decide (x12_1 < (x5_1.length : Int)) = true := decide_eq_true c13
          clear c13
          obtain ⟨y286, hy286⟩ : ∃ y_ : List Int, y_ = (x5_1.set (x12_1 : Int).toNat ((ji12) % 4294967296)) := ⟨_, rfl⟩
          replace H : (nat_right.l0 k1 l0 a1 y286 (l0.length : Int) (wrap64 (x12_1 + 1))) = some r := by first | (rw [hy286]; with_reducible exact H) | (have H2_ := (Option.bind_some _ _).symm.trans H; rw [hy286]; with_reducible exact H2_) | (have H2_ := (Option.bind_some _ _).symm.trans H; with_reducible exact H2_) | with_reducible exact H | (rw [hy286]; exact H) | exact H
          have Ny286 := Aside0.mk hy286
          clear hy286
          have H' := Aside0.mk H
          clear H
          try go_wp2
          have n0_ := Aside0.mk (Kd.R_drew HO_5.out)
          have n1_ := Aside0.mk (below_drew1 HB.out)
          clear HO_5
          clear HB
          have HO_5 := n0_
          have HB := n1_
          clear n0_ n1_
          have p285 : 0 ≤ (x12_1 : Int) := of_decide_eq_true (by first | (with_reducible assumption) | assumption)
          have q285 : x12_1 < (l0.length : Int) := of_decide_eq_true (by first | (with_reducible assumption) | assumption)
          obtain ⟨ad285, e285, hx285_0⟩ := Kd.at_int HR0.out x12_1 p285 q285
          have hw285_0 := hx285_0
          cases e285
          replace hx285_0 := (HB.out.cell (World.block_lt_of_cell? w _ hx285_0)).trans hx285_0
          replace p285 := eq_true p285
          replace q285 := eq_true q285
          refine start_ (n := 18) (S := fun w' => w'.cell? (ad285.add (x12_1).toNat) = some (.int .u32 (rd l0 x12_1))) (ds := [17]) #[false, false, false, false, false, false, false, false, false, false, false, false, false, false, false, false, false, false] (by kernel_rfl) rfl rfl (((HB.out.cell (World.block_lt_of_cell? w _ hw285_0)).trans hw285_0)) (fun hHeld => ?_); refine with_tabW nat_right.tab5 nat_right.bits5 (fun HT_ HW_ => ?_)
          generalize wr.drew = w15 at HO_5 HB hx285_0 hHeld ⊢
          refine pure_ (i := 0) (N := some 15) (v := ?_) (a' := ?_) #[true, false, false, false, false, false, false, false, false, false, false, false, false, false, false, false, false, false] rfl rfl (any_of HT_.out (by kernel_rfl)) (fun _ _ _ h => h) (Or.inl ⟨by rfl, ?_⟩) ?_ ?_
          rotate_left
          ·intro w'
           go_simp
           with_reducible rfl
          rotate_left
          ·simp only [Act.put, List.setIfInBounds_toArray, List.set_cons_zero, List.set_cons_succ, i64_w, i32_w]
           rfl
          refine pure_ (i := 1) (N := some 16) (v := ?_) (a' := ?_) #[true, true, false, false, false, false, false, false, false, false, false, false, false, false, false, false, false, false] rfl rfl (any_of HT_.out (by kernel_rfl)) (fun _ _ _ h => h) (Or.inl ⟨by rfl, ?_⟩) ?_ ?_
          rotate_left
          ·intro w'
           go_simp
           with_reducible rfl
          rotate_left
          ·simp only [Act.put, List.setIfInBounds_toArray, List.set_cons_zero, List.set_cons_succ, i64_w, i32_w]
           rfl
          refine pure_ (i := 2) (N := some 17) (v := ?_) (a' := ?_) #[true, true, true, false, false, false, false, false, false, false, false, false, false, false, false, false, false, false] rfl rfl (any_of HT_.out (by kernel_rfl)) (fun _ _ _ h => h) (Or.inl ⟨by rfl, ?_⟩) ?_ ?_
          rotate_left
          ·intro w'
           go_simp
           with_reducible rfl
          rotate_left
          ·simp only [Act.put, List.setIfInBounds_toArray, List.set_cons_zero, List.set_cons_succ, i64_w, i32_w]
           rfl
          refine pure_ (i := 3) (N := some 18) (v := ?_) (a' := ?_) #[true, true, true, true, false, false, false, false, false, false, false, false, false, false, false, false, false, false] rfl rfl (any_of HT_.out (by kernel_rfl)) (fun _ _ _ h => h) (Or.inl ⟨by rfl, ?_⟩) ?_ ?_
          rotate_left
          ·intro w'
           go_simp
           with_reducible rfl
          rotate_left
          ·simp only [Act.put, List.setIfInBounds_toArray, List.set_cons_zero, List.set_cons_succ, i64_w, i32_w]
           rfl
          refine pure_ (i := 4) (N := some 19) (v := ?_) (a' := ?_) #[true, true, true, true, true, false, false, false, false, false, false, false, false, false, false, false, false, false] rfl rfl (any_of HT_.out (by kernel_rfl)) (fun _ _ _ h => h) (Or.inl ⟨by rfl, ?_⟩) ?_ ?_
          rotate_left
          ·intro w'
           go_simp
           with_reducible rfl
          rotate_left
          ·simp only [Act.put, List.setIfInBounds_toArray, List.set_cons_zero, List.set_cons_succ, i64_w, i32_w]
           rfl
          refine pure_ (i := 7) (N := some 22) (v := ?_) (a' := ?_) #[true, true, true, true, true, false, false, true, false, false, false, false, false, false, false, false, false, false] rfl rfl (any_of HT_.out (by kernel_rfl)) (fun _ _ _ h => h) (Or.inl ⟨by rfl, ?_⟩) ?_ ?_
          rotate_left
          ·intro w'
           go_simp
           with_reducible rfl
          rotate_left
          ·simp only [Act.put, List.setIfInBounds_toArray, List.set_cons_zero, List.set_cons_succ, i64_w, i32_w]
           rfl
          refine pure_ (i := 8) (N := some 23) (v := ?_) (a' := ?_) #[true, true, true, true, true, false, false, true, true, false, false, false, false, false, false, false, false, false] rfl rfl (any_of HT_.out (by kernel_rfl)) (fun _ _ _ h => h) (Or.inl ⟨by rfl, ?_⟩) ?_ ?_
          rotate_left
          ·intro w'
           go_simp
           with_reducible rfl
          rotate_left
          ·simp only [Act.put, List.setIfInBounds_toArray, List.set_cons_zero, List.set_cons_succ, i64_w, i32_w]
           rfl
          refine pure_ (i := 9) (N := some 24) (v := ?_) (a' := ?_) #[true, true, true, true, true, false, false, true, true, true, false, false, false, false, false, false, false, false] rfl rfl (any_of HT_.out (by kernel_rfl)) (fun _ _ _ h => h) (Or.inl ⟨by rfl, ?_⟩) ?_ ?_
          rotate_left
          ·intro w'
           go_simp
           with_reducible rfl
          rotate_left
          ·simp only [Act.put, List.setIfInBounds_toArray, List.set_cons_zero, List.set_cons_succ, i64_w, i32_w]
           rfl
          refine pure_ (i := 13) (N := some 28) (v := ?_) (a' := ?_) #[true, true, true, true, true, false, false, true, true, true, false, false, false, true, false, false, false, false] rfl rfl (any_of HT_.out (by kernel_rfl)) (fun _ _ _ h => h) (Or.inl ⟨by rfl, ?_⟩) ?_ ?_
          rotate_left
          ·intro w'
           go_simp
           with_reducible rfl
          rotate_left
          ·simp only [Act.put, List.setIfInBounds_toArray, List.set_cons_zero, List.set_cons_succ, i64_w, i32_w]
           rfl
          refine take_ (i := 10) (N := some 25) (v := ?_) (a' := ?_) #[true, true, true, true, true, false, false, true, true, true, true, false, false, true, false, false, false, false] rfl rfl (take_ofW HT_.out HW_.out (by kernel_rfl)) (fun _ _ _ h => h) (Or.inl ⟨by rfl, ?_⟩) hHeld ?_ ?_
          rotate_left
          ·intro w' s0
           go_simp
           with_reducible rfl
          rotate_left
          ·simp only [Act.put, List.setIfInBounds_toArray, List.set_cons_zero, List.set_cons_succ, i64_w, i32_w]
           rfl
          refine pure_ (i := 11) (N := some 26) (v := ?_) (a' := ?_) #[true, true, true, true, true, false, false, true, true, true, true, true, false, true, false, false, false, false] rfl rfl (any_of HT_.out (by kernel_rfl)) (fun _ _ _ h => h) (Or.inl ⟨by rfl, ?_⟩) ?_ ?_
          rotate_left
          ·intro w'
           go_simp
           with_reducible rfl
          rotate_left
          ·simp only [Act.put, List.setIfInBounds_toArray, List.set_cons_zero, List.set_cons_succ, i64_w, i32_w]
           rfl
          refine one_ (i := 5) (N := some 20) #[true, true, true, true, true, true, false, true, true, true, true, true, false, true, false, false, false, false] rfl rfl (one_of HT_.out (by kernel_rfl)) (by decide) (fun K hK => ?_)
          refine goes_ Try.func84 (by kernel_rfl) rfl #[.slice (some ad285) l0.length c0, .int .i64 (wrap64 (x12_1 + 1))] (by rfl) rfl rfl (by (try simp only [List.map_toArray, List.map_cons, List.map_nil]); first | done | rfl | (simp only [List.length_drop, List.length_take]; rfl)) ?_
          with_reducible refine (nat_limb.calls _ _ l0 (wrap64 (x12_1 + 1)) t284 _ ?side1 ?side2 A8.out).mono ?_
          (case side1 => repeat (first | exact (Kd.C_below HR0.out HB.out) | (with_reducible refine Kd.C_alloc ?_ _) | (with_reducible refine Kd.C_drewN ?_ _) | (with_reducible refine Kd.C_drew ?_)))
          (case side2 => exact HC0.out)
          rintro e w' ⟨rfl, ⟨nd, rfl⟩⟩
          refine ⟨_, rfl, ?_⟩
          have p14 : 0 ≤ (x12_1 : Int) := of_decide_eq_true (by first | (with_reducible assumption) | assumption)
          have q14 : (x12_1 : Int) < ((x5_1.length : Int) : Int) := of_decide_eq_true (by first | (with_reducible assumption) | assumption)
          obtain ⟨go14, co14, eo14, gb14, gl14, cl14, HG14⟩ := Kd.R_form HO_5.out (by omega)
          (first | cases eo14 | (injection eo14 with ea_ en_ ec_; (first | subst ea_ | (injection ea_ with ea_; subst ea_)); subst ec_; clear en_))
          have GB14 := Aside0.mk gb14
          have GG14 := Aside0.mk HG14
          clear gb14 gl14 HG14
          obtain ⟨hx14_0, hf14_0⟩ := Kd.R_celln 0 HO_5.out (x12_1 : Int) p14 q14
          replace p14 := eq_true p14
          replace q14 := eq_true q14
          have HP16 := Kd.R_putn HO_5.out (x12_1 : Int) ((ji12) % 4294967296)
          rw [← Ny286.out] at HP16
          have HQ16 := Aside0.mk HP16
          clear HP16
          refine hK.out _ _ (((HB.out.cell (World.block_lt_of_cell? w _ hw285_0)).trans hw285_0)) (fun hHeld => ?_)
          clear hK K
          refine norm_ (a' := ?_) ?_ ?_
          rotate_left
          ·show Act.put _ (some 20) _ = _
           simp only [Act.put, List.setIfInBounds_toArray, List.set_cons_zero, List.set_cons_succ, i64_w, i32_w]
           rfl
          refine pure_ (i := 6) (N := some 21) (v := ?_) (a' := ?_) #[true, true, true, true, true, true, true, true, true, true, true, true, false, true, false, false, false, false] rfl rfl (any_of HT_.out (by kernel_rfl)) (fun _ _ _ h => h) (Or.inl ⟨by rfl, ?_⟩) ?_ ?_
          rotate_left
          ·intro w'
           go_simp
           with_reducible rfl
          rotate_left
          ·simp only [Act.put, List.setIfInBounds_toArray, List.set_cons_zero, List.set_cons_succ, i64_w, i32_w]
           rfl
          refine pure_ (i := 12) (N := some 27) (v := ?_) (a' := ?_) #[true, true, true, true, true, true, true, true, true, true, true, true, true, true, false, false, false, false] rfl rfl (any_of HT_.out (by kernel_rfl)) (fun _ _ _ h => h) (Or.inl ⟨by rfl, ?_⟩) ?_ ?_
          rotate_left
          ·intro w'
           go_simp
           with_reducible rfl
          rotate_left
          ·simp only [Act.put, List.setIfInBounds_toArray, List.set_cons_zero, List.set_cons_succ, i64_w, i32_w]
           rfl
          refine pure_ (i := 14) (N := some 29) (v := ?_) (a' := ?_) #[true, true, true, true, true, true, true, true, true, true, true, true, true, true, true, false, false, false] rfl rfl (any_of HT_.out (by kernel_rfl)) (fun _ _ _ h => h) (Or.inl ⟨by rfl, ?_⟩) ?_ ?_
          rotate_left
          ·intro w'
           go_simp
           with_reducible rfl
          rotate_left
          ·simp only [Act.put, List.setIfInBounds_toArray, List.set_cons_zero, List.set_cons_succ, i64_w, i32_w]
           rfl
          refine pure_ (i := 15) (N := some 30) (v := ?_) (a' := ?_) #[true, true, true, true, true, true, true, true, true, true, true, true, true, true, true, true, false, false] rfl rfl (any_of HT_.out (by kernel_rfl)) (fun _ _ _ h => h) (Or.inl ⟨by rfl, ?_⟩) ?_ ?_
          rotate_left
          ·intro w'
           go_simp
           with_reducible rfl
          rotate_left
          ·simp only [Act.put, List.setIfInBounds_toArray, List.set_cons_zero, List.set_cons_succ, i64_w, i32_w]
           rfl
          refine pure_ (i := 16) (N := some 31) (v := ?_) (a' := ?_) #[true, true, true, true, true, true, true, true, true, true, true, true, true, true, true, true, true, false] rfl rfl (any_of HT_.out (by kernel_rfl)) (fun _ _ _ h => h) (Or.inl ⟨by rfl, ?_⟩) ?_ ?_
          rotate_left
          ·intro w'
           go_simp
           with_reducible rfl
          rotate_left
          ·simp only [Act.put, List.setIfInBounds_toArray, List.set_cons_zero, List.set_cons_succ, i64_w, i32_w]
           rfl
          refine last_ (i := 17) (N := none) #[true, true, true, true, true, true, true, true, true, true, true, true, true, true, true, true, true, true] rfl rfl (one_of HT_.out (by kernel_rfl)) (by decide) (fun K hK => ?_)
          refine skip_ (w1 := ?_) (by rfl) rfl ?_ ?_
          rotate_left
          ·go_simp
           rfl
          refine hK.out _ _ ?_
          clear hK K
          refine done_ (done_of HT_.out (by kernel_rfl)) ?_
          try go_wp2
          go_roundg k1
          case measure => have := HK1.out; omega
          case rel => exact ⟨(y286), (wrap64 (x12_1 + 1)), (by first | rfl | (simp; done) | (simp [*]; done) | (refine congrArg (Value.int _) ?_; omega) | (refine congrArg Value.bool ?_; generalize ByteArray.toList _ = z_; cases z_ <;> rfl)), H', ⟨by have := HK1.out; omega⟩, ⟨by (with_reducible repeat (first | apply Kd.R_alloc | apply Kd.R_drewN | apply Kd.R_drew)); exact HQ16.out⟩, ⟨by repeat (first | (with_reducible first | exact HB.out | apply below_alloc | apply pw_below_drewN | apply below_drew1 | refine below_set ?_ GB14.out) | exact HB.out)⟩⟩
         ·rw [if_neg c13] at H
          exact absurd H (by simp)
        ·rw [if_neg c11] at H
         exact absurd H (by simp)
       ·rw [if_neg c10] at H
        exact absurd H (by simp)
      ·rw [if_neg c9] at H
       exact absurd H (by simp)
     ·rw [if_neg c7] at H
      have c7b0 : decide (x12_1 < (l0.length : Int)) = false := decide_eq_false c7
      clear c7
      replace H := Option.bind_eq_some_iff.mp H
      obtain ⟨t287, A170, H⟩ := H
      replace H : (some t287) = some r := H
      have A17 := Aside0.mk A170
      clear A170
      obtain rfl := Option.some.inj H
      obtain ⟨Ao18, co18, eo18⟩ := Kd.R_slice HO_5.out
      subst eo18
      go_wp2_with (first | ((with_reducible refine gate_callee (f := 83) rfl ?_); refine goesL_ (some 34) rfl rfl Try.func83 (by kernel_rfl) rfl #[.slice Ao18 x5_1.length co18] rfl (by (try simp only [List.map_toArray, List.map_cons, List.map_nil]); first | done | rfl | (simp only [List.length_drop, List.length_take]; rfl)) ?_; (with_reducible refine (nat_Norm.calls _ _ x5_1 t287 _ ?side1 ?side2 A17.out).mono ?_); (case side1 => repeat (first | exact (Kd.R_reads' HO_5.out).2.2 | (with_reducible refine Kd.C_alloc ?_ _) | (with_reducible refine Kd.C_drewN ?_ _) | (with_reducible refine Kd.C_drew ?_))); (case side2 => exact (Kd.R_reads' HO_5.out).2.1); rintro e w19 ⟨v288, rfl, ho0, hb⟩; refine ⟨_, rfl, ?_⟩; have n0_ := Aside0.mk (Kd.R_elder' (by (with_reducible repeat (first | apply Kd.R_alloc | apply Kd.R_drewN | apply Kd.R_drew)); exact HO_5.out) (Kd.R_base ho0) hb); have n1_ := Aside0.mk (Kd.R_lower (Kd.R_new' ho0 (Kd.R_lt (by (with_reducible repeat (first | apply Kd.R_alloc | apply Kd.R_drewN | apply Kd.R_drew)); exact HO_5.out))) (below_size (by repeat (first | (with_reducible first | exact HB.out | apply below_alloc | apply pw_below_drewN | apply below_drew1) | exact HB.out)))); have n2_ := Aside0.mk (below_step (by repeat (first | (with_reducible first | exact HB.out | apply below_alloc | apply pw_below_drewN | apply below_drew1) | exact HB.out)) hb); clear HO_5; clear HB; have HO_5 := n0_; have HO289 := n1_; have HB := n2_; clear n0_ n1_ n2_; (try clear hb); (try clear hb2); (try clear hk); (try clear hi); (try clear ho0)))
      go_ret
      exact ⟨_, by first | rfl | (simp [errW_none, errW_some] <;> rfl) | (simp [*, errW_none, errW_some] <;> rfl), by (with_reducible repeat (first | apply Kd.R_alloc | apply Kd.R_drewN | apply Kd.R_drew)); exact Kd.R_mono HO289.out (fun _ hk => trivial), by repeat (first | (with_reducible first | exact HB.out | apply below_alloc | apply pw_below_drewN | apply below_drew1) | exact HB.out)⟩
  ·rw [if_neg c4] at H
   exact absurd H (by simp)
 ·rw [if_neg c3] at H
  exact absurd H (by simp)

end Go.Proofs.Ytdicjemjmlbmlaa.PA
/- What nat's products, and a number by a small one, and moved bits are, as numbers. -/
namespace Go.Proofs.Ytdicjemjmlbmlaa.V
set_option linter.unusedVariables false
set_option linter.unusedSimpArgs false
open Go.RowKit Go.Proofs.Ytdicjemjmlbmlaa.PA Go.Proofs.Ytdicjemjmlbmlaa.H Go.Proofs.YtdicjemjmlbmlaaW.PrintWords Go.Proofs.YtdicjemjmlbmlaaW.PrintLast Go.Proofs.YtdicjemjmlbmlaaW.PrintMore

theorem mul_bd {x y X Y : Int} (h0 : 0 ≤ x) (h1 : x ≤ X) (g0 : 0 ≤ y) (g1 : y ≤ Y) : 0 ≤ x * y ∧ x * y ≤ X * Y :=
  ⟨Int.mul_nonneg h0 g0, Int.mul_le_mul h1 g1 g0 (by omega)⟩
theorem mul_bd32 {x y : Int} (hx : 0 ≤ x ∧ x < 4294967296) (hy : 0 ≤ y ∧ y < 4294967296) : 0 ≤ x * y ∧ x * y ≤ 18446744065119617025 :=
  mul_bd hx.1 (show x ≤ 4294967295 by omega) hy.1 (show y ≤ 4294967295 by omega)
theorem getD_get (l : List Int) (i : Nat) (h : i < l.length) : l.getD i 0 = l[i] := by simp [List.getD_eq_getElem?_getD, h]
theorem getD_set_ne (l : List Int) (i p : Nat) (x : Int) (h : i ≠ p) : (l.set i x).getD p 0 = l.getD p 0 := by
  simp [List.getD_eq_getElem?_getD, h]
/-- Noughts from a place on. -/
def Zf (l : List Int) (n : Nat) : Prop := ∀ p, n ≤ p → l.getD p 0 = 0
theorem Zf.set {l : List Int} {n i : Nat} {x : Int} (h : Zf l n) (hi : i < n) : Zf (l.set i x) n := fun p hp => by
  rw [getD_set_ne _ _ _ _ (by omega)]; exact h p hp
theorem Zf.zeros (m n : Nat) : Zf (List.replicate m 0) n := fun p _ => by
  rw [List.getD_eq_getElem?_getD]
  by_cases h : p < m <;> simp [h]
theorem step_mul {W V0 Pi pj P x y c q r vb o : Int} (h : W + P * c = V0 + Pi * x * vb) (e : r + 4294967296 * q = c + (x * y + o)) (hP : P = Pi * pj) : W + P * (r - o) + (4294967296 * P) * q = V0 + Pi * x * (vb + pj * y) := by
  subst hP
  grind
theorem mul_l1 (a b : List Int) (ha : Lim a) (hb : Lim b) (hna : a.length < 1000000000) (hnb : b.length < 1000000000) (i : Nat) (hi : i < a.length) (x V0 : Int) (hx : 0 ≤ x ∧ x < 4294967296) (r : List Int)
    (hc : ∀ out, out.length = a.length + b.length → Lim out → val out = V0 + pw i * x * val b → Zf out (i + 1 + b.length) → Ev (fun k => nat_Mul.l0 k b out a (a.length : Int) ((i + 1 : Nat) : Int)) r) (d : Nat) : ∀ (j : Nat) (out : List Int) (c : Int), j + d = b.length → out.length = a.length + b.length → Lim out → 0 ≤ c → c < 4294967296 → val out + pw (i + j) * c = V0 + pw i * x * val (b.take j) → Zf out (i + b.length) →
    Ev (fun k => nat_Mul.l1 k b out (i : Int) x c a (a.length : Int) (i : Int) (b.length : Int) (j : Int)) r := by
  induction d with
  | zero =>
    intro j out c hj ho hL c0 c1 hv hz
    obtain rfl : j = b.length := by omega
    have hp : i + b.length < out.length := by omega
    refine Ev.step (fun k => ?_) (hc (out.set (i + b.length) c) (by simpa using ho) (hL.set _ c0 c1) ?_ ?_)
    · simp only [nat_Mul.l1]
      rw [if_neg (by omega), w64 (by omega) (by omega), if_pos (by omega), if_pos (by omega), w64 (by omega) (by omega), show ((i : Int) + (b.length : Int)).toNat = i + b.length by omega, show c % 4294967296 = c by omega]
      rfl
    · have h0 := hz (i + b.length) (Nat.le_refl _)
      rw [getD_get _ _ hp] at h0
      rw [val_set _ _ _ hp, h0]
      rw [List.take_of_length_le (by omega)] at hv
      rw [Int.sub_zero]; exact hv
    · intro p hpp
      rw [getD_set_ne _ _ _ _ (by omega)]
      exact hz p (by omega)
  | succ d ih =>
    intro j out c hj ho hL c0 c1 hv hz
    have hjb : j < b.length := by omega
    have hp : i + j < out.length := by omega
    have gb := hb.get j hjb
    have go := hL.get (i + j) hp
    have hm := mul_bd32 hx gb
    refine Ev.step (fun k => ?_) (ih (j + 1) (out.set (i + j) ((c + (x * b[j] + out[i + j])) % 4294967296)) ((c + (x * b[j] + out[i + j])) / 4294967296) (by omega) (by simpa using ho) (hL.set _ (by omega) (by omega)) (by omega) (by omega) ?_ (hz.set (by omega)))
    · simp only [nat_Mul.l1]
      rw [if_pos (by omega), if_pos (by omega), if_pos (by omega), w64 (x := (i : Int) + (j : Int)) (by omega) (by omega), if_pos (by omega), if_pos (by omega), show ((i : Int) + (j : Int)) = ((i + j : Nat) : Int) by omega, rd_get _ _ hp, rd_get _ _ hjb, u64 (x := x) (by omega) (by omega), u64 (x := b[j]) (by omega) (by omega), u64 (x := x * b[j]) (by omega) (by omega), u64 (x := out[i + j]) (by omega) (by omega), u64 (x := x * b[j] + out[i + j]) (by omega) (by omega), u64 (by omega) (by omega), w64 (by omega) (by omega), Int.toNat_natCast]
      rfl
    · rw [val_set _ _ _ hp, val_take_succ _ _ hjb, ← Nat.add_assoc, pw_succ]
      exact step_mul hv (by omega) (pw_add i j)
theorem mul_l0 (a b : List Int) (ha : Lim a) (hb : Lim b) (hna : a.length < 1000000000) (hnb : b.length < 1000000000) (d : Nat) : ∀ (i : Nat) (out : List Int), i + d = a.length → out.length = a.length + b.length → Lim out → val out = val (a.take i) * val b → Zf out (i + b.length) →
    Ev (fun k => nat_Mul.l0 k b out a (a.length : Int) (i : Int)) (dig (val a * val b)) := by
  induction d with
  | zero =>
    intro i out hi ho hL hv hz
    obtain rfl : i = a.length := by omega
    refine Ev.step (f := fun _ => some _) (fun k => ?_) (Ev.now _)
    simp only [nat_Mul.l0]
    rw [if_neg (by omega), norm_ev out hL (by omega), hv, List.take_of_length_le (by omega)]
    rfl
  | succ d ih =>
    intro i out hi ho hL hv hz
    have hia : i < a.length := by omega
    have ga := ha.get i hia
    refine Ev.step (fun k => ?_) (mul_l1 a b ha hb hna hnb i hia a[i] (val (a.take i) * val b) ga _ (fun out' h1 h2 h3 h4 => ih (i + 1) out' (by omega) h1 h2 ?_ h4) b.length 0 out 0 (by omega) ho hL (by omega) (by omega) ?_ hz)
    · simp only [nat_Mul.l0]
      rw [if_pos (by omega), if_pos (by omega), if_pos (by omega), rd_get _ _ hia]
      rfl
    · rw [h3, val_take_succ _ _ hia]; grind
    · simp [hv, val]
theorem mul_ev (a b : List Int) (ha : Lim a) (hb : Lim b) (hna : a.length < 1000000000) (hnb : b.length < 1000000000) : Ev (fun k => nat_Mul.f k a b) (dig (val a * val b)) := by
  refine Ev.congr (fun k => ?_) (mul_l0 a b ha hb hna hnb a.length 0 (List.replicate (a.length + b.length) 0) (by omega) (by simp) (Lim.zeros _) (by simp [val, val_zeros]) (Zf.zeros _ _))
  unfold nat_Mul.f
  rw [w64 (by omega) (by omega), if_pos (by omega), if_pos (by omega), show ((a.length : Int) + (b.length : Int)).toNat = a.length + b.length by omega]
  rfl

/-! ### a number by a small one -/
theorem wraps_u64 (n : Int) (h0 : 0 ≤ n) (h1 : n < 2 ^ 64) : IntKind.u64.wrap n = n := u64 h0 (by omega)
theorem or_join {x y : Int} (hx : 0 ≤ x ∧ x < 4294967296) (hy : 0 ≤ y ∧ y < 4294967296) : Go.bits .or .u64 (x * 4294967296) y = x * 4294967296 + y :=
  bits_join .u64 64 (by decide) wraps_u64 32 _ _ (by omega) (by omega) (by omega) hy.1 (by omega) (by omega)
theorem div_unique {a b q r : Int} (hb : 0 < b) (h : q * b + r = a) (h0 : 0 ≤ r) (h1 : r < b) : a / b = q ∧ a % b = r :=
  (Int.ediv_emod_unique hb).2 ⟨by rw [← h, Int.mul_comm]; omega, h0, h1⟩
theorem drop_set_self (l : List Int) (i : Nat) (x : Int) (h : i < l.length) : (l.set i x).drop i = x :: l.drop (i + 1) := by
  rw [List.drop_eq_getElem_cons (by simpa using h)]
  simp [List.drop_set_of_lt]
theorem small_l0 (a : List Int) (n : Int) (ha : Lim a) (hn0 : 0 < n) (hn1 : n ≤ 4294967296) (hna : a.length < 1000000000) (d : Nat) : ∀ (out : List Int) (r : Int), d ≤ a.length → out.length = a.length → Lim out → 0 ≤ r → r < n → val (out.drop d) * n + r = val (a.drop d) →
    Ev (fun k => nat_small.l0 k a n out r ((d : Int) - 1)) (dig (val a / n), val a % n) := by
  induction d with
  | zero =>
    intro out r hd ho hL r0 r1 hv
    refine Ev.step (f := fun _ => some _) (fun k => ?_) (Ev.now _)
    simp only [nat_small.l0]
    rw [if_neg (by omega), norm_ev out hL (by omega)]
    simp only [List.drop_zero] at hv
    obtain ⟨e1, e2⟩ := div_unique hn0 hv r0 r1
    rw [e1, e2]
    rfl
  | succ d ih =>
    intro out r hd ho hL r0 r1 hv
    have hda : d < a.length := by omega
    have hdo : d < out.length := by omega
    have ga := ha.get d hda
    have ho1 : Go.bits .or .u64 (IntKind.u64.wrap (r * 4294967296)) (IntKind.u64.wrap a[d]) = r * 4294967296 + a[d] := by
      rw [u64 (by omega) (by omega), u64 (by omega) (by omega)]
      exact or_join ⟨r0, by omega⟩ ga
    have hX0 : 0 ≤ r * 4294967296 + a[d] := by omega
    have hq0 : 0 ≤ (r * 4294967296 + a[d]) / n := Int.ediv_nonneg hX0 (by omega)
    have hq1 : (r * 4294967296 + a[d]) / n < 4294967296 := by
      apply Int.ediv_lt_of_lt_mul hn0
      have : (r + 1) * 4294967296 ≤ n * 4294967296 := Int.mul_le_mul_of_nonneg_right (by omega) (by omega)
      omega
    have hm0 := Int.emod_nonneg (r * 4294967296 + a[d]) (show n ≠ 0 by omega)
    have hm1 := Int.emod_lt_of_pos (r * 4294967296 + a[d]) hn0
    have hqr := Int.mul_ediv_add_emod (r * 4294967296 + a[d]) n
    refine Ev.step (fun k => ?_) (ih (out.set d ((r * 4294967296 + a[d]) / n)) ((r * 4294967296 + a[d]) % n) (by omega) (by simpa using ho) (hL.set _ hq0 hq1) hm0 hm1 ?_)
    · simp only [nat_small.l0]
      have e : ((d + 1 : Nat) : Int) - 1 = (d : Int) := by omega
      rw [e, if_pos (by omega), if_pos (by omega), if_pos (by omega), if_neg (by omega), if_pos (by omega), rd_get _ _ hda, ho1, Int.tdiv_eq_ediv_of_nonneg hX0, Int.tmod_eq_emod_of_nonneg hX0, u64 hq0 (by omega), Int.emod_eq_of_lt hq0 hq1, w64 (by omega) (by omega), Int.toNat_natCast]
    · rw [drop_set_self _ _ _ hdo, val_drop_cons _ _ hda]
      simp only [val]
      rw [← hv]
      generalize (r * 4294967296 + a[d]) / n = q at *
      generalize (r * 4294967296 + a[d]) % n = s at *
      grind
theorem small_ev (a : List Int) (n : Int) (ha : Lim a) (hn0 : 0 < n) (hn1 : n ≤ 4294967296) (hna : a.length < 1000000000) : Ev (fun k => nat_small.f k a n) (dig (val a / n), val a % n) := by
  refine Ev.congr (fun k => ?_) (small_l0 a n ha hn0 hn1 hna a.length (List.replicate a.length 0) 0 (Nat.le_refl _) (by simp) (Lim.zeros _) (by omega) (by omega) (by rw [List.drop_eq_nil_of_le (by simp), List.drop_eq_nil_of_le (by omega)]; simp [val]))
  unfold nat_small.f
  rw [if_pos (by omega), if_pos (by omega), w64 (by omega) (by omega), Int.toNat_natCast]

/-! ### moved bits -/
theorem wraps_u32 (n : Int) (h0 : 0 ≤ n) (h1 : n < 2 ^ 32) : IntKind.u32.wrap n = n := by rw [IntKind.wrap_u32]; omega
theorem or_comm_ (k : IntKind) (x y : Int) : Go.bits .or k x y = Go.bits .or k y x := by
  simp only [Go.bits, BitVec.or_comm]
theorem p_pos (n : Nat) : (0 : Int) < 2 ^ n := Int.pow_pos (by omega)
theorem p_split {n : Nat} (hn : n ≤ 32) : (2 : Int) ^ n * 2 ^ (32 - n) = 4294967296 := by
  rw [← Int.pow_add, show n + (32 - n) = 32 by omega]; rfl
theorem p_le {n : Nat} (hn : n ≤ 31) : (2 : Int) ^ n ≤ 2147483648 := by
  have := Nat.pow_le_pow_right (n := 2) (by omega) hn
  have e : (2 : Int) ^ n = ((2 ^ n : Nat) : Int) := by simp
  omega
theorem or_low {n : Nat} (hn : n ≤ 31) {x y : Int} (hx0 : 0 ≤ x) (hx1 : x < 2 ^ n) (hy0 : 0 ≤ y) (hy1 : y < 4294967296) (hy : y % 2 ^ n = 0) : Go.bits .or .u32 x y = x + y := by
  have := p_le hn
  rw [or_comm_, bits_join .u32 32 (by decide) wraps_u32 n y x hy0 hy (by omega) hx0 hx1 (by omega)]
  omega
theorem shl_u64 (x : Int) (n : Nat) (hn : n ≤ 31) (hx : 0 ≤ x ∧ x < 4294967296) : shl .u64 x (n : Int) = x * 2 ^ n ∧ 0 ≤ x * 2 ^ n ∧ x * 2 ^ n < 9223372036854775808 := by
  have h1 := p_pos n
  have h2 := p_le hn
  have h3 := mul_bd hx.1 (show x ≤ 4294967295 by omega) (Int.le_of_lt h1) h2
  refine ⟨?_, h3.1, by omega⟩
  unfold shl
  rw [Int.toNat_natCast, Nat.min_eq_left (by simp [IntKind.bits]; omega), u64 h3.1 (by omega)]
theorem mulmod_p {n : Nat} (hn : n ≤ 31) (x : Int) : (x * 2 ^ n) % 4294967296 % 2 ^ n = 0 := by
  rw [Int.emod_emod_of_dvd _ ⟨2 ^ (32 - n), (p_split (by omega)).symm⟩, Int.mul_emod_left]
theorem left_l0 (a : List Int) (n : Nat) (ha : Lim a) (hn : n ≤ 31) (hna : a.length < 1000000000) (d : Nat) : ∀ (i : Nat) (out : List Int), i + d = a.length → out.length = a.length + 1 → Lim out → out.getD i 0 < 2 ^ n → val (out.take (i + 1)) = val (a.take i) * 2 ^ n →
    ∃ o, Ev (fun k => nat_left.l0 k (n : Int) out a (a.length : Int) (i : Int)) o ∧ o.length = a.length + 1 ∧ Lim o ∧ val o = val a * 2 ^ n := by
  have hp := p_pos n
  have hp1 := p_le hn
  induction d with
  | zero =>
    intro i out hi ho hL h1 hv
    obtain rfl : i = a.length := by omega
    rw [List.take_of_length_le (by omega), List.take_of_length_le (by omega)] at hv
    refine ⟨out, Ev.step (f := fun _ => some _) (fun k => ?_) (Ev.now _), ho, hL, hv⟩
    simp only [nat_left.l0]
    rw [if_neg (by omega)]
  | succ d ih =>
    intro i out hi ho hL h1 hv
    have hia : i < a.length := by omega
    have hio : i < out.length := by omega
    have hio' : i + 1 < out.length := by omega
    have ga := ha.get i hia
    have go := hL.get i hio
    rw [getD_get _ _ hio] at h1
    obtain ⟨s1, s2, s3⟩ := shl_u64 a[i] n hn ga
    have hlow := mulmod_p hn a[i]
    have hor := or_low hn go.1 h1 (show 0 ≤ (a[i] * 2 ^ n) % 4294967296 by omega) (by omega) hlow
    have hq : (a[i] * 2 ^ n) / 4294967296 < 2 ^ n := by
      apply Int.ediv_lt_of_lt_mul (by omega)
      rw [Int.mul_comm (a[i])]
      exact Int.mul_lt_mul_of_pos_left ga.2 hp
    have hsum : out[i] + (a[i] * 2 ^ n) % 4294967296 < 4294967296 := by
      -- the low part is a multiple of 2^n below 2^32
      have e := Int.mul_ediv_add_emod ((a[i] * 2 ^ n) % 4294967296) (2 ^ n)
      rw [hlow] at e
      have hs := p_split (n := n) (by omega)
      have hs0 := p_pos (32 - n)
      have : (a[i] * 2 ^ n) % 4294967296 / 2 ^ n < 2 ^ (32 - n) := by
        apply Int.ediv_lt_of_lt_mul hp
        rw [Int.mul_comm (2 ^ (32 - n)), hs]; omega
      have h5 : 2 ^ n * ((a[i] * 2 ^ n) % 4294967296 / 2 ^ n + 1) ≤ 2 ^ n * 2 ^ (32 - n) := Int.mul_le_mul_of_nonneg_left (by omega) (Int.le_of_lt hp)
      rw [Int.mul_add, Int.mul_one] at h5
      omega
    have hstep := fun o' h2 h3 h4 h5 => ih (i + 1) o' (by omega) h2 h3 h4 h5
    obtain ⟨o, ho1, ho2, ho3, ho4⟩ := hstep ((out.set i (out[i] + (a[i] * 2 ^ n) % 4294967296)).set (i + 1) ((a[i] * 2 ^ n) / 4294967296)) (by simpa using ho) ((hL.set i (by omega) hsum).set (i + 1) (by omega) (by omega)) (by rw [getD_get _ _ (by simpa using hio')]; simpa using hq) (by
      rw [val_set_take _ _ _ (by simpa using hio'), val_set_take _ _ _ hio]
      rw [val_take_succ _ _ hio] at hv
      rw [val_take_succ _ _ hia, pw_succ]
      have e := Int.mul_ediv_add_emod (a[i] * 2 ^ n) 4294967296
      generalize a[i] * 2 ^ n / 4294967296 = q at *
      generalize a[i] * 2 ^ n % 4294967296 = r at *
      grind)
    refine ⟨o, Ev.step (fun k => ?_) ho1, ho2, ho3, ho4⟩
    simp only [nat_left.l0]
    rw [if_pos (by omega), if_pos (by omega), if_pos (by omega), if_pos (by omega), if_pos (by omega), w64 (by omega) (by omega), if_pos (by omega), if_pos (by omega), rd_get _ _ hio, rd_get _ _ hia, u64 (x := a[i]) ga.1 (by omega), s1, hor, Int.toNat_natCast, show ((i : Int) + 1).toNat = i + 1 by omega, Int.emod_eq_of_lt (a := a[i] * 2 ^ n / 4294967296) (by omega) (by omega)]
    rfl
theorem left_ev (a : List Int) (n : Nat) (ha : Lim a) (hn : n ≤ 31) (hna : a.length < 1000000000) : ∃ o, Ev (fun k => nat_left.f k a (n : Int)) o ∧ o.length = a.length + 1 ∧ Lim o ∧ val o = val a * 2 ^ n := by
  obtain ⟨o, h1, h2⟩ := left_l0 a n ha hn hna a.length 0 (List.replicate (a.length + 1) 0) (by omega) (by simp) (Lim.zeros _) (by have := p_pos n; simp; exact this) (by simp [val, List.replicate_succ])
  refine ⟨o, Ev.congr (fun k => ?_) h1, h2⟩
  unfold nat_left.f
  rw [w64 (by omega) (by omega), if_pos (by omega), if_pos (by omega), show ((a.length : Int) + 1).toNat = a.length + 1 by omega]
  rfl
theorem shr_u64 (x : Int) (n : Nat) (hn : n ≤ 31) : shr .u64 x (n : Int) = x / 2 ^ n := by
  unfold shr
  rw [Int.toNat_natCast, Nat.min_eq_left (by simp [IntKind.bits]; omega)]
/-- One limb of a number moved down. -/
theorem right_limb {p s X a : Int} (hp : 0 < p) (hs : 0 < s) (hps : p * s = 4294967296) (hX : 0 ≤ X ∧ X < 4294967296) (ha : 0 ≤ a ∧ a < 4294967296) : ((X * 4294967296 + a) / p % 4294967296) * p = (X % p) * 4294967296 + (a - a % p) ∧ 0 ≤ (X * 4294967296 + a) / p % 4294967296 ∧ (X * 4294967296 + a) / p % 4294967296 < 4294967296 := by
  have e1 : X * 4294967296 + a = a + p * (X * s) := by rw [← hps]; grind
  have e2 : (X * 4294967296 + a) / p = a / p + X * s := by rw [e1, Int.add_mul_ediv_left _ _ (by omega)]
  have e3 := Int.mul_ediv_add_emod X p
  have e4 := Int.mul_ediv_add_emod a p
  have m0 := Int.emod_nonneg X (show p ≠ 0 by omega)
  have m1 := Int.emod_lt_of_pos X hp
  have h0 : 0 ≤ a / p := Int.ediv_nonneg ha.1 (by omega)
  have h1 : a / p < s := Int.ediv_lt_of_lt_mul hp (by rw [Int.mul_comm s, hps]; exact ha.2)
  have e5 : (X * 4294967296 + a) / p = (X / p) * 4294967296 + ((X % p) * s + a / p) := by
    rw [e2, ← hps]
    generalize X / p = u at *
    generalize X % p = v at *
    generalize a / p = t at *
    subst e3
    grind
  have hb0 : 0 ≤ (X % p) * s := Int.mul_nonneg m0 (by omega)
  have hb1 : (X % p + 1) * s ≤ p * s := Int.mul_le_mul_of_nonneg_right (by omega) (by omega)
  rw [Int.add_mul, Int.one_mul, hps] at hb1
  have e6 : (X * 4294967296 + a) / p % 4294967296 = (X % p) * s + a / p := by
    rw [e5]
    generalize X % p * s = z at *
    omega
  refine ⟨?_, by omega, by omega⟩
  rw [e6]
  have : (X % p * s + a / p) * p = (X % p) * (p * s) + p * (a / p) := by grind
  rw [this, hps]
  omega
theorem right_l0 (a : List Int) (n : Nat) (ha : Lim a) (hn : n ≤ 31) (hna : a.length < 1000000000) (d : Nat) : ∀ (i : Nat) (out : List Int), i + d = a.length → out.length = a.length → Lim out → val (out.take i) * 2 ^ n + a.getD 0 0 % 2 ^ n = val (a.take i) + pw i * (a.getD i 0 % 2 ^ n) →
    Ev (fun k => nat_right.l0 k a (n : Int) out (a.length : Int) (i : Int)) (dig (val a / 2 ^ n)) := by
  have hp := p_pos n
  induction d with
  | zero =>
    intro i out hi ho hL hv
    obtain rfl : i = a.length := by omega
    refine Ev.step (f := fun _ => some _) (fun k => ?_) (Ev.now _)
    simp only [nat_right.l0]
    rw [if_neg (by omega), norm_ev out hL (by omega)]
    simp only [Option.bind_some]
    rw [List.take_of_length_le (by omega), List.take_of_length_le (by omega), List.getD_eq_getElem?_getD (i := a.length), List.getElem?_eq_none (by omega)] at hv
    simp only [Option.getD_none, Int.zero_emod, Int.mul_zero, Int.add_zero] at hv
    have h0 := Int.emod_nonneg (a.getD 0 0) (show (2 : Int) ^ n ≠ 0 by omega)
    have h1 := Int.emod_lt_of_pos (a.getD 0 0) hp
    rw [(div_unique hp hv h0 h1).1]
  | succ d ih =>
    intro i out hi ho hL hv
    have hia : i < a.length := by omega
    have hio : i < out.length := by omega
    have ga := ha.get i hia
    have gx := ha.getD (i + 1)
    obtain ⟨e1, e2, e3⟩ := right_limb hp (p_pos (32 - n)) (p_split (by omega)) gx ga
    refine Ev.step (fun k => ?_) (ih (i + 1) (out.set i ((a.getD (i + 1) 0 * 4294967296 + a[i]) / 2 ^ n % 4294967296)) (by omega) (by simpa using ho) (hL.set _ e2 e3) ?_)
    · simp only [nat_right.l0]
      rw [if_pos (by omega), w64 (x := (i : Int) + 1) (by omega) (by omega), show (i : Int) + 1 = ((i + 1 : Nat) : Int) by omega, limb_ev _ _ ha]
      simp only [Option.bind_some]
      rw [if_pos (by omega), if_pos (by omega), if_pos (by omega), if_pos (by omega), rd_get _ _ hia, u64 (x := a[i]) ga.1 (by omega), u64 (x := a.getD (i + 1) 0 * 4294967296) (by omega) (by omega), or_join gx ga, shr_u64 _ _ hn, Int.toNat_natCast]
    · rw [val_set_take _ _ _ hio, val_take_succ _ _ hia, pw_succ]
      rw [getD_get _ _ hia] at hv
      generalize (a.getD (i + 1) 0 * 4294967296 + a[i]) / 2 ^ n % 4294967296 = z at *
      generalize a.getD (i + 1) 0 % 2 ^ n = y at *
      generalize a[i] % 2 ^ n = w at *
      generalize (2 : Int) ^ n = p at *
      grind
theorem right_ev (a : List Int) (n : Nat) (ha : Lim a) (hn : n ≤ 31) (hna : a.length < 1000000000) : Ev (fun k => nat_right.f k a (n : Int)) (dig (val a / 2 ^ n)) := by
  refine Ev.congr (fun k => ?_) (right_l0 a n ha hn hna a.length 0 (List.replicate a.length 0) (by omega) (by simp) (Lim.zeros _) (by simp [val, pw_zero]))
  unfold nat_right.f
  rw [if_pos (by omega), if_pos (by omega)]
  simp only [Int.toNat_natCast]
  rfl
end Go.Proofs.Ytdicjemjmlbmlaa.V
/- Written by a program of this session, wip/tools/patch_print.py, over the kit's print of the loaded functions. -/
namespace Go.Proofs.Ytdicjemjmlbmlaa.H
end Go.Proofs.Ytdicjemjmlbmlaa.H
namespace Go.Proofs.Ytdicjemjmlbmlaa.PA
open Go.RowKit Go.Proofs.YtdicjemjmlbmlaaW.PrintWords Go.Proofs.YtdicjemjmlbmlaaW.PrintLast Go.Proofs.YtdicjemjmlbmlaaW.PrintMore Go.Proofs.Ytdicjemjmlbmlaa.H
attribute [local go_sem] max2_int min2_int max_two min_two max_three min_three max_four min_four   -- for this text's walks alone
set_option linter.unusedVariables false
set_option linter.unusedSimpArgs false

/-! ### nat_take: function 109 -/
def nat_take.l0 : Nat → List Int → List Int → Int → Int → Int → Int → Int → Option (Bool × List Int)
 | 0, _, _, _, _, _, _, _ => none
 | k + 1, x0, x1, x2, x7, x8, x13, x14 => if x14 < x13 then (if 0 ≤ x14 then (if x14 < (x1.length : Int) then (if x14 < (x0.length : Int) then (nat_take.l0 k (x0.set (x14 : Int).toNat ((IntKind.u64.wrap ((IntKind.u64.wrap ((IntKind.u64.wrap (rd x0 x14)) - (Go.bits .and .u64 (IntKind.u64.wrap (x7 + (IntKind.u64.wrap (x2 * (IntKind.u64.wrap (rd x1 x14)))))) 4294967295))) - x8)) % 4294967296)) x1 x2 ((IntKind.u64.wrap (x7 + (IntKind.u64.wrap (x2 * (IntKind.u64.wrap (rd x1 x14)))))) / 4294967296) ((IntKind.u64.wrap ((IntKind.u64.wrap ((IntKind.u64.wrap (rd x0 x14)) - (Go.bits .and .u64 (IntKind.u64.wrap (x7 + (IntKind.u64.wrap (x2 * (IntKind.u64.wrap (rd x1 x14)))))) 4294967295))) - x8)) / 9223372036854775808) x13 (wrap64 (x14 + 1))) else (none)) else (none)) else (none)) else (if 0 ≤ (x1.length : Int) then (if (x1.length : Int) < (x0.length : Int) then (some ((((IntKind.u64.wrap ((IntKind.u64.wrap ((IntKind.u64.wrap (rd x0 (x1.length : Int))) - x7)) - x8)) / 9223372036854775808) == 1), (x0.set ((x1.length : Int) : Int).toNat ((IntKind.u64.wrap ((IntKind.u64.wrap ((IntKind.u64.wrap (rd x0 (x1.length : Int))) - x7)) - x8)) % 4294967296)))) else (none)) else (none))
def nat_take.f (k : Nat) (l0 : List Int) (l1 : List Int) (a2 : Int) : Option (Bool × List Int) := nat_take.l0 k l0 l1 a2 0 0 (l1.length : Int) 0
/-! ### nat_give: function 110 -/
def nat_give.l0 : Nat → List Int → List Int → Int → Int → Int → Option (List Int)
 | 0, _, _, _, _, _ => none
 | k + 1, x0, x1, x4, x7, x8 => if x8 < x7 then (if 0 ≤ x8 then (if x8 < (x0.length : Int) then (if x8 < (x1.length : Int) then (nat_give.l0 k (x0.set (x8 : Int).toNat ((IntKind.u64.wrap (x4 + (IntKind.u64.wrap ((IntKind.u64.wrap (rd x0 x8)) + (IntKind.u64.wrap (rd x1 x8)))))) % 4294967296)) x1 ((IntKind.u64.wrap (x4 + (IntKind.u64.wrap ((IntKind.u64.wrap (rd x0 x8)) + (IntKind.u64.wrap (rd x1 x8)))))) / 4294967296) x7 (wrap64 (x8 + 1))) else (none)) else (none)) else (none)) else (if 0 ≤ (x1.length : Int) then (if (x1.length : Int) < (x0.length : Int) then (some (x0.set ((x1.length : Int) : Int).toNat (((rd x0 (x1.length : Int)) + ((x4) % 4294967296)) % 4294967296))) else (none)) else (none))
def nat_give.f (k : Nat) (l0 : List Int) (l1 : List Int) : Option (List Int) := nat_give.l0 k l0 l1 0 (l1.length : Int) 0
/-! ### nat_digit: function 92 -/
mutual
def nat_digit.j1 : Nat → List Int → List Int → Int → Option (Int × List Int)
 | 0, _, _, _ => none
 | k + 1, x0, x1, x7 => (nat_take.f k x0 x1 x7).bind fun bt278 => (if bt278.1 = true then ((nat_give.f k bt278.2 x1).bind fun t280 => (some ((IntKind.u64.wrap (x7 - 1)) % 4294967296, t280))) else (some ((x7) % 4294967296, bt278.2)))
def nat_digit.l0 : Nat → List Int → List Int → Int → Int → Int → Option (Int × List Int)
 | 0, _, _, _, _, _ => none
 | k + 1, x0, x1, x5, x7, x8 => if x8 < 4294967296 then (if 0 ≤ (wrap64 (x5 - 2)) then (if (wrap64 (x5 - 2)) < (x1.length : Int) then (if (wrap64 (x5 - 2)) < (x0.length : Int) then (if (IntKind.u64.wrap (x7 * (IntKind.u64.wrap (rd x1 (wrap64 (x5 - 2)))))) > (Go.bits .or .u64 (IntKind.u64.wrap (x8 * 4294967296)) (IntKind.u64.wrap (rd x0 (wrap64 (x5 - 2))))) then (if 0 ≤ (wrap64 (x5 - 1)) then (if (wrap64 (x5 - 1)) < (x1.length : Int) then (nat_digit.l0 k x0 x1 x5 (IntKind.u64.wrap (x7 - 1)) (IntKind.u64.wrap (x8 + (IntKind.u64.wrap (rd x1 (wrap64 (x5 - 1))))))) else (none)) else (none)) else (nat_digit.j1 k x0 x1 x7)) else (none)) else (none)) else (none)) else (nat_digit.j1 k x0 x1 x7)
end
def nat_digit.f (k : Nat) (l0 : List Int) (l1 : List Int) : Option (Int × List Int) := if 0 ≤ (l1.length : Int) then (if (l1.length : Int) < (l0.length : Int) then (if 0 ≤ (wrap64 ((l1.length : Int) - 1)) then (if (wrap64 ((l1.length : Int) - 1)) < (l0.length : Int) then (if (wrap64 ((l1.length : Int) - 1)) < (l1.length : Int) then (if (IntKind.u64.wrap (rd l1 (wrap64 ((l1.length : Int) - 1)))) = 0 then (none) else (nat_digit.l0 k l0 l1 (l1.length : Int) (mn (IntKind.u64.wrap (Int.tdiv (Go.bits .or .u64 (IntKind.u64.wrap ((IntKind.u64.wrap (rd l0 (l1.length : Int))) * 4294967296)) (IntKind.u64.wrap (rd l0 (wrap64 ((l1.length : Int) - 1))))) (IntKind.u64.wrap (rd l1 (wrap64 ((l1.length : Int) - 1)))))) 4294967295) (IntKind.u64.wrap ((Go.bits .or .u64 (IntKind.u64.wrap ((IntKind.u64.wrap (rd l0 (l1.length : Int))) * 4294967296)) (IntKind.u64.wrap (rd l0 (wrap64 ((l1.length : Int) - 1))))) - (IntKind.u64.wrap ((mn (IntKind.u64.wrap (Int.tdiv (Go.bits .or .u64 (IntKind.u64.wrap ((IntKind.u64.wrap (rd l0 (l1.length : Int))) * 4294967296)) (IntKind.u64.wrap (rd l0 (wrap64 ((l1.length : Int) - 1))))) (IntKind.u64.wrap (rd l1 (wrap64 ((l1.length : Int) - 1)))))) 4294967295) * (IntKind.u64.wrap (rd l1 (wrap64 ((l1.length : Int) - 1)))))))))) else (none)) else (none)) else (none)) else (none)) else (none)
end Go.Proofs.Ytdicjemjmlbmlaa.PA
/- A window of a row of one's own (numbers of 32 bits): what the words ask of a row, for the window. -/
namespace Go.Proofs.Ytdicjemjmlbmlaa.H
open Go.RowKit Go.Proofs.YtdicjemjmlbmlaaW.PrintWords Go.Proofs.YtdicjemjmlbmlaaW.PrintLast

theorem own_any {k : Nat} {A : Option Addr} {n m c : Nat} (h : some k ≠ (Value.slice A n c).ownBlock) : some k ≠ (Value.slice A m c).ownBlock := by
  cases A with
  | none => exact h
  | some a => exact h
theorem win_add (g o j : Nat) : (⟨g, o, none⟩ : Addr).add j = ⟨g, o + j, none⟩ := by unfold Addr.add; split <;> simp_all
/-- A window: of the row of block g (N elements, capacity C) the part behind pre and ahead of suf; cap: the window's capacity. -/
structure Wn where
  g : Nat
  N : Nat
  C : Nat
  cap : Nat
  pre : List Int
  suf : List Int
def Wn.R (X : Wn) (w : World) (base : Nat) (ok : Nat → Prop) (v : Value) (xs : List Int) : Prop :=
  (∀ k, v.ownBlock = some k → ok k) ∧ v = .slice (some ⟨X.g, X.pre.length, none⟩) xs.length X.cap ∧ xs.length ≤ X.cap ∧ Kd.R (Kd.int .u32) 81 w base ok (.slice (some ⟨X.g, 0, none⟩) X.N X.C) (X.pre ++ xs ++ X.suf)
namespace Wn
variable {X : Wn} {w w1 : World} {base : Nat} {ok ok' : Nat → Prop} {v : Value} {xs : List Int}
theorem R_mono (h : X.R w base ok v xs) (hok : ∀ k, ok k → ok' k) : X.R w base ok' v xs := ⟨fun k hk => hok k (h.1 k hk), h.2.1, h.2.2.1, Kd.R_mono h.2.2.2 hok⟩
theorem R_alloc (h : X.R w base ok v xs) (o : Obj) : X.R (w.alloc o) base ok v xs := ⟨h.1, h.2.1, h.2.2.1, Kd.R_alloc h.2.2.2 o⟩
theorem R_drew (h : X.R w base ok v xs) : X.R w.drew base ok v xs := ⟨h.1, h.2.1, h.2.2.1, Kd.R_drew h.2.2.2⟩
theorem R_drewN (h : X.R w base ok v xs) (m : Nat) : X.R (w.drewN m) base ok v xs := ⟨h.1, h.2.1, h.2.2.1, Kd.R_drewN h.2.2.2 m⟩
theorem R_at {m : Nat} {w' : World} (hq : w.drewN m = w') (h : X.R w base ok v xs) : X.R w' base ok v xs := by subst hq; exact R_drewN h m
theorem R_slice (h : X.R w base ok v xs) : ∃ A c, v = .slice A xs.length c := ⟨_, _, h.2.1⟩
theorem R_tight (h : X.R w base ok v xs) : X.R w base (fun k => some k = v.ownBlock) v xs := ⟨fun k hk => hk.symm, h.2.1, h.2.2.1, by
  have := Kd.R_tight rfl h.2.2.2
  rw [h.2.1]
  exact this⟩
theorem R_reok {Q : Nat → Prop} (h : X.R w base Q v xs) (hok : ∀ k, v.ownBlock = some k → ok k) : X.R w base ok v xs := ⟨hok, h.2.1, h.2.2.1, Kd.R_reok rfl h.2.2.2 (fun k hk => hok k (by rw [h.2.1]; exact hk))⟩
theorem shape {A : Option Addr} {n c : Nat} (h : X.R w base ok (.slice A n c) xs) : A = some ⟨X.g, X.pre.length, none⟩ ∧ n = xs.length ∧ c = X.cap := by
  have := h.2.1
  injection this with h1 h2 h3
  exact ⟨h1, h2, h3⟩
theorem cell (h : X.R w base ok v xs) (i : Nat) (hi : i < xs.length) : w.cell? ⟨X.g, X.pre.length + i, none⟩ = some (.int .u32 (rd xs (i : Int))) ∧ w.frozen? ⟨X.g, X.pre.length + i, none⟩ = false := by
  obtain ⟨hN, _⟩ := Kd.R_reads' h.2.2.2
  have hl : (X.pre ++ xs ++ X.suf).length = X.pre.length + xs.length + X.suf.length := by simp; omega
  have := Kd.R_celln (0 : Int) h.2.2.2 ((X.pre.length + i : Nat) : Int) (by omega) (by omega)
  rw [Int.toNat_natCast] at this
  refine ⟨this.1.trans ?_, this.2⟩
  have e : rdOf (0 : Int) (X.pre ++ xs ++ X.suf) ((X.pre.length + i : Nat) : Int) = rd xs (i : Int) := by
    unfold rdOf rd
    rw [Int.toNat_natCast, Int.toNat_natCast, List.append_assoc, List.getD_eq_getElem?_getD, List.getElem?_append_right (by omega), Nat.add_sub_cancel_left, List.getElem?_append_left (by omega)]
    simp [List.getD_eq_getElem?_getD, hi]
  rw [e]
theorem R_reads' {A : Option Addr} {n c : Nat} (h : X.R w base ok (.slice A n c) xs) : n = xs.length ∧ n ≤ c ∧ Kd.C (Kd.int .u32) w A xs.length xs := by
  obtain ⟨rfl, rfl, rfl⟩ := shape h
  have hm := (Kd.R_reads' h.2.2.2).2.2.2.1
  refine ⟨rfl, h.2.2.1, rfl, by simp at hm; omega, fun hn => ⟨_, rfl, fun j p hp => ⟨[.int .u32 p], rfl, rfl, fun i u hu => ?_⟩⟩⟩
  have hi0 : i = 0 := by
    rcases i with _ | i
    · rfl
    · simp at hu
  subst hi0
  have hu' : Value.int .u32 p = u := by simpa using hu
  subst hu'
  obtain ⟨hj, rfl⟩ := List.getElem?_eq_some_iff.1 hp
  have := (cell h j hj).1
  have e : (⟨X.g, X.pre.length, none⟩ : Addr).add (j * (Kd.int .u32).sz + 0) = ⟨X.g, X.pre.length + j, none⟩ := by
    rw [win_add]; simp [Kd.int, Kd.scalar]
  rw [e, this]
  simp [rd, hj]
theorem R_form (h : X.R w base ok v xs) (_hp : 0 < xs.length) : ∃ g cap, v = .slice (some ⟨g, X.pre.length, none⟩) xs.length cap ∧ base ≤ g ∧ g < w.heap.size ∧ ∃ cells, w.heap[g]? = some (.cells cells 81 (0, 0)) := by
  obtain ⟨g, cap, he, hb, hl, hc⟩ := Kd.R_form h.2.2.2 (by simp; omega)
  injection he with h1 h2 h3
  injection h1 with h1
  injection h1 with h1
  subst h1
  exact ⟨_, _, h.2.1, hb, hl, hc⟩
theorem R_celln {g n cap : Nat} (h : X.R w base ok (.slice (some ⟨g, X.pre.length, none⟩) n cap) xs) (i : Int) (h0 : 0 ≤ i) (hi : i < n) : w.cell? ⟨g, X.pre.length + i.toNat, none⟩ = some (.int .u32 (rd xs i)) ∧ w.frozen? ⟨g, X.pre.length + i.toNat, none⟩ = false := by
  obtain ⟨h1, rfl, rfl⟩ := shape h
  injection h1 with h1
  injection h1 with h1
  subst h1
  have := cell h i.toNat (by omega)
  rwa [show ((i.toNat : Nat) : Int) = i by omega] at this
theorem R_putg {g n cap : Nat} (h : X.R w base ok (.slice (some ⟨g, X.pre.length, none⟩) n cap) xs) (i : Int) (x : Int) (h0 : 0 ≤ i) (hi : i < n) : X.R (w.setCell ⟨g, X.pre.length + i.toNat, none⟩ (.int .u32 x)) base ok (.slice (some ⟨g, X.pre.length, none⟩) n cap) (xs.set i.toNat x) ∧ w.grownBy (w.setCell ⟨g, X.pre.length + i.toNat, none⟩ (.int .u32 x)) (some g) := by
  obtain ⟨h1, rfl, rfl⟩ := shape h
  injection h1 with h1
  injection h1 with h1
  subst h1
  have := Kd.R_putg h.2.2.2 ((X.pre.length + i.toNat : Nat) : Int) x
  rw [Int.toNat_natCast] at this
  refine ⟨⟨h.1, by rw [List.length_set], by rw [List.length_set]; exact h.2.2.1, ?_⟩, this.2⟩
  have e : (X.pre ++ xs ++ X.suf).set (X.pre.length + i.toNat) x = X.pre ++ xs.set i.toNat x ++ X.suf := by
    rw [List.append_assoc, List.set_append_right _ _ (by omega), Nat.add_sub_cancel_left, List.set_append_left _ _ (by omega), List.append_assoc]
  rw [← e]
  exact this.1
end Wn
end Go.Proofs.Ytdicjemjmlbmlaa.H
/- Contracts over a window of a row that is written: turned by wip/tools/winprint.py from the printed contracts of YtdicjemjmlbmlaaPAx4. -/
namespace Go.Proofs.Ytdicjemjmlbmlaa.H
open Go.RowKit Go.Proofs.YtdicjemjmlbmlaaW.PrintWords Go.Proofs.YtdicjemjmlbmlaaW.PrintLast Go.Proofs.YtdicjemjmlbmlaaW.PrintMore Go.Proofs.Ytdicjemjmlbmlaa.H Go.Proofs.Ytdicjemjmlbmlaa.PA
attribute [local go_sem] max2_int min2_int max_two min_two max_three min_three max_four min_four   -- for this text's walks alone
set_option linter.unusedVariables false
set_option linter.unusedSimpArgs false
set_option maxHeartbeats 8000000 in
set_option maxRecDepth 100000 in
theorem nat_take.callsW (X_ : Wn) (k : Nat) (P0_ : Nat → Prop) (u9000_ : Value) (l0 : List Int) (A1 : Option Addr) (c1 : Nat) (l1 : List Int) (a2 : Int) (r1 : Bool) (r2 : List Int) (w0 w : World) (hB : Below w0.heap.size w0 w) (ho0 : X_.R w w0.heap.size P0_ u9000_ l0) (hr1 : ∀ W_, Kept w W_ (fun k_ => P0_ k_) → Kd.C (Kd.int .u32) W_ A1 l1.length l1) (hc1 : l1.length ≤ c1) (h : nat_take.f k l0 l1 a2 = some (r1, r2)) :
    Calls Try.prog 109 #[u9000_, .slice A1 l1.length c1, .int .u64 a2] w fun e w' => e = .returned (.bool r1) ∧ X_.R w' w0.heap.size (fun k_ => (P0_ k_ ∨ w.heap.size ≤ k_)) u9000_ r2 ∧ Below w0.heap.size w0 w' ∧ Kept w w' (fun k_ => P0_ k_) := by
  have HO0 := Aside0.mk (show X_.R w w0.heap.size (fun k_ => (P0_ k_ ∨ w.heap.size ≤ k_)) u9000_ l0 from Wn.R_mono ho0 (fun k_ hk => (.inl hk)))
  have HR1 := Aside0.mk hr1
  have HC1 := Aside0.mk hc1
  clear hr1 hc1
  have HK := Aside0.mk (Kept.refl w (fun k_ => P0_ k_))
  have HW0 := Aside0.mk hB.size
  have HB := Aside0.mk hB
  clear hB
  have H : (nat_take.l0 k l0 l1 a2 0 0 (l1.length : Int) 0) = some (r1, r2) := h
  clear h
  have H' := Aside0.mk H
  clear H
  go_enter Try.func109, Try.ntmps109
  go_wp2
  go_loopg [7, 8, 14] k (fun kq v7 v8 v14 w' => ∃ (x0_1 : List Int) (x7_1 : Int) (x8_1 : Int) (x14_1 : Int), v7 = .int .u64 x7_1 ∧ v8 = .int .u64 x8_1 ∧ v14 = .int .i64 x14_1 ∧ Aside0 (nat_take.l0 kq x0_1 l1 a2 x7_1 x8_1 (l1.length : Int) x14_1 = some (r1, r2)) ∧ Aside0 (kq ≤ k) ∧ Aside0 (X_.R w' w0.heap.size (fun k_ => (P0_ k_ ∨ w.heap.size ≤ k_)) u9000_ x0_1) ∧ Aside0 (Kept w w' (fun k_ => P0_ k_)) ∧ Aside0 (Below w0.heap.size w0 w'))
  case atStart => exact ⟨(l0), (0), (0), (0), (by first | rfl | (simp; done) | (simp [*]; done) | (refine congrArg (Value.int _) ?_; omega) | (refine congrArg Value.bool ?_; generalize ByteArray.toList _ = z_; cases z_ <;> rfl)), (by first | rfl | (simp; done) | (simp [*]; done) | (refine congrArg (Value.int _) ?_; omega) | (refine congrArg Value.bool ?_; generalize ByteArray.toList _ = z_; cases z_ <;> rfl)), (by first | rfl | (simp; done) | (simp [*]; done) | (refine congrArg (Value.int _) ?_; omega) | (refine congrArg Value.bool ?_; generalize ByteArray.toList _ = z_; cases z_ <;> rfl)), H', ⟨Nat.le_refl _⟩, ⟨by (with_reducible repeat (first | apply Wn.R_alloc | apply Wn.R_drewN | apply Wn.R_drew)); exact HO0.out⟩, ⟨by repeat (first | (with_reducible first | exact HK.out | apply Kept.alloc | apply Kept.drewN | apply Kept.drew) | exact HK.out)⟩, ⟨by repeat (first | (with_reducible first | exact HB.out | apply below_alloc | apply pw_below_drewN | apply below_drew1) | exact HB.out)⟩⟩
  case round =>
    clear H'
    try clear c1
    try clear p2
    obtain ⟨x0_1, x7_1, x8_1, x14_1, rfl, rfl, rfl, HA, HK1, HO_0, HK, HB⟩ := hrel
    cases gk with
    | zero => exact absurd HA.out (by simp [nat_take.l0])
    | succ k1 =>
      have H := HA.out
      clear HA
      simp only [nat_take.l0] at H
      by_cases c4 : x14_1 < (l1.length : Int)
      · rw [if_pos c4] at H
        have c4b0 : decide (x14_1 < (l1.length : Int)) = true := decide_eq_true c4
        clear c4
        by_cases c5 : 0 ≤ x14_1
        · rw [if_pos c5] at H
          have c5b0 : decide (0 ≤ x14_1) = true := decide_eq_true c5
          clear c5
          by_cases c6 : x14_1 < (l1.length : Int)
          · rw [if_pos c6] at H
            have c6b0 : decide (x14_1 < (l1.length : Int)) = true := decide_eq_true c6
            clear c6
            by_cases c7 : x14_1 < (x0_1.length : Int)
            · rw [if_pos c7] at H
              have c7b0 : decide (x14_1 < (x0_1.length : Int)) = true := decide_eq_true c7
              clear c7
              obtain ⟨y263, hy263⟩ : ∃ y_ : List Int, y_ = (x0_1.set (x14_1 : Int).toNat ((IntKind.u64.wrap ((IntKind.u64.wrap ((IntKind.u64.wrap (rd x0_1 x14_1)) - (Go.bits .and .u64 (IntKind.u64.wrap (x7_1 + (IntKind.u64.wrap (a2 * (IntKind.u64.wrap (rd l1 x14_1)))))) 4294967295))) - x8_1)) % 4294967296)) := ⟨_, rfl⟩
              replace H : (nat_take.l0 k1 y263 l1 a2 ((IntKind.u64.wrap (x7_1 + (IntKind.u64.wrap (a2 * (IntKind.u64.wrap (rd l1 x14_1)))))) / 4294967296) ((IntKind.u64.wrap ((IntKind.u64.wrap ((IntKind.u64.wrap (rd x0_1 x14_1)) - (Go.bits .and .u64 (IntKind.u64.wrap (x7_1 + (IntKind.u64.wrap (a2 * (IntKind.u64.wrap (rd l1 x14_1)))))) 4294967295))) - x8_1)) / 9223372036854775808) (l1.length : Int) (wrap64 (x14_1 + 1))) = some (r1, r2) := by first | (rw [hy263]; with_reducible exact H) | (have H2_ := (Option.bind_some _ _).symm.trans H; rw [hy263]; with_reducible exact H2_) | (have H2_ := (Option.bind_some _ _).symm.trans H; with_reducible exact H2_) | with_reducible exact H | (rw [hy263]; exact H) | exact H
              have Ny263 := Aside0.mk hy263
              clear hy263
              have H' := Aside0.mk H
              clear H
              have p261 : 0 ≤ (x14_1 : Int) := of_decide_eq_true (by first | (with_reducible assumption) | assumption)
              have q261 : x14_1 < (l1.length : Int) := of_decide_eq_true (by first | (with_reducible assumption) | assumption)
              obtain ⟨ad261, e261, hx261_0⟩ := Kd.at_int (Kd.C_kept_now HR1.out HK.out) x14_1 p261 q261
              cases e261
              replace p261 := eq_true p261
              replace q261 := eq_true q261
              obtain ⟨Ao9, co9, eo9⟩ := Wn.R_slice HO_0.out
              subst eo9
              have p262 : 0 ≤ (x14_1 : Int) := of_decide_eq_true (by first | (with_reducible assumption) | assumption)
              have q262 : x14_1 < (x0_1.length : Int) := of_decide_eq_true (by first | (with_reducible assumption) | assumption)
              obtain ⟨ad262, e262, hx262_0⟩ := Kd.at_int (Wn.R_reads' HO_0.out).2.2 x14_1 p262 q262
              cases e262
              replace p262 := eq_true p262
              replace q262 := eq_true q262
              have p8 : 0 ≤ (x14_1 : Int) := of_decide_eq_true (by first | (with_reducible assumption) | assumption)
              have q8 : (x14_1 : Int) < ((x0_1.length : Int) : Int) := of_decide_eq_true (by first | (with_reducible assumption) | assumption)
              obtain ⟨go8, co8, eo8, gb8, gl8, cl8, HG8⟩ := Wn.R_form HO_0.out (by omega)
              (first | cases eo8 | (injection eo8 with ea_ en_ ec_; (first | subst ea_ | (injection ea_ with ea_; subst ea_)); subst ec_; clear en_))
              have GB8 := Aside0.mk gb8
              have GG8 := Aside0.mk HG8
              clear gb8 gl8 HG8
              have HMgo8 := Aside0.mk (show (P0_ go8 ∨ w.heap.size ≤ go8) from (HO_0.out.1 _ rfl))
              (first | simp only [win_add] at hx262_0 | skip)
              obtain ⟨hx8_0, hf8_0⟩ := Wn.R_celln HO_0.out (x14_1 : Int) p8 q8
              replace p8 := eq_true p8
              replace q8 := eq_true q8
              have HP10 := Wn.R_putg HO_0.out (x14_1 : Int) ((IntKind.u64.wrap ((IntKind.u64.wrap ((IntKind.u64.wrap (rd x0_1 x14_1)) - (Go.bits .and .u64 (IntKind.u64.wrap (x7_1 + (IntKind.u64.wrap (a2 * (IntKind.u64.wrap (rd l1 x14_1)))))) 4294967295))) - x8_1)) % 4294967296) (of_eq_true p8) (of_eq_true q8)
              go_wp2_with (first | ((with_reducible refine gate_store (t := 81) (p := 40) rfl ?_); refine store_event (t := 81) (p := 40) (v := ?vo_w11) (w1 := (wr.setCell ⟨go8, X_.pre.length + (x14_1 : Int).toNat, none⟩ (.int .u32 ((IntKind.u64.wrap ((IntKind.u64.wrap ((IntKind.u64.wrap (rd x0_1 x14_1)) - (Go.bits .and .u64 (IntKind.u64.wrap (x7_1 + (IntKind.u64.wrap (a2 * (IntKind.u64.wrap (rd l1 x14_1)))))) 4294967295))) - x8_1)) % 4294967296)))) ?hg ?ho ?hn ?hr ?_; (case ho => rfl); (case hg => rfl); (case hn => rfl); (case hr => first | (go_simp; done) | (go_simp; rfl) | (go_simp; simp only [IntKind.wrap_u8, IntKind.wrap_u32]; congr 4; omega) | (go_simp; simp only [IntKind.wrap_u8, IntKind.wrap_u32]; congr 5; omega)); intro w11 hw; have hg : wr.grownBy w11 (some go8) := (by rw [hw]; exact HP10.2); have hp_ : X_.R w11 w0.heap.size (fun k_ => (P0_ k_ ∨ w.heap.size ≤ k_)) (.slice (some ⟨go8, X_.pre.length, none⟩) x0_1.length co9) y263 := (by rw [hw, Ny263.out]; exact HP10.1); clear HP10; have n0_ := Aside0.mk (hp_); have n1_ := Aside0.mk ((by rw [hw]; exact below_set (HB.out) GB8.out : Below w0.heap.size w0 w11)); have n2_ := Aside0.mk (Kept.of_grown (S := (fun k_ => P0_ k_)) hg (by repeat (first | (with_reducible first | exact HK.out | apply Kept.alloc | apply Kept.drewN | apply Kept.drew) | exact HK.out)) (fun k_ e_ => (HO_0.out.1 k_ e_))); clear HO_0; clear HB; clear HK; have HO_0 := n0_; have HB := n1_; have HK := n2_; clear n0_ n1_ n2_; clear hg hw hp_))
              go_roundg k1
              case measure => have := HK1.out; omega
              case rel => exact ⟨(y263), ((IntKind.u64.wrap (x7_1 + (IntKind.u64.wrap (a2 * (IntKind.u64.wrap (rd l1 x14_1)))))) / 4294967296), ((IntKind.u64.wrap ((IntKind.u64.wrap ((IntKind.u64.wrap (rd x0_1 x14_1)) - (Go.bits .and .u64 (IntKind.u64.wrap (x7_1 + (IntKind.u64.wrap (a2 * (IntKind.u64.wrap (rd l1 x14_1)))))) 4294967295))) - x8_1)) / 9223372036854775808), (wrap64 (x14_1 + 1)), (by first | rfl | (simp; done) | (simp [*]; done) | (refine congrArg (Value.int _) ?_; omega) | (refine congrArg Value.bool ?_; generalize ByteArray.toList _ = z_; cases z_ <;> rfl)), (by first | rfl | (simp; done) | (simp [*]; done) | (refine congrArg (Value.int _) ?_; omega) | (refine congrArg Value.bool ?_; generalize ByteArray.toList _ = z_; cases z_ <;> rfl)), (by first | rfl | (simp; done) | (simp [*]; done) | (refine congrArg (Value.int _) ?_; omega) | (refine congrArg Value.bool ?_; generalize ByteArray.toList _ = z_; cases z_ <;> rfl)), H', ⟨by have := HK1.out; omega⟩, ⟨by (with_reducible repeat (first | apply Wn.R_alloc | apply Wn.R_drewN | apply Wn.R_drew)); exact HO_0.out⟩, ⟨by repeat (first | (with_reducible first | exact HK.out | apply Kept.alloc | apply Kept.drewN | apply Kept.drew) | exact HK.out)⟩, ⟨by repeat (first | (with_reducible first | exact HB.out | apply below_alloc | apply pw_below_drewN | apply below_drew1) | exact HB.out)⟩⟩
            · rw [if_neg c7] at H
              exact absurd H (by simp)
          · rw [if_neg c6] at H
            exact absurd H (by simp)
        · rw [if_neg c5] at H
          exact absurd H (by simp)
      · rw [if_neg c4] at H
        have c4b0 : decide (x14_1 < (l1.length : Int)) = false := decide_eq_false c4
        clear c4
        by_cases c12 : 0 ≤ (l1.length : Int)
        · rw [if_pos c12] at H
          have c12b0 : decide (0 ≤ (l1.length : Int)) = true := decide_eq_true c12
          have c12b1 : decide (0 ≤ l1.length) = true := decide_eq_true (by omega)
          clear c12
          by_cases c13 : (l1.length : Int) < (x0_1.length : Int)
          · rw [if_pos c13] at H
            have c13b0 : decide ((l1.length : Int) < (x0_1.length : Int)) = true := decide_eq_true c13
            have c13b1 : decide (l1.length < x0_1.length) = true := decide_eq_true (Int.ofNat_lt.mp c13)
            clear c13
            obtain ⟨y265, hy265⟩ : ∃ y_ : List Int, y_ = (x0_1.set ((l1.length : Int) : Int).toNat ((IntKind.u64.wrap ((IntKind.u64.wrap ((IntKind.u64.wrap (rd x0_1 (l1.length : Int))) - x7_1)) - x8_1)) % 4294967296)) := ⟨_, rfl⟩
            replace H : (some ((((IntKind.u64.wrap ((IntKind.u64.wrap ((IntKind.u64.wrap (rd x0_1 (l1.length : Int))) - x7_1)) - x8_1)) / 9223372036854775808) == 1), y265)) = some (r1, r2) := by first | (rw [hy265]; with_reducible exact H) | (have H2_ := (Option.bind_some _ _).symm.trans H; rw [hy265]; with_reducible exact H2_) | (have H2_ := (Option.bind_some _ _).symm.trans H; with_reducible exact H2_) | with_reducible exact H | (rw [hy265]; exact H) | exact H
            have Ny265 := Aside0.mk hy265
            clear hy265
            simp only [Option.some.injEq, Prod.mk.injEq] at H
            obtain ⟨rfl, rfl⟩ := H
            obtain ⟨Ao15, co15, eo15⟩ := Wn.R_slice HO_0.out
            subst eo15
            have p264 : 0 ≤ ((l1.length : Int) : Int) := of_decide_eq_true (by first | (with_reducible assumption) | assumption)
            have q264 : (l1.length : Int) < (x0_1.length : Int) := of_decide_eq_true (by first | (with_reducible assumption) | assumption)
            obtain ⟨ad264, e264, hx264_0⟩ := Kd.at_int (Wn.R_reads' HO_0.out).2.2 (l1.length : Int) p264 q264
            cases e264
            (try simp only [Go.IntWalk.toNatUp] at hx264_0)
            replace p264 := eq_true p264
            replace q264 := eq_true q264
            have p14 : 0 ≤ ((l1.length : Int) : Int) := of_decide_eq_true (by first | (with_reducible assumption) | assumption)
            have q14 : ((l1.length : Int) : Int) < ((x0_1.length : Int) : Int) := of_decide_eq_true (by first | (with_reducible assumption) | assumption)
            obtain ⟨go14, co14, eo14, gb14, gl14, cl14, HG14⟩ := Wn.R_form HO_0.out (by omega)
            (first | cases eo14 | (injection eo14 with ea_ en_ ec_; (first | subst ea_ | (injection ea_ with ea_; subst ea_)); subst ec_; clear en_))
            have GB14 := Aside0.mk gb14
            have GG14 := Aside0.mk HG14
            clear gb14 gl14 HG14
            have HMgo14 := Aside0.mk (show (P0_ go14 ∨ w.heap.size ≤ go14) from (HO_0.out.1 _ rfl))
            (first | simp only [win_add] at hx264_0 | skip)
            obtain ⟨hx14_0, hf14_0⟩ := Wn.R_celln HO_0.out ((l1.length : Int) : Int) p14 q14
            (try simp only [Int.toNat_natCast] at hx14_0 hf14_0)
            replace p14 := eq_true p14
            replace q14 := eq_true q14
            have HP16 := Wn.R_putg HO_0.out ((l1.length : Int) : Int) ((IntKind.u64.wrap ((IntKind.u64.wrap ((IntKind.u64.wrap (rd x0_1 (l1.length : Int))) - x7_1)) - x8_1)) % 4294967296) (of_eq_true p14) (of_eq_true q14)
            go_wp2_with (first | ((with_reducible refine gate_store (t := 81) (p := 61) rfl ?_); refine store_event (t := 81) (p := 61) (v := ?vo_w17) (w1 := (wr.setCell ⟨go14, X_.pre.length + ((l1.length : Int) : Int).toNat, none⟩ (.int .u32 ((IntKind.u64.wrap ((IntKind.u64.wrap ((IntKind.u64.wrap (rd x0_1 (l1.length : Int))) - x7_1)) - x8_1)) % 4294967296)))) ?hg ?ho ?hn ?hr ?_; (case ho => rfl); (case hg => rfl); (case hn => rfl); (case hr => first | (go_simp; done) | (go_simp; rfl) | (go_simp; simp only [IntKind.wrap_u8, IntKind.wrap_u32]; congr 4; omega) | (go_simp; simp only [IntKind.wrap_u8, IntKind.wrap_u32]; congr 5; omega)); intro w17 hw; have hg : wr.grownBy w17 (some go14) := (by rw [hw]; exact HP16.2); have hp_ : X_.R w17 w0.heap.size (fun k_ => (P0_ k_ ∨ w.heap.size ≤ k_)) (.slice (some ⟨go14, X_.pre.length, none⟩) x0_1.length co15) y265 := (by rw [hw, Ny265.out]; exact HP16.1); clear HP16; have n0_ := Aside0.mk (hp_); have n1_ := Aside0.mk ((by rw [hw]; exact below_set (HB.out) GB14.out : Below w0.heap.size w0 w17)); have n2_ := Aside0.mk (Kept.of_grown (S := (fun k_ => P0_ k_)) hg (by repeat (first | (with_reducible first | exact HK.out | apply Kept.alloc | apply Kept.drewN | apply Kept.drew) | exact HK.out)) (fun k_ e_ => (HO_0.out.1 k_ e_))); clear HO_0; clear HB; clear HK; have HO_0 := n0_; have HB := n1_; have HK := n2_; clear n0_ n1_ n2_; clear hg hw hp_))
            go_ret
            exact ⟨by first | rfl | (simp [errW_none, errW_some] <;> rfl) | (refine congrArg (fun z_ => Ending.returned (Value.bool z_)) (decide_eq_decide.mpr ?_); unfold wrap64; omega) | (simp [*, errW_none, errW_some] <;> rfl), by (with_reducible repeat (first | apply Wn.R_alloc | apply Wn.R_drewN | apply Wn.R_drew)); exact HO_0.out, by repeat (first | (with_reducible first | exact HB.out | apply below_alloc | apply pw_below_drewN | apply below_drew1) | exact HB.out), by repeat (first | (with_reducible first | exact HK.out | apply Kept.alloc | apply Kept.drewN | apply Kept.drew) | exact HK.out)⟩
          · rw [if_neg c13] at H
            exact absurd H (by simp)
        · rw [if_neg c12] at H
          exact absurd H (by simp)
set_option maxHeartbeats 8000000 in
set_option maxRecDepth 100000 in
theorem nat_give.callsW (X_ : Wn) (k : Nat) (P0_ : Nat → Prop) (u9000_ : Value) (l0 : List Int) (A1 : Option Addr) (c1 : Nat) (l1 : List Int) (r : List Int) (w0 w : World) (hB : Below w0.heap.size w0 w) (ho0 : X_.R w w0.heap.size P0_ u9000_ l0) (hr1 : ∀ W_, Kept w W_ (fun k_ => P0_ k_) → Kd.C (Kd.int .u32) W_ A1 l1.length l1) (hc1 : l1.length ≤ c1) (h : nat_give.f k l0 l1 = some r) :
    Calls Try.prog 110 #[u9000_, .slice A1 l1.length c1] w fun e w' => e = .returned (.tuple #[]) ∧ X_.R w' w0.heap.size (fun k_ => (P0_ k_ ∨ w.heap.size ≤ k_)) u9000_ r ∧ Below w0.heap.size w0 w' ∧ Kept w w' (fun k_ => P0_ k_) := by
  have HO0 := Aside0.mk (show X_.R w w0.heap.size (fun k_ => (P0_ k_ ∨ w.heap.size ≤ k_)) u9000_ l0 from Wn.R_mono ho0 (fun k_ hk => (.inl hk)))
  have HR1 := Aside0.mk hr1
  have HC1 := Aside0.mk hc1
  clear hr1 hc1
  have HK := Aside0.mk (Kept.refl w (fun k_ => P0_ k_))
  have HW0 := Aside0.mk hB.size
  have HB := Aside0.mk hB
  clear hB
  have H : (nat_give.l0 k l0 l1 0 (l1.length : Int) 0) = some r := h
  clear h
  have H' := Aside0.mk H
  clear H
  go_enter Try.func110, Try.ntmps110
  go_wp2
  repeat (go_quiet (fail); try go_wp2)
  go_loopg [4, 8] k (fun kq v4 v8 w' => ∃ (x0_1 : List Int) (x4_1 : Int) (x8_1 : Int), v4 = .int .u64 x4_1 ∧ v8 = .int .i64 x8_1 ∧ Aside0 (nat_give.l0 kq x0_1 l1 x4_1 (l1.length : Int) x8_1 = some r) ∧ Aside0 (kq ≤ k) ∧ Aside0 (X_.R w' w0.heap.size (fun k_ => (P0_ k_ ∨ w.heap.size ≤ k_)) u9000_ x0_1) ∧ Aside0 (Kept w w' (fun k_ => P0_ k_)) ∧ Aside0 (Below w0.heap.size w0 w'))
  case atStart => exact ⟨(l0), (0), (0), (by first | rfl | (simp; done) | (simp [*]; done) | (refine congrArg (Value.int _) ?_; omega) | (refine congrArg Value.bool ?_; generalize ByteArray.toList _ = z_; cases z_ <;> rfl)), (by first | rfl | (simp; done) | (simp [*]; done) | (refine congrArg (Value.int _) ?_; omega) | (refine congrArg Value.bool ?_; generalize ByteArray.toList _ = z_; cases z_ <;> rfl)), H', ⟨Nat.le_refl _⟩, ⟨by (with_reducible repeat (first | apply Wn.R_alloc | apply Wn.R_drewN | apply Wn.R_drew)); exact HO0.out⟩, ⟨by repeat (first | (with_reducible first | exact HK.out | apply Kept.alloc | apply Kept.drewN | apply Kept.drew) | exact HK.out)⟩, ⟨by repeat (first | (with_reducible first | exact HB.out | apply below_alloc | apply pw_below_drewN | apply below_drew1) | exact HB.out)⟩⟩
  case round =>
    clear H'
    try clear c1
    try clear p2
    obtain ⟨x0_1, x4_1, x8_1, rfl, rfl, HA, HK1, HO_0, HK, HB⟩ := hrel
    cases gk with
    | zero => exact absurd HA.out (by simp [nat_give.l0])
    | succ k1 =>
      have H := HA.out
      clear HA
      simp only [nat_give.l0] at H
      by_cases c3 : x8_1 < (l1.length : Int)
      · rw [if_pos c3] at H
        have c3b0 : decide (x8_1 < (l1.length : Int)) = true := decide_eq_true c3
        clear c3
        by_cases c4 : 0 ≤ x8_1
        · rw [if_pos c4] at H
          have c4b0 : decide (0 ≤ x8_1) = true := decide_eq_true c4
          clear c4
          by_cases c5 : x8_1 < (x0_1.length : Int)
          · rw [if_pos c5] at H
            have c5b0 : decide (x8_1 < (x0_1.length : Int)) = true := decide_eq_true c5
            clear c5
            by_cases c6 : x8_1 < (l1.length : Int)
            · rw [if_pos c6] at H
              have c6b0 : decide (x8_1 < (l1.length : Int)) = true := decide_eq_true c6
              clear c6
              obtain ⟨y268, hy268⟩ : ∃ y_ : List Int, y_ = (x0_1.set (x8_1 : Int).toNat ((IntKind.u64.wrap (x4_1 + (IntKind.u64.wrap ((IntKind.u64.wrap (rd x0_1 x8_1)) + (IntKind.u64.wrap (rd l1 x8_1)))))) % 4294967296)) := ⟨_, rfl⟩
              replace H : (nat_give.l0 k1 y268 l1 ((IntKind.u64.wrap (x4_1 + (IntKind.u64.wrap ((IntKind.u64.wrap (rd x0_1 x8_1)) + (IntKind.u64.wrap (rd l1 x8_1)))))) / 4294967296) (l1.length : Int) (wrap64 (x8_1 + 1))) = some r := by first | (rw [hy268]; with_reducible exact H) | (have H2_ := (Option.bind_some _ _).symm.trans H; rw [hy268]; with_reducible exact H2_) | (have H2_ := (Option.bind_some _ _).symm.trans H; with_reducible exact H2_) | with_reducible exact H | (rw [hy268]; exact H) | exact H
              have Ny268 := Aside0.mk hy268
              clear hy268
              have H' := Aside0.mk H
              clear H
              obtain ⟨Ao8, co8, eo8⟩ := Wn.R_slice HO_0.out
              subst eo8
              have p266 : 0 ≤ (x8_1 : Int) := of_decide_eq_true (by first | (with_reducible assumption) | assumption)
              have q266 : x8_1 < (x0_1.length : Int) := of_decide_eq_true (by first | (with_reducible assumption) | assumption)
              obtain ⟨ad266, e266, hx266_0⟩ := Kd.at_int (Wn.R_reads' HO_0.out).2.2 x8_1 p266 q266
              cases e266
              replace p266 := eq_true p266
              replace q266 := eq_true q266
              have p267 : 0 ≤ (x8_1 : Int) := of_decide_eq_true (by first | (with_reducible assumption) | assumption)
              have q267 : x8_1 < (l1.length : Int) := of_decide_eq_true (by first | (with_reducible assumption) | assumption)
              obtain ⟨ad267, e267, hx267_0⟩ := Kd.at_int (Kd.C_kept_now HR1.out HK.out) x8_1 p267 q267
              cases e267
              replace p267 := eq_true p267
              replace q267 := eq_true q267
              have p7 : 0 ≤ (x8_1 : Int) := of_decide_eq_true (by first | (with_reducible assumption) | assumption)
              have q7 : (x8_1 : Int) < ((x0_1.length : Int) : Int) := of_decide_eq_true (by first | (with_reducible assumption) | assumption)
              obtain ⟨go7, co7, eo7, gb7, gl7, cl7, HG7⟩ := Wn.R_form HO_0.out (by omega)
              (first | cases eo7 | (injection eo7 with ea_ en_ ec_; (first | subst ea_ | (injection ea_ with ea_; subst ea_)); subst ec_; clear en_))
              have GB7 := Aside0.mk gb7
              have GG7 := Aside0.mk HG7
              clear gb7 gl7 HG7
              have HMgo7 := Aside0.mk (show (P0_ go7 ∨ w.heap.size ≤ go7) from (HO_0.out.1 _ rfl))
              (first | simp only [win_add] at hx266_0 | skip)
              obtain ⟨hx7_0, hf7_0⟩ := Wn.R_celln HO_0.out (x8_1 : Int) p7 q7
              replace p7 := eq_true p7
              replace q7 := eq_true q7
              have HP9 := Wn.R_putg HO_0.out (x8_1 : Int) ((IntKind.u64.wrap (x4_1 + (IntKind.u64.wrap ((IntKind.u64.wrap (rd x0_1 x8_1)) + (IntKind.u64.wrap (rd l1 x8_1)))))) % 4294967296) (of_eq_true p7) (of_eq_true q7)
              go_wp2_with (first | ((with_reducible refine gate_store (t := 81) (p := 28) rfl ?_); (try (rw [drewN_self wr]; generalize hq_ : World.drewN wr _ = wr; have n0_ := Aside0.mk (Wn.R_at hq_ HO_0.out); have n1_ := Aside0.mk (kept_at hq_ HK.out); have n2_ := Aside0.mk (below_at hq_ HB.out); clear hq_ HO_0 HK HB; have HO_0 := n0_; have HK := n1_; have HB := n2_; clear n0_ n1_ n2_; (try (obtain ⟨hx7_0, hf7_0⟩ := Wn.R_celln HO_0.out (x8_1 : Int) (of_eq_true p7) (of_eq_true q7))); (try (have HP9 := Wn.R_putg HO_0.out (x8_1 : Int) ((IntKind.u64.wrap (x4_1 + (IntKind.u64.wrap ((IntKind.u64.wrap (rd x0_1 x8_1)) + (IntKind.u64.wrap (rd l1 x8_1)))))) % 4294967296) (of_eq_true p7) (of_eq_true q7))))); refine store_event (t := 81) (p := 28) (v := ?vo_w10) (w1 := (wr.setCell ⟨go7, X_.pre.length + (x8_1 : Int).toNat, none⟩ (.int .u32 ((IntKind.u64.wrap (x4_1 + (IntKind.u64.wrap ((IntKind.u64.wrap (rd x0_1 x8_1)) + (IntKind.u64.wrap (rd l1 x8_1)))))) % 4294967296)))) ?hg ?ho ?hn ?hr ?_; (case ho => rfl); (case hg => rfl); (case hn => rfl); (case hr => first | (go_simp; done) | (go_simp; rfl) | (go_simp; simp only [IntKind.wrap_u8, IntKind.wrap_u32]; congr 4; omega) | (go_simp; simp only [IntKind.wrap_u8, IntKind.wrap_u32]; congr 5; omega)); intro w10 hw; have hg : wr.grownBy w10 (some go7) := (by rw [hw]; exact HP9.2); have hp_ : X_.R w10 w0.heap.size (fun k_ => (P0_ k_ ∨ w.heap.size ≤ k_)) (.slice (some ⟨go7, X_.pre.length, none⟩) x0_1.length co8) y268 := (by rw [hw, Ny268.out]; exact HP9.1); clear HP9; have n0_ := Aside0.mk (hp_); have n1_ := Aside0.mk ((by rw [hw]; exact below_set (HB.out) GB7.out : Below w0.heap.size w0 w10)); have n2_ := Aside0.mk (Kept.of_grown (S := (fun k_ => P0_ k_)) hg (by repeat (first | (with_reducible first | exact HK.out | apply Kept.alloc | apply Kept.drewN | apply Kept.drew) | exact HK.out)) (fun k_ e_ => (HO_0.out.1 k_ e_))); clear HO_0; clear HB; clear HK; have HO_0 := n0_; have HB := n1_; have HK := n2_; clear n0_ n1_ n2_; clear hg hw hp_))
              repeat (go_quiet (first | ((with_reducible refine gate_store (t := 81) (p := 28) rfl ?_); (try (rw [drewN_self wr]; generalize hq_ : World.drewN wr _ = wr; have n0_ := Aside0.mk (Wn.R_at hq_ HO_0.out); have n1_ := Aside0.mk (kept_at hq_ HK.out); have n2_ := Aside0.mk (below_at hq_ HB.out); clear hq_ HO_0 HK HB; have HO_0 := n0_; have HK := n1_; have HB := n2_; clear n0_ n1_ n2_; (try (obtain ⟨hx7_0, hf7_0⟩ := Wn.R_celln HO_0.out (x8_1 : Int) (of_eq_true p7) (of_eq_true q7))); (try (have HP9 := Wn.R_putg HO_0.out (x8_1 : Int) ((IntKind.u64.wrap (x4_1 + (IntKind.u64.wrap ((IntKind.u64.wrap (rd x0_1 x8_1)) + (IntKind.u64.wrap (rd l1 x8_1)))))) % 4294967296) (of_eq_true p7) (of_eq_true q7))))); refine store_event (t := 81) (p := 28) (v := ?vo_w10) (w1 := (wr.setCell ⟨go7, X_.pre.length + (x8_1 : Int).toNat, none⟩ (.int .u32 ((IntKind.u64.wrap (x4_1 + (IntKind.u64.wrap ((IntKind.u64.wrap (rd x0_1 x8_1)) + (IntKind.u64.wrap (rd l1 x8_1)))))) % 4294967296)))) ?hg ?ho ?hn ?hr ?_; (case ho => rfl); (case hg => rfl); (case hn => rfl); (case hr => first | (go_simp; done) | (go_simp; rfl) | (go_simp; simp only [IntKind.wrap_u8, IntKind.wrap_u32]; congr 4; omega) | (go_simp; simp only [IntKind.wrap_u8, IntKind.wrap_u32]; congr 5; omega)); intro w10 hw; have hg : wr.grownBy w10 (some go7) := (by rw [hw]; exact HP9.2); have hp_ : X_.R w10 w0.heap.size (fun k_ => (P0_ k_ ∨ w.heap.size ≤ k_)) (.slice (some ⟨go7, X_.pre.length, none⟩) x0_1.length co8) y268 := (by rw [hw, Ny268.out]; exact HP9.1); clear HP9; have n0_ := Aside0.mk (hp_); have n1_ := Aside0.mk ((by rw [hw]; exact below_set (HB.out) GB7.out : Below w0.heap.size w0 w10)); have n2_ := Aside0.mk (Kept.of_grown (S := (fun k_ => P0_ k_)) hg (by repeat (first | (with_reducible first | exact HK.out | apply Kept.alloc | apply Kept.drewN | apply Kept.drew) | exact HK.out)) (fun k_ e_ => (HO_0.out.1 k_ e_))); clear HO_0; clear HB; clear HK; have HO_0 := n0_; have HB := n1_; have HK := n2_; clear n0_ n1_ n2_; clear hg hw hp_)); try go_wp2_with (first | ((with_reducible refine gate_store (t := 81) (p := 28) rfl ?_); (try (rw [drewN_self wr]; generalize hq_ : World.drewN wr _ = wr; have n0_ := Aside0.mk (Wn.R_at hq_ HO_0.out); have n1_ := Aside0.mk (kept_at hq_ HK.out); have n2_ := Aside0.mk (below_at hq_ HB.out); clear hq_ HO_0 HK HB; have HO_0 := n0_; have HK := n1_; have HB := n2_; clear n0_ n1_ n2_; (try (obtain ⟨hx7_0, hf7_0⟩ := Wn.R_celln HO_0.out (x8_1 : Int) (of_eq_true p7) (of_eq_true q7))); (try (have HP9 := Wn.R_putg HO_0.out (x8_1 : Int) ((IntKind.u64.wrap (x4_1 + (IntKind.u64.wrap ((IntKind.u64.wrap (rd x0_1 x8_1)) + (IntKind.u64.wrap (rd l1 x8_1)))))) % 4294967296) (of_eq_true p7) (of_eq_true q7))))); refine store_event (t := 81) (p := 28) (v := ?vo_w10) (w1 := (wr.setCell ⟨go7, X_.pre.length + (x8_1 : Int).toNat, none⟩ (.int .u32 ((IntKind.u64.wrap (x4_1 + (IntKind.u64.wrap ((IntKind.u64.wrap (rd x0_1 x8_1)) + (IntKind.u64.wrap (rd l1 x8_1)))))) % 4294967296)))) ?hg ?ho ?hn ?hr ?_; (case ho => rfl); (case hg => rfl); (case hn => rfl); (case hr => first | (go_simp; done) | (go_simp; rfl) | (go_simp; simp only [IntKind.wrap_u8, IntKind.wrap_u32]; congr 4; omega) | (go_simp; simp only [IntKind.wrap_u8, IntKind.wrap_u32]; congr 5; omega)); intro w10 hw; have hg : wr.grownBy w10 (some go7) := (by rw [hw]; exact HP9.2); have hp_ : X_.R w10 w0.heap.size (fun k_ => (P0_ k_ ∨ w.heap.size ≤ k_)) (.slice (some ⟨go7, X_.pre.length, none⟩) x0_1.length co8) y268 := (by rw [hw, Ny268.out]; exact HP9.1); clear HP9; have n0_ := Aside0.mk (hp_); have n1_ := Aside0.mk ((by rw [hw]; exact below_set (HB.out) GB7.out : Below w0.heap.size w0 w10)); have n2_ := Aside0.mk (Kept.of_grown (S := (fun k_ => P0_ k_)) hg (by repeat (first | (with_reducible first | exact HK.out | apply Kept.alloc | apply Kept.drewN | apply Kept.drew) | exact HK.out)) (fun k_ e_ => (HO_0.out.1 k_ e_))); clear HO_0; clear HB; clear HK; have HO_0 := n0_; have HB := n1_; have HK := n2_; clear n0_ n1_ n2_; clear hg hw hp_)))
              go_roundg k1
              case measure => have := HK1.out; omega
              case rel => exact ⟨(y268), ((IntKind.u64.wrap (x4_1 + (IntKind.u64.wrap ((IntKind.u64.wrap (rd x0_1 x8_1)) + (IntKind.u64.wrap (rd l1 x8_1)))))) / 4294967296), (wrap64 (x8_1 + 1)), (by first | rfl | (simp; done) | (simp [*]; done) | (refine congrArg (Value.int _) ?_; omega) | (refine congrArg Value.bool ?_; generalize ByteArray.toList _ = z_; cases z_ <;> rfl)), (by first | rfl | (simp; done) | (simp [*]; done) | (refine congrArg (Value.int _) ?_; omega) | (refine congrArg Value.bool ?_; generalize ByteArray.toList _ = z_; cases z_ <;> rfl)), H', ⟨by have := HK1.out; omega⟩, ⟨by (with_reducible repeat (first | apply Wn.R_alloc | apply Wn.R_drewN | apply Wn.R_drew)); exact HO_0.out⟩, ⟨by repeat (first | (with_reducible first | exact HK.out | apply Kept.alloc | apply Kept.drewN | apply Kept.drew) | exact HK.out)⟩, ⟨by repeat (first | (with_reducible first | exact HB.out | apply below_alloc | apply pw_below_drewN | apply below_drew1) | exact HB.out)⟩⟩
            · rw [if_neg c6] at H
              exact absurd H (by simp)
          · rw [if_neg c5] at H
            exact absurd H (by simp)
        · rw [if_neg c4] at H
          exact absurd H (by simp)
      · rw [if_neg c3] at H
        have c3b0 : decide (x8_1 < (l1.length : Int)) = false := decide_eq_false c3
        clear c3
        by_cases c11 : 0 ≤ (l1.length : Int)
        · rw [if_pos c11] at H
          have c11b0 : decide (0 ≤ (l1.length : Int)) = true := decide_eq_true c11
          have c11b1 : decide (0 ≤ l1.length) = true := decide_eq_true (by omega)
          clear c11
          by_cases c12 : (l1.length : Int) < (x0_1.length : Int)
          · rw [if_pos c12] at H
            have c12b0 : decide ((l1.length : Int) < (x0_1.length : Int)) = true := decide_eq_true c12
            have c12b1 : decide (l1.length < x0_1.length) = true := decide_eq_true (Int.ofNat_lt.mp c12)
            clear c12
            obtain ⟨y270, hy270⟩ : ∃ y_ : List Int, y_ = (x0_1.set ((l1.length : Int) : Int).toNat (((rd x0_1 (l1.length : Int)) + ((x4_1) % 4294967296)) % 4294967296)) := ⟨_, rfl⟩
            replace H : (some y270) = some r := by first | (rw [hy270]; with_reducible exact H) | (have H2_ := (Option.bind_some _ _).symm.trans H; rw [hy270]; with_reducible exact H2_) | (have H2_ := (Option.bind_some _ _).symm.trans H; with_reducible exact H2_) | with_reducible exact H | (rw [hy270]; exact H) | exact H
            have Ny270 := Aside0.mk hy270
            clear hy270
            obtain rfl := Option.some.inj H
            obtain ⟨Ao14, co14, eo14⟩ := Wn.R_slice HO_0.out
            subst eo14
            have p269 : 0 ≤ ((l1.length : Int) : Int) := of_decide_eq_true (by first | (with_reducible assumption) | assumption)
            have q269 : (l1.length : Int) < (x0_1.length : Int) := of_decide_eq_true (by first | (with_reducible assumption) | assumption)
            obtain ⟨ad269, e269, hx269_0⟩ := Kd.at_int (Wn.R_reads' HO_0.out).2.2 (l1.length : Int) p269 q269
            cases e269
            (try simp only [Go.IntWalk.toNatUp] at hx269_0)
            replace p269 := eq_true p269
            replace q269 := eq_true q269
            have p13 : 0 ≤ ((l1.length : Int) : Int) := of_decide_eq_true (by first | (with_reducible assumption) | assumption)
            have q13 : ((l1.length : Int) : Int) < ((x0_1.length : Int) : Int) := of_decide_eq_true (by first | (with_reducible assumption) | assumption)
            obtain ⟨go13, co13, eo13, gb13, gl13, cl13, HG13⟩ := Wn.R_form HO_0.out (by omega)
            (first | cases eo13 | (injection eo13 with ea_ en_ ec_; (first | subst ea_ | (injection ea_ with ea_; subst ea_)); subst ec_; clear en_))
            have GB13 := Aside0.mk gb13
            have GG13 := Aside0.mk HG13
            clear gb13 gl13 HG13
            have HMgo13 := Aside0.mk (show (P0_ go13 ∨ w.heap.size ≤ go13) from (HO_0.out.1 _ rfl))
            (first | simp only [win_add] at hx269_0 | skip)
            obtain ⟨hx13_0, hf13_0⟩ := Wn.R_celln HO_0.out ((l1.length : Int) : Int) p13 q13
            (try simp only [Int.toNat_natCast] at hx13_0 hf13_0)
            replace p13 := eq_true p13
            replace q13 := eq_true q13
            have HP15 := Wn.R_putg HO_0.out ((l1.length : Int) : Int) (((rd x0_1 (l1.length : Int)) + ((x4_1) % 4294967296)) % 4294967296) (of_eq_true p13) (of_eq_true q13)
            go_wp2_with (first | ((with_reducible refine gate_store (t := 81) (p := 40) rfl ?_); (try (rw [drewN_self wr]; generalize hq_ : World.drewN wr _ = wr; have n0_ := Aside0.mk (Wn.R_at hq_ HO_0.out); have n1_ := Aside0.mk (kept_at hq_ HK.out); have n2_ := Aside0.mk (below_at hq_ HB.out); clear hq_ HO_0 HK HB; have HO_0 := n0_; have HK := n1_; have HB := n2_; clear n0_ n1_ n2_; (try (obtain ⟨hx13_0, hf13_0⟩ := Wn.R_celln HO_0.out ((l1.length : Int) : Int) (of_eq_true p13) (of_eq_true q13))); (try (have HP15 := Wn.R_putg HO_0.out ((l1.length : Int) : Int) (((rd x0_1 (l1.length : Int)) + ((x4_1) % 4294967296)) % 4294967296) (of_eq_true p13) (of_eq_true q13))))); refine store_event (t := 81) (p := 40) (v := ?vo_w16) (w1 := (wr.setCell ⟨go13, X_.pre.length + ((l1.length : Int) : Int).toNat, none⟩ (.int .u32 (((rd x0_1 (l1.length : Int)) + ((x4_1) % 4294967296)) % 4294967296)))) ?hg ?ho ?hn ?hr ?_; (case ho => rfl); (case hg => rfl); (case hn => rfl); (case hr => first | (go_simp; done) | (go_simp; rfl) | (go_simp; simp only [IntKind.wrap_u8, IntKind.wrap_u32]; congr 4; omega) | (go_simp; simp only [IntKind.wrap_u8, IntKind.wrap_u32]; congr 5; omega)); intro w16 hw; have hg : wr.grownBy w16 (some go13) := (by rw [hw]; exact HP15.2); have hp_ : X_.R w16 w0.heap.size (fun k_ => (P0_ k_ ∨ w.heap.size ≤ k_)) (.slice (some ⟨go13, X_.pre.length, none⟩) x0_1.length co14) y270 := (by rw [hw, Ny270.out]; exact HP15.1); clear HP15; have n0_ := Aside0.mk (hp_); have n1_ := Aside0.mk ((by rw [hw]; exact below_set (HB.out) GB13.out : Below w0.heap.size w0 w16)); have n2_ := Aside0.mk (Kept.of_grown (S := (fun k_ => P0_ k_)) hg (by repeat (first | (with_reducible first | exact HK.out | apply Kept.alloc | apply Kept.drewN | apply Kept.drew) | exact HK.out)) (fun k_ e_ => (HO_0.out.1 k_ e_))); clear HO_0; clear HB; clear HK; have HO_0 := n0_; have HB := n1_; have HK := n2_; clear n0_ n1_ n2_; clear hg hw hp_))
            repeat (go_quiet (first | ((with_reducible refine gate_store (t := 81) (p := 40) rfl ?_); (try (rw [drewN_self wr]; generalize hq_ : World.drewN wr _ = wr; have n0_ := Aside0.mk (Wn.R_at hq_ HO_0.out); have n1_ := Aside0.mk (kept_at hq_ HK.out); have n2_ := Aside0.mk (below_at hq_ HB.out); clear hq_ HO_0 HK HB; have HO_0 := n0_; have HK := n1_; have HB := n2_; clear n0_ n1_ n2_; (try (obtain ⟨hx13_0, hf13_0⟩ := Wn.R_celln HO_0.out ((l1.length : Int) : Int) (of_eq_true p13) (of_eq_true q13))); (try (have HP15 := Wn.R_putg HO_0.out ((l1.length : Int) : Int) (((rd x0_1 (l1.length : Int)) + ((x4_1) % 4294967296)) % 4294967296) (of_eq_true p13) (of_eq_true q13))))); refine store_event (t := 81) (p := 40) (v := ?vo_w16) (w1 := (wr.setCell ⟨go13, X_.pre.length + ((l1.length : Int) : Int).toNat, none⟩ (.int .u32 (((rd x0_1 (l1.length : Int)) + ((x4_1) % 4294967296)) % 4294967296)))) ?hg ?ho ?hn ?hr ?_; (case ho => rfl); (case hg => rfl); (case hn => rfl); (case hr => first | (go_simp; done) | (go_simp; rfl) | (go_simp; simp only [IntKind.wrap_u8, IntKind.wrap_u32]; congr 4; omega) | (go_simp; simp only [IntKind.wrap_u8, IntKind.wrap_u32]; congr 5; omega)); intro w16 hw; have hg : wr.grownBy w16 (some go13) := (by rw [hw]; exact HP15.2); have hp_ : X_.R w16 w0.heap.size (fun k_ => (P0_ k_ ∨ w.heap.size ≤ k_)) (.slice (some ⟨go13, X_.pre.length, none⟩) x0_1.length co14) y270 := (by rw [hw, Ny270.out]; exact HP15.1); clear HP15; have n0_ := Aside0.mk (hp_); have n1_ := Aside0.mk ((by rw [hw]; exact below_set (HB.out) GB13.out : Below w0.heap.size w0 w16)); have n2_ := Aside0.mk (Kept.of_grown (S := (fun k_ => P0_ k_)) hg (by repeat (first | (with_reducible first | exact HK.out | apply Kept.alloc | apply Kept.drewN | apply Kept.drew) | exact HK.out)) (fun k_ e_ => (HO_0.out.1 k_ e_))); clear HO_0; clear HB; clear HK; have HO_0 := n0_; have HB := n1_; have HK := n2_; clear n0_ n1_ n2_; clear hg hw hp_)); try go_wp2_with (first | ((with_reducible refine gate_store (t := 81) (p := 40) rfl ?_); (try (rw [drewN_self wr]; generalize hq_ : World.drewN wr _ = wr; have n0_ := Aside0.mk (Wn.R_at hq_ HO_0.out); have n1_ := Aside0.mk (kept_at hq_ HK.out); have n2_ := Aside0.mk (below_at hq_ HB.out); clear hq_ HO_0 HK HB; have HO_0 := n0_; have HK := n1_; have HB := n2_; clear n0_ n1_ n2_; (try (obtain ⟨hx13_0, hf13_0⟩ := Wn.R_celln HO_0.out ((l1.length : Int) : Int) (of_eq_true p13) (of_eq_true q13))); (try (have HP15 := Wn.R_putg HO_0.out ((l1.length : Int) : Int) (((rd x0_1 (l1.length : Int)) + ((x4_1) % 4294967296)) % 4294967296) (of_eq_true p13) (of_eq_true q13))))); refine store_event (t := 81) (p := 40) (v := ?vo_w16) (w1 := (wr.setCell ⟨go13, X_.pre.length + ((l1.length : Int) : Int).toNat, none⟩ (.int .u32 (((rd x0_1 (l1.length : Int)) + ((x4_1) % 4294967296)) % 4294967296)))) ?hg ?ho ?hn ?hr ?_; (case ho => rfl); (case hg => rfl); (case hn => rfl); (case hr => first | (go_simp; done) | (go_simp; rfl) | (go_simp; simp only [IntKind.wrap_u8, IntKind.wrap_u32]; congr 4; omega) | (go_simp; simp only [IntKind.wrap_u8, IntKind.wrap_u32]; congr 5; omega)); intro w16 hw; have hg : wr.grownBy w16 (some go13) := (by rw [hw]; exact HP15.2); have hp_ : X_.R w16 w0.heap.size (fun k_ => (P0_ k_ ∨ w.heap.size ≤ k_)) (.slice (some ⟨go13, X_.pre.length, none⟩) x0_1.length co14) y270 := (by rw [hw, Ny270.out]; exact HP15.1); clear HP15; have n0_ := Aside0.mk (hp_); have n1_ := Aside0.mk ((by rw [hw]; exact below_set (HB.out) GB13.out : Below w0.heap.size w0 w16)); have n2_ := Aside0.mk (Kept.of_grown (S := (fun k_ => P0_ k_)) hg (by repeat (first | (with_reducible first | exact HK.out | apply Kept.alloc | apply Kept.drewN | apply Kept.drew) | exact HK.out)) (fun k_ e_ => (HO_0.out.1 k_ e_))); clear HO_0; clear HB; clear HK; have HO_0 := n0_; have HB := n1_; have HK := n2_; clear n0_ n1_ n2_; clear hg hw hp_)))
            first | go_end0 | ((try simp only [Exit.inBlock, Exit.then]); refine bodyPost_ret (results_none rfl _ _ _) rfl ?_)
            exact ⟨by first | rfl | (simp [errW_none, errW_some] <;> rfl) | (refine congrArg (fun z_ => Ending.returned (Value.bool z_)) (decide_eq_decide.mpr ?_); unfold wrap64; omega) | (simp [*, errW_none, errW_some] <;> rfl), by (with_reducible repeat (first | apply Wn.R_alloc | apply Wn.R_drewN | apply Wn.R_drew)); exact HO_0.out, by repeat (first | (with_reducible first | exact HB.out | apply below_alloc | apply pw_below_drewN | apply below_drew1) | exact HB.out), by repeat (first | (with_reducible first | exact HK.out | apply Kept.alloc | apply Kept.drewN | apply Kept.drew) | exact HK.out)⟩
          · rw [if_neg c12] at H
            exact absurd H (by simp)
        · rw [if_neg c11] at H
          exact absurd H (by simp)
set_option maxHeartbeats 8000000 in
set_option maxRecDepth 100000 in
theorem nat_digit.callsW (X_ : Wn) (k : Nat) (P0_ : Nat → Prop) (u9000_ : Value) (l0 : List Int) (A1 : Option Addr) (c1 : Nat) (l1 : List Int) (r1 : Int) (r2 : List Int) (w0 w : World) (hB : Below w0.heap.size w0 w) (ho0 : X_.R w w0.heap.size P0_ u9000_ l0) (hr1 : ∀ W_, Kept w W_ (fun k_ => P0_ k_) → Kd.C (Kd.int .u32) W_ A1 l1.length l1) (hc1 : l1.length ≤ c1) (h : nat_digit.f k l0 l1 = some (r1, r2)) :
    Calls Try.prog 92 #[u9000_, .slice A1 l1.length c1] w fun e w' => e = .returned (.int .u32 r1) ∧ X_.R w' w0.heap.size (fun k_ => (P0_ k_ ∨ w.heap.size ≤ k_)) u9000_ r2 ∧ Below w0.heap.size w0 w' ∧ Kept w w' (fun k_ => P0_ k_) := by
  have HO0 := Aside0.mk (show X_.R w w0.heap.size (fun k_ => (P0_ k_ ∨ w.heap.size ≤ k_)) u9000_ l0 from Wn.R_mono ho0 (fun k_ hk => (.inl hk)))
  have HR1 := Aside0.mk hr1
  have HC1 := Aside0.mk hc1
  clear hr1 hc1
  have HK := Aside0.mk (Kept.refl w (fun k_ => P0_ k_))
  have HW0 := Aside0.mk hB.size
  have HB := Aside0.mk hB
  clear hB
  have H : (if 0 ≤ (l1.length : Int) then (if (l1.length : Int) < (l0.length : Int) then (if 0 ≤ (wrap64 ((l1.length : Int) - 1)) then (if (wrap64 ((l1.length : Int) - 1)) < (l0.length : Int) then (if (wrap64 ((l1.length : Int) - 1)) < (l1.length : Int) then (if (IntKind.u64.wrap (rd l1 (wrap64 ((l1.length : Int) - 1)))) = 0 then (none) else (nat_digit.l0 k l0 l1 (l1.length : Int) (mn (IntKind.u64.wrap (Int.tdiv (Go.bits .or .u64 (IntKind.u64.wrap ((IntKind.u64.wrap (rd l0 (l1.length : Int))) * 4294967296)) (IntKind.u64.wrap (rd l0 (wrap64 ((l1.length : Int) - 1))))) (IntKind.u64.wrap (rd l1 (wrap64 ((l1.length : Int) - 1)))))) 4294967295) (IntKind.u64.wrap ((Go.bits .or .u64 (IntKind.u64.wrap ((IntKind.u64.wrap (rd l0 (l1.length : Int))) * 4294967296)) (IntKind.u64.wrap (rd l0 (wrap64 ((l1.length : Int) - 1))))) - (IntKind.u64.wrap ((mn (IntKind.u64.wrap (Int.tdiv (Go.bits .or .u64 (IntKind.u64.wrap ((IntKind.u64.wrap (rd l0 (l1.length : Int))) * 4294967296)) (IntKind.u64.wrap (rd l0 (wrap64 ((l1.length : Int) - 1))))) (IntKind.u64.wrap (rd l1 (wrap64 ((l1.length : Int) - 1)))))) 4294967295) * (IntKind.u64.wrap (rd l1 (wrap64 ((l1.length : Int) - 1)))))))))) else (none)) else (none)) else (none)) else (none)) else (none)) = some (r1, r2) := h
  clear h
  by_cases c3 : 0 ≤ (l1.length : Int)
  · rw [if_pos c3] at H
    have c3b0 : decide (0 ≤ (l1.length : Int)) = true := decide_eq_true c3
    have c3b1 : decide (0 ≤ l1.length) = true := decide_eq_true (by omega)
    clear c3
    by_cases c4 : (l1.length : Int) < (l0.length : Int)
    · rw [if_pos c4] at H
      have c4b0 : decide ((l1.length : Int) < (l0.length : Int)) = true := decide_eq_true c4
      have c4b1 : decide (l1.length < l0.length) = true := decide_eq_true (Int.ofNat_lt.mp c4)
      clear c4
      obtain ⟨ji5, hji5⟩ : ∃ j_ : Int, (wrap64 ((l1.length : Int) - 1)) = j_ := ⟨_, rfl⟩
      replace H : (if 0 ≤ (ji5) then (if (ji5) < (l0.length : Int) then (if (ji5) < (l1.length : Int) then (if (IntKind.u64.wrap (rd l1 (ji5))) = 0 then (none) else (nat_digit.l0 k l0 l1 (l1.length : Int) (mn (IntKind.u64.wrap (Int.tdiv (Go.bits .or .u64 (IntKind.u64.wrap ((IntKind.u64.wrap (rd l0 (l1.length : Int))) * 4294967296)) (IntKind.u64.wrap (rd l0 (ji5)))) (IntKind.u64.wrap (rd l1 (ji5))))) 4294967295) (IntKind.u64.wrap ((Go.bits .or .u64 (IntKind.u64.wrap ((IntKind.u64.wrap (rd l0 (l1.length : Int))) * 4294967296)) (IntKind.u64.wrap (rd l0 (ji5)))) - (IntKind.u64.wrap ((mn (IntKind.u64.wrap (Int.tdiv (Go.bits .or .u64 (IntKind.u64.wrap ((IntKind.u64.wrap (rd l0 (l1.length : Int))) * 4294967296)) (IntKind.u64.wrap (rd l0 (ji5)))) (IntKind.u64.wrap (rd l1 (ji5))))) 4294967295) * (IntKind.u64.wrap (rd l1 (ji5))))))))) else (none)) else (none)) else (none)) = some (r1, r2) := by first | (rw [hji5] at H; exact H) | (simp only [hji5] at H ⊢; exact H)
      have hji5w : (IntKind.i64.wrap ((l1.length : Int) - 1)) = ji5 := (i64_w _).trans hji5
      by_cases c6 : 0 ≤ (ji5)
      · rw [if_pos c6] at H
        have c6b0 : decide (0 ≤ (ji5)) = true := decide_eq_true c6
        clear c6
        by_cases c7 : (ji5) < (l0.length : Int)
        · rw [if_pos c7] at H
          have c7b0 : decide ((ji5) < (l0.length : Int)) = true := decide_eq_true c7
          clear c7
          by_cases c8 : (ji5) < (l1.length : Int)
          · rw [if_pos c8] at H
            have c8b0 : decide ((ji5) < (l1.length : Int)) = true := decide_eq_true c8
            clear c8
            by_cases c9 : (IntKind.u64.wrap (rd l1 (ji5))) = 0
            · rw [if_pos c9] at H
              exact absurd H (by simp)
            · rw [if_neg c9] at H
              have c9b0 : ((IntKind.u64.wrap (rd l1 (ji5))) == 0) = false := beq_eq_false_iff_ne.mpr c9
              have c9b1 : ((IntKind.u64.wrap (rd l1 (ji5))) != 0) = true := bne_iff_ne.mpr c9
              obtain ⟨ji10, hji10⟩ : ∃ j_ : Int, (mn (IntKind.u64.wrap (Int.tdiv (Go.bits .or .u64 (IntKind.u64.wrap ((IntKind.u64.wrap (rd l0 (l1.length : Int))) * 4294967296)) (IntKind.u64.wrap (rd l0 (ji5)))) (IntKind.u64.wrap (rd l1 (ji5))))) 4294967295) = j_ := ⟨_, rfl⟩
              replace H : (nat_digit.l0 k l0 l1 (l1.length : Int) ji10 (IntKind.u64.wrap ((Go.bits .or .u64 (IntKind.u64.wrap ((IntKind.u64.wrap (rd l0 (l1.length : Int))) * 4294967296)) (IntKind.u64.wrap (rd l0 (ji5)))) - (IntKind.u64.wrap ((ji10) * (IntKind.u64.wrap (rd l1 (ji5)))))))) = some (r1, r2) := by first | (rw [hji10] at H; exact H) | (simp only [hji10] at H ⊢; exact H)
              have hji10_ : (if 4294967295 < (IntKind.u64.wrap (Int.tdiv (Go.bits .or .u64 (IntKind.u64.wrap ((IntKind.u64.wrap (rd l0 (l1.length : Int))) * 4294967296)) (IntKind.u64.wrap (rd l0 (ji5)))) (IntKind.u64.wrap (rd l1 (ji5))))) then 4294967295 else (IntKind.u64.wrap (Int.tdiv (Go.bits .or .u64 (IntKind.u64.wrap ((IntKind.u64.wrap (rd l0 (l1.length : Int))) * 4294967296)) (IntKind.u64.wrap (rd l0 (ji5)))) (IntKind.u64.wrap (rd l1 (ji5)))))) = ji10 := hji10
              have HC11 := Aside0.mk H
              clear H
              obtain ⟨Ao12, co12, eo12⟩ := Wn.R_slice HO0.out
              subst eo12
              have p271 : 0 ≤ ((l1.length : Int) : Int) := of_decide_eq_true (by first | (with_reducible assumption) | assumption)
              have q271 : (l1.length : Int) < (l0.length : Int) := of_decide_eq_true (by first | (with_reducible assumption) | assumption)
              obtain ⟨ad271, e271, hx271_0⟩ := Kd.at_int (Wn.R_reads' HO0.out).2.2 (l1.length : Int) p271 q271
              cases e271
              (try simp only [Go.IntWalk.toNatUp] at hx271_0)
              replace p271 := eq_true p271
              replace q271 := eq_true q271
              have p272 : 0 ≤ ((ji5) : Int) := of_decide_eq_true (by first | (with_reducible assumption) | assumption)
              have q272 : (ji5) < (l0.length : Int) := of_decide_eq_true (by first | (with_reducible assumption) | assumption)
              obtain ⟨ad272, e272, hx272_0⟩ := Kd.at_int (Wn.R_reads' HO0.out).2.2 (ji5) p272 q272
              obtain rfl : ad271 = ad272 := (by injection e272)
              replace p272 := eq_true p272
              replace q272 := eq_true q272
              have p273 : 0 ≤ ((ji5) : Int) := of_decide_eq_true (by first | (with_reducible assumption) | assumption)
              have q273 : (ji5) < (l1.length : Int) := of_decide_eq_true (by first | (with_reducible assumption) | assumption)
              obtain ⟨ad273, e273, hx273_0⟩ := Kd.at_int (Kd.C_kept_now HR1.out HK.out) (ji5) p273 q273
              cases e273
              replace p273 := eq_true p273
              replace q273 := eq_true q273
              have p274 : 0 ≤ ((ji5) : Int) := of_decide_eq_true (by first | (with_reducible assumption) | assumption)
              have q274 : (ji5) < (l1.length : Int) := of_decide_eq_true (by first | (with_reducible assumption) | assumption)
              obtain ⟨ad274, e274, hx274_0⟩ := Kd.at_int (Kd.C_kept_now HR1.out HK.out) (ji5) p274 q274
              obtain rfl : ad273 = ad274 := (by injection e274)
              replace p274 := eq_true p274
              replace q274 := eq_true q274
              go_enter Try.func92, Try.ntmps92
              go_upto_block 0 with (fail)
              repeat (go_quiet (fail); go_upto_block 0 with (fail))
              go_cut [7] (fun v7 wc => ∃ (kq : Nat) (x7_10 : Int), v7 = .int .u64 x7_10 ∧ Aside0 (nat_digit.j1 kq l0 l1 x7_10 = some (r1, r2)) ∧ Aside0 (kq ≤ k) ∧ Aside0 (X_.R wc w0.heap.size (fun k_ => (P0_ k_ ∨ w.heap.size ≤ k_)) (.slice (some ad271) l0.length co12) l0) ∧ Aside0 (Kept w wc (fun k_ => P0_ k_)) ∧ Aside0 (Below w0.heap.size w0 wc))
              case first =>
                have H := HC11.out
                clear HC11
                have H' := Aside0.mk H
                clear H
                go_wp2
                repeat (go_quiet (fail); try go_wp2)
                go_loopg [7, 8] k (fun kq v7 v8 w' => ∃ (x7_1 : Int) (x8_1 : Int), v7 = .int .u64 x7_1 ∧ v8 = .int .u64 x8_1 ∧ Aside0 (nat_digit.l0 kq l0 l1 (l1.length : Int) x7_1 x8_1 = some (r1, r2)) ∧ Aside0 (kq ≤ k) ∧ Aside0 (X_.R w' w0.heap.size (fun k_ => (P0_ k_ ∨ w.heap.size ≤ k_)) (.slice (some ad271) l0.length co12) l0) ∧ Aside0 (Kept w w' (fun k_ => P0_ k_)) ∧ Aside0 (Below w0.heap.size w0 w'))
                case atStart => exact ⟨(ji10), (IntKind.u64.wrap ((Go.bits .or .u64 (IntKind.u64.wrap ((IntKind.u64.wrap (rd l0 (l1.length : Int))) * 4294967296)) (IntKind.u64.wrap (rd l0 (ji5)))) - (IntKind.u64.wrap ((ji10) * (IntKind.u64.wrap (rd l1 (ji5))))))), (by first | rfl | (simp; done) | (simp only [← hji10] <;> (first | rfl | simp)) | (simp [*]; done)), (by first | rfl | (simp; done) | (simp only [← hji5, ← hji10] <;> (first | rfl | simp)) | (simp [*]; done)), H', ⟨Nat.le_refl _⟩, ⟨by (with_reducible repeat (first | apply Wn.R_alloc | apply Wn.R_drewN | apply Wn.R_drew)); exact HO0.out⟩, ⟨by repeat (first | (with_reducible first | exact HK.out | apply Kept.alloc | apply Kept.drewN | apply Kept.drew) | exact HK.out)⟩, ⟨by repeat (first | (with_reducible first | exact HB.out | apply below_alloc | apply pw_below_drewN | apply below_drew1) | exact HB.out)⟩⟩
                case round =>
                  clear H'
                  try clear c1
                  try clear p2
                  try clear q2
                  try clear hx2
                  try clear c3
                  try clear c3b0
                  try clear c3b1
                  try clear c4
                  try clear c4b0
                  try clear c4b1
                  try clear c6
                  try clear c6b0
                  try clear p6
                  try clear c7
                  try clear c7b0
                  try clear c8
                  try clear c8b0
                  try clear c9
                  try clear c9b0
                  try clear c9b1
                  try clear hx271_0
                  try clear hx272_0
                  try clear hx273_0
                  try clear hx274_0
                  try clear p271
                  try clear p272
                  try clear p273
                  try clear p274
                  try clear q271
                  try clear q272
                  try clear q273
                  try clear q274
                  obtain ⟨x7_1, x8_1, rfl, rfl, HA, HK1, HO_0, HK, HB⟩ := hrel
                  cases gk with
                  | zero => exact absurd HA.out (by simp [nat_digit.l0])
                  | succ k1 =>
                    have H := HA.out
                    clear HA
                    simp only [nat_digit.l0] at H
                    by_cases c13 : x8_1 < 4294967296
                    · rw [if_pos c13] at H
                      have c13b0 : decide (x8_1 < 4294967296) = true := decide_eq_true c13
                      clear c13
                      (first | rw [c13b0] | rw [c13b1] | (simp only [i64_w, i32_w]; rw [c13b0]) | skip)
                      obtain ⟨ji14, hji14⟩ : ∃ j_ : Int, (wrap64 ((l1.length : Int) - 2)) = j_ := ⟨_, rfl⟩
                      replace H : (if 0 ≤ (ji14) then (if (ji14) < (l1.length : Int) then (if (ji14) < (l0.length : Int) then (if (IntKind.u64.wrap (x7_1 * (IntKind.u64.wrap (rd l1 (ji14))))) > (Go.bits .or .u64 (IntKind.u64.wrap (x8_1 * 4294967296)) (IntKind.u64.wrap (rd l0 (ji14)))) then (if 0 ≤ (wrap64 ((l1.length : Int) - 1)) then (if (wrap64 ((l1.length : Int) - 1)) < (l1.length : Int) then (nat_digit.l0 k1 l0 l1 (l1.length : Int) (IntKind.u64.wrap (x7_1 - 1)) (IntKind.u64.wrap (x8_1 + (IntKind.u64.wrap (rd l1 (wrap64 ((l1.length : Int) - 1))))))) else (none)) else (none)) else (nat_digit.j1 k1 l0 l1 x7_1)) else (none)) else (none)) else (none)) = some (r1, r2) := by first | (rw [hji14] at H; exact H) | (simp only [hji14] at H ⊢; exact H)
                      have hji14w : (IntKind.i64.wrap ((l1.length : Int) - 2)) = ji14 := (i64_w _).trans hji14
                      by_cases c15 : 0 ≤ (ji14)
                      · rw [if_pos c15] at H
                        have c15b0 : decide (0 ≤ (ji14)) = true := decide_eq_true c15
                        clear c15
                        by_cases c16 : (ji14) < (l1.length : Int)
                        · rw [if_pos c16] at H
                          have c16b0 : decide ((ji14) < (l1.length : Int)) = true := decide_eq_true c16
                          clear c16
                          by_cases c17 : (ji14) < (l0.length : Int)
                          · rw [if_pos c17] at H
                            have c17b0 : decide ((ji14) < (l0.length : Int)) = true := decide_eq_true c17
                            clear c17
                            by_cases c18 : (IntKind.u64.wrap (x7_1 * (IntKind.u64.wrap (rd l1 (ji14))))) > (Go.bits .or .u64 (IntKind.u64.wrap (x8_1 * 4294967296)) (IntKind.u64.wrap (rd l0 (ji14))))
                            · rw [if_pos c18] at H
                              have c18b0 : decide ((Go.bits .or .u64 (IntKind.u64.wrap (x8_1 * 4294967296)) (IntKind.u64.wrap (rd l0 (ji14)))) < (IntKind.u64.wrap (x7_1 * (IntKind.u64.wrap (rd l1 (ji14)))))) = true := decide_eq_true c18
                              clear c18
                              obtain ⟨ji19, hji19⟩ : ∃ j_ : Int, (wrap64 ((l1.length : Int) - 1)) = j_ := ⟨_, rfl⟩
                              replace H : (if 0 ≤ (ji19) then (if (ji19) < (l1.length : Int) then (nat_digit.l0 k1 l0 l1 (l1.length : Int) (IntKind.u64.wrap (x7_1 - 1)) (IntKind.u64.wrap (x8_1 + (IntKind.u64.wrap (rd l1 (ji19)))))) else (none)) else (none)) = some (r1, r2) := by first | (rw [hji19] at H; exact H) | (simp only [hji19] at H ⊢; exact H)
                              (try rw [hji19] at hji5)
                              (try rw [hji19] at hji5w)
                              have hji19w : (IntKind.i64.wrap ((l1.length : Int) - 1)) = ji19 := (i64_w _).trans hji19
                              (try clear hji5w)
                              (try clear hji5)
                              by_cases c20 : 0 ≤ (ji19)
                              · rw [if_pos c20] at H
                                have c20b0 : decide (0 ≤ (ji19)) = true := decide_eq_true c20
                                clear c20
                                by_cases c21 : (ji19) < (l1.length : Int)
                                · rw [if_pos c21] at H
                                  have c21b0 : decide ((ji19) < (l1.length : Int)) = true := decide_eq_true c21
                                  clear c21
                                  have H' := Aside0.mk H
                                  clear H
                                  have p275 : 0 ≤ ((ji14) : Int) := of_decide_eq_true (by first | (with_reducible assumption) | assumption)
                                  have q275 : (ji14) < (l1.length : Int) := of_decide_eq_true (by first | (with_reducible assumption) | assumption)
                                  obtain ⟨ad275, e275, hx275_0⟩ := Kd.at_int (Kd.C_kept_now HR1.out HK.out) (ji14) p275 q275
                                  obtain rfl : ad273 = ad275 := (by injection e275)
                                  replace p275 := eq_true p275
                                  replace q275 := eq_true q275
                                  have p276 : 0 ≤ ((ji14) : Int) := of_decide_eq_true (by first | (with_reducible assumption) | assumption)
                                  have q276 : (ji14) < (l0.length : Int) := of_decide_eq_true (by first | (with_reducible assumption) | assumption)
                                  obtain ⟨ad276, e276, hx276_0⟩ := Kd.at_int (Wn.R_reads' HO_0.out).2.2 (ji14) p276 q276
                                  obtain rfl : ad271 = ad276 := (by injection e276)
                                  replace p276 := eq_true p276
                                  replace q276 := eq_true q276
                                  have p277 : 0 ≤ ((ji19) : Int) := of_decide_eq_true (by first | (with_reducible assumption) | assumption)
                                  have q277 : (ji19) < (l1.length : Int) := of_decide_eq_true (by first | (with_reducible assumption) | assumption)
                                  obtain ⟨ad277, e277, hx277_0⟩ := Kd.at_int (Kd.C_kept_now HR1.out HK.out) (ji19) p277 q277
                                  obtain rfl : ad273 = ad277 := (by injection e277)
                                  replace p277 := eq_true p277
                                  replace q277 := eq_true q277
                                  go_wp2
                                  repeat (go_quiet (fail); try go_wp2)
                                  go_roundg k1
                                  case measure => have := HK1.out; omega
                                  case rel => exact ⟨(IntKind.u64.wrap (x7_1 - 1)), (IntKind.u64.wrap (x8_1 + (IntKind.u64.wrap (rd l1 (ji19))))), (by first | rfl | (simp; done) | (simp [*]; done) | (refine congrArg (Value.int _) ?_; omega) | (refine congrArg Value.bool ?_; generalize ByteArray.toList _ = z_; cases z_ <;> rfl)), (by first | rfl | (simp; done) | (simp only [← hji19] <;> (first | rfl | simp)) | (simp [*]; done)), H', ⟨by have := HK1.out; omega⟩, ⟨by (with_reducible repeat (first | apply Wn.R_alloc | apply Wn.R_drewN | apply Wn.R_drew)); exact HO_0.out⟩, ⟨by repeat (first | (with_reducible first | exact HK.out | apply Kept.alloc | apply Kept.drewN | apply Kept.drew) | exact HK.out)⟩, ⟨by repeat (first | (with_reducible first | exact HB.out | apply below_alloc | apply pw_below_drewN | apply below_drew1) | exact HB.out)⟩⟩
                                · rw [if_neg c21] at H
                                  exact absurd H (by simp)
                              · rw [if_neg c20] at H
                                exact absurd H (by simp)
                            · rw [if_neg c18] at H
                              have c18b0 : decide ((Go.bits .or .u64 (IntKind.u64.wrap (x8_1 * 4294967296)) (IntKind.u64.wrap (rd l0 (ji14)))) < (IntKind.u64.wrap (x7_1 * (IntKind.u64.wrap (rd l1 (ji14)))))) = false := decide_eq_false c18
                              clear c18
                              have H' := Aside0.mk H
                              clear H
                              have p275 : 0 ≤ ((ji14) : Int) := of_decide_eq_true (by first | (with_reducible assumption) | assumption)
                              have q275 : (ji14) < (l1.length : Int) := of_decide_eq_true (by first | (with_reducible assumption) | assumption)
                              obtain ⟨ad275, e275, hx275_0⟩ := Kd.at_int (Kd.C_kept_now HR1.out HK.out) (ji14) p275 q275
                              obtain rfl : ad273 = ad275 := (by injection e275)
                              replace p275 := eq_true p275
                              replace q275 := eq_true q275
                              have p276 : 0 ≤ ((ji14) : Int) := of_decide_eq_true (by first | (with_reducible assumption) | assumption)
                              have q276 : (ji14) < (l0.length : Int) := of_decide_eq_true (by first | (with_reducible assumption) | assumption)
                              obtain ⟨ad276, e276, hx276_0⟩ := Kd.at_int (Wn.R_reads' HO_0.out).2.2 (ji14) p276 q276
                              obtain rfl : ad271 = ad276 := (by injection e276)
                              replace p276 := eq_true p276
                              replace q276 := eq_true q276
                              go_wp2
                              repeat (go_quiet (fail); try go_wp2)
                              go_meet
                              case rel => exact ⟨_, (x7_1), (by first | rfl | (simp; done) | (simp [*]; done) | (refine congrArg (Value.int _) ?_; omega) | (refine congrArg Value.bool ?_; generalize ByteArray.toList _ = z_; cases z_ <;> rfl)), H', ⟨by have := HK1.out; first | omega | exact Nat.le_refl _⟩, ⟨by (with_reducible repeat (first | apply Wn.R_alloc | apply Wn.R_drewN | apply Wn.R_drew)); exact HO_0.out⟩, ⟨by repeat (first | (with_reducible first | exact HK.out | apply Kept.alloc | apply Kept.drewN | apply Kept.drew) | exact HK.out)⟩, ⟨by repeat (first | (with_reducible first | exact HB.out | apply below_alloc | apply pw_below_drewN | apply below_drew1) | exact HB.out)⟩⟩
                          · rw [if_neg c17] at H
                            exact absurd H (by simp)
                        · rw [if_neg c16] at H
                          exact absurd H (by simp)
                      · rw [if_neg c15] at H
                        exact absurd H (by simp)
                    · rw [if_neg c13] at H
                      have c13b0 : decide (x8_1 < 4294967296) = false := decide_eq_false c13
                      clear c13
                      (first | rw [c13b0] | rw [c13b1] | (simp only [i64_w, i32_w]; rw [c13b0]) | skip)
                      have H' := Aside0.mk H
                      clear H
                      go_wp2
                      repeat (go_quiet (fail); try go_wp2)
                      go_meet
                      case rel => exact ⟨_, (x7_1), (by first | rfl | (simp; done) | (simp [*]; done) | (refine congrArg (Value.int _) ?_; omega) | (refine congrArg Value.bool ?_; generalize ByteArray.toList _ = z_; cases z_ <;> rfl)), H', ⟨by have := HK1.out; first | omega | exact Nat.le_refl _⟩, ⟨by (with_reducible repeat (first | apply Wn.R_alloc | apply Wn.R_drewN | apply Wn.R_drew)); exact HO_0.out⟩, ⟨by repeat (first | (with_reducible first | exact HK.out | apply Kept.alloc | apply Kept.drewN | apply Kept.drew) | exact HK.out)⟩, ⟨by repeat (first | (with_reducible first | exact HB.out | apply below_alloc | apply pw_below_drewN | apply below_drew1) | exact HB.out)⟩⟩
              case rest =>
                clear HC11
                try clear c1
                try clear c2
                try clear p2
                try clear q2
                try clear hx2
                try clear c3
                try clear c3b0
                try clear c3b1
                try clear c4
                try clear c4b0
                try clear c4b1
                try clear c6
                try clear c6b0
                try clear p6
                try clear c7
                try clear c7b0
                try clear c8
                try clear c8b0
                try clear c9
                try clear c9b0
                try clear c9b1
                try clear c13
                try clear c13b0
                try clear c15
                try clear c15b0
                try clear c16
                try clear c16b0
                try clear c17
                try clear c17b0
                try clear c18
                try clear c18b0
                try clear c20
                try clear c20b0
                try clear c21
                try clear c21b0
                try clear hx271_0
                try clear hx272_0
                try clear hx273_0
                try clear hx274_0
                try clear hx275_0
                try clear hx276_0
                try clear hx277_0
                try clear p2
                try clear p271
                try clear p272
                try clear p273
                try clear p274
                try clear p275
                try clear p276
                try clear p277
                try clear p6
                try clear q2
                try clear q271
                try clear q272
                try clear q273
                try clear q274
                try clear q275
                try clear q276
                try clear q277
                obtain ⟨kq, x7_10, rfl, HA, HJ10, HO_0, HK, HB⟩ := hcut
                cases kq with
                | zero => exact absurd HA.out (by simp [nat_digit.j1])
                | succ kj10 =>
                  have H := HA.out
                  clear HA
                  simp only [nat_digit.j1] at H
                  replace H := Option.bind_eq_some_iff.mp H
                  obtain ⟨⟨t278, t279⟩, A220, H⟩ := H
                  replace H : (if t278 = true then ((nat_give.f kj10 t279 l1).bind fun t280 => (some ((IntKind.u64.wrap (x7_10 - 1)) % 4294967296, t280))) else (some ((x7_10) % 4294967296, t279))) = some (r1, r2) := H
                  have A22 := Aside0.mk A220
                  clear A220
                  by_cases c23 : t278 = true
                  · subst c23
                    have H1 : ((nat_give.f kj10 t279 l1).bind fun t280 => (some ((IntKind.u64.wrap (x7_10 - 1)) % 4294967296, t280))) = some (r1, r2) := by rw [if_pos rfl] at H; exact H
                    clear H
                    have H := H1
                    clear H1
                    replace H := Option.bind_eq_some_iff.mp H
                    obtain ⟨t280, A240, H⟩ := H
                    replace H : (some ((IntKind.u64.wrap (x7_10 - 1)) % 4294967296, t280)) = some (r1, r2) := H
                    have A24 := Aside0.mk A240
                    clear A240
                    simp only [Option.some.injEq, Prod.mk.injEq] at H
                    obtain ⟨rfl, rfl⟩ := H
                    go_wp2_with (first | (go_at_call 109; (with_reducible refine (nat_take.callsW X_ kj10 (fun k_ => some k_ = (.slice (some ad271) l0.length co12 : Value).ownBlock) (.slice (some ad271) l0.length co12) l0 _ _ l1 x7_10 true t279 w0 _ ?side1 ?side2 ?side3 ?side4 A22.out).mono ?_); (case side1 => repeat (first | (with_reducible first | exact HB.out | apply below_alloc | apply pw_below_drewN | apply below_drew1) | exact HB.out)); (case side2 => exact Wn.R_tight HO_0.out); (case side3 => exact Kd.C_kept_call HR1.out (by repeat (first | (with_reducible first | exact HK.out | apply Kept.alloc | apply Kept.drewN | apply Kept.drew) | exact HK.out)) (fun k_ hs_ => (fun e_ => (HO_0.out.1 k_ e_.symm)) hs_)); (case side4 => exact HC1.out); rintro e w25 ⟨rfl, hy0, hb, hkp⟩; have n0_ := Aside0.mk (Wn.R_reok hy0 (fun k_ e_ => HO_0.out.1 k_ e_)); have n1_ := Aside0.mk (Kept.then_ (S := (fun k_ => P0_ k_)) (by repeat (first | (with_reducible first | exact HK.out | apply Kept.alloc | apply Kept.drewN | apply Kept.drew) | exact HK.out)) hkp (fun k_ hs_ => (fun e_ => (HO_0.out.1 k_ e_.symm)) hs_)); have n2_ := Aside0.mk (hb); clear HO_0; clear HK; clear HB; have HO_0 := n0_; have HK := n1_; have HB := n2_; clear n0_ n1_ n2_; (try clear hb); (try clear hkp); (try clear hy0)) | (go_at_call 110; (with_reducible refine (nat_give.callsW X_ kj10 (fun k_ => some k_ = (.slice (some ad271) l0.length co12 : Value).ownBlock) (.slice (some ad271) l0.length co12) t279 _ _ l1 t280 w0 _ ?side1 ?side2 ?side3 ?side4 A24.out).mono ?_); (case side1 => repeat (first | (with_reducible first | exact HB.out | apply below_alloc | apply pw_below_drewN | apply below_drew1) | exact HB.out)); (case side2 => exact Wn.R_tight HO_0.out); (case side3 => exact Kd.C_kept_call HR1.out (by repeat (first | (with_reducible first | exact HK.out | apply Kept.alloc | apply Kept.drewN | apply Kept.drew) | exact HK.out)) (fun k_ hs_ => (fun e_ => (HO_0.out.1 k_ e_.symm)) hs_)); (case side4 => exact HC1.out); rintro e w26 ⟨rfl, hy0, hb, hkp⟩; have n0_ := Aside0.mk (Wn.R_reok hy0 (fun k_ e_ => HO_0.out.1 k_ e_)); have n1_ := Aside0.mk (Kept.then_ (S := (fun k_ => P0_ k_)) (by repeat (first | (with_reducible first | exact HK.out | apply Kept.alloc | apply Kept.drewN | apply Kept.drew) | exact HK.out)) hkp (fun k_ hs_ => (fun e_ => (HO_0.out.1 k_ e_.symm)) hs_)); have n2_ := Aside0.mk (hb); clear HO_0; clear HK; clear HB; have HO_0 := n0_; have HK := n1_; have HB := n2_; clear n0_ n1_ n2_; (try clear hb); (try clear hkp); (try clear hy0)))
                    repeat (go_quiet (first | (go_at_call 109; (with_reducible refine (nat_take.callsW X_ kj10 (fun k_ => some k_ = (.slice (some ad271) l0.length co12 : Value).ownBlock) (.slice (some ad271) l0.length co12) l0 _ _ l1 x7_10 true t279 w0 _ ?side1 ?side2 ?side3 ?side4 A22.out).mono ?_); (case side1 => repeat (first | (with_reducible first | exact HB.out | apply below_alloc | apply pw_below_drewN | apply below_drew1) | exact HB.out)); (case side2 => exact Wn.R_tight HO_0.out); (case side3 => exact Kd.C_kept_call HR1.out (by repeat (first | (with_reducible first | exact HK.out | apply Kept.alloc | apply Kept.drewN | apply Kept.drew) | exact HK.out)) (fun k_ hs_ => (fun e_ => (HO_0.out.1 k_ e_.symm)) hs_)); (case side4 => exact HC1.out); rintro e w25 ⟨rfl, hy0, hb, hkp⟩; have n0_ := Aside0.mk (Wn.R_reok hy0 (fun k_ e_ => HO_0.out.1 k_ e_)); have n1_ := Aside0.mk (Kept.then_ (S := (fun k_ => P0_ k_)) (by repeat (first | (with_reducible first | exact HK.out | apply Kept.alloc | apply Kept.drewN | apply Kept.drew) | exact HK.out)) hkp (fun k_ hs_ => (fun e_ => (HO_0.out.1 k_ e_.symm)) hs_)); have n2_ := Aside0.mk (hb); clear HO_0; clear HK; clear HB; have HO_0 := n0_; have HK := n1_; have HB := n2_; clear n0_ n1_ n2_; (try clear hb); (try clear hkp); (try clear hy0)) | (go_at_call 110; (with_reducible refine (nat_give.callsW X_ kj10 (fun k_ => some k_ = (.slice (some ad271) l0.length co12 : Value).ownBlock) (.slice (some ad271) l0.length co12) t279 _ _ l1 t280 w0 _ ?side1 ?side2 ?side3 ?side4 A24.out).mono ?_); (case side1 => repeat (first | (with_reducible first | exact HB.out | apply below_alloc | apply pw_below_drewN | apply below_drew1) | exact HB.out)); (case side2 => exact Wn.R_tight HO_0.out); (case side3 => exact Kd.C_kept_call HR1.out (by repeat (first | (with_reducible first | exact HK.out | apply Kept.alloc | apply Kept.drewN | apply Kept.drew) | exact HK.out)) (fun k_ hs_ => (fun e_ => (HO_0.out.1 k_ e_.symm)) hs_)); (case side4 => exact HC1.out); rintro e w26 ⟨rfl, hy0, hb, hkp⟩; have n0_ := Aside0.mk (Wn.R_reok hy0 (fun k_ e_ => HO_0.out.1 k_ e_)); have n1_ := Aside0.mk (Kept.then_ (S := (fun k_ => P0_ k_)) (by repeat (first | (with_reducible first | exact HK.out | apply Kept.alloc | apply Kept.drewN | apply Kept.drew) | exact HK.out)) hkp (fun k_ hs_ => (fun e_ => (HO_0.out.1 k_ e_.symm)) hs_)); have n2_ := Aside0.mk (hb); clear HO_0; clear HK; clear HB; have HO_0 := n0_; have HK := n1_; have HB := n2_; clear n0_ n1_ n2_; (try clear hb); (try clear hkp); (try clear hy0))); try go_wp2_with (first | (go_at_call 109; (with_reducible refine (nat_take.callsW X_ kj10 (fun k_ => some k_ = (.slice (some ad271) l0.length co12 : Value).ownBlock) (.slice (some ad271) l0.length co12) l0 _ _ l1 x7_10 true t279 w0 _ ?side1 ?side2 ?side3 ?side4 A22.out).mono ?_); (case side1 => repeat (first | (with_reducible first | exact HB.out | apply below_alloc | apply pw_below_drewN | apply below_drew1) | exact HB.out)); (case side2 => exact Wn.R_tight HO_0.out); (case side3 => exact Kd.C_kept_call HR1.out (by repeat (first | (with_reducible first | exact HK.out | apply Kept.alloc | apply Kept.drewN | apply Kept.drew) | exact HK.out)) (fun k_ hs_ => (fun e_ => (HO_0.out.1 k_ e_.symm)) hs_)); (case side4 => exact HC1.out); rintro e w25 ⟨rfl, hy0, hb, hkp⟩; have n0_ := Aside0.mk (Wn.R_reok hy0 (fun k_ e_ => HO_0.out.1 k_ e_)); have n1_ := Aside0.mk (Kept.then_ (S := (fun k_ => P0_ k_)) (by repeat (first | (with_reducible first | exact HK.out | apply Kept.alloc | apply Kept.drewN | apply Kept.drew) | exact HK.out)) hkp (fun k_ hs_ => (fun e_ => (HO_0.out.1 k_ e_.symm)) hs_)); have n2_ := Aside0.mk (hb); clear HO_0; clear HK; clear HB; have HO_0 := n0_; have HK := n1_; have HB := n2_; clear n0_ n1_ n2_; (try clear hb); (try clear hkp); (try clear hy0)) | (go_at_call 110; (with_reducible refine (nat_give.callsW X_ kj10 (fun k_ => some k_ = (.slice (some ad271) l0.length co12 : Value).ownBlock) (.slice (some ad271) l0.length co12) t279 _ _ l1 t280 w0 _ ?side1 ?side2 ?side3 ?side4 A24.out).mono ?_); (case side1 => repeat (first | (with_reducible first | exact HB.out | apply below_alloc | apply pw_below_drewN | apply below_drew1) | exact HB.out)); (case side2 => exact Wn.R_tight HO_0.out); (case side3 => exact Kd.C_kept_call HR1.out (by repeat (first | (with_reducible first | exact HK.out | apply Kept.alloc | apply Kept.drewN | apply Kept.drew) | exact HK.out)) (fun k_ hs_ => (fun e_ => (HO_0.out.1 k_ e_.symm)) hs_)); (case side4 => exact HC1.out); rintro e w26 ⟨rfl, hy0, hb, hkp⟩; have n0_ := Aside0.mk (Wn.R_reok hy0 (fun k_ e_ => HO_0.out.1 k_ e_)); have n1_ := Aside0.mk (Kept.then_ (S := (fun k_ => P0_ k_)) (by repeat (first | (with_reducible first | exact HK.out | apply Kept.alloc | apply Kept.drewN | apply Kept.drew) | exact HK.out)) hkp (fun k_ hs_ => (fun e_ => (HO_0.out.1 k_ e_.symm)) hs_)); have n2_ := Aside0.mk (hb); clear HO_0; clear HK; clear HB; have HO_0 := n0_; have HK := n1_; have HB := n2_; clear n0_ n1_ n2_; (try clear hb); (try clear hkp); (try clear hy0))))
                    go_ret
                    exact ⟨by first | rfl | (simp [errW_none, errW_some] <;> rfl) | (simp only [← hji5, ← hji10]; first | rfl | (simp [errW_none, errW_some] <;> rfl)) | (refine congrArg (fun z_ => Ending.returned (Value.bool z_)) (decide_eq_decide.mpr ?_); unfold wrap64; omega) | (simp [*, errW_none, errW_some] <;> rfl), by (with_reducible repeat (first | apply Wn.R_alloc | apply Wn.R_drewN | apply Wn.R_drew)); exact HO_0.out, by repeat (first | (with_reducible first | exact HB.out | apply below_alloc | apply pw_below_drewN | apply below_drew1) | exact HB.out), by repeat (first | (with_reducible first | exact HK.out | apply Kept.alloc | apply Kept.drewN | apply Kept.drew) | exact HK.out)⟩
                  · replace c23 := Bool.eq_false_iff.mpr c23
                    subst c23
                    have H1 : (some ((x7_10) % 4294967296, t279)) = some (r1, r2) := by rw [if_neg (show ¬ (false = true) by decide)] at H; exact H
                    clear H
                    have H := H1
                    clear H1
                    simp only [Option.some.injEq, Prod.mk.injEq] at H
                    obtain ⟨rfl, rfl⟩ := H
                    go_wp2_with (first | (go_at_call 109; (with_reducible refine (nat_take.callsW X_ kj10 (fun k_ => some k_ = (.slice (some ad271) l0.length co12 : Value).ownBlock) (.slice (some ad271) l0.length co12) l0 _ _ l1 x7_10 false t279 w0 _ ?side1 ?side2 ?side3 ?side4 A22.out).mono ?_); (case side1 => repeat (first | (with_reducible first | exact HB.out | apply below_alloc | apply pw_below_drewN | apply below_drew1) | exact HB.out)); (case side2 => exact Wn.R_tight HO_0.out); (case side3 => exact Kd.C_kept_call HR1.out (by repeat (first | (with_reducible first | exact HK.out | apply Kept.alloc | apply Kept.drewN | apply Kept.drew) | exact HK.out)) (fun k_ hs_ => (fun e_ => (HO_0.out.1 k_ e_.symm)) hs_)); (case side4 => exact HC1.out); rintro e w27 ⟨rfl, hy0, hb, hkp⟩; have n0_ := Aside0.mk (Wn.R_reok hy0 (fun k_ e_ => HO_0.out.1 k_ e_)); have n1_ := Aside0.mk (Kept.then_ (S := (fun k_ => P0_ k_)) (by repeat (first | (with_reducible first | exact HK.out | apply Kept.alloc | apply Kept.drewN | apply Kept.drew) | exact HK.out)) hkp (fun k_ hs_ => (fun e_ => (HO_0.out.1 k_ e_.symm)) hs_)); have n2_ := Aside0.mk (hb); clear HO_0; clear HK; clear HB; have HO_0 := n0_; have HK := n1_; have HB := n2_; clear n0_ n1_ n2_; (try clear hb); (try clear hkp); (try clear hy0)))
                    repeat (go_quiet (first | (go_at_call 109; (with_reducible refine (nat_take.callsW X_ kj10 (fun k_ => some k_ = (.slice (some ad271) l0.length co12 : Value).ownBlock) (.slice (some ad271) l0.length co12) l0 _ _ l1 x7_10 false t279 w0 _ ?side1 ?side2 ?side3 ?side4 A22.out).mono ?_); (case side1 => repeat (first | (with_reducible first | exact HB.out | apply below_alloc | apply pw_below_drewN | apply below_drew1) | exact HB.out)); (case side2 => exact Wn.R_tight HO_0.out); (case side3 => exact Kd.C_kept_call HR1.out (by repeat (first | (with_reducible first | exact HK.out | apply Kept.alloc | apply Kept.drewN | apply Kept.drew) | exact HK.out)) (fun k_ hs_ => (fun e_ => (HO_0.out.1 k_ e_.symm)) hs_)); (case side4 => exact HC1.out); rintro e w27 ⟨rfl, hy0, hb, hkp⟩; have n0_ := Aside0.mk (Wn.R_reok hy0 (fun k_ e_ => HO_0.out.1 k_ e_)); have n1_ := Aside0.mk (Kept.then_ (S := (fun k_ => P0_ k_)) (by repeat (first | (with_reducible first | exact HK.out | apply Kept.alloc | apply Kept.drewN | apply Kept.drew) | exact HK.out)) hkp (fun k_ hs_ => (fun e_ => (HO_0.out.1 k_ e_.symm)) hs_)); have n2_ := Aside0.mk (hb); clear HO_0; clear HK; clear HB; have HO_0 := n0_; have HK := n1_; have HB := n2_; clear n0_ n1_ n2_; (try clear hb); (try clear hkp); (try clear hy0))); try go_wp2_with (first | (go_at_call 109; (with_reducible refine (nat_take.callsW X_ kj10 (fun k_ => some k_ = (.slice (some ad271) l0.length co12 : Value).ownBlock) (.slice (some ad271) l0.length co12) l0 _ _ l1 x7_10 false t279 w0 _ ?side1 ?side2 ?side3 ?side4 A22.out).mono ?_); (case side1 => repeat (first | (with_reducible first | exact HB.out | apply below_alloc | apply pw_below_drewN | apply below_drew1) | exact HB.out)); (case side2 => exact Wn.R_tight HO_0.out); (case side3 => exact Kd.C_kept_call HR1.out (by repeat (first | (with_reducible first | exact HK.out | apply Kept.alloc | apply Kept.drewN | apply Kept.drew) | exact HK.out)) (fun k_ hs_ => (fun e_ => (HO_0.out.1 k_ e_.symm)) hs_)); (case side4 => exact HC1.out); rintro e w27 ⟨rfl, hy0, hb, hkp⟩; have n0_ := Aside0.mk (Wn.R_reok hy0 (fun k_ e_ => HO_0.out.1 k_ e_)); have n1_ := Aside0.mk (Kept.then_ (S := (fun k_ => P0_ k_)) (by repeat (first | (with_reducible first | exact HK.out | apply Kept.alloc | apply Kept.drewN | apply Kept.drew) | exact HK.out)) hkp (fun k_ hs_ => (fun e_ => (HO_0.out.1 k_ e_.symm)) hs_)); have n2_ := Aside0.mk (hb); clear HO_0; clear HK; clear HB; have HO_0 := n0_; have HK := n1_; have HB := n2_; clear n0_ n1_ n2_; (try clear hb); (try clear hkp); (try clear hy0))))
                    go_ret
                    exact ⟨by first | rfl | (simp [errW_none, errW_some] <;> rfl) | (simp only [← hji5, ← hji10]; first | rfl | (simp [errW_none, errW_some] <;> rfl)) | (refine congrArg (fun z_ => Ending.returned (Value.bool z_)) (decide_eq_decide.mpr ?_); unfold wrap64; omega) | (simp [*, errW_none, errW_some] <;> rfl), by (with_reducible repeat (first | apply Wn.R_alloc | apply Wn.R_drewN | apply Wn.R_drew)); exact HO_0.out, by repeat (first | (with_reducible first | exact HB.out | apply below_alloc | apply pw_below_drewN | apply below_drew1) | exact HB.out), by repeat (first | (with_reducible first | exact HK.out | apply Kept.alloc | apply Kept.drewN | apply Kept.drew) | exact HK.out)⟩
          · rw [if_neg c8] at H
            exact absurd H (by simp)
        · rw [if_neg c7] at H
          exact absurd H (by simp)
      · rw [if_neg c6] at H
        exact absurd H (by simp)
    · rw [if_neg c4] at H
      exact absurd H (by simp)
  · rw [if_neg c3] at H
    exact absurd H (by simp)
end Go.Proofs.Ytdicjemjmlbmlaa.H
/- Knuth's division by limbs: what take, give, digit and DivMod compute; the greatest common divisor. -/
namespace Go.Proofs.Ytdicjemjmlbmlaa.V
set_option linter.unusedVariables false
set_option linter.unusedSimpArgs false
open Go.RowKit Go.Proofs.Ytdicjemjmlbmlaa.PA Go.Proofs.Ytdicjemjmlbmlaa.H Go.Proofs.YtdicjemjmlbmlaaW.PrintWords Go.Proofs.YtdicjemjmlbmlaaW.PrintLast Go.Proofs.YtdicjemjmlbmlaaW.PrintMore

theorem and_low {x : Int} (h0 : 0 ≤ x) (h1 : x < 18446744073709551616) : Go.bits .and .u64 x 4294967295 = x % 4294967296 :=
  bits_mask .u64 64 (by decide) wraps_u64 32 (by decide) x h0 (by omega)
theorem step_take {U V0 Pi q v vp c b cl ch b' r u : Int} (h : U = V0 - q * vp + Pi * (c + b)) (e1 : cl + 4294967296 * ch = c + q * v) (e2 : r - 4294967296 * b' = u - cl - b) : U + Pi * (r - u) = V0 - q * (vp + Pi * v) + (4294967296 * Pi) * (ch + b') := by
  subst h
  grind
theorem take_l0 (u0 v : List Int) (q : Int) (hv : Lim v) (hq : 0 ≤ q ∧ q < 4294967296) (hnv : v.length < 1000000000) (hu0 : Lim u0) (hl0 : u0.length = v.length + 1) (d : Nat) : ∀ (i : Nat) (u : List Int) (c b : Int), i + d = v.length → u.length = v.length + 1 → Lim u → 0 ≤ c → c < 4294967296 → 0 ≤ b → b ≤ 1 → val u = val u0 - q * val (v.take i) + pw i * (c + b) →
    ∃ u', Ev (fun k => nat_take.l0 k u v q c b (v.length : Int) (i : Int)) (decide (val u0 < q * val v), u') ∧ u'.length = v.length + 1 ∧ Lim u' ∧ val u' = val u0 - q * val v + (if val u0 < q * val v then pw (v.length + 1) else 0) := by
  induction d with
  | zero =>
    intro i u c b hi hl hL c0 c1 b0 b1 he
    obtain rfl : i = v.length := by omega
    have hp : v.length < u.length := by omega
    have gu := hL.get _ hp
    rw [List.take_of_length_le (by omega)] at he
    have hset : (u.set v.length ((u[v.length] - c - b) % 4294967296)).length = v.length + 1 := by simpa using hl
    have hLs : Lim (u.set v.length ((u[v.length] - c - b) % 4294967296)) := hL.set _ (by omega) (by omega)
    have hval : val (u.set v.length ((u[v.length] - c - b) % 4294967296)) = val u0 - q * val v - pw (v.length + 1) * ((u[v.length] - c - b) / 4294967296) := by
      rw [val_set _ _ _ hp, he, pw_succ]
      have e := Int.mul_ediv_add_emod (u[v.length] - c - b) 4294967296
      generalize (u[v.length] - c - b) / 4294967296 = f at *
      generalize (u[v.length] - c - b) % 4294967296 = g at *
      generalize u[v.length] = z at *
      grind
    have h1 := val_lt hLs
    have h2 := val_nonneg hLs
    have h3 := val_nonneg hu0
    have h4 := val_lt hu0
    rw [hset] at h1
    have hneg : (u[v.length] - c - b < 0) ↔ val u0 < q * val v := by
      by_cases hn : u[v.length] - c - b < 0
      · have : (u[v.length] - c - b) / 4294967296 = -1 := by omega
        rw [this] at hval
        constructor <;> intro <;> omega
      · have : (u[v.length] - c - b) / 4294967296 = 0 := by omega
        rw [this] at hval
        constructor <;> intro <;> omega
    have e1 : IntKind.u64.wrap ((IntKind.u64.wrap (u[v.length] - c)) - b) = (u[v.length] - c - b) % 18446744073709551616 := by rw [u64e, u64e]; omega
    refine ⟨u.set v.length ((u[v.length] - c - b) % 4294967296), Ev.step (f := fun _ => some _) (fun k => ?_) (Ev.now _), hset, hLs, ?_⟩
    · simp only [nat_take.l0]
      rw [if_neg (by omega), if_pos (by omega), if_pos (by omega), rd_get _ _ hp, u64 (x := u[v.length]) gu.1 (by omega), e1, Int.toNat_natCast]
      congr 2
      · rw [Bool.eq_iff_iff]
        simp only [beq_iff_eq, decide_eq_true_eq]
        rw [← hneg]
        constructor <;> intro <;> omega
      · congr 1; omega
    · rw [hval]
      by_cases hn : u[v.length] - c - b < 0
      · rw [if_pos (hneg.1 hn), show (u[v.length] - c - b) / 4294967296 = -1 by omega]; omega
      · rw [if_neg (fun h => hn (hneg.2 h)), show (u[v.length] - c - b) / 4294967296 = 0 by omega]; omega
  | succ d ih =>
    intro i u c b hi hl hL c0 c1 b0 b1 he
    have hiv : i < v.length := by omega
    have hiu : i < u.length := by omega
    have gv := hv.get i hiv
    have gu := hL.get i hiu
    have hm := mul_bd32 hq gv
    have e1 : IntKind.u64.wrap (c + IntKind.u64.wrap (q * IntKind.u64.wrap v[i])) = c + q * v[i] := by
      rw [u64 (x := v[i]) (by omega) (by omega), u64 (x := q * v[i]) (by omega) (by omega), u64 (by omega) (by omega)]
    have e2 : IntKind.u64.wrap ((IntKind.u64.wrap (u[i] - (c + q * v[i]) % 4294967296)) - b) = (u[i] - (c + q * v[i]) % 4294967296 - b) % 18446744073709551616 := by rw [u64e, u64e]; omega
    have hstep := step_take (ch := (c + q * v[i]) / 4294967296) (b' := (u[i] - (c + q * v[i]) % 4294967296 - b) % 18446744073709551616 / 9223372036854775808) (r := (u[i] - (c + q * v[i]) % 4294967296 - b) % 18446744073709551616 % 4294967296) (u := u[i]) (cl := (c + q * v[i]) % 4294967296) (v := v[i]) he (by omega) (by omega)
    obtain ⟨u', h1, h2⟩ := ih (i + 1) (u.set i ((u[i] - (c + q * v[i]) % 4294967296 - b) % 18446744073709551616 % 4294967296)) ((c + q * v[i]) / 4294967296) ((u[i] - (c + q * v[i]) % 4294967296 - b) % 18446744073709551616 / 9223372036854775808) (by omega) (by simpa using hl) (hL.set _ (by omega) (by omega)) (by omega) (by omega) (by omega) (by omega) (by
      rw [val_set _ _ _ hiu, val_take_succ _ _ hiv, pw_succ]
      exact hstep)
    refine ⟨u', Ev.step (fun k => ?_) h1, h2⟩
    simp only [nat_take.l0]
    rw [if_pos (by omega), if_pos (by omega), if_pos (by omega), if_pos (by omega), rd_get _ _ hiv, rd_get _ _ hiu, e1, and_low (by omega) (by omega), u64 (x := u[i]) (by omega) (by omega), e2, w64 (by omega) (by omega), Int.toNat_natCast]
    rfl
theorem take_ev (u v : List Int) (q : Int) (hu : Lim u) (hv : Lim v) (hq : 0 ≤ q ∧ q < 4294967296) (hnv : v.length < 1000000000) (hl : u.length = v.length + 1) :
    ∃ u', Ev (fun k => nat_take.f k u v q) (decide (val u < q * val v), u') ∧ u'.length = v.length + 1 ∧ Lim u' ∧ val u' = val u - q * val v + (if val u < q * val v then pw (v.length + 1) else 0) := by
  obtain ⟨u', h1, h2⟩ := take_l0 u v q hv hq hnv hu hl v.length 0 u 0 0 (by omega) hl hu (by omega) (by omega) (by omega) (by omega) (by simp [val])
  exact ⟨u', Ev.congr (fun k => rfl) h1, h2⟩
theorem step_give {U V0 Pi v vp c ch r u : Int} (h : U + Pi * c = V0 + vp) (e : r + 4294967296 * ch = c + (u + v)) : U + Pi * (r - u) + (4294967296 * Pi) * ch = V0 + (vp + Pi * v) := by grind
theorem give_l0 (u0 v : List Int) (hv : Lim v) (hnv : v.length < 1000000000) (hbig : pw (v.length + 1) ≤ val u0 + val v) (hu0 : val u0 < pw (v.length + 1)) (d : Nat) : ∀ (i : Nat) (u : List Int) (c : Int), i + d = v.length → u.length = v.length + 1 → Lim u → 0 ≤ c → c ≤ 1 → val u + pw i * c = val u0 + val (v.take i) →
    ∃ u', Ev (fun k => nat_give.l0 k u v c (v.length : Int) (i : Int)) u' ∧ u'.length = v.length + 1 ∧ Lim u' ∧ val u' = val u0 + val v - pw (v.length + 1) := by
  induction d with
  | zero =>
    intro i u c hi hl hL c0 c1 he
    obtain rfl : i = v.length := by omega
    have hp : v.length < u.length := by omega
    have gu := hL.get _ hp
    rw [List.take_of_length_le (by omega)] at he
    have hset : (u.set v.length ((u[v.length] + c) % 4294967296)).length = v.length + 1 := by simpa using hl
    have hLs : Lim (u.set v.length ((u[v.length] + c) % 4294967296)) := hL.set _ (by omega) (by omega)
    have hval : val (u.set v.length ((u[v.length] + c) % 4294967296)) = val u0 + val v - pw (v.length + 1) * ((u[v.length] + c) / 4294967296) := by
      rw [val_set _ _ _ hp, pw_succ]
      have e := Int.mul_ediv_add_emod (u[v.length] + c) 4294967296
      generalize (u[v.length] + c) / 4294967296 = f at *
      generalize (u[v.length] + c) % 4294967296 = g at *
      generalize u[v.length] = z at *
      grind
    have h1 := val_lt hLs
    have h2 := val_lt hv
    rw [hset] at h1
    have h3 := pw_succ v.length
    have h4 := pw_pos v.length
    have hone : (u[v.length] + c) / 4294967296 = 1 := by
      have : (u[v.length] + c) / 4294967296 = 0 ∨ (u[v.length] + c) / 4294967296 = 1 := by omega
      rcases this with h0 | h0
      · rw [h0] at hval; omega
      · exact h0
    refine ⟨u.set v.length ((u[v.length] + c) % 4294967296), Ev.step (f := fun _ => some _) (fun k => ?_) (Ev.now _), hset, hLs, by rw [hval, hone]; omega⟩
    simp only [nat_give.l0]
    rw [if_neg (by omega), if_pos (by omega), if_pos (by omega), rd_get _ _ hp, Int.toNat_natCast]
    congr 2
    omega
  | succ d ih =>
    intro i u c hi hl hL c0 c1 he
    have hiv : i < v.length := by omega
    have hiu : i < u.length := by omega
    have gv := hv.get i hiv
    have gu := hL.get i hiu
    obtain ⟨u', h1, h2⟩ := ih (i + 1) (u.set i ((c + (u[i] + v[i])) % 4294967296)) ((c + (u[i] + v[i])) / 4294967296) (by omega) (by simpa using hl) (hL.set _ (by omega) (by omega)) (by omega) (by omega) (by
      rw [val_set _ _ _ hiu, val_take_succ _ _ hiv, pw_succ]
      exact step_give he (by omega))
    refine ⟨u', Ev.step (fun k => ?_) h1, h2⟩
    simp only [nat_give.l0]
    rw [if_pos (by omega), if_pos (by omega), if_pos (by omega), if_pos (by omega), rd_get _ _ hiv, rd_get _ _ hiu, u64 (x := u[i]) (by omega) (by omega), u64 (x := v[i]) (by omega) (by omega), u64 (x := u[i] + v[i]) (by omega) (by omega), u64 (by omega) (by omega), w64 (by omega) (by omega), Int.toNat_natCast]
    rfl
theorem give_ev (u v : List Int) (hu : Lim u) (hv : Lim v) (hnv : v.length < 1000000000) (hl : u.length = v.length + 1) (hbig : pw (v.length + 1) ≤ val u + val v) :
    ∃ u', Ev (fun k => nat_give.f k u v) u' ∧ u'.length = v.length + 1 ∧ Lim u' ∧ val u' = val u + val v - pw (v.length + 1) := by
  have h0 := val_lt hu
  rw [hl] at h0
  obtain ⟨u', h1, h2⟩ := give_l0 u v hv hnv hbig h0 v.length 0 u 0 (by omega) hl hu (by omega) (by omega) (by simp [val])
  exact ⟨u', Ev.congr (fun k => rfl) h1, h2⟩

/-! ### one limb of a quotient -/
theorem digit_j1 (u v : List Int) (q : Int) (hu : Lim u) (hv : Lim v) (hnv : v.length < 1000000000) (hl : u.length = v.length + 1) (hq : 0 ≤ q ∧ q < 4294967296) (hv0 : 0 < val v) (h1 : (q - 1) * val v ≤ val u) (h2 : val u < (q + 1) * val v) :
    ∃ u', Ev (fun k => nat_digit.j1 k u v q) (val u / val v, u') ∧ u'.length = v.length + 1 ∧ Lim u' ∧ val u' = val u % val v := by
  obtain ⟨u1, t1, t2, t3, t4⟩ := take_ev u v q hu hv hq hnv hl
  have e1 : (q - 1) * val v = q * val v - val v := by grind
  have e2 : (q + 1) * val v = q * val v + val v := by grind
  by_cases hneg : val u < q * val v
  · rw [if_pos hneg] at t4
    have hq1 : 1 ≤ q := by
      have h0 := val_nonneg hu
      by_cases hz : q = 0
      · subst hz; omega
      · omega
    obtain ⟨u2, g1, g2, g3, g4⟩ := give_ev u1 v t3 hv hnv t2 (by omega)
    have hd := div_unique hv0 (a := val u) (q := q - 1) (r := val u2) (by rw [g4, t4]; omega) (val_nonneg g3) (by omega)
    refine ⟨u2, ?_, g2, g3, hd.2.symm⟩
    refine Ev.step (fun k => by simp only [nat_digit.j1]; rfl) (Ev.bind t1 ?_)
    simp only [decide_eq_true hneg, if_true]
    refine Ev.congr (fun k => rfl) (Ev.bind g1 ?_)
    rw [hd.1, u64 (by omega) (by omega), Int.emod_eq_of_lt (by omega) (by omega)]
    exact Ev.now _
  · rw [if_neg hneg] at t4
    have hd := div_unique hv0 (a := val u) (q := q) (r := val u1) (by rw [t4]; omega) (val_nonneg t3) (by omega)
    refine ⟨u1, ?_, t2, t3, hd.2.symm⟩
    refine Ev.step (fun k => by simp only [nat_digit.j1]; rfl) (Ev.bind t1 ?_)
    rw [decide_eq_false hneg]
    simp only [Bool.false_eq_true, if_false]
    rw [hd.1, Int.emod_eq_of_lt (by omega) (by omega)]
    exact Ev.now _
/-- The truncated quotient is no less than the quotient. -/
theorem est_le {Q T Vt P U V : Int} (hP : 0 < P) (hQ : 0 ≤ Q) (h1 : Q * V ≤ U) (h2 : U < (T + 1) * P) (h3 : Vt * P ≤ V) : Q * Vt ≤ T := by
  have a1 : Q * (Vt * P) ≤ Q * V := Int.mul_le_mul_of_nonneg_left h3 hQ
  have a2 : (Q * Vt) * P < (T + 1) * P := by rw [Int.mul_assoc]; omega
  have := Int.lt_of_mul_lt_mul_right a2 (Int.le_of_lt hP)
  omega
/-- A quotient that fits three limbs by two is at most one too great. -/
theorem est_ge {q T V2 P U V : Int} (hP : 0 < P) (hq : 0 ≤ q) (hqV : q - 1 ≤ V2) (h1 : q * V2 ≤ T) (h2 : T * P ≤ U) (h3 : V ≤ (V2 + 1) * P) (hV : 0 ≤ V) (hU : 0 ≤ U) : (q - 1) * V ≤ U := by
  by_cases hz : q = 0
  · subst hz
    have : (0 - 1) * V = -V := by grind
    omega
  · have a1 : (q - 1) * V ≤ (q - 1) * ((V2 + 1) * P) := Int.mul_le_mul_of_nonneg_left h3 (by omega)
    have a2 : (q - 1) * (V2 + 1) ≤ T := by
      have : (q - 1) * (V2 + 1) = q * V2 - V2 + q - 1 := by grind
      omega
    have a3 : (q - 1) * (V2 + 1) * P ≤ T * P := Int.mul_le_mul_of_nonneg_right a2 (Int.le_of_lt hP)
    rw [Int.mul_assoc] at a3
    omega
set_option maxHeartbeats 2000000 in
theorem digit_l0 (u v : List Int) (hu : Lim u) (hv : Lim v) (hnv : v.length < 1000000000) (m : Nat) (hm : v.length = m + 2) (hl : u.length = m + 3) (top : Int) (htop : top = u[m + 2] * 4294967296 + u[m + 1]) (hvt : 2147483648 ≤ v[m + 1]) (hlt : val u < 4294967296 * val v) (hQ : 0 ≤ val u / val v) (d : Nat) : ∀ (q r : Int), q.toNat < d → 0 ≤ q → q < 4294967296 → r = top - q * v[m + 1] → 0 ≤ r → r < 8589934592 → val u / val v ≤ q →
    ∃ u', Ev (fun k => nat_digit.l0 k u v (v.length : Int) q r) (val u / val v, u') ∧ u'.length = v.length + 1 ∧ Lim u' ∧ val u' = val u % val v := by
  have gv1 := hv.get (m + 1) (by omega)
  have gv2 := hv.get m (by omega)
  have gu0 := hu.get m (by omega)
  have gu1 := hu.get (m + 1) (by omega)
  have gu2 := hu.get (m + 2) (by omega)
  have dv : val v = val (v.take m) + pw m * (v[m] + 4294967296 * v[m + 1]) := by
    rw [val_take_drop v m (by omega), val_drop_cons v m (by omega), val_drop_cons v (m + 1) (by omega), List.drop_eq_nil_of_le (by omega)]
    simp [val]
  have du : val u = val (u.take m) + pw m * (u[m] + 4294967296 * (u[m + 1] + 4294967296 * u[m + 2])) := by
    rw [val_take_drop u m (by omega), val_drop_cons u m (by omega), val_drop_cons u (m + 1) (by omega), val_drop_cons u (m + 2) (by omega), List.drop_eq_nil_of_le (by omega)]
    simp [val]
  have lv0 := val_nonneg (hv.take m)
  have lv1 := val_lt (hv.take m)
  have lu0 := val_nonneg (hu.take m)
  have lu1 := val_lt (hu.take m)
  rw [List.length_take, Nat.min_eq_left (by omega)] at lv1 lu1
  have hP := pw_pos m
  have hv0 : 0 < val v := by
    have : pw m * 1 ≤ pw m * (v[m] + 4294967296 * v[m + 1]) := Int.mul_le_mul_of_nonneg_left (by omega) (Int.le_of_lt hP)
    omega
  -- the three highest limbs, and the two of the divisor
  have hU1 : val u < ((top * 4294967296 + u[m]) + 1) * pw m := by
    have e : ((top * 4294967296 + u[m]) + 1) * pw m = pw m * (u[m] + 4294967296 * (u[m + 1] + 4294967296 * u[m + 2])) + pw m := by rw [htop]; grind
    omega
  have hU2 : (top * 4294967296 + u[m]) * pw m ≤ val u := by
    have e : (top * 4294967296 + u[m]) * pw m = pw m * (u[m] + 4294967296 * (u[m + 1] + 4294967296 * u[m + 2])) := by rw [htop]; grind
    omega
  have hV1 : (v[m + 1] * 4294967296 + v[m]) * pw m ≤ val v := by
    have e : (v[m + 1] * 4294967296 + v[m]) * pw m = pw m * (v[m] + 4294967296 * v[m + 1]) := by grind
    omega
  have hV2 : val v ≤ ((v[m + 1] * 4294967296 + v[m]) + 1) * pw m := by
    have e : ((v[m + 1] * 4294967296 + v[m]) + 1) * pw m = pw m * (v[m] + 4294967296 * v[m + 1]) + pw m := by grind
    omega
  have hQV : (val u / val v) * val v ≤ val u := Int.ediv_mul_le _ (by omega)
  have hUQ : val u < (val u / val v + 1) * val v := Int.lt_ediv_add_one_mul_self _ hv0
  have hu0 := val_nonneg hu
  induction d with
  | zero => intro q r hd; omega
  | succ d ih =>
    intro q r hd q0 q1 hr r0 r1 hq
    have hm2 := mul_bd32 ⟨q0, q1⟩ gv2
    -- the loop ends here
    have hend : Aside0 (q * v[m] ≤ r * 4294967296 + u[m] → ∃ u', Ev (fun k => nat_digit.j1 k u v q) (val u / val v, u') ∧ u'.length = v.length + 1 ∧ Lim u' ∧ val u' = val u % val v) := by
      refine ⟨fun hfit => ?_⟩
      refine digit_j1 u v q hu hv hnv (by omega) ⟨q0, q1⟩ hv0 ?_ ?_
      · refine est_ge hP q0 (by omega) ?_ hU2 hV2 (by omega) hu0
        have : q * (v[m + 1] * 4294967296 + v[m]) = (top - r) * 4294967296 + q * v[m] := by rw [hr]; grind
        omega
      · have : (val u / val v + 1) * val v ≤ (q + 1) * val v := Int.mul_le_mul_of_nonneg_right (by omega) (by omega)
        omega
    by_cases hr32 : r < 4294967296
    · by_cases hbig : q * v[m] > r * 4294967296 + u[m]
      · -- one less
        have hq1 : 1 ≤ q := by
          by_cases hz : q = 0
          · subst hz; omega
          · omega
        have hQq : val u / val v ≤ q - 1 := by
          by_cases hz : val u / val v ≤ q - 1
          · exact hz
          · have e : val u / val v = q := by omega
            have h := est_le hP hQ hQV hU1 hV1
            rw [e] at h
            have : q * (v[m + 1] * 4294967296 + v[m]) = (top - r) * 4294967296 + q * v[m] := by rw [hr]; grind
            omega
        obtain ⟨u', h1, h2⟩ := ih (q - 1) (r + v[m + 1]) (by omega) (by omega) (by omega) (by rw [hr]; grind) (by omega) (by omega) hQq
        refine ⟨u', Ev.step (fun k => ?_) h1, h2⟩
        simp only [nat_digit.l0]
        rw [if_pos hr32, w64 (x := (v.length : Int) - 2) (by omega) (by omega), w64 (x := (v.length : Int) - 1) (by omega) (by omega), show (v.length : Int) - 2 = (m : Int) by omega, show (v.length : Int) - 1 = ((m + 1 : Nat) : Int) by omega, if_pos (by omega), if_pos (by omega), if_pos (by omega), rd_get _ _ (show m < v.length by omega), rd_get _ _ (show m < u.length by omega), rd_get _ _ (show m + 1 < v.length by omega), u64 (x := v[m]) (by omega) (by omega), u64 (x := u[m]) (by omega) (by omega), u64 (x := v[m + 1]) (by omega) (by omega), u64 (x := q * v[m]) (by omega) (by omega), u64 (x := r * 4294967296) (by omega) (by omega), or_join ⟨r0, hr32⟩ gu0, if_pos hbig, if_pos (by omega), if_pos (by omega), u64 (by omega) (by omega), u64 (by omega) (by omega)]
      · obtain ⟨u', h1, h2⟩ := hend.out (by omega)
        refine ⟨u', Ev.step (fun k => ?_) h1, h2⟩
        simp only [nat_digit.l0]
        rw [if_pos hr32, w64 (x := (v.length : Int) - 2) (by omega) (by omega), show (v.length : Int) - 2 = (m : Int) by omega, if_pos (by omega), if_pos (by omega), if_pos (by omega), rd_get _ _ (show m < v.length by omega), rd_get _ _ (show m < u.length by omega), u64 (x := v[m]) (by omega) (by omega), u64 (x := u[m]) (by omega) (by omega), u64 (x := q * v[m]) (by omega) (by omega), u64 (x := r * 4294967296) (by omega) (by omega), or_join ⟨r0, hr32⟩ gu0, if_neg hbig]
    · obtain ⟨u', h1, h2⟩ := hend.out (by omega)
      refine ⟨u', Ev.step (fun k => ?_) h1, h2⟩
      simp only [nat_digit.l0]
      rw [if_neg hr32]
theorem mn_eq (a b : Int) : mn a b = min a b := by unfold mn; split <;> omega
set_option maxHeartbeats 2000000 in
theorem digit_ev (u v : List Int) (hu : Lim u) (hv : Lim v) (hnv : v.length < 1000000000) (h2 : 2 ≤ v.length) (hl : u.length = v.length + 1) (htop : 2147483648 ≤ v.getD (v.length - 1) 0) (hlt : val u < 4294967296 * val v) :
    ∃ u', Ev (fun k => nat_digit.f k u v) (val u / val v, u') ∧ u'.length = v.length + 1 ∧ Lim u' ∧ val u' = val u % val v := by
  obtain ⟨m, hm⟩ : ∃ m, v.length = m + 2 := ⟨v.length - 2, by omega⟩
  have gv1 := hv.get (m + 1) (by omega)
  have gu1 := hu.get (m + 1) (by omega)
  have gu2 := hu.get (m + 2) (by omega)
  rw [hm, show m + 2 - 1 = m + 1 by omega, getD_get _ _ (show m + 1 < v.length by omega)] at htop
  have hP := pw_pos (m + 1)
  have dv : val v = val (v.take (m + 1)) + pw (m + 1) * v[m + 1] := by
    rw [val_take_drop v (m + 1) (by omega), val_drop_cons v (m + 1) (by omega), List.drop_eq_nil_of_le (by omega)]
    simp [val]
  have du : val u = val (u.take (m + 1)) + pw (m + 1) * (u[m + 1] + 4294967296 * u[m + 2]) := by
    rw [val_take_drop u (m + 1) (by omega), val_drop_cons u (m + 1) (by omega), val_drop_cons u (m + 2) (by omega), List.drop_eq_nil_of_le (by omega)]
    simp [val]
  have lv0 := val_nonneg (hv.take (m + 1))
  have lv1 := val_lt (hv.take (m + 1))
  have lu0 := val_nonneg (hu.take (m + 1))
  have lu1 := val_lt (hu.take (m + 1))
  rw [List.length_take, Nat.min_eq_left (by omega)] at lv1 lu1
  have hv0 : 0 < val v := by
    have : pw (m + 1) * 1 ≤ pw (m + 1) * v[m + 1] := Int.mul_le_mul_of_nonneg_left (by omega) (Int.le_of_lt hP)
    omega
  have hQ : 0 ≤ val u / val v := Int.ediv_nonneg (val_nonneg hu) (by omega)
  obtain ⟨top, htp⟩ : ∃ t, t = u[m + 2] * 4294967296 + u[m + 1] := ⟨_, rfl⟩
  have htp0 : 0 ≤ top := by omega
  have htp1 : top < 18446744073709551616 := by omega
  have hQtop : (val u / val v) * v[m + 1] ≤ top := by
    refine est_le hP hQ (Int.ediv_mul_le _ (by omega)) ?_ (V := val v) ?_
    · have e : (top + 1) * pw (m + 1) = pw (m + 1) * (u[m + 1] + 4294967296 * u[m + 2]) + pw (m + 1) := by rw [htp]; grind
      omega
    · rw [Int.mul_comm]; omega
  have hQ1 : val u / val v ≤ top / v[m + 1] := Int.le_ediv_of_mul_le (by omega) hQtop
  have hQ2 : val u / val v < 4294967296 := Int.ediv_lt_of_lt_mul hv0 hlt
  have hd0 : 0 ≤ top / v[m + 1] := Int.ediv_nonneg htp0 (by omega)
  have hd1 : top / v[m + 1] < 18446744073709551616 := by
    have : top / v[m + 1] ≤ top := Int.ediv_le_self _ htp0
    omega
  -- the first guess
  obtain ⟨q, hq⟩ : ∃ q, q = mn (top / v[m + 1]) 4294967295 := ⟨_, rfl⟩
  have hq' := hq
  rw [mn_eq] at hq'
  have q0 : 0 ≤ q := by omega
  have q1 : q < 4294967296 := by omega
  have hqm := mul_bd32 ⟨q0, q1⟩ gv1
  have hqt : q * v[m + 1] ≤ top := by
    have h1 : q * v[m + 1] ≤ (top / v[m + 1]) * v[m + 1] := Int.mul_le_mul_of_nonneg_right (by omega) (by omega)
    have h2 := Int.ediv_mul_le top (show v[m + 1] ≠ 0 by omega)
    omega
  -- the limb above is not above the divisor's highest
  have hu2 : u[m + 2] ≤ v[m + 1] := by
    by_cases h : u[m + 2] ≤ v[m + 1]
    · exact h
    · have h1 : pw (m + 1) * (4294967296 * (v[m + 1] + 1)) ≤ pw (m + 1) * (u[m + 1] + 4294967296 * u[m + 2]) := Int.mul_le_mul_of_nonneg_left (by omega) (Int.le_of_lt hP)
      have h2 : pw (m + 1) * (4294967296 * (v[m + 1] + 1)) = 4294967296 * (pw (m + 1) * v[m + 1]) + 4294967296 * pw (m + 1) := by grind
      omega
  have hr1 : top - q * v[m + 1] < 8589934592 := by
    by_cases h : top / v[m + 1] ≤ 4294967295
    · have e : q = top / v[m + 1] := by omega
      have h3 := Int.emod_lt_of_pos top (show 0 < v[m + 1] by omega)
      have h4 := Int.mul_ediv_add_emod top v[m + 1]
      rw [e, Int.mul_comm]
      omega
    · have e : q = 4294967295 := by omega
      rw [e, htp]
      omega
  obtain ⟨u', h1, h2⟩ := digit_l0 u v hu hv hnv m hm (by omega) top htp htop hlt hQ (q.toNat + 1) q (top - q * v[m + 1]) (by omega) q0 q1 rfl (by omega) hr1 (by omega)
  refine ⟨u', Ev.congr (fun k => ?_) h1, h2⟩
  have eor : Go.bits .or .u64 (IntKind.u64.wrap ((IntKind.u64.wrap u[m + 2]) * 4294967296)) (IntKind.u64.wrap u[m + 1]) = top := by
    rw [u64 (x := u[m + 2]) (by omega) (by omega), u64 (x := u[m + 2] * 4294967296) (by omega) (by omega), u64 (x := u[m + 1]) (by omega) (by omega), or_join gu2 gu1, htp]
  have er2 : rd u (v.length : Int) = u[m + 2] := by rw [rd_D, hm, getD_get _ _ (show m + 2 < u.length by omega)]
  unfold nat_digit.f
  rw [w64 (x := (v.length : Int) - 1) (by omega) (by omega), show (v.length : Int) - 1 = ((m + 1 : Nat) : Int) by omega, if_pos (by omega), if_pos (by omega), if_pos (by omega), if_pos (by omega), if_pos (by omega), rd_get _ _ (show m + 1 < v.length by omega), er2, rd_get _ _ (show m + 1 < u.length by omega), eor, u64 (x := v[m + 1]) (by omega) (by omega), if_neg (by omega), Int.tdiv_eq_ediv_of_nonneg htp0, u64 hd0 hd1, ← hq, u64 (x := q * v[m + 1]) (by omega) (by omega), u64 (by omega) (by omega)]
end Go.Proofs.Ytdicjemjmlbmlaa.V
/- nat.digit over a window of an own row, in the printed shape of a call that is handed the row and the window's two places. -/
namespace Go.Proofs.Ytdicjemjmlbmlaa.H
open Go.RowKit Go.Proofs.YtdicjemjmlbmlaaW.PrintWords Go.Proofs.YtdicjemjmlbmlaaW.PrintLast Go.Proofs.Ytdicjemjmlbmlaa.PA
/-- One limb of the quotient, and the row behind it. -/
def nat_digitW.f (k : Nat) (l0 : List Int) (lo hi : Int) (l1 : List Int) : Option (Int × List Int) :=
  if 0 ≤ lo ∧ lo < hi ∧ hi ≤ l0.length then (nat_digit.f k ((l0.take hi.toNat).drop lo.toNat) l1).map fun p => (p.1, l0.take lo.toNat ++ p.2 ++ l0.drop hi.toNat) else none
theorem nat_digitW.calls (k : Nat) (P0_ : Nat → Prop) (u9000_ : Value) (l0 : List Int) (a1 a2 : Int) (A2 : Option Addr) (c2 : Nat) (l2 : List Int) (r1 : Int) (r2 : List Int) (w0 w : World) (hB : Below w0.heap.size w0 w) (ho0 : Kd.R (Kd.int .u32) 81 w w0.heap.size P0_ u9000_ l0) (hr1 : ∀ W_, Kept w W_ (fun k_ => P0_ k_) → Kd.C (Kd.int .u32) W_ A2 l2.length l2) (hc1 : l2.length ≤ c2) (h : nat_digitW.f k l0 a1 a2 l2 = some (r1, r2))
    {Ao A : Option Addr} {co c : Nat} {y : List Int} (hv : u9000_ = .slice Ao l0.length co) (hA : A = (if co = a1.toNat then Ao else Ao.map (·.add (a1.toNat * 1)))) (hy : y = (l0.take a2.toNat).drop a1.toNat) (hyc : y.length ≤ c) :
    Calls Try.prog 92 #[.slice A y.length c, .slice A2 l2.length c2] w fun e w' => e = .returned (.int .u32 r1) ∧ Kd.R (Kd.int .u32) 81 w' w0.heap.size (fun k_ => (P0_ k_ ∨ w.heap.size ≤ k_)) u9000_ r2 ∧ Below w0.heap.size w0 w' ∧ Kept w w' (fun k_ => P0_ k_) := by
  unfold nat_digitW.f at h
  split at h
  · rename_i hp
    obtain ⟨h0, hlt, hhi⟩ := hp
    obtain ⟨⟨q, y2⟩, hd, he⟩ := Option.map_eq_some_iff.1 h
    obtain ⟨rfl, rfl⟩ := Prod.mk.inj he
    have hlen : 0 < l0.length := by omega
    obtain ⟨g, cap, he, hb, hl, hcells⟩ := Kd.R_form ho0 hlen
    rw [hv] at he ho0
    injection he with e1 e2 e3
    subst e1 e3
    have hco : co ≠ a1.toNat := by have := (Kd.R_reads' ho0).2.1; omega
    have hAd : A = some ⟨g, a1.toNat, none⟩ := by
      rw [hA, if_neg hco]
      simp only [Option.map_some, Nat.mul_one]
      rw [win_add, Nat.zero_add]
    have hpre : (l0.take a1.toNat).length = a1.toNat := by rw [List.length_take]; omega
    have hsp : l0.take a1.toNat ++ y ++ l0.drop a2.toNat = l0 := by
      rw [hy]
      have e1 : l0.take a1.toNat = (l0.take a2.toNat).take a1.toNat := by rw [List.take_take, Nat.min_eq_left (by omega)]
      rw [e1, List.take_append_drop, List.take_append_drop]
    have hR : (Wn.mk g l0.length co c (l0.take a1.toNat) (l0.drop a2.toNat)).R w w0.heap.size P0_ (.slice A y.length c) y := by
      refine ⟨fun k hk => ho0.1 k ?_, ?_, hyc, ?_⟩
      · rw [hAd] at hk; exact hk
      · rw [hAd]; simp only [hpre]
      · simp only [hsp]; exact ho0
    rw [← hy] at hd
    refine (nat_digit.callsW _ k P0_ _ y A2 c2 l2 q y2 w0 w hB hR hr1 hc1 hd).mono ?_
    rintro e w' ⟨rfl, hR2, hB2, hK2⟩
    refine ⟨rfl, ?_, hB2, hK2⟩
    have hl2 : (l0.take a1.toNat ++ y2 ++ l0.drop a2.toNat).length = l0.length := by
      have := (Kd.R_reads' hR2.2.2.2).1
      exact this.symm
    rw [hv]
    exact hR2.2.2.2
  · cases h
end Go.Proofs.Ytdicjemjmlbmlaa.H
/- bits.LeadingZeros32, in the printed shape: by the shelf. -/
namespace Go.Proofs.Ytdicjemjmlbmlaa.H
open Go.RowKit Go.Proofs.YtdicjemjmlbmlaaW.PrintWords Go.Proofs.YtdicjemjmlbmlaaW.PrintLast
def bits_LeadingZeros32.f (a0 : Int) : Option Int := if 0 ≤ a0 ∧ a0 ≤ 4294967295 then some (32 - (Lib.bitLen a0.toNat : Int)) else none
theorem bits_LeadingZeros32.calls (a0 : Int) (r : Int) (w : World) (h : bits_LeadingZeros32.f a0 = some r) :
    Calls Try.prog 90 #[.int .u32 a0] w fun e w' => e = .returned (.int .i64 r) ∧ Drawn0 w w' := by
  unfold bits_LeadingZeros32.f at h
  split at h
  · rename_i hp
    obtain rfl := Option.some.inj h
    refine (Try.bits_LeadingZeros32 a0 w hp.1 hp.2).mono ?_
    rintro e w' ⟨rfl, rfl⟩
    exact ⟨rfl, Drawn0.refl _⟩
  · cases h
end Go.Proofs.Ytdicjemjmlbmlaa.H
/- Written by a program of this session, wip/tools/patch_print.py, over the kit's print of the loaded functions. -/
namespace Go.Proofs.Ytdicjemjmlbmlaa.H
end Go.Proofs.Ytdicjemjmlbmlaa.H
namespace Go.Proofs.Ytdicjemjmlbmlaa.PA
open Go.RowKit Go.Proofs.YtdicjemjmlbmlaaW.PrintWords Go.Proofs.YtdicjemjmlbmlaaW.PrintLast Go.Proofs.YtdicjemjmlbmlaaW.PrintMore Go.Proofs.Ytdicjemjmlbmlaa.H
attribute [local go_sem] max2_int min2_int max_two min_two max_three min_three max_four min_four   -- for this text's walks alone
set_option linter.unusedVariables false
set_option linter.unusedSimpArgs false

/-! ### nat_DivMod: function 72 -/
def nat_DivMod.l0 : Nat → List Int → Int → List Int → List Int → List Int → Int → Option (List Int × List Int × Int)
 | 0, _, _, _, _, _, _ => none
 | k + 1, x1, x9, x10, x11, x12, x13 => if x13 ≥ 0 then (if 0 ≤ x13 then (if x13 ≤ (wrap64 ((wrap64 (x13 + (x11.length : Int))) + 1)) then (if (wrap64 ((wrap64 (x13 + (x11.length : Int))) + 1)) ≤ (x10.length : Int) then ((nat_digitW.f k x10 x13 (wrap64 ((wrap64 (x13 + (x11.length : Int))) + 1)) x11).bind fun bt326 => (if x13 < (x12.length : Int) then (nat_DivMod.l0 k x1 x9 bt326.2 x11 (x12.set (x13 : Int).toNat bt326.1) (wrap64 (x13 - 1))) else (none))) else (none)) else (none)) else (none)) else ((nat_Norm.f x12).bind fun t329 => (if 0 ≤ (x1.length : Int) then (if (x1.length : Int) ≤ (x10.length : Int) then ((nat_right.f k (x10.take ((x1.length : Int) : Int).toNat) x9).bind fun t336 => (some (t329, t336, 0))) else (none)) else (none)))
def nat_DivMod.f (k : Nat) (l0 : List Int) (l1 : List Int) : Option (List Int × List Int × Int) := (nat_Norm.f l0).bind fun t290 => ((nat_Norm.f l1).bind fun t293 => (if (t293.length : Int) = 0 then (some (([] : List Int), ([] : List Int), 7)) else ((nat_Cmp.f k t290 t293).bind fun t296 => (if t296 < 0 then (some ((([] : List Int)), t290, 0)) else (if (t293.length : Int) = 1 then (if 0 < (t293.length : Int) then ((nat_small.f k t290 (IntKind.u64.wrap (rd t293 0))).bind fun bt301 => ((nat_Of.f bt301.2).bind fun t305 => (some (bt301.1, t305, 0)))) else (none)) else (if 0 ≤ (wrap64 ((t293.length : Int) - 1)) then (if (wrap64 ((t293.length : Int) - 1)) < (t293.length : Int) then ((bits_LeadingZeros32.f (rd t293 (wrap64 ((t293.length : Int) - 1)))).bind fun t309 => ((nat_left.f k t290 t309).bind fun t310 => ((nat_left.f k t293 t309).bind fun t313 => (if 0 ≤ (t293.length : Int) then (if (t293.length : Int) ≤ (t313.length : Int) then (if 0 ≤ (wrap64 ((wrap64 ((t290.length : Int) - (t293.length : Int))) + 1)) then (if (wrap64 ((wrap64 ((t290.length : Int) - (t293.length : Int))) + 1) : Int).toNat ≤ 70368744177664 then ((some (List.replicate (wrap64 ((wrap64 ((t290.length : Int) - (t293.length : Int))) + 1) : Int).toNat 0 : List Int)).bind fun y319 => (nat_DivMod.l0 k t293 t309 t310 (t313.take ((t293.length : Int) : Int).toNat) y319 (wrap64 ((y319.length : Int) - 1)))) else (none)) else (none)) else (none)) else (none))))) else (none)) else (none)))))))
def nat_DivMod.T10 : Bool × List (List Nat × List Nat) := (true, [([], []), ([], []), ([0, 1], [0, 1]), ([], []), ([], []), ([3, 4, 2], [3, 4]), ([], []), ([6], [6]), ([5, 7], [5, 7]), ([2, 5, 0, 1, 2], [2]), ([8, 9, 0, 1, 2, 3, 4, 5, 6, 7, 8, 9], [8])])
def nat_DivMod.B10 : List Nat := [0, 0, 3, 0, 0, 31, 0, 64, 255, 63, 1023]
theorem nat_DivMod.tab10 : rtab .any (opsOf Try.f72 10) = nat_DivMod.T10 := by kernel_rfl
theorem nat_DivMod.bits10 : waitsOk nat_DivMod.T10.2 nat_DivMod.B10 = true := by kernel_rfl
def nat_DivMod.T16 : Bool × List (List Nat × List Nat) := (true, [([], []), ([0], [0]), ([], []), ([], []), ([3], [3]), ([2, 4], [2, 4]), ([], []), ([5, 6, 1], [5, 6]), ([1, 7, 0, 1], [1]), ([7, 8, 0, 1, 2, 3, 4, 5, 6, 7, 8], [7]), ([9, 0, 1, 2, 3, 4, 5, 6, 7, 8, 9], [])])
def nat_DivMod.B16 : List Nat := [0, 1, 0, 0, 8, 28, 0, 127, 255, 511, 1023]
theorem nat_DivMod.tab16 : rtab .any (opsOf Try.f72 16) = nat_DivMod.T16 := by kernel_rfl
theorem nat_DivMod.bits16 : waitsOk nat_DivMod.T16.2 nat_DivMod.B16 = true := by kernel_rfl
set_option maxHeartbeats 8000000 in
set_option maxRecDepth 100000 in
theorem nat_DivMod.calls (k : Nat) (A0 : Option Addr) (c0 : Nat) (l0 : List Int) (A1 : Option Addr) (c1 : Nat) (l1 : List Int) (r1 : List Int) (r2 : List Int) (r3 : Int) (w : World) (hr0 : Kd.C (Kd.int .u32) w A0 l0.length l0) (hc0 : l0.length ≤ c0) (hr1 : Kd.C (Kd.int .u32) w A1 l1.length l1) (hc1 : l1.length ≤ c1) (h : nat_DivMod.f k l0 l1 = some (r1, r2, r3)) :
  Calls Try.prog 72 #[.slice A0 l0.length c0, .slice A1 l1.length c1] w fun e w' => ∃ v0_ v1_ : Value, e = .returned (.tuple #[v0_, v1_, .int .i64 r3]) ∧ Kd.R (Kd.int .u32) 81 w' w.heap.size (fun k_ => some k_ ≠ (v1_ : Value).ownBlock) v0_ r1 ∧ Kd.R (Kd.int .u32) 81 w' w.heap.size (fun k_ => some k_ ≠ (v0_ : Value).ownBlock) v1_ r2 ∧ Below w.heap.size w w' := by
 have HR0 := Aside0.mk hr0
 have HC0 := Aside0.mk hc0
 clear hr0 hc0
 have HR1 := Aside0.mk hr1
 have HC1 := Aside0.mk hc1
 clear hr1 hc1
 have HB := Aside0.mk (Below.refl w.heap.size w)
 have H : ((nat_Norm.f l0).bind fun t290 => ((nat_Norm.f l1).bind fun t293 => (if (t293.length : Int) = 0 then (some (([] : List Int), ([] : List Int), 7)) else ((nat_Cmp.f k t290 t293).bind fun t296 => (if t296 < 0 then (some ((([] : List Int)), t290, 0)) else (if (t293.length : Int) = 1 then (if 0 < (t293.length : Int) then ((nat_small.f k t290 (IntKind.u64.wrap (rd t293 0))).bind fun bt301 => ((nat_Of.f bt301.2).bind fun t305 => (some (bt301.1, t305, 0)))) else (none)) else (if 0 ≤ (wrap64 ((t293.length : Int) - 1)) then (if (wrap64 ((t293.length : Int) - 1)) < (t293.length : Int) then ((bits_LeadingZeros32.f (rd t293 (wrap64 ((t293.length : Int) - 1)))).bind fun t309 => ((nat_left.f k t290 t309).bind fun t310 => ((nat_left.f k t293 t309).bind fun t313 => (if 0 ≤ (t293.length : Int) then (if (t293.length : Int) ≤ (t313.length : Int) then (if 0 ≤ (wrap64 ((wrap64 ((t290.length : Int) - (t293.length : Int))) + 1)) then (if (wrap64 ((wrap64 ((t290.length : Int) - (t293.length : Int))) + 1) : Int).toNat ≤ 70368744177664 then ((some (List.replicate (wrap64 ((wrap64 ((t290.length : Int) - (t293.length : Int))) + 1) : Int).toNat 0 : List Int)).bind fun y319 => (nat_DivMod.l0 k t293 t309 t310 (t313.take ((t293.length : Int) : Int).toNat) y319 (wrap64 ((y319.length : Int) - 1)))) else (none)) else (none)) else (none)) else (none))))) else (none)) else (none)))))))) = some (r1, r2, r3) := h
 clear h
 obtain ⟨t290, A30, H⟩ := Option.bind_eq_some_iff.mp H
 try dsimp only at H
 have A3 := Aside0.mk A30
 clear A30
 obtain ⟨t293, A40, H⟩ := Option.bind_eq_some_iff.mp H
 try dsimp only at H
 have A4 := Aside0.mk A40
 clear A40
 by_cases c5 : (t293.length : Int) = 0
 ·rw [if_pos c5] at H
  have c5b0 : ((t293.length : Int) == 0) = true := beq_iff_eq.mpr c5
  have c5b1 : ((t293.length : Int) != 0) = false := bne_eq_false_iff_eq.mpr c5
  clear c5
  simp only [Option.some.injEq, Prod.mk.injEq] at H
  obtain ⟨rfl, rfl, rfl⟩ := H
  go_enter Try.func72, Try.ntmps72
  go_wp2_with (first | ((with_reducible refine gate_callee (f := 83) rfl ?_); refine goL (some 15) Try.func83 [.slice A0 l0.length c0] ?_; (with_reducible refine (nat_Norm.calls _ _ l0 t290 _ ?side1 ?side2 A3.out).mono ?_); (case side1 => exact HR0.out); (case side2 => exact HC0.out); rintro e w6 ⟨v291, rfl, ho0, hb⟩; refine ⟨_, rfl, ?_⟩; have HO292 := Aside0.mk (Kd.R_lower ho0 (below_size HB.out)); replace HB := Aside0.mk (below_step HB.out hb)) | ((with_reducible refine gate_callee (f := 83) rfl ?_); refine goL (some 17) Try.func83 [.slice A1 l1.length c1] ?_; (with_reducible refine (nat_Norm.calls _ _ l1 t293 _ ?side1 ?side2 A4.out).mono ?_); (case side1 => exact (Kd.C_below HR1.out HB.out)); (case side2 => exact HC1.out); rintro e w7 ⟨v294, rfl, ho0, hb⟩; refine ⟨_, rfl, ?_⟩; have HO295 := Aside0.mk (Kd.R_lower (Kd.R_new' ho0 (Kd.R_lt HO292.out)) (below_size HB.out)); replace HB := Aside0.mk (below_step HB.out hb); obtain ⟨Ao8, co8, eo8⟩ := Kd.R_slice HO295.out; subst eo8))
  go_ret3
  exact ⟨_, _, rfl, by first | exact Kd.R_nil _ _ _ _ _ | exact Kd.N_nil _ _ _ _ _ | exact Kd.V_nil _ _ _ _ _ | exact Kd.Q_nil _ _ _ _ _ | exact Kd.S_nil _ _ _ _ _, by first | exact Kd.R_nil _ _ _ _ _ | exact Kd.N_nil _ _ _ _ _ | exact Kd.V_nil _ _ _ _ _ | exact Kd.Q_nil _ _ _ _ _ | exact Kd.S_nil _ _ _ _ _, HB.out⟩
 ·rw [if_neg c5] at H
  have c5b0 : ((t293.length : Int) == 0) = false := beq_eq_false_iff_ne.mpr c5
  have c5b1 : ((t293.length : Int) != 0) = true := bne_iff_ne.mpr c5
  have c5b2 : ¬ (t293 = []) := fun h_ => c5 (by rw [h_]; rfl)
  obtain ⟨t296, A90, H⟩ := Option.bind_eq_some_iff.mp H
  try dsimp only at H
  have A9 := Aside0.mk A90
  clear A90
  by_cases c10 : t296 < 0
  ·rw [if_pos c10] at H
   have c10b0 : decide (t296 < 0) = true := decide_eq_true c10
   clear c10
   obtain ⟨y297, hy297⟩ : ∃ y_ : List Int, y_ = (([] : List Int)) := ⟨_, rfl⟩
   replace H : (some (y297, t290, 0)) = some (r1, r2, r3) := by first | (rw [hy297]; with_reducible exact H) | (have H2_ := (Option.bind_some _ _).symm.trans H; rw [hy297]; with_reducible exact H2_) | (have H2_ := (Option.bind_some _ _).symm.trans H; with_reducible exact H2_) | with_reducible exact H | (rw [hy297]; exact H) | exact H
   have Ny297 := Aside0.mk hy297
   clear hy297
   simp only [Option.some.injEq, Prod.mk.injEq] at H
   obtain ⟨rfl, rfl, rfl⟩ := H
   go_enter Try.func72, Try.ntmps72
   go_wp2_with (first | ((with_reducible refine gate_callee (f := 83) rfl ?_); refine goL (some 15) Try.func83 [.slice A0 l0.length c0] ?_; (with_reducible refine (nat_Norm.calls _ _ l0 t290 _ ?side1 ?side2 A3.out).mono ?_); (case side1 => exact HR0.out); (case side2 => exact HC0.out); rintro e w11 ⟨v291, rfl, ho0, hb⟩; refine ⟨_, rfl, ?_⟩; have HO292 := Aside0.mk (Kd.R_lower ho0 (below_size HB.out)); replace HB := Aside0.mk (below_step HB.out hb)) | ((with_reducible refine gate_callee (f := 83) rfl ?_); refine goL (some 17) Try.func83 [.slice A1 l1.length c1] ?_; (with_reducible refine (nat_Norm.calls _ _ l1 t293 _ ?side1 ?side2 A4.out).mono ?_); (case side1 => exact (Kd.C_below HR1.out HB.out)); (case side2 => exact HC1.out); rintro e w12 ⟨v294, rfl, ho0, hb⟩; refine ⟨_, rfl, ?_⟩; have HO295 := Aside0.mk (Kd.R_lower (Kd.R_new' ho0 (Kd.R_lt HO292.out)) (below_size HB.out)); replace HO292 := Aside0.mk (Kd.R_elder' HO292.out (Kd.R_base ho0) hb); replace HB := Aside0.mk (below_step HB.out hb); obtain ⟨Ao13, co13, eo13⟩ := Kd.R_slice HO295.out; subst eo13; obtain ⟨Ao14, co14, eo14⟩ := Kd.R_slice HO292.out; subst eo14) | ((with_reducible refine gate_callee (f := 67) rfl ?_); refine goL (some 25) Try.func67 [.slice Ao14 t290.length co14, .slice Ao13 t293.length co13] ?_; (with_reducible refine (nat_Cmp.calls k _ _ t290 _ _ t293 t296 _ ?side1 ?side2 ?side3 ?side4 A9.out).mono ?_); (case side1 => exact (Kd.R_reads' HO292.out).2.2); (case side2 => exact (Kd.R_reads' HO292.out).2.1); (case side3 => exact (Kd.R_reads' HO295.out).2.2); (case side4 => exact (Kd.R_reads' HO295.out).2.1); rintro e w15 ⟨rfl, hb⟩; refine ⟨_, rfl, ?_⟩; replace HO292 := Aside0.mk (Kd.R_below HO292.out hb); replace HO295 := Aside0.mk (Kd.R_below HO295.out hb); replace HB := Aside0.mk (below_step HB.out hb); (try clear hb); (try clear hb2); (try clear hk); (try clear hi)) | ((with_reducible refine gate_dst (N := 27) rfl ?_); refine Kd.R_lit (Kd.int .u32) _ 81 ?hg (N := 27) ?hd (xs := ([] : List Int)) (inner := []) (ok := fun _ => True) (okp := fun _ => True) ?hr ?hp (fun _ hk => hk) trivial (Below.refl _ _) (Nat.le_refl _) (by simp) ?_; (case hd => rfl); (case hg => rfl); (case hr => first | (go_simp; done) | (go_simp; rfl)); (case hp => exact (Reps.none _ _)); intro v298 w16 ho17 hb hg_ hnew_; clear hg_ hnew_; (first | rw [← Ny297.out] at ho17 | (simp only [Int.reduceToNat] at ho17; rw [← Ny297.out] at ho17)); have HO299 := Aside0.mk (Kd.R_lower (Kd.R_new' (Kd.R_new' ho17 (Kd.R_lt HO292.out)) (Kd.R_lt HO295.out)) (below_size HB.out)); replace HO292 := Aside0.mk (Kd.R_elder' HO292.out (Kd.R_base ho17) hb); replace HB := Aside0.mk (below_step HB.out hb); clear hb ho17))
   go_ret3
   exact ⟨_, _, rfl, Kd.R_mono HO299.out (fun _ hk => hk.1.2), Kd.R_mono HO292.out (fun _ hk => hk.2), HB.out⟩
  ·rw [if_neg c10] at H
   have c10b0 : decide (t296 < 0) = false := decide_eq_false c10
   clear c10
   by_cases c18 : (t293.length : Int) = 1
   ·rw [if_pos c18] at H
    have c18b0 : ((t293.length : Int) == 1) = true := beq_iff_eq.mpr c18
    have c18b1 : ((t293.length : Int) != 1) = false := bne_eq_false_iff_eq.mpr c18
    clear c18
    by_cases c19 : 0 < (t293.length : Int)
    ·rw [if_pos c19] at H
     have c19b0 : decide (0 < (t293.length : Int)) = true := decide_eq_true c19
     have c19b1 : decide (0 < t293.length) = true := decide_eq_true (by omega)
     clear c19
     obtain ⟨⟨t301, t302⟩, A200, H⟩ := Option.bind_eq_some_iff.mp H
     try dsimp only at H
     have A20 := Aside0.mk A200
     clear A200
     obtain ⟨t305, A210, H⟩ := Option.bind_eq_some_iff.mp H
     try dsimp only at H
     have A21 := Aside0.mk A210
     clear A210
     simp only [Option.some.injEq, Prod.mk.injEq] at H
     obtain ⟨rfl, rfl, rfl⟩ := H
     go_enter Try.func72, Try.ntmps72
     go_wp2_with (first | ((with_reducible refine gate_callee (f := 83) rfl ?_); refine goL (some 15) Try.func83 [.slice A0 l0.length c0] ?_; (with_reducible refine (nat_Norm.calls _ _ l0 t290 _ ?side1 ?side2 A3.out).mono ?_); (case side1 => exact HR0.out); (case side2 => exact HC0.out); rintro e w22 ⟨v291, rfl, ho0, hb⟩; refine ⟨_, rfl, ?_⟩; have HO292 := Aside0.mk (Kd.R_lower ho0 (below_size HB.out)); replace HB := Aside0.mk (below_step HB.out hb)) | ((with_reducible refine gate_callee (f := 83) rfl ?_); refine goL (some 17) Try.func83 [.slice A1 l1.length c1] ?_; (with_reducible refine (nat_Norm.calls _ _ l1 t293 _ ?side1 ?side2 A4.out).mono ?_); (case side1 => exact (Kd.C_below HR1.out HB.out)); (case side2 => exact HC1.out); rintro e w23 ⟨v294, rfl, ho0, hb⟩; refine ⟨_, rfl, ?_⟩; have HO295 := Aside0.mk (Kd.R_lower (Kd.R_new' ho0 (Kd.R_lt HO292.out)) (below_size HB.out)); replace HO292 := Aside0.mk (Kd.R_elder' HO292.out (Kd.R_base ho0) hb); replace HB := Aside0.mk (below_step HB.out hb); obtain ⟨Ao24, co24, eo24⟩ := Kd.R_slice HO295.out; subst eo24; obtain ⟨Ao25, co25, eo25⟩ := Kd.R_slice HO292.out; subst eo25) | ((with_reducible refine gate_callee (f := 67) rfl ?_); refine goL (some 25) Try.func67 [.slice Ao25 t290.length co25, .slice Ao24 t293.length co24] ?_; (with_reducible refine (nat_Cmp.calls k _ _ t290 _ _ t293 t296 _ ?side1 ?side2 ?side3 ?side4 A9.out).mono ?_); (case side1 => exact (Kd.R_reads' HO292.out).2.2); (case side2 => exact (Kd.R_reads' HO292.out).2.1); (case side3 => exact (Kd.R_reads' HO295.out).2.2); (case side4 => exact (Kd.R_reads' HO295.out).2.1); rintro e w26 ⟨rfl, hb⟩; refine ⟨_, rfl, ?_⟩; replace HO292 := Aside0.mk (Kd.R_below HO292.out hb); replace HO295 := Aside0.mk (Kd.R_below HO295.out hb); replace HB := Aside0.mk (below_step HB.out hb); (try clear hb); (try clear hb2); (try clear hk); (try clear hi); have p300 : 0 ≤ (0 : Int) := (by omega); have q300 : 0 < (t293.length : Int) := of_decide_eq_true (by first | (with_reducible assumption) | assumption); obtain ⟨ad300, e300, hx300_0⟩ := Kd.at_int (Kd.R_reads' HO295.out).2.2 0 p300 q300; cases e300; have qi300 : (0 < t293.length) = True := eq_true (by omega); (try rw [show ((0 : Int)).toNat = 0 from rfl] at hx300_0); (try rw [Addr.add_zero'] at hx300_0); replace p300 := eq_true p300; replace q300 := eq_true q300) | ((with_reducible refine gate_callee (f := 89) rfl ?_); refine goL (some 39) Try.func89 [.slice Ao25 t290.length co25, .int .u64 (IntKind.u64.wrap (rd t293 0))] ?_; (with_reducible refine (nat_small.calls k _ _ t290 (IntKind.u64.wrap (rd t293 0)) t301 t302 _ ?side1 ?side2 A20.out).mono ?_); (case side1 => exact (Kd.R_reads' HO292.out).2.2); (case side2 => exact (Kd.R_reads' HO292.out).2.1); rintro e w27 ⟨v303, rfl, ho0, hb⟩; refine ⟨_, rfl, ?_⟩; have HO304 := Aside0.mk (Kd.R_lower (Kd.R_new' (Kd.R_new' ho0 (Kd.R_lt HO292.out)) (Kd.R_lt HO295.out)) (below_size HB.out)); replace HO292 := Aside0.mk (Kd.R_elder' HO292.out (Kd.R_base ho0) hb); replace HO295 := Aside0.mk (Kd.R_elder' HO295.out (Kd.R_base ho0) hb); replace HB := Aside0.mk (below_step HB.out hb)) | ((with_reducible refine gate_callee (f := 64) rfl ?_); refine goL (some 44) Try.func64 [.int .u64 t302] ?_; (with_reducible refine (nat_Of.calls t302 t305 _ A21.out).mono ?_); rintro e w28 ⟨v306, rfl, ho0, hb⟩; refine ⟨_, rfl, ?_⟩; have HO307 := Aside0.mk (Kd.R_lower (Kd.R_new' (Kd.R_new' (Kd.R_new' ho0 (Kd.R_lt HO292.out)) (Kd.R_lt HO295.out)) (Kd.R_lt HO304.out)) (below_size HB.out)); replace HO304 := Aside0.mk (Kd.R_elder' HO304.out (Kd.R_base ho0) hb); replace HB := Aside0.mk (below_step HB.out hb)))
     go_ret3
     exact ⟨_, _, rfl, Kd.R_mono HO304.out (fun _ hk => hk.2), Kd.R_mono HO307.out (fun _ hk => hk.2), HB.out⟩
    ·rw [if_neg c19] at H
     exact absurd H (by simp)
   ·rw [if_neg c18] at H
    have c18b0 : ((t293.length : Int) == 1) = false := beq_eq_false_iff_ne.mpr c18
    have c18b1 : ((t293.length : Int) != 1) = true := bne_iff_ne.mpr c18
    obtain ⟨ji29, hji29⟩ : ∃ j_ : Int, (wrap64 ((t293.length : Int) - 1)) = j_ := ⟨_, rfl⟩
    replace H : (if 0 ≤ (ji29) then (if (ji29) < (t293.length : Int) then ((bits_LeadingZeros32.f (rd t293 (ji29))).bind fun t309 => ((nat_left.f k t290 t309).bind fun t310 => ((nat_left.f k t293 t309).bind fun t313 => (if 0 ≤ (t293.length : Int) then (if (t293.length : Int) ≤ (t313.length : Int) then (if 0 ≤ (wrap64 ((wrap64 ((t290.length : Int) - (t293.length : Int))) + 1)) then (if (wrap64 ((wrap64 ((t290.length : Int) - (t293.length : Int))) + 1) : Int).toNat ≤ 70368744177664 then ((some (List.replicate (wrap64 ((wrap64 ((t290.length : Int) - (t293.length : Int))) + 1) : Int).toNat 0 : List Int)).bind fun y319 => (nat_DivMod.l0 k t293 t309 t310 (t313.take ((t293.length : Int) : Int).toNat) y319 (wrap64 ((y319.length : Int) - 1)))) else (none)) else (none)) else (none)) else (none))))) else (none)) else (none)) = some (r1, r2, r3) := by first | (rw [hji29] at H; exact H) | (simp only [hji29] at H ⊢; exact H)
    (try rw [hji29] at A3)
    (try rw [hji29] at A4)
    (try rw [hji29] at A9)
    have hji29w : (IntKind.i64.wrap ((t293.length : Int) - 1)) = ji29 := (i64_w _).trans hji29
    by_cases c30 : 0 ≤ (ji29)
    ·rw [if_pos c30] at H
     have c30b0 : decide (0 ≤ (ji29)) = true := decide_eq_true c30
     clear c30
     by_cases c31 : (ji29) < (t293.length : Int)
     ·rw [if_pos c31] at H
      have c31b0 : decide ((ji29) < (t293.length : Int)) = true := decide_eq_true c31
      clear c31
      obtain ⟨t309, A320, H⟩ := Option.bind_eq_some_iff.mp H
      try dsimp only at H
      have A32 := Aside0.mk A320
      clear A320
      obtain ⟨t310, A330, H⟩ := Option.bind_eq_some_iff.mp H
      try dsimp only at H
      have A33 := Aside0.mk A330
      clear A330
      obtain ⟨t313, A340, H⟩ := Option.bind_eq_some_iff.mp H
      try dsimp only at H
      have A34 := Aside0.mk A340
      clear A340
      by_cases c35 : 0 ≤ (t293.length : Int)
      ·rw [if_pos c35] at H
       have c35b0 := eq_true c35
       have c35b1 : decide (0 ≤ (t293.length : Int)) = true := decide_eq_true c35
       clear c35
       by_cases c36 : (t293.length : Int) ≤ (t313.length : Int)
       ·rw [if_pos c36] at H
        have c36b0 := eq_true c36
        have c36b1 : decide ((t293.length : Int) ≤ (t313.length : Int)) = true := decide_eq_true c36
        clear c36
        obtain ⟨y316, hy316⟩ : ∃ y_ : List Int, y_ = (t313.take ((t293.length : Int) : Int).toNat) := ⟨_, rfl⟩
        replace H : (if 0 ≤ (wrap64 ((wrap64 ((t290.length : Int) - (t293.length : Int))) + 1)) then (if (wrap64 ((wrap64 ((t290.length : Int) - (t293.length : Int))) + 1) : Int).toNat ≤ 70368744177664 then ((some (List.replicate (wrap64 ((wrap64 ((t290.length : Int) - (t293.length : Int))) + 1) : Int).toNat 0 : List Int)).bind fun y319 => (nat_DivMod.l0 k t293 t309 t310 y316 y319 (wrap64 ((y319.length : Int) - 1)))) else (none)) else (none)) = some (r1, r2, r3) := by first | (rw [hy316]; with_reducible exact H) | (have H2_ := (Option.bind_some _ _).symm.trans H; rw [hy316]; with_reducible exact H2_) | (have H2_ := (Option.bind_some _ _).symm.trans H; with_reducible exact H2_) | with_reducible exact H | (rw [hy316]; exact H) | exact H
        have Ny316 := Aside0.mk hy316
        clear hy316
        obtain ⟨ji37, hji37⟩ : ∃ j_ : Int, (wrap64 ((wrap64 ((t290.length : Int) - (t293.length : Int))) + 1)) = j_ := ⟨_, rfl⟩
        replace H : (if 0 ≤ (ji37) then (if (ji37 : Int).toNat ≤ 70368744177664 then ((some (List.replicate (ji37 : Int).toNat 0 : List Int)).bind fun y319 => (nat_DivMod.l0 k t293 t309 t310 y316 y319 (wrap64 ((y319.length : Int) - 1)))) else (none)) else (none)) = some (r1, r2, r3) := by first | (rw [hji37] at H; exact H) | (simp only [hji37] at H ⊢; exact H)
        (try rw [hji37] at A3)
        (try rw [hji37] at A4)
        (try rw [hji37] at A9)
        (try rw [hji37] at A32)
        (try rw [hji37] at A33)
        (try rw [hji37] at A34)
        have hji37w : (IntKind.i64.wrap ((wrap64 ((t290.length : Int) - (t293.length : Int))) + 1)) = ji37 := (i64_w _).trans hji37
        by_cases c38 : 0 ≤ (ji37)
        ·rw [if_pos c38] at H
         have c38b0 := eq_true c38
         have c38b1 : decide (0 ≤ (ji37)) = true := decide_eq_true c38
         clear c38
         by_cases c39 : (ji37 : Int).toNat ≤ 70368744177664
         ·rw [if_pos c39] at H
          have c39b0 := eq_true c39
          have c39b1 : decide ((ji37 : Int).toNat ≤ 70368744177664) = true := decide_eq_true c39
          clear c39
          obtain ⟨y319, hy319⟩ : ∃ y_ : List Int, y_ = (List.replicate (ji37 : Int).toNat 0) := ⟨_, rfl⟩
          replace H : (nat_DivMod.l0 k t293 t309 t310 y316 y319 (wrap64 ((y319.length : Int) - 1))) = some (r1, r2, r3) := by first | (rw [hy319]; with_reducible exact H) | (have H2_ := (Option.bind_some _ _).symm.trans H; rw [hy319]; with_reducible exact H2_) | (have H2_ := (Option.bind_some _ _).symm.trans H; with_reducible exact H2_) | with_reducible exact H | (rw [hy319]; exact H) | exact H
          have Ny319 := Aside0.mk hy319
          clear hy319
          have H' := Aside0.mk H
          clear H
          go_enter Try.func72, Try.ntmps72
          try go_wp2_with (first | ((with_reducible refine gate_callee (f := 83) rfl ?_); refine goL (some 15) Try.func83 [.slice A0 l0.length c0] ?_; (with_reducible refine (nat_Norm.calls _ _ l0 t290 _ ?side1 ?side2 A3.out).mono ?_); (case side1 => exact HR0.out); (case side2 => exact HC0.out); rintro e w40 ⟨v291, rfl, ho0, hb⟩; refine ⟨_, rfl, ?_⟩; have HO292 := Aside0.mk (Kd.R_lower ho0 (below_size HB.out)); replace HB := Aside0.mk (below_step HB.out hb)) | ((with_reducible refine gate_callee (f := 83) rfl ?_); refine goL (some 17) Try.func83 [.slice A1 l1.length c1] ?_; (with_reducible refine (nat_Norm.calls _ _ l1 t293 _ ?side1 ?side2 A4.out).mono ?_); (case side1 => exact (Kd.C_below HR1.out HB.out)); (case side2 => exact HC1.out); rintro e w41 ⟨v294, rfl, ho0, hb⟩; refine ⟨_, rfl, ?_⟩; have HO295 := Aside0.mk (Kd.R_lower (Kd.R_new' ho0 (Kd.R_lt HO292.out)) (below_size HB.out)); replace HO292 := Aside0.mk (Kd.R_elder' HO292.out (Kd.R_base ho0) hb); replace HB := Aside0.mk (below_step HB.out hb); obtain ⟨Ao42, co42, eo42⟩ := Kd.R_slice HO295.out; subst eo42; obtain ⟨Ao43, co43, eo43⟩ := Kd.R_slice HO292.out; subst eo43) | ((with_reducible refine gate_callee (f := 67) rfl ?_); refine goL (some 25) Try.func67 [.slice Ao43 t290.length co43, .slice Ao42 t293.length co42] ?_; (with_reducible refine (nat_Cmp.calls k _ _ t290 _ _ t293 t296 _ ?side1 ?side2 ?side3 ?side4 A9.out).mono ?_); (case side1 => exact (Kd.R_reads' HO292.out).2.2); (case side2 => exact (Kd.R_reads' HO292.out).2.1); (case side3 => exact (Kd.R_reads' HO295.out).2.2); (case side4 => exact (Kd.R_reads' HO295.out).2.1); rintro e w44 ⟨rfl, hb⟩; refine ⟨_, rfl, ?_⟩; replace HO292 := Aside0.mk (Kd.R_below HO292.out hb); replace HO295 := Aside0.mk (Kd.R_below HO295.out hb); replace HB := Aside0.mk (below_step HB.out hb); (try clear hb); (try clear hb2); (try clear hk); (try clear hi); have p308 : 0 ≤ ((ji29) : Int) := of_decide_eq_true (by first | (with_reducible assumption) | assumption); have q308 : (ji29) < (t293.length : Int) := of_decide_eq_true (by first | (with_reducible assumption) | assumption); obtain ⟨ad308, e308, hx308_0⟩ := Kd.at_int (Kd.R_reads' HO295.out).2.2 (ji29) p308 q308; cases e308; replace p308 := eq_true p308; replace q308 := eq_true q308) | ((with_reducible refine gate_callee (f := 90) rfl ?_); refine goesL_ (some 51) rfl rfl Try.func90 (by kernel_rfl) rfl #[.int .u32 (rd t293 (ji29))] rfl (by (try simp only [List.map_toArray, List.map_cons, List.map_nil]); first | done | (simp only [hji29]; rfl) | rfl | (simp only [List.length_drop, List.length_take]; rfl)) ?_; (with_reducible refine (bits_LeadingZeros32.calls (rd t293 (ji29)) t309 _ A32.out).mono ?_); rintro e w' ⟨rfl, ⟨nd, rfl⟩⟩; refine ⟨_, rfl, ?_⟩))
          (try (rw [drewN_self w44]; generalize hq_ : World.drewN w44 _ = w44; have n0_ : Aside0 (Kd.R (Kd.int .u32) 81 w44 w.heap.size (fun k_ => some k_ ≠ (.slice (some ad308) t293.length co42 : Value).ownBlock) (.slice Ao43 t290.length co43) t290) := ⟨by rw [← hq_]; exact (by (with_reducible repeat (first | apply Kd.R_alloc | apply Kd.R_drewN | apply Kd.R_drew)); exact Kd.R_mono HO292.out (fun _ hk => hk.2))⟩; have n1_ : Aside0 (Kd.R (Kd.int .u32) 81 w44 w.heap.size (fun k_ => some k_ ≠ (.slice Ao43 t290.length co43 : Value).ownBlock) (.slice (some ad308) t293.length co42) t293) := ⟨by rw [← hq_]; exact (by (with_reducible repeat (first | apply Kd.R_alloc | apply Kd.R_drewN | apply Kd.R_drew)); exact Kd.R_mono HO295.out (fun _ hk => hk.2))⟩; have n2_ : Aside0 (Below w.heap.size w w44) := ⟨by rw [← hq_]; exact (by repeat first | exact HB.out | refine bxSet ?_ (by assumption) | apply below_alloc | apply pw_below_drewN)⟩; clear HO292 HO295 HB hq_; have HO292 := n0_; have HO295 := n1_; have HB := n2_; clear n0_ n1_ n2_))
          replace HO292 := Aside0.mk (Kd.R_drew HO292.out)
          replace HO295 := Aside0.mk (Kd.R_drew HO295.out)
          replace HB := Aside0.mk (below_drew1 HB.out)
          refine start_ (n := 11) (S := fun w' => True) (ds := []) #[false, false, false, false, false, false, false, false, false, false, false] (by kernel_rfl) rfl rfl trivial (fun hHeld => ?_); refine with_tabW nat_DivMod.tab10 nat_DivMod.bits10 (fun HT_ HW_ => ?_)
          generalize w44.drew = w45 at HO292 HO295 HB hHeld ⊢
          refine pure_ (i := 0) (N := some 52) (v := ?_) (a' := ?_) #[true, false, false, false, false, false, false, false, false, false, false] rfl rfl (any_of HT_.out (by kernel_rfl)) (fun _ _ _ h => h) (Or.inl ⟨by rfl, ?_⟩) ?_ ?_
          rotate_left
          ·intro w'
           go_simp
           with_reducible rfl
          rotate_left
          ·simp only [Act.put, List.setIfInBounds_toArray, List.set_cons_zero, List.set_cons_succ, i64_w, i32_w]
           rfl
          refine pure_ (i := 1) (N := some 53) (v := ?_) (a' := ?_) #[true, true, false, false, false, false, false, false, false, false, false] rfl rfl (any_of HT_.out (by kernel_rfl)) (fun _ _ _ h => h) (Or.inl ⟨by rfl, ?_⟩) ?_ ?_
          rotate_left
          ·intro w'
           go_simp
           with_reducible rfl
          rotate_left
          ·simp only [Act.put, List.setIfInBounds_toArray, List.set_cons_zero, List.set_cons_succ, i64_w, i32_w]
           rfl
          refine pure_ (i := 3) (N := some 55) (v := ?_) (a' := ?_) #[true, true, false, true, false, false, false, false, false, false, false] rfl rfl (any_of HT_.out (by kernel_rfl)) (fun _ _ _ h => h) (Or.inl ⟨by rfl, ?_⟩) ?_ ?_
          rotate_left
          ·intro w'
           go_simp
           with_reducible rfl
          rotate_left
          ·simp only [Act.put, List.setIfInBounds_toArray, List.set_cons_zero, List.set_cons_succ, i64_w, i32_w]
           rfl
          refine pure_ (i := 4) (N := some 56) (v := ?_) (a' := ?_) #[true, true, false, true, true, false, false, false, false, false, false] rfl rfl (any_of HT_.out (by kernel_rfl)) (fun _ _ _ h => h) (Or.inl ⟨by rfl, ?_⟩) ?_ ?_
          rotate_left
          ·intro w'
           go_simp
           with_reducible rfl
          rotate_left
          ·simp only [Act.put, List.setIfInBounds_toArray, List.set_cons_zero, List.set_cons_succ, i64_w, i32_w]
           rfl
          refine pure_ (i := 6) (N := some 58) (v := ?_) (a' := ?_) #[true, true, false, true, true, false, true, false, false, false, false] rfl rfl (any_of HT_.out (by kernel_rfl)) (fun _ _ _ h => h) (Or.inl ⟨by rfl, ?_⟩) ?_ ?_
          rotate_left
          ·intro w'
           go_simp
           with_reducible rfl
          rotate_left
          ·simp only [Act.put, List.setIfInBounds_toArray, List.set_cons_zero, List.set_cons_succ, i64_w, i32_w]
           rfl
          refine pure_ (i := 7) (N := some 59) (v := ?_) (a' := ?_) #[true, true, false, true, true, false, true, true, false, false, false] rfl rfl (any_of HT_.out (by kernel_rfl)) (fun _ _ _ h => h) (Or.inl ⟨by rfl, ?_⟩) ?_ ?_
          rotate_left
          ·intro w'
           go_simp
           with_reducible rfl
          rotate_left
          ·simp only [Act.put, List.setIfInBounds_toArray, List.set_cons_zero, List.set_cons_succ, i64_w, i32_w]
           rfl
          refine one_ (i := 2) (N := some 54) #[true, true, true, true, true, false, true, true, false, false, false] rfl rfl (one_of HT_.out (by kernel_rfl)) (by decide) (fun K hK => ?_)
          refine goes_ Try.func91 (by kernel_rfl) rfl #[.slice Ao43 t290.length co43, .int .i64 t309] (by rfl) rfl rfl (by (try simp only [List.map_toArray, List.map_cons, List.map_nil]); first | done | rfl | (simp only [List.length_drop, List.length_take]; rfl)) ?_
          with_reducible refine (nat_left.calls k _ _ t290 t309 t310 _ ?side1 ?side2 A33.out).mono ?_
          (case side1 => repeat (first | exact (Kd.R_reads' HO292.out).2.2 | (with_reducible refine Kd.C_alloc ?_ _) | (with_reducible refine Kd.C_drewN ?_ _) | (with_reducible refine Kd.C_drew ?_)))
          (case side2 => exact (Kd.R_reads' HO292.out).2.1)
          rintro e w46 ⟨v311, rfl, ho0, hb⟩
          refine ⟨_, rfl, ?_⟩
          have n0_ := Aside0.mk (Kd.R_elder' (by (with_reducible repeat (first | apply Kd.R_alloc | apply Kd.R_drewN | apply Kd.R_drew)); exact HO292.out) (Kd.R_base ho0) hb)
          have n1_ := Aside0.mk (Kd.R_elder' (by (with_reducible repeat (first | apply Kd.R_alloc | apply Kd.R_drewN | apply Kd.R_drew)); exact HO295.out) (Kd.R_base ho0) hb)
          have n2_ := Aside0.mk (Kd.R_lower (Kd.R_new' (Kd.R_new' ho0 (Kd.R_lt (by (with_reducible repeat (first | apply Kd.R_alloc | apply Kd.R_drewN | apply Kd.R_drew)); exact HO292.out))) (Kd.R_lt (by (with_reducible repeat (first | apply Kd.R_alloc | apply Kd.R_drewN | apply Kd.R_drew)); exact HO295.out))) (below_size (by repeat (first | (with_reducible first | exact HB.out | apply below_alloc | apply pw_below_drewN | apply below_drew1) | exact HB.out))))
          have n3_ := Aside0.mk (below_step (by repeat (first | (with_reducible first | exact HB.out | apply below_alloc | apply pw_below_drewN | apply below_drew1) | exact HB.out)) hb)
          clear HO292
          clear HO295
          clear HB
          have HO292 := n0_
          have HO295 := n1_
          have HO312 := n2_
          have HB := n3_
          clear n0_ n1_ n2_ n3_
          (try clear hb)
          (try clear hb2)
          (try clear hk)
          (try clear hi)
          (try clear ho0)
          refine hK.out _ _ trivial (fun hHeld => ?_)
          clear hK K
          refine norm_ (a' := ?_) ?_ ?_
          rotate_left
          ·show Act.put _ (some 54) _ = _
           simp only [Act.put, List.setIfInBounds_toArray, List.set_cons_zero, List.set_cons_succ, i64_w, i32_w]
           rfl
          refine one_ (i := 5) (N := some 57) #[true, true, true, true, true, true, true, true, false, false, false] rfl rfl (one_of HT_.out (by kernel_rfl)) (by decide) (fun K hK => ?_)
          refine goR Try.func91 [.slice (some ad308) t293.length co42, .int .i64 t309] ?_
          with_reducible refine (nat_left.calls k _ _ t293 t309 t313 _ ?side1 ?side2 A34.out).mono ?_
          (case side1 => exact (Kd.R_reads' HO295.out).2.2)
          (case side2 => exact (Kd.R_reads' HO295.out).2.1)
          rintro e w47 ⟨v314, rfl, ho0, hb⟩
          refine ⟨_, rfl, ?_⟩
          have HO315 := Aside0.mk (Kd.R_lower (Kd.R_new' (Kd.R_new' (Kd.R_new' ho0 (Kd.R_lt HO292.out)) (Kd.R_lt HO295.out)) (Kd.R_lt HO312.out)) (below_size HB.out))
          replace HO292 := Aside0.mk (Kd.R_elder' HO292.out (Kd.R_base ho0) hb)
          replace HO295 := Aside0.mk (Kd.R_elder' HO295.out (Kd.R_base ho0) hb)
          replace HO312 := Aside0.mk (Kd.R_elder' HO312.out (Kd.R_base ho0) hb)
          replace HB := Aside0.mk (below_step HB.out hb)
          (try clear hb)
          (try clear hb2)
          (try clear hk)
          (try clear hi)
          (try clear ho0)
          obtain ⟨Ao48, co48, eo48⟩ := Kd.R_slice HO315.out
          subst eo48
          have q49 : ((t293.length : Int) : Int) ≤ ((t313.length : Int) : Int) := of_decide_eq_true (by first | (with_reducible assumption) | assumption)
          obtain ⟨i049, hi049, _, hsz49, _⟩ := info_parts info81
          have hcut49 := cut_to (P := Try.prog) 22 81 .i64 Try.underlying22 hi049 Ao48 t313.length co48 (t293.length : Int) (of_decide_eq_true (by first | (with_reducible assumption) | assumption)) q49 (Kd.R_reads' HO315.out).2.1
          have hr49 := Kd.R_take (m := ((t293.length : Int) : Int).toNat) HO315.out (by omega)
          have hy49 : y316.length = ((t293.length : Int) : Int).toNat := (by rw [Ny316.out, List.length_take]; omega)
          rw [← Ny316.out] at hr49
          rw [← hy49] at hr49 hcut49
          clear hy49 hi049 hsz49 HO315
          have HO318 := Aside0.mk hr49
          clear hr49
          replace q49 := eq_true q49
          refine hK.out _ _ trivial (fun hHeld => ?_)
          clear hK K
          refine norm_ (a' := ?_) ?_ ?_
          rotate_left
          ·show Act.put _ (some 57) _ = _
           simp only [Act.put, List.setIfInBounds_toArray, List.set_cons_zero, List.set_cons_succ, i64_w, i32_w]
           rfl
          refine pure_ (i := 8) (N := some 60) (v := ?_) (a' := ?_) #[true, true, true, true, true, true, true, true, true, false, false] rfl rfl (any_of HT_.out (by kernel_rfl)) (fun _ _ _ h => h) (Or.inl ⟨by rfl, ?_⟩) ?_ ?_
          rotate_left
          ·intro w'
           go_simp
           with_reducible rfl
          rotate_left
          ·simp only [Act.put, List.setIfInBounds_toArray, List.set_cons_zero, List.set_cons_succ, i64_w, i32_w]
           rfl
          refine pure_ (i := 9) (N := some 10) (v := ?_) (a' := ?_) #[true, true, true, true, true, true, true, true, true, true, false] rfl rfl (any_of HT_.out (by kernel_rfl)) (fun _ _ _ h => h) (Or.inl ⟨by rfl, ?_⟩) ?_ ?_
          rotate_left
          ·intro w'
           go_simp
           with_reducible rfl
          rotate_left
          ·simp only [Act.put, List.setIfInBounds_toArray, List.set_cons_zero, List.set_cons_succ, i64_w, i32_w]
           rfl
          refine pure_ (i := 10) (N := some 11) (v := ?_) (a' := ?_) #[true, true, true, true, true, true, true, true, true, true, true] rfl rfl (any_of HT_.out (by kernel_rfl)) (fun _ _ _ h => h) (Or.inl ⟨by rfl, ?_⟩) ?_ ?_
          rotate_left
          ·intro w'
           go_simp
           with_reducible rfl
          rotate_left
          ·simp only [Act.put, List.setIfInBounds_toArray, List.set_cons_zero, List.set_cons_succ, i64_w, i32_w]
           rfl
          refine done_ (done_of HT_.out (by kernel_rfl)) ?_
          try go_wp2_with (first | ((with_reducible refine gate_dst (N := 67) rfl ?_); refine Kd.R_make (Kd.int .u32) _ 81 rfl (N := 67) rfl 22 _ _ rfl ji37 rfl rfl Try.underlying22 (.int .u32 0) 4 info81 rfl (by decide) (by omega) 0 (ok := fun _ => True) (okp := fun _ => True) rfl (fun _ hk => hk) trivial (of_decide_eq_true (by first | (with_reducible assumption) | assumption)) (Nat.le_trans (Nat.mul_le_mul_right _ (of_decide_eq_true (by first | (with_reducible assumption) | assumption) : ji37.toNat ≤ 70368744177664)) (by omega)) (Below.refl _ _) (Nat.le_refl _) ?_; intro v320 w50 ho51 hb hg_ hnew_; clear hg_ hnew_; (first | rw [← Ny319.out] at ho51 | (simp only [Int.reduceToNat] at ho51; rw [← Ny319.out] at ho51)); have HO321 := Aside0.mk (Kd.R_lower (Kd.R_new' (Kd.R_new' (Kd.R_new' (Kd.R_new' ho51 (Kd.R_lt HO292.out)) (Kd.R_lt HO295.out)) (Kd.R_lt HO312.out)) (Kd.R_lt HO318.out)) (below_size HB.out)); replace HO295 := Aside0.mk (Kd.R_elder' HO295.out (Kd.R_base ho51) hb); replace HO312 := Aside0.mk (Kd.R_elder' HO312.out (Kd.R_base ho51) hb); replace HO318 := Aside0.mk (Kd.R_elder' HO318.out (Kd.R_base ho51) hb); replace HB := Aside0.mk (below_step HB.out hb); clear hb ho51; obtain ⟨Ao52, co52, eo52⟩ := Kd.R_slice HO321.out; subst eo52))
          go_loopg [13] k (fun kq v13 w' => ∃ (x1_1 : List Int) (x10_1 : List Int) (x11_1 : List Int) (x12_1 : List Int) (x13_1 : Int), v13 = .int .i64 x13_1 ∧ Aside0 (nat_DivMod.l0 kq x1_1 t309 x10_1 x11_1 x12_1 x13_1 = some (r1, r2, r3)) ∧ Aside0 (kq ≤ k) ∧ Aside0 (Kd.R (Kd.int .u32) 81 w' w.heap.size (fun k_ => some k_ ≠ (v311 : Value).ownBlock ∧ some k_ ≠ ((.slice Ao48 y316.length co48) : Value).ownBlock ∧ some k_ ≠ ((.slice Ao52 y319.length co52) : Value).ownBlock) (.slice (some ad308) t293.length co42) x1_1) ∧ Aside0 (Kd.R (Kd.int .u32) 81 w' w.heap.size (fun k_ => some k_ ≠ ((.slice (some ad308) t293.length co42) : Value).ownBlock ∧ some k_ ≠ ((.slice Ao48 y316.length co48) : Value).ownBlock ∧ some k_ ≠ ((.slice Ao52 y319.length co52) : Value).ownBlock) v311 x10_1) ∧ Aside0 (Kd.R (Kd.int .u32) 81 w' w.heap.size (fun k_ => some k_ ≠ ((.slice (some ad308) t293.length co42) : Value).ownBlock ∧ some k_ ≠ (v311 : Value).ownBlock ∧ some k_ ≠ ((.slice Ao52 y319.length co52) : Value).ownBlock) (.slice Ao48 y316.length co48) x11_1) ∧ Aside0 (Kd.R (Kd.int .u32) 81 w' w.heap.size (fun k_ => some k_ ≠ ((.slice (some ad308) t293.length co42) : Value).ownBlock ∧ some k_ ≠ (v311 : Value).ownBlock ∧ some k_ ≠ ((.slice Ao48 y316.length co48) : Value).ownBlock) (.slice Ao52 y319.length co52) x12_1) ∧ Aside0 (Below w.heap.size w w'))
          case atStart => exact ⟨(t293), (t310), (y316), (y319), (wrap64 ((y319.length : Int) - 1)), (by first | rfl | (simp; done)), H', ⟨Nat.le_refl _⟩, ⟨Kd.R_mono HO295.out (fun _ hk => ⟨(by first | exact hk.1.1.2 | exact own_any hk.1.1.2), ⟨(by first | exact hk.1.2 | exact own_any hk.1.2), (by first | exact hk.2 | exact own_any hk.2)⟩⟩)⟩, ⟨Kd.R_mono HO312.out (fun _ hk => ⟨(by first | exact hk.1.1.2 | exact own_any hk.1.1.2), ⟨(by first | exact hk.1.2 | exact own_any hk.1.2), (by first | exact hk.2 | exact own_any hk.2)⟩⟩)⟩, ⟨Kd.R_mono HO318.out (fun _ hk => ⟨(by first | exact hk.1.1.2 | exact own_any hk.1.1.2), ⟨(by first | exact hk.1.2 | exact own_any hk.1.2), (by first | exact hk.2 | exact own_any hk.2)⟩⟩)⟩, ⟨Kd.R_mono HO321.out (fun _ hk => ⟨(by first | exact hk.1.1.2 | exact own_any hk.1.1.2), ⟨(by first | exact hk.1.2 | exact own_any hk.1.2), (by first | exact hk.2 | exact own_any hk.2)⟩⟩)⟩, ⟨HB.out⟩⟩
          case round =>
           clear H'
           try clear c1
           try clear p2
           try clear c3
           try clear p3
           try clear q3
           try clear hx3
           try clear qi3
           try clear q4
           try clear c5
           try clear c5b0
           try clear c5b1
           try clear c5b2
           try clear c6
           try clear p6
           try clear c7
           try clear c8
           try clear c9
           try clear c10
           try clear c10b0
           try clear c18
           try clear c18b0
           try clear c18b1
           try clear c19
           try clear c19b0
           try clear c19b1
           try clear c30
           try clear c30b0
           try clear p30
           try clear q30
           try clear hx30
           try clear qi30
           try clear c31
           try clear c31b0
           try clear c35
           try clear c35b0
           try clear c35b1
           try clear c36
           try clear c36b0
           try clear c36b1
           try clear c38
           try clear c38b0
           try clear c38b1
           try clear c39
           try clear c39b0
           try clear c39b1
           try clear q49
           try clear hx300_0
           try clear hx308_0
           try clear p300
           try clear p308
           try clear q300
           try clear q308
           try clear q49
           obtain ⟨x1_1, x10_1, x11_1, x12_1, x13_1, rfl, HA, HK1, HO_1, HO_10, HO_11, HO_12, HB⟩ := hrel
           have hl1_1 := (Kd.R_reads' HO_1.out).1
           rw [hl1_1] at HO_1
           (try simp only [hl1_1])
           (try simp only [hl1_1] at HO_10)
           (try simp only [hl1_1] at HO_11)
           (try simp only [hl1_1] at HO_12)
           have hl11_1 := (Kd.R_reads' HO_11.out).1
           rw [hl11_1] at HO_11
           (try simp only [hl11_1])
           (try simp only [hl11_1] at HO_1)
           (try simp only [hl11_1] at HO_10)
           (try simp only [hl11_1] at HO_12)
           have hl12_1 := (Kd.R_reads' HO_12.out).1
           rw [hl12_1] at HO_12
           (try simp only [hl12_1])
           (try simp only [hl12_1] at HO_1)
           (try simp only [hl12_1] at HO_10)
           (try simp only [hl12_1] at HO_11)
           cases gk with
           | zero => exact absurd HA.out (by simp [nat_DivMod.l0])
           | succ k1 =>
            have H := HA.out
            clear HA
            simp only [nat_DivMod.l0] at H
            by_cases c53 : x13_1 ≥ 0
            ·rw [if_pos c53] at H
             have c53b0 : decide (0 ≤ x13_1) = true := decide_eq_true c53
             clear c53
             by_cases c54 : 0 ≤ x13_1
             ·rw [if_pos c54] at H
              have c54b0 := eq_true c54
              have c54b1 : decide (0 ≤ x13_1) = true := decide_eq_true c54
              clear c54
              by_cases c55 : x13_1 ≤ (wrap64 ((wrap64 (x13_1 + (x11_1.length : Int))) + 1))
              ·rw [if_pos c55] at H
               have c55b0 := eq_true c55
               have c55b1 : decide (x13_1 ≤ (wrap64 ((wrap64 (x13_1 + (x11_1.length : Int))) + 1))) = true := decide_eq_true c55
               have c55b1z := c55b1
               (try rw [hl1_1] at c55b1z); (try rw [hl11_1] at c55b1z); (try rw [hl12_1] at c55b1z)
               by_cases c56 : (wrap64 ((wrap64 (x13_1 + (x11_1.length : Int))) + 1)) ≤ (x10_1.length : Int)
               ·rw [if_pos c56] at H
                have c56b0 := eq_true c56
                have c56b1 : decide ((wrap64 ((wrap64 (x13_1 + (x11_1.length : Int))) + 1)) ≤ (x10_1.length : Int)) = true := decide_eq_true c56
                have c56b1z := c56b1
                (try rw [hl1_1] at c56b1z); (try rw [hl11_1] at c56b1z); (try rw [hl12_1] at c56b1z)
                obtain ⟨y322, hy322⟩ : ∃ y_ : List Int, y_ = ((x10_1.take ((wrap64 ((wrap64 (x13_1 + (x11_1.length : Int))) + 1)) : Int).toNat).drop (x13_1 : Int).toNat) := ⟨_, rfl⟩
                replace H : ((nat_digitW.f k1 x10_1 x13_1 (wrap64 ((wrap64 (x13_1 + (x11_1.length : Int))) + 1)) x11_1).bind fun bt326 => (if x13_1 < (x12_1.length : Int) then (nat_DivMod.l0 k1 x1_1 t309 bt326.2 x11_1 (x12_1.set (x13_1 : Int).toNat bt326.1) (wrap64 (x13_1 - 1))) else (none))) = some (r1, r2, r3) := by first | (rw [hy322]; with_reducible exact H) | (have H2_ := (Option.bind_some _ _).symm.trans H; rw [hy322]; with_reducible exact H2_) | (have H2_ := (Option.bind_some _ _).symm.trans H; with_reducible exact H2_) | with_reducible exact H | (rw [hy322]; exact H) | exact H
                have Ny322 := Aside0.mk hy322
                clear hy322
                obtain ⟨⟨t326, t327⟩, A570, H⟩ := Option.bind_eq_some_iff.mp H
                try dsimp only at H
                have A57 := Aside0.mk A570
                clear A570
                by_cases c58 : x13_1 < (x12_1.length : Int)
                ·rw [if_pos c58] at H
                 have c58b0 : decide (x13_1 < (x12_1.length : Int)) = true := decide_eq_true c58
                 have c58b0z := c58b0
                 (try rw [hl1_1] at c58b0z); (try rw [hl11_1] at c58b0z); (try rw [hl12_1] at c58b0z)
                 clear c58
                 obtain ⟨y328, hy328⟩ : ∃ y_ : List Int, y_ = (x12_1.set (x13_1 : Int).toNat t326) := ⟨_, rfl⟩
                 replace H : (nat_DivMod.l0 k1 x1_1 t309 t327 x11_1 y328 (wrap64 (x13_1 - 1))) = some (r1, r2, r3) := by first | (rw [hy328]; with_reducible exact H) | (have H2_ := (Option.bind_some _ _).symm.trans H; rw [hy328]; with_reducible exact H2_) | (have H2_ := (Option.bind_some _ _).symm.trans H; with_reducible exact H2_) | with_reducible exact H | (rw [hy328]; exact H) | exact H
                 have Ny328 := Aside0.mk hy328
                 clear hy328
                 have H' := Aside0.mk H
                 clear H
                 obtain ⟨Ao61, co61, eo61⟩ := Kd.R_slice HO_10.out
                 subst eo61
                 have q60 : ((wrap64 ((wrap64 (x13_1 + (x11_1.length : Int))) + 1)) : Int) ≤ ((x10_1.length : Int) : Int) := of_decide_eq_true (by first | (with_reducible assumption) | assumption)
                 obtain ⟨i060, hi060, _, hsz60, _⟩ := info_parts info81
                 have hroom60 : x10_1.length ≤ co61 := (Kd.R_reads' HO_10.out).2.1
                 have hC60 : Kd.C (Kd.int .u32) _ Ao61 x10_1.length x10_1 := (Kd.R_reads' HO_10.out).2.2
                 have ql60 : (x13_1 : Int) ≤ ((wrap64 ((wrap64 (x13_1 + (x11_1.length : Int))) + 1)) : Int) := of_decide_eq_true (by first | (with_reducible assumption) | assumption)
                 have q060 : (0 : Int) ≤ (x13_1 : Int) := of_decide_eq_true (by first | (with_reducible assumption) | assumption)
                 have hcut60 := cut_mid (P := Try.prog) 22 81 .i64 .i64 Try.underlying22 hi060 1 hsz60 Ao61 x10_1.length co61 x13_1 (wrap64 ((wrap64 (x13_1 + (x11_1.length : Int))) + 1)) q060 ql60 q60 hroom60
                 have hr60 := Kd.C_mid (lo := (x13_1 : Int).toNat) (hi := ((wrap64 ((wrap64 (x13_1 + (x11_1.length : Int))) + 1)) : Int).toNat) (c := co61) hC60 (by omega) (by omega) hroom60
                 obtain ⟨A60, hA60⟩ : ∃ A1, A1 = (if co61 = (x13_1 : Int).toNat then Ao61 else (Ao61 : Option Addr).map (·.add ((x13_1 : Int).toNat * 1))) := ⟨_, rfl⟩
                 obtain ⟨c60, hc60⟩ : ∃ c1, c1 = co61 - (x13_1 : Int).toNat := ⟨_, rfl⟩
                 have hy60 : y322.length = ((wrap64 ((wrap64 (x13_1 + (x11_1.length : Int))) + 1)) : Int).toNat - (x13_1 : Int).toNat := (by rw [Ny322.out, List.length_drop, List.length_take] <;> omega)
                 rw [show ((x10_1).take ((wrap64 ((wrap64 (x13_1 + (x11_1.length : Int))) + 1)) : Int).toNat).drop (x13_1 : Int).toNat = y322 from Ny322.out.symm] at hr60
                 replace hr60 : Kd.C (Kd.int .u32) _ A60 y322.length y322 := (by rw [hA60]; exact hr60)
                 rw [← hy60, ← hA60, ← hc60] at hcut60
                 have HR325 := Aside0.mk hr60
                 have HC325 := Aside0.mk (show y322.length ≤ c60 from by rw [hy60, hc60]; exact Nat.sub_le_sub_right (Nat.le_trans (by omega) hroom60) _)
                 clear hr60 hC60 hroom60 hi060 hsz60 hc60
                 have KY60 := Aside0.mk hy60
                 have KA60 := Aside0.mk hA60
                 clear hy60 hA60
                 have KL60 := Aside0.mk (show ((wrap64 ((wrap64 (x13_1 + (x11_1.length : Int))) + 1)) : Int).toNat ≤ x10_1.length from by omega)
                 have KM60 := Aside0.mk (show (x13_1 : Int).toNat ≤ ((wrap64 ((wrap64 (x13_1 + (x11_1.length : Int))) + 1)) : Int).toNat from by omega)
                 replace q60 := eq_true q60
                 go_wp2_with (first | ((with_reducible refine gate_callee (f := 92) rfl ?_); refine goL (some 86) Try.func92 [_, .slice Ao48 x11_1.length co48] ?_; (refine (nat_digitW.calls k1 (fun k_ => some k_ = (.slice Ao61 x10_1.length co61 : Value).ownBlock) (.slice Ao61 x10_1.length co61) x10_1 x13_1 (wrap64 ((wrap64 (x13_1 + (x11_1.length : Int))) + 1)) _ _ x11_1 t326 t327 w _ ?side1 ?side2 ?side3 ?side4 A57.out rfl KA60.out Ny322.out HC325.out).mono ?_); (case side1 => first | (with_reducible first | exact HB.out | apply below_alloc | apply pw_below_drewN | apply below_drew1) | exact HB.out); (case side2 => exact Kd.R_tight rfl HO_10.out); (case side3 => exact Kd.C_kept_own (HO_11.out) (fun k_ hk_ hs_ => (hk_.2.1) hs_)); (case side4 => exact (Kd.R_reads' HO_11.out).2.1); rintro e w62 ⟨rfl, hy0, hb, hkp⟩; refine ⟨_, rfl, ?_⟩; replace HO_1 := Aside0.mk (Kd.R_mono (ok' := fun k_ => some k_ ≠ (.slice Ao61 x10_1.length co61 : Value).ownBlock ∧ some k_ ≠ (.slice Ao48 x11_1.length co48 : Value).ownBlock ∧ some k_ ≠ (.slice Ao52 x12_1.length co52 : Value).ownBlock) (Kd.R_keptB (HO_1.out) hkp (fun k_ hk_ hs_ => (hk_.1) hs_)) (fun k_ hk_ => by first | exact ⟨hk_.1.1, hk_.1.2.1, hk_.1.2.2⟩ | ((repeat' refine ⟨?_, ?_⟩) <;> (first | exact hk_.1 | exact hk_.2 | exact hk_.1.1 | exact hk_.1.2 | exact hk_.2.1 | exact hk_.2.2 | exact hk_.1.1.1 | exact hk_.1.1.2 | exact hk_.1.2.1 | exact hk_.1.2.2 | exact hk_.2.1.1 | exact hk_.2.1.2 | exact hk_.2.2.1 | exact hk_.2.2.2 | exact hk_.1.1.1.1 | exact hk_.1.1.1.2 | exact hk_.1.1.2.1 | exact hk_.1.1.2.2 | exact hk_.1.2.1.1 | exact hk_.1.2.1.2 | exact hk_.1.2.2.1 | exact hk_.1.2.2.2 | exact hk_.2.1.1.1 | exact hk_.2.1.1.2 | exact hk_.2.1.2.1 | exact hk_.2.1.2.2 | exact hk_.2.2.1.1 | exact hk_.2.2.1.2 | exact hk_.2.2.2.1 | exact hk_.2.2.2.2)))); replace HO_10 := Aside0.mk (Kd.R_reok rfl hy0 (fun k_ e_ => HO_10.out.1 k_ e_)); replace HO_11 := Aside0.mk (Kd.R_mono (ok' := fun k_ => some k_ ≠ (.slice (some ad308) x1_1.length co42 : Value).ownBlock ∧ some k_ ≠ (.slice Ao61 x10_1.length co61 : Value).ownBlock ∧ some k_ ≠ (.slice Ao52 x12_1.length co52 : Value).ownBlock) (Kd.R_keptB (HO_11.out) hkp (fun k_ hk_ hs_ => (hk_.2.1) hs_)) (fun k_ hk_ => by first | exact ⟨hk_.1.1, hk_.1.2.1, hk_.1.2.2⟩ | ((repeat' refine ⟨?_, ?_⟩) <;> (first | exact hk_.1 | exact hk_.2 | exact hk_.1.1 | exact hk_.1.2 | exact hk_.2.1 | exact hk_.2.2 | exact hk_.1.1.1 | exact hk_.1.1.2 | exact hk_.1.2.1 | exact hk_.1.2.2 | exact hk_.2.1.1 | exact hk_.2.1.2 | exact hk_.2.2.1 | exact hk_.2.2.2 | exact hk_.1.1.1.1 | exact hk_.1.1.1.2 | exact hk_.1.1.2.1 | exact hk_.1.1.2.2 | exact hk_.1.2.1.1 | exact hk_.1.2.1.2 | exact hk_.1.2.2.1 | exact hk_.1.2.2.2 | exact hk_.2.1.1.1 | exact hk_.2.1.1.2 | exact hk_.2.1.2.1 | exact hk_.2.1.2.2 | exact hk_.2.2.1.1 | exact hk_.2.2.1.2 | exact hk_.2.2.2.1 | exact hk_.2.2.2.2)))); replace HO_12 := Aside0.mk (Kd.R_mono (ok' := fun k_ => some k_ ≠ (.slice (some ad308) x1_1.length co42 : Value).ownBlock ∧ some k_ ≠ (.slice Ao61 x10_1.length co61 : Value).ownBlock ∧ some k_ ≠ (.slice Ao48 x11_1.length co48 : Value).ownBlock) (Kd.R_keptB (HO_12.out) hkp (fun k_ hk_ hs_ => (hk_.2.1) hs_)) (fun k_ hk_ => by first | exact ⟨hk_.1.1, hk_.1.2.1, hk_.1.2.2⟩ | ((repeat' refine ⟨?_, ?_⟩) <;> (first | exact hk_.1 | exact hk_.2 | exact hk_.1.1 | exact hk_.1.2 | exact hk_.2.1 | exact hk_.2.2 | exact hk_.1.1.1 | exact hk_.1.1.2 | exact hk_.1.2.1 | exact hk_.1.2.2 | exact hk_.2.1.1 | exact hk_.2.1.2 | exact hk_.2.2.1 | exact hk_.2.2.2 | exact hk_.1.1.1.1 | exact hk_.1.1.1.2 | exact hk_.1.1.2.1 | exact hk_.1.1.2.2 | exact hk_.1.2.1.1 | exact hk_.1.2.1.2 | exact hk_.1.2.2.1 | exact hk_.1.2.2.2 | exact hk_.2.1.1.1 | exact hk_.2.1.1.2 | exact hk_.2.1.2.1 | exact hk_.2.1.2.2 | exact hk_.2.2.1.1 | exact hk_.2.2.1.2 | exact hk_.2.2.2.1 | exact hk_.2.2.2.2)))); replace HB := Aside0.mk (hb); (try clear hb); (try clear hkp); (try clear hy0); have p59 : 0 ≤ (x13_1 : Int) := of_decide_eq_true (by first | (with_reducible assumption) | assumption); have q59 : (x13_1 : Int) < ((x12_1.length : Int) : Int) := of_decide_eq_true (by first | (with_reducible assumption) | assumption); obtain ⟨go59, co59, eo59, gb59, gl59, cl59, HG59⟩ := Kd.R_form HO_12.out (by omega); (first | cases eo59 | (injection eo59 with ea_ en_ ec_; (first | subst ea_ | (injection ea_ with ea_; subst ea_)); subst ec_; clear en_)); have GB59 := Aside0.mk gb59; have GG59 := Aside0.mk HG59; clear gb59 gl59 HG59; obtain ⟨hx59_0, hf59_0⟩ := Kd.R_celln 0 HO_12.out (x13_1 : Int) p59 q59; replace p59 := eq_true p59; replace q59 := eq_true q59; obtain ⟨hy63_, hz63_⟩ := Kd.R_celln 0 HO_12.out (x13_1 : Int) (of_decide_eq_true (by first | (with_reducible assumption) | assumption)) (of_decide_eq_true (by first | (with_reducible assumption) | assumption)); have HP63 := Kd.R_putg HO_12.out (x13_1 : Int) t326) | ((with_reducible refine gate_store (t := 81) (p := 87) rfl ?_); refine store_event (t := 81) (p := 87) (v := ?vo_w64) (w1 := (w62.setCell ⟨go59, (x13_1 : Int).toNat, none⟩ (.int .u32 t326))) ?hg ?ho ?hn ?hr ?_; (case ho => rfl); (case hg => rfl); (case hn => rfl); (case hr => first | (go_simp; done) | (go_simp; rfl)); intro w64 hw; have hg : w62.grownBy w64 (some go59) := (by rw [hw]; exact HP63.2); have hp_ : Kd.R (Kd.int .u32) 81 w64 w.heap.size (fun k_ => some k_ ≠ (.slice (some ad308) x1_1.length co42 : Value).ownBlock ∧ some k_ ≠ (.slice Ao61 x10_1.length co61 : Value).ownBlock ∧ some k_ ≠ (.slice Ao48 x11_1.length co48 : Value).ownBlock) (.slice (some ⟨go59, 0, none⟩) x12_1.length co52) y328 := (by rw [hw, Ny328.out]; exact HP63.1); clear HP63; replace HO_1 := Aside0.mk (Kd.R_after (v := (.slice (some ⟨go59, 0, none⟩) x12_1.length co52)) (v1 := (.slice (some ⟨go59, 0, none⟩) x12_1.length co52)) (ok := (fun k_ => some k_ ≠ (.slice Ao61 x10_1.length co61 : Value).ownBlock ∧ some k_ ≠ (.slice Ao48 x11_1.length co48 : Value).ownBlock)) (Kd.R_mono HO_1.out (fun _ hk => ⟨⟨hk.1, hk.2.1⟩, hk.2.2⟩)) hg (.inl rfl)); replace HO_10 := Aside0.mk (Kd.R_after (v := (.slice (some ⟨go59, 0, none⟩) x12_1.length co52)) (v1 := (.slice (some ⟨go59, 0, none⟩) x12_1.length co52)) (ok := (fun k_ => some k_ ≠ (.slice (some ad308) x1_1.length co42 : Value).ownBlock ∧ some k_ ≠ (.slice Ao48 x11_1.length co48 : Value).ownBlock)) (Kd.R_mono HO_10.out (fun _ hk => ⟨⟨hk.1, hk.2.1⟩, hk.2.2⟩)) hg (.inl rfl)); replace HO_11 := Aside0.mk (Kd.R_after (v := (.slice (some ⟨go59, 0, none⟩) x12_1.length co52)) (v1 := (.slice (some ⟨go59, 0, none⟩) x12_1.length co52)) (ok := (fun k_ => some k_ ≠ (.slice (some ad308) x1_1.length co42 : Value).ownBlock ∧ some k_ ≠ (.slice Ao61 x10_1.length co61 : Value).ownBlock)) (Kd.R_mono HO_11.out (fun _ hk => ⟨⟨hk.1, hk.2.1⟩, hk.2.2⟩)) hg (.inl rfl)); replace HO_12 := Aside0.mk (hp_); replace HB := Aside0.mk ((by rw [hw]; exact below_set (HB.out) GB59.out : Below w.heap.size w w64)); clear hg hw hp_))
                 (try simp only [← hl1_1, ← hl11_1, ← hl12_1])
                 go_roundg k1
                 case measure => have := HK1.out; omega
                 case rel => exact ⟨(x1_1), (t327), (x11_1), (y328), (wrap64 (x13_1 - 1)), (by first | rfl | (simp; done)), H', ⟨by have := HK1.out; omega⟩, ⟨by (try simp only [hl1_1]); (try simp only [hl11_1]); (try simp only [hl12_1]); (with_reducible repeat (first | apply Kd.R_alloc | apply Kd.R_drewN | apply Kd.R_drew)); exact Kd.R_mono HO_1.out (fun _ hk => ⟨hk.1.1, ⟨hk.1.2, hk.2⟩⟩)⟩, ⟨by (try simp only [hl1_1]); (try simp only [hl11_1]); (try simp only [hl12_1]); (with_reducible repeat (first | apply Kd.R_alloc | apply Kd.R_drewN | apply Kd.R_drew)); exact Kd.R_mono HO_10.out (fun _ hk => ⟨hk.1.1, ⟨hk.1.2, hk.2⟩⟩)⟩, ⟨by (try simp only [hl1_1]); (try simp only [hl11_1]); (try simp only [hl12_1]); (with_reducible repeat (first | apply Kd.R_alloc | apply Kd.R_drewN | apply Kd.R_drew)); exact Kd.R_mono HO_11.out (fun _ hk => ⟨hk.1.1, ⟨hk.1.2, hk.2⟩⟩)⟩, ⟨by (try simp only [hl1_1]); (try simp only [hl11_1]); (try simp only [hl12_1]); (with_reducible repeat (first | apply Kd.R_alloc | apply Kd.R_drewN | apply Kd.R_drew)); exact HO_12.out⟩, ⟨HB.out⟩⟩
                ·rw [if_neg c58] at H
                 exact absurd H (by simp)
               ·rw [if_neg c56] at H
                exact absurd H (by simp)
              ·rw [if_neg c55] at H
               exact absurd H (by simp)
             ·rw [if_neg c54] at H
              exact absurd H (by simp)
            ·rw [if_neg c53] at H
             have c53b0 : decide (0 ≤ x13_1) = false := decide_eq_false c53
             clear c53
             obtain ⟨t329, A650, H⟩ := Option.bind_eq_some_iff.mp H
             try dsimp only at H
             have A65 := Aside0.mk A650
             clear A650
             by_cases c66 : 0 ≤ (x1_1.length : Int)
             ·rw [if_pos c66] at H
              have c66b0 := eq_true c66
              have c66b1 : decide (0 ≤ (x1_1.length : Int)) = true := decide_eq_true c66
              have c66b1z := c66b1
              (try rw [hl1_1] at c66b1z); (try rw [hl11_1] at c66b1z); (try rw [hl12_1] at c66b1z)
              clear c66
              by_cases c67 : (x1_1.length : Int) ≤ (x10_1.length : Int)
              ·rw [if_pos c67] at H
               have c67b0 := eq_true c67
               have c67b1 : decide ((x1_1.length : Int) ≤ (x10_1.length : Int)) = true := decide_eq_true c67
               have c67b1z := c67b1
               (try rw [hl1_1] at c67b1z); (try rw [hl11_1] at c67b1z); (try rw [hl12_1] at c67b1z)
               clear c67
               obtain ⟨y332, hy332⟩ : ∃ y_ : List Int, y_ = (x10_1.take ((x1_1.length : Int) : Int).toNat) := ⟨_, rfl⟩
               replace H : ((nat_right.f k1 y332 t309).bind fun t336 => (some (t329, t336, 0))) = some (r1, r2, r3) := by first | (rw [hy332]; with_reducible exact H) | (have H2_ := (Option.bind_some _ _).symm.trans H; rw [hy332]; with_reducible exact H2_) | (have H2_ := (Option.bind_some _ _).symm.trans H; with_reducible exact H2_) | with_reducible exact H | (rw [hy332]; exact H) | exact H
               have Ny332 := Aside0.mk hy332
               clear hy332
               obtain ⟨t336, A680, H⟩ := Option.bind_eq_some_iff.mp H
               try dsimp only at H
               have A68 := Aside0.mk A680
               clear A680
               simp only [Option.some.injEq, Prod.mk.injEq] at H
               obtain ⟨rfl, rfl, rfl⟩ := H
               try go_wp2
               replace HO_1 := Aside0.mk (Kd.R_drew HO_1.out)
               replace HO_10 := Aside0.mk (Kd.R_drew HO_10.out)
               replace HO_11 := Aside0.mk (Kd.R_drew HO_11.out)
               replace HO_12 := Aside0.mk (Kd.R_drew HO_12.out)
               replace HB := Aside0.mk (below_drew1 HB.out)
               obtain ⟨Ao71, co71, eo71⟩ := Kd.R_slice HO_10.out
               subst eo71
               have q70 : ((x1_1.length : Int) : Int) ≤ ((x10_1.length : Int) : Int) := of_decide_eq_true (by first | (with_reducible assumption) | assumption)
               obtain ⟨i070, hi070, _, hsz70, _⟩ := info_parts info81
               have hroom70 : x10_1.length ≤ co71 := (Kd.R_reads' HO_10.out).2.1
               have hC70 : Kd.C (Kd.int .u32) _ Ao71 x10_1.length x10_1 := (Kd.R_reads' HO_10.out).2.2
               have hcut70 := cut_to (P := Try.prog) 22 81 .i64 Try.underlying22 hi070 Ao71 x10_1.length co71 (x1_1.length : Int) (of_decide_eq_true (by first | (with_reducible assumption) | assumption)) q70 hroom70
               have hr70 := Kd.C_take (m := ((x1_1.length : Int) : Int).toNat) hC70 (by omega)
               have hy70 : y332.length = ((x1_1.length : Int) : Int).toNat := (by rw [Ny332.out, List.length_take]; omega)
               rw [← Ny332.out] at hr70
               rw [← hy70] at hcut70
               have HR335 := Aside0.mk hr70
               have HC335 := Aside0.mk (show y332.length ≤ co71 from by omega)
               clear hr70 hC70 hroom70 hi070 hsz70
               have KY70 := Aside0.mk hy70
               clear hy70
               have KL70 := Aside0.mk (show ((x1_1.length : Int) : Int).toNat ≤ x10_1.length from by omega)
               replace q70 := eq_true q70
               refine start_ (n := 11) (S := fun w' => True) (ds := []) #[false, false, false, false, false, false, false, false, false, false, false] (by kernel_rfl) rfl rfl trivial (fun hHeld => ?_); refine with_tabW nat_DivMod.tab16 nat_DivMod.bits16 (fun HT_ HW_ => ?_)
               generalize wr.drew = w69 at HO_1 HO_10 HO_11 HO_12 HB HR335 hHeld ⊢
               refine pure_ (i := 0) (N := some 88) (v := ?_) (a' := ?_) #[true, false, false, false, false, false, false, false, false, false, false] rfl rfl (any_of HT_.out (by kernel_rfl)) (fun _ _ _ h => h) (Or.inl ⟨by rfl, ?_⟩) ?_ ?_
               rotate_left
               ·intro w'
                go_simp
                with_reducible rfl
               rotate_left
               ·simp only [Act.put, List.setIfInBounds_toArray, List.set_cons_zero, List.set_cons_succ, i64_w, i32_w]
                rfl
               refine pure_ (i := 2) (N := some 90) (v := ?_) (a' := ?_) #[true, false, true, false, false, false, false, false, false, false, false] rfl rfl (any_of HT_.out (by kernel_rfl)) (fun _ _ _ h => h) (Or.inl ⟨by rfl, ?_⟩) ?_ ?_
               rotate_left
               ·intro w'
                go_simp
                with_reducible rfl
               rotate_left
               ·simp only [Act.put, List.setIfInBounds_toArray, List.set_cons_zero, List.set_cons_succ, i64_w, i32_w]
                rfl
               refine pure_ (i := 3) (N := some 91) (v := ?_) (a' := ?_) #[true, false, true, true, false, false, false, false, false, false, false] rfl rfl (any_of HT_.out (by kernel_rfl)) (fun _ _ _ h => h) (Or.inl ⟨by rfl, ?_⟩) ?_ ?_
               rotate_left
               ·intro w'
                go_simp
                with_reducible rfl
               rotate_left
               ·simp only [Act.put, List.setIfInBounds_toArray, List.set_cons_zero, List.set_cons_succ, i64_w, i32_w]
                rfl
               refine pure_ (i := 4) (N := some 92) (v := ?_) (a' := ?_) #[true, false, true, true, true, false, false, false, false, false, false] rfl rfl (any_of HT_.out (by kernel_rfl)) (fun _ _ _ h => h) (Or.inl ⟨by rfl, ?_⟩) ?_ ?_
               rotate_left
               ·intro w'
                go_simp
                with_reducible rfl
               rotate_left
               ·simp only [Act.put, List.setIfInBounds_toArray, List.set_cons_zero, List.set_cons_succ, i64_w, i32_w]
                rfl
               refine pure_ (i := 5) (N := some 93) (v := ?_) (a' := ?_) #[true, false, true, true, true, true, false, false, false, false, false] rfl rfl (any_of HT_.out (by kernel_rfl)) (fun _ _ _ h => h) (Or.inl ⟨by rfl, ?_⟩) ?_ ?_
               rotate_left
               ·intro w'
                go_simp
                with_reducible rfl
               rotate_left
               ·simp only [Act.put, List.setIfInBounds_toArray, List.set_cons_zero, List.set_cons_succ, i64_w, i32_w]
                rfl
               refine pure_ (i := 6) (N := some 94) (v := ?_) (a' := ?_) #[true, false, true, true, true, true, true, false, false, false, false] rfl rfl (any_of HT_.out (by kernel_rfl)) (fun _ _ _ h => h) (Or.inl ⟨by rfl, ?_⟩) ?_ ?_
               rotate_left
               ·intro w'
                go_simp
                with_reducible rfl
               rotate_left
               ·simp only [Act.put, List.setIfInBounds_toArray, List.set_cons_zero, List.set_cons_succ, i64_w, i32_w]
                rfl
               refine one_ (i := 1) (N := some 89) #[true, true, true, true, true, true, true, false, false, false, false] rfl rfl (one_of HT_.out (by kernel_rfl)) (by decide) (fun K hK => ?_)
               refine goR Try.func83 [.slice Ao52 x12_1.length co52] ?_
               with_reducible refine (nat_Norm.calls _ _ x12_1 t329 _ ?side1 ?side2 A65.out).mono ?_
               (case side1 => exact (Kd.R_reads' HO_12.out).2.2)
               (case side2 => exact (Kd.R_reads' HO_12.out).2.1)
               rintro e w72 ⟨v330, rfl, ho0, hb⟩
               refine ⟨_, rfl, ?_⟩
               have HO331 := Aside0.mk (Kd.R_lower (Kd.R_new' (Kd.R_new' (Kd.R_new' (Kd.R_new' ho0 (Kd.R_lt HO_1.out)) (Kd.R_lt HO_10.out)) (Kd.R_lt HO_11.out)) (Kd.R_lt HO_12.out)) (below_size HB.out))
               replace HO_1 := Aside0.mk (Kd.R_elder' HO_1.out (Kd.R_base ho0) hb)
               replace HO_10 := Aside0.mk (Kd.R_elder' HO_10.out (Kd.R_base ho0) hb)
               replace HO_11 := Aside0.mk (Kd.R_elder' HO_11.out (Kd.R_base ho0) hb)
               replace HO_12 := Aside0.mk (Kd.R_elder' HO_12.out (Kd.R_base ho0) hb)
               replace HR335 := Aside0.mk (Kd.C_below (by repeat (first | (with_reducible exact HR335.out) | (with_reducible refine Kd.C_alloc ?_ _) | (with_reducible refine Kd.C_drewN ?_ _) | (with_reducible refine Kd.C_drew ?_) | exact HR335.out)) hb)
               replace HB := Aside0.mk (below_step HB.out hb)
               (try clear hb)
               (try clear hb2)
               (try clear hk)
               (try clear hi)
               (try clear ho0)
               refine hK.out _ _ trivial (fun hHeld => ?_)
               clear hK K
               refine norm_ (a' := ?_) ?_ ?_
               rotate_left
               ·show Act.put _ (some 89) _ = _
                simp only [Act.put, List.setIfInBounds_toArray, List.set_cons_zero, List.set_cons_succ, i64_w, i32_w]
                rfl
               refine one_ (i := 7) (N := some 95) #[true, true, true, true, true, true, true, true, false, false, false] rfl rfl (one_of HT_.out (by kernel_rfl)) (by decide) (fun K hK => ?_)
               refine goR Try.func93 [.slice Ao71 y332.length co71, .int .i64 t309] ?_
               with_reducible refine (nat_right.calls k1 _ _ y332 t309 t336 _ ?side1 ?side2 A68.out).mono ?_
               (case side1 => exact (by repeat (first | (with_reducible exact HR335.out) | (with_reducible refine Kd.C_alloc ?_ _) | (with_reducible refine Kd.C_drewN ?_ _) | (with_reducible refine Kd.C_drew ?_) | exact HR335.out)))
               (case side2 => exact HC335.out)
               rintro e w73 ⟨v337, rfl, ho0, hb⟩
               refine ⟨_, rfl, ?_⟩
               have HO338 := Aside0.mk (Kd.R_lower (Kd.R_new' (Kd.R_new' (Kd.R_new' (Kd.R_new' (Kd.R_new' ho0 (Kd.R_lt HO_1.out)) (Kd.R_lt HO_10.out)) (Kd.R_lt HO_11.out)) (Kd.R_lt HO_12.out)) (Kd.R_lt HO331.out)) (below_size HB.out))
               replace HO331 := Aside0.mk (Kd.R_elder' HO331.out (Kd.R_base ho0) hb)
               replace HR335 := Aside0.mk (Kd.C_below (by repeat (first | (with_reducible exact HR335.out) | (with_reducible refine Kd.C_alloc ?_ _) | (with_reducible refine Kd.C_drewN ?_ _) | (with_reducible refine Kd.C_drew ?_) | exact HR335.out)) hb)
               replace HB := Aside0.mk (below_step HB.out hb)
               (try clear hb)
               (try clear hb2)
               (try clear hk)
               (try clear hi)
               (try clear ho0)
               refine hK.out _ _ trivial (fun hHeld => ?_)
               clear hK K
               refine norm_ (a' := ?_) ?_ ?_
               rotate_left
               ·show Act.put _ (some 95) _ = _
                simp only [Act.put, List.setIfInBounds_toArray, List.set_cons_zero, List.set_cons_succ, i64_w, i32_w]
                rfl
               refine pure_ (i := 8) (N := some 4) (v := ?_) (a' := ?_) #[true, true, true, true, true, true, true, true, true, false, false] rfl rfl (any_of HT_.out (by kernel_rfl)) (fun _ _ _ h => h) (Or.inl ⟨by rfl, ?_⟩) ?_ ?_
               rotate_left
               ·intro w'
                go_simp
                with_reducible rfl
               rotate_left
               ·simp only [Act.put, List.setIfInBounds_toArray, List.set_cons_zero, List.set_cons_succ, i64_w, i32_w]
                rfl
               refine pure_ (i := 9) (N := some 5) (v := ?_) (a' := ?_) #[true, true, true, true, true, true, true, true, true, true, false] rfl rfl (any_of HT_.out (by kernel_rfl)) (fun _ _ _ h => h) (Or.inl ⟨by rfl, ?_⟩) ?_ ?_
               rotate_left
               ·intro w'
                go_simp
                with_reducible rfl
               rotate_left
               ·simp only [Act.put, List.setIfInBounds_toArray, List.set_cons_zero, List.set_cons_succ, i64_w, i32_w]
                rfl
               refine pure_ (i := 10) (N := some 6) (v := ?_) (a' := ?_) #[true, true, true, true, true, true, true, true, true, true, true] rfl rfl (any_of HT_.out (by kernel_rfl)) (fun _ _ _ h => h) (Or.inl ⟨by rfl, ?_⟩) ?_ ?_
               rotate_left
               ·intro w'
                go_simp
                with_reducible rfl
               rotate_left
               ·simp only [Act.put, List.setIfInBounds_toArray, List.set_cons_zero, List.set_cons_succ, i64_w, i32_w]
                rfl
               refine done_ (done_of HT_.out (by kernel_rfl)) ?_
               try go_wp2
               go_ret3
               exact ⟨_, _, by first | rfl | (simp [errW_none, errW_some] <;> rfl) | (simp only [← hji29, ← hji37]; first | rfl | (simp [errW_none, errW_some] <;> rfl)) | (simp [*, errW_none, errW_some] <;> rfl), Kd.R_mono HO331.out (fun _ hk => hk.2), Kd.R_mono HO338.out (fun _ hk => hk.2), HB.out⟩
              ·rw [if_neg c67] at H
               exact absurd H (by simp)
             ·rw [if_neg c66] at H
              exact absurd H (by simp)
         ·rw [if_neg c39] at H
          exact absurd H (by simp)
        ·rw [if_neg c38] at H
         exact absurd H (by simp)
       ·rw [if_neg c36] at H
        exact absurd H (by simp)
      ·rw [if_neg c35] at H
       exact absurd H (by simp)
     ·rw [if_neg c31] at H
      exact absurd H (by simp)
    ·rw [if_neg c30] at H
     exact absurd H (by simp)

end Go.Proofs.Ytdicjemjmlbmlaa.PA
/- Written by a program of this session, wip/tools/patch_print.py, over the kit's print of the loaded functions. -/
namespace Go.Proofs.Ytdicjemjmlbmlaa.H
end Go.Proofs.Ytdicjemjmlbmlaa.H
namespace Go.Proofs.Ytdicjemjmlbmlaa.PA
open Go.RowKit Go.Proofs.YtdicjemjmlbmlaaW.PrintWords Go.Proofs.YtdicjemjmlbmlaaW.PrintLast Go.Proofs.YtdicjemjmlbmlaaW.PrintMore Go.Proofs.Ytdicjemjmlbmlaa.H
attribute [local go_sem] max2_int min2_int max_two min_two max_three min_three max_four min_four   -- for this text's walks alone
set_option linter.unusedVariables false
set_option linter.unusedSimpArgs false

/-! ### nat_Gcd: function 70 -/
def nat_Gcd.l0 : Nat → List Int → List Int → Option (List Int)
 | 0, _, _ => none
 | k + 1, x0, x1 => if (x1.length : Int) > 0 then ((nat_DivMod.f k x0 x1).bind fun bt425 => (nat_Gcd.l0 k x1 bt425.2.1)) else (some x0)
def nat_Gcd.f (k : Nat) (l0 : List Int) (l1 : List Int) : Option (List Int) := (nat_Norm.f l0).bind fun t419 => ((nat_Norm.f l1).bind fun t422 => (nat_Gcd.l0 k t419 t422))
set_option maxHeartbeats 8000000 in
set_option maxRecDepth 100000 in
theorem nat_Gcd.calls (k : Nat) (A0 : Option Addr) (c0 : Nat) (l0 : List Int) (A1 : Option Addr) (c1 : Nat) (l1 : List Int) (r : List Int) (w : World) (hr0 : Kd.C (Kd.int .u32) w A0 l0.length l0) (hc0 : l0.length ≤ c0) (hr1 : Kd.C (Kd.int .u32) w A1 l1.length l1) (hc1 : l1.length ≤ c1) (h : nat_Gcd.f k l0 l1 = some r) :
  Calls Try.prog 70 #[.slice A0 l0.length c0, .slice A1 l1.length c1] w fun e w' => ∃ v0_ : Value, e = .returned (v0_) ∧ Kd.R (Kd.int .u32) 81 w' w.heap.size (fun _ => True) v0_ r ∧ Below w.heap.size w w' := by
 have HR0 := Aside0.mk hr0
 have HC0 := Aside0.mk hc0
 clear hr0 hc0
 have HR1 := Aside0.mk hr1
 have HC1 := Aside0.mk hc1
 clear hr1 hc1
 have HB := Aside0.mk (Below.refl w.heap.size w)
 have H : ((nat_Norm.f l0).bind fun t419 => ((nat_Norm.f l1).bind fun t422 => (nat_Gcd.l0 k t419 t422))) = some r := h
 clear h
 replace H := Option.bind_eq_some_iff.mp H
 obtain ⟨t419, A30, H⟩ := H
 replace H : ((nat_Norm.f l1).bind fun t422 => (nat_Gcd.l0 k t419 t422)) = some r := H
 have A3 := Aside0.mk A30
 clear A30
 replace H := Option.bind_eq_some_iff.mp H
 obtain ⟨t422, A40, H⟩ := H
 replace H : (nat_Gcd.l0 k t419 t422) = some r := H
 have A4 := Aside0.mk A40
 clear A40
 have H' := Aside0.mk H
 clear H
 go_enter Try.func70, Try.ntmps70
 go_wp2_with (first | ((with_reducible refine gate_callee (f := 83) rfl ?_); refine goesL_ (some 9) rfl rfl Try.func83 (by kernel_rfl) rfl #[.slice A0 l0.length c0] rfl (by (try simp only [List.map_toArray, List.map_cons, List.map_nil]); first | done | rfl | (simp only [List.length_drop, List.length_take]; rfl)) ?_; (with_reducible refine (nat_Norm.calls _ _ l0 t419 _ ?side1 ?side2 A3.out).mono ?_); (case side1 => repeat (first | exact HR0.out | (with_reducible refine Kd.C_alloc ?_ _) | (with_reducible refine Kd.C_drewN ?_ _) | (with_reducible refine Kd.C_drew ?_))); (case side2 => exact HC0.out); rintro e w5 ⟨v420, rfl, ho0, hb⟩; refine ⟨_, rfl, ?_⟩; have n0_ := Aside0.mk (Kd.R_lower ho0 (below_size (by repeat (first | (with_reducible first | exact HB.out | apply below_alloc | apply pw_below_drewN | apply below_drew1) | exact HB.out)))); have n1_ := Aside0.mk (below_step (by repeat (first | (with_reducible first | exact HB.out | apply below_alloc | apply pw_below_drewN | apply below_drew1) | exact HB.out)) hb); clear HB; have HO421 := n0_; have HB := n1_; clear n0_ n1_; (try clear hb); (try clear hb2); (try clear hk); (try clear hi); (try clear ho0)) | ((with_reducible refine gate_callee (f := 83) rfl ?_); refine goesL_ (some 11) rfl rfl Try.func83 (by kernel_rfl) rfl #[.slice A1 l1.length c1] rfl (by (try simp only [List.map_toArray, List.map_cons, List.map_nil]); first | done | rfl | (simp only [List.length_drop, List.length_take]; rfl)) ?_; (with_reducible refine (nat_Norm.calls _ _ l1 t422 _ ?side1 ?side2 A4.out).mono ?_); (case side1 => repeat (first | exact (Kd.C_below HR1.out HB.out) | (with_reducible refine Kd.C_alloc ?_ _) | (with_reducible refine Kd.C_drewN ?_ _) | (with_reducible refine Kd.C_drew ?_))); (case side2 => exact HC1.out); rintro e w6 ⟨v423, rfl, ho0, hb⟩; refine ⟨_, rfl, ?_⟩; have n0_ := Aside0.mk (Kd.R_elder' (by (with_reducible repeat (first | apply Kd.R_alloc | apply Kd.R_drewN | apply Kd.R_drew)); exact HO421.out) (Kd.R_base ho0) hb); have n1_ := Aside0.mk (Kd.R_lower (Kd.R_new' ho0 (Kd.R_lt (by (with_reducible repeat (first | apply Kd.R_alloc | apply Kd.R_drewN | apply Kd.R_drew)); exact HO421.out))) (below_size (by repeat (first | (with_reducible first | exact HB.out | apply below_alloc | apply pw_below_drewN | apply below_drew1) | exact HB.out)))); have n2_ := Aside0.mk (below_step (by repeat (first | (with_reducible first | exact HB.out | apply below_alloc | apply pw_below_drewN | apply below_drew1) | exact HB.out)) hb); clear HO421; clear HB; have HO421 := n0_; have HO424 := n1_; have HB := n2_; clear n0_ n1_ n2_; (try clear hb); (try clear hb2); (try clear hk); (try clear hi); (try clear ho0)))
 go_loopg [0, 1] k (fun kq v0 v1 w' => ∃ (x0_1 : List Int) (x1_1 : List Int), Aside0 (nat_Gcd.l0 kq x0_1 x1_1 = some r) ∧ Aside0 (kq ≤ k) ∧ Aside0 (Kd.R (Kd.int .u32) 81 w' w.heap.size (fun k_ => some k_ ≠ (v1 : Value).ownBlock) v0 x0_1) ∧ Aside0 (Kd.R (Kd.int .u32) 81 w' w.heap.size (fun k_ => some k_ ≠ (v0 : Value).ownBlock) v1 x1_1) ∧ Aside0 (Below w.heap.size w w'))
 case atStart => exact ⟨(t419), (t422), H', ⟨Nat.le_refl _⟩, ⟨by (with_reducible repeat (first | apply Kd.R_alloc | apply Kd.R_drewN | apply Kd.R_drew)); exact Kd.R_mono HO421.out (fun _ hk => hk.2)⟩, ⟨by (with_reducible repeat (first | apply Kd.R_alloc | apply Kd.R_drewN | apply Kd.R_drew)); exact Kd.R_mono HO424.out (fun _ hk => hk.2)⟩, ⟨by repeat (first | (with_reducible first | exact HB.out | apply below_alloc | apply pw_below_drewN | apply below_drew1) | exact HB.out)⟩⟩
 case round =>
  clear H'
  try clear c1
  try clear p2
  obtain ⟨x0_1, x1_1, HA, HK1, HO_0, HO_1, HB⟩ := hrel
  cases gk with
  | zero => exact absurd HA.out (by simp [nat_Gcd.l0])
  | succ k1 =>
   have H := HA.out
   clear HA
   simp only [nat_Gcd.l0] at H
   by_cases c7 : (x1_1.length : Int) > 0
   ·rw [if_pos c7] at H
    have c7b0 : decide (0 < (x1_1.length : Int)) = true := decide_eq_true c7
    have c7b1 : decide (0 < x1_1.length) = true := decide_eq_true (by omega)
    clear c7
    replace H := Option.bind_eq_some_iff.mp H
    obtain ⟨⟨t425, t426, t427⟩, A80, H⟩ := H
    replace H : (nat_Gcd.l0 k1 x1_1 t426) = some r := H
    have A8 := Aside0.mk A80
    clear A80
    have H' := Aside0.mk H
    clear H
    obtain ⟨Ao9, co9, eo9⟩ := Kd.R_slice HO_1.out
    subst eo9
    obtain ⟨Ao10, co10, eo10⟩ := Kd.R_slice HO_0.out
    subst eo10
    go_wp2_with (first | ((with_reducible refine gate_callee (f := 72) rfl ?_); refine goesL_ (some 18) rfl rfl Try.func72 (by kernel_rfl) rfl #[.slice Ao10 x0_1.length co10, .slice Ao9 x1_1.length co9] rfl (by (try simp only [List.map_toArray, List.map_cons, List.map_nil]); first | done | rfl | (simp only [List.length_drop, List.length_take]; rfl)) ?_; (with_reducible refine (nat_DivMod.calls k1 _ _ x0_1 _ _ x1_1 t425 t426 t427 _ ?side1 ?side2 ?side3 ?side4 A8.out).mono ?_); (case side1 => repeat (first | exact (Kd.R_reads' HO_0.out).2.2 | (with_reducible refine Kd.C_alloc ?_ _) | (with_reducible refine Kd.C_drewN ?_ _) | (with_reducible refine Kd.C_drew ?_))); (case side2 => exact (Kd.R_reads' HO_0.out).2.1); (case side3 => repeat (first | exact (Kd.R_reads' HO_1.out).2.2 | (with_reducible refine Kd.C_alloc ?_ _) | (with_reducible refine Kd.C_drewN ?_ _) | (with_reducible refine Kd.C_drew ?_))); (case side4 => exact (Kd.R_reads' HO_1.out).2.1); rintro e w11 ⟨v428, v430, rfl, ho0, ho1, hb⟩; refine ⟨_, rfl, ?_⟩; have n0_ := Aside0.mk (Kd.R_mono (Kd.R_told (Kd.R_told (Kd.R_old (by (with_reducible repeat (first | apply Kd.R_alloc | apply Kd.R_drewN | apply Kd.R_drew)); exact HO_0.out) hb) (Kd.R_base ho0)) (Kd.R_base ho1)) (fun _ h_ => h_.1)); have n1_ := Aside0.mk (Kd.R_mono (Kd.R_told (Kd.R_told (Kd.R_old (by (with_reducible repeat (first | apply Kd.R_alloc | apply Kd.R_drewN | apply Kd.R_drew)); exact HO_1.out) hb) (Kd.R_base ho0)) (Kd.R_base ho1)) (fun _ h_ => h_.1)); have n2_ := Aside0.mk (Kd.R_lower (Kd.R_new' (Kd.R_new' ho0 (Kd.R_lt (by (with_reducible repeat (first | apply Kd.R_alloc | apply Kd.R_drewN | apply Kd.R_drew)); exact HO_0.out))) (Kd.R_lt (by (with_reducible repeat (first | apply Kd.R_alloc | apply Kd.R_drewN | apply Kd.R_drew)); exact HO_1.out))) (below_size (by repeat (first | (with_reducible first | exact HB.out | apply below_alloc | apply pw_below_drewN | apply below_drew1) | exact HB.out)))); have n3_ := Aside0.mk (Kd.R_lower (Kd.R_new' (Kd.R_new' ho1 (Kd.R_lt (by (with_reducible repeat (first | apply Kd.R_alloc | apply Kd.R_drewN | apply Kd.R_drew)); exact HO_0.out))) (Kd.R_lt (by (with_reducible repeat (first | apply Kd.R_alloc | apply Kd.R_drewN | apply Kd.R_drew)); exact HO_1.out))) (below_size (by repeat (first | (with_reducible first | exact HB.out | apply below_alloc | apply pw_below_drewN | apply below_drew1) | exact HB.out)))); have n4_ := Aside0.mk (below_step (by repeat (first | (with_reducible first | exact HB.out | apply below_alloc | apply pw_below_drewN | apply below_drew1) | exact HB.out)) hb); clear HO_0; clear HO_1; clear HB; have HO_0 := n0_; have HO_1 := n1_; have HO429 := n2_; have HO431 := n3_; have HB := n4_; clear n0_ n1_ n2_ n3_ n4_; (try clear hb); (try clear hb2); (try clear hk); (try clear hi); (try clear ho0); (try clear ho1)))
    go_roundg k1
    case measure => have := HK1.out; omega
    case rel => exact ⟨(x1_1), (t426), H', ⟨by have := HK1.out; omega⟩, ⟨by (with_reducible repeat (first | apply Kd.R_alloc | apply Kd.R_drewN | apply Kd.R_drew)); exact Kd.R_mono HO_1.out (fun _ hk => hk.2)⟩, ⟨by (with_reducible repeat (first | apply Kd.R_alloc | apply Kd.R_drewN | apply Kd.R_drew)); exact Kd.R_mono HO431.out (fun _ hk => hk.2)⟩, ⟨by repeat (first | (with_reducible first | exact HB.out | apply below_alloc | apply pw_below_drewN | apply below_drew1) | exact HB.out)⟩⟩
   ·rw [if_neg c7] at H
    have c7b0 : decide (0 < (x1_1.length : Int)) = false := decide_eq_false c7
    have c7b1 : decide (0 < x1_1.length) = false := decide_eq_false (by omega)
    clear c7
    obtain rfl := Option.some.inj H
    obtain ⟨Ao12, co12, eo12⟩ := Kd.R_slice HO_1.out
    subst eo12
    go_wp2
    go_ret
    exact ⟨_, by first | rfl | (simp [errW_none, errW_some] <;> rfl) | (simp [*, errW_none, errW_some] <;> rfl), by (with_reducible repeat (first | apply Kd.R_alloc | apply Kd.R_drewN | apply Kd.R_drew)); exact Kd.R_mono HO_0.out (fun _ hk => trivial), by repeat (first | (with_reducible first | exact HB.out | apply below_alloc | apply pw_below_drewN | apply below_drew1) | exact HB.out)⟩

end Go.Proofs.Ytdicjemjmlbmlaa.PA
/- nat.DivMod and nat.Gcd, as numbers. -/
namespace Go.Proofs.Ytdicjemjmlbmlaa.V
set_option linter.unusedVariables false
set_option linter.unusedSimpArgs false
open Go.RowKit Go.Proofs.Ytdicjemjmlbmlaa.PA Go.Proofs.Ytdicjemjmlbmlaa.H Go.Proofs.YtdicjemjmlbmlaaW.PrintWords Go.Proofs.YtdicjemjmlbmlaaW.PrintLast Go.Proofs.YtdicjemjmlbmlaaW.PrintMore

theorem bitLenAux_spec (f x : Nat) (hx : x < 2 ^ f) : x < 2 ^ (Lib.bitLenAux f x) ∧ (0 < x → 2 ^ (Lib.bitLenAux f x) ≤ 2 * x) ∧ Lib.bitLenAux f x ≤ f := by
  induction f generalizing x with
  | zero => simp at hx; subst hx; simp [Lib.bitLenAux]
  | succ f ih =>
    unfold Lib.bitLenAux
    by_cases h : x = 0
    · rw [if_pos h]; subst h; simp
    · rw [if_neg h]
      rw [Nat.pow_succ] at hx
      obtain ⟨h1, h2, h3⟩ := ih (x / 2) (by omega)
      rw [Nat.add_comm 1, Nat.pow_succ]
      refine ⟨by omega, fun _ => ?_, by omega⟩
      by_cases hz : x / 2 = 0
      · rw [hz]
        have e : Lib.bitLenAux f 0 = 0 := by cases f <;> simp [Lib.bitLenAux]
        rw [e]; omega
      · have := h2 (by omega); omega
/-- By how many bits the divisor is moved up: its highest limb's highest bit stands then. -/
theorem lz_ev (x : Int) (h0 : 0 < x) (h1 : x < 4294967296) : ∃ n : Nat, bits_LeadingZeros32.f x = some (n : Int) ∧ n ≤ 31 ∧ 2147483648 ≤ x * 2 ^ n ∧ (x + 1) * 2 ^ n ≤ 4294967296 := by
  obtain ⟨a1, a2, a3⟩ := bitLenAux_spec 64 x.toNat (by omega)
  have a2 := a2 (by omega)
  have a4 : Lib.bitLen x.toNat ≤ 32 := by
    unfold Lib.bitLen
    by_cases h : Lib.bitLenAux 64 x.toNat ≤ 32
    · exact h
    · have := Nat.pow_le_pow_right (n := 2) (by omega) (show 33 ≤ Lib.bitLenAux 64 x.toNat by omega)
      omega
  have a5 : 1 ≤ Lib.bitLen x.toNat := by
    unfold Lib.bitLen
    by_cases h : Lib.bitLenAux 64 x.toNat = 0
    · rw [h] at a1; omega
    · omega
  unfold Lib.bitLen at a4 a5
  obtain ⟨b, hb⟩ : ∃ b, b = Lib.bitLenAux 64 x.toNat := ⟨_, rfl⟩
  rw [← hb] at a1 a2 a4 a5
  refine ⟨32 - b, ?_, by omega, ?_, ?_⟩
  · unfold bits_LeadingZeros32.f Lib.bitLen
    rw [if_pos (by omega), ← hb]
    congr 1
    omega
  · have e : (2 : Nat) ^ b * 2 ^ (32 - b) = 4294967296 := by rw [← Nat.pow_add, show b + (32 - b) = 32 by omega]
    have h2 : 2 ^ b * 2 ^ (32 - b) ≤ (2 * x.toNat) * 2 ^ (32 - b) := Nat.mul_le_mul_right _ a2
    have h3 : x * 2 ^ (32 - b) = ((x.toNat * 2 ^ (32 - b) : Nat) : Int) := by
      rw [Int.natCast_mul, Int.toNat_of_nonneg (by omega)]; simp
    rw [h3]
    rw [Nat.mul_assoc] at h2
    omega
  · have e : (2 : Nat) ^ b * 2 ^ (32 - b) = 4294967296 := by rw [← Nat.pow_add, show b + (32 - b) = 32 by omega]
    have h2 : (x.toNat + 1) * 2 ^ (32 - b) ≤ 2 ^ b * 2 ^ (32 - b) := Nat.mul_le_mul_right _ a1
    have hp : 0 < 2 ^ (32 - b) := Nat.two_pow_pos _
    have h3 : x * 2 ^ (32 - b) = ((x.toNat * 2 ^ (32 - b) : Nat) : Int) := by
      rw [Int.natCast_mul, Int.toNat_of_nonneg (by omega)]; simp
    have h4 : (2 : Int) ^ (32 - b) = ((2 ^ (32 - b) : Nat) : Int) := by simp
    rw [Int.add_mul, h3, Int.one_mul, h4]
    rw [Nat.add_mul, Nat.one_mul] at h2
    omega
/-- The limbs of a window, by the whole. -/
theorem digitW_ev (u v : List Int) (j : Nat) (hu : Lim u) (hv : Lim v) (hnv : v.length < 1000000000) (hnu : u.length < 2000000000) (h2 : 2 ≤ v.length) (hj : j + v.length + 1 ≤ u.length) (htop : 2147483648 ≤ v.getD (v.length - 1) 0) (hlt : val (u.drop (j + 1)) < val v) :
    ∃ u', Ev (fun k => nat_digitW.f k u (j : Int) (((j + v.length + 1 : Nat)) : Int) v) (val (u.drop j) / val v, u') ∧ u'.length = u.length ∧ Lim u' ∧ val (u'.drop j) = val (u.drop j) % val v ∧ val u' = val u - pw j * (val (u.drop j) / val v * val v) := by
  have hvv := val_lt hv
  have hP := pw_pos v.length
  -- nothing stands above the window
  have hsp : (u.drop j) = (u.take (j + v.length + 1)).drop j ++ u.drop (j + v.length + 1) := by
    rw [← List.take_append_drop (v.length + 1) (u.drop j), List.drop_drop, List.drop_take]
    congr 1
    congr 1
    omega
  have hlw : ((u.take (j + v.length + 1)).drop j).length = v.length + 1 := by rw [List.length_drop, List.length_take]; omega
  have hju : j < u.length := by omega
  have gj := hu.get j hju
  have hd1 : val (u.drop j) = u[j] + 4294967296 * val (u.drop (j + 1)) := val_drop_cons u j hju
  have hlt' : val (u.drop j) < 4294967296 * val v := by omega
  have hLw : Lim ((u.take (j + v.length + 1)).drop j) := (hu.take _).drop _
  have hw0 := val_nonneg hLw
  have hw : val ((u.take (j + v.length + 1)).drop j) = val (u.drop j) ∧ val (u.drop (j + v.length + 1)) = 0 := by
    have e := val_append ((u.take (j + v.length + 1)).drop j) (u.drop (j + v.length + 1))
    rw [← hsp, hlw, pw_succ] at e
    have h3 := val_nonneg (hu.drop (j + v.length + 1))
    by_cases hz : val (u.drop (j + v.length + 1)) = 0
    · rw [hz] at e; exact ⟨by omega, hz⟩
    · have : (4294967296 * pw v.length) * 1 ≤ (4294967296 * pw v.length) * val (u.drop (j + v.length + 1)) := Int.mul_le_mul_of_nonneg_left (by omega) (by omega)
      omega
  obtain ⟨w, h1, h2', h3, h4⟩ := digit_ev _ v hLw hv hnv h2 hlw htop (by rw [hw.1]; exact hlt')
  rw [hw.1] at h1 h4
  have hl' : (u.take j ++ w ++ u.drop (j + v.length + 1)).length = u.length := by simp [h2']; omega
  have hdj : (u.take j ++ w ++ u.drop (j + v.length + 1)).drop j = w ++ u.drop (j + v.length + 1) := by
    rw [List.append_assoc, List.drop_append_of_le_length (by simp; omega), List.drop_eq_nil_of_le (by simp; omega), List.nil_append]
  have hvd : val ((u.take j ++ w ++ u.drop (j + v.length + 1)).drop j) = val (u.drop j) % val v := by
    rw [hdj, val_append, hw.2, h4]; omega
  refine ⟨u.take j ++ w ++ u.drop (j + v.length + 1), ?_, hl', ((hu.take j).append h3).append (hu.drop _), hvd, ?_⟩
  · obtain ⟨K, hK⟩ := h1
    refine ⟨K, fun k hk => ?_⟩
    have hK := hK k hk
    show nat_digitW.f k u (j : Int) ((j + v.length + 1 : Nat) : Int) v = _
    unfold nat_digitW.f
    rw [if_pos (by omega), Int.toNat_natCast, Int.toNat_natCast]
    simp only [] at hK
    rw [hK]
    rfl
  · have e1 := val_take_drop (u.take j ++ w ++ u.drop (j + v.length + 1)) j (by omega)
    have e2 := val_take_drop u j (by omega)
    have e3 : (u.take j ++ w ++ u.drop (j + v.length + 1)).take j = u.take j := by
      rw [List.append_assoc, List.take_append_of_le_length (by simp; omega), List.take_take, Nat.min_self]
    rw [e3, hvd] at e1
    rw [e1, e2]
    have e4 := Int.mul_ediv_add_emod (val (u.drop j)) (val v)
    generalize val (u.drop j) / val v = q at *
    generalize val (u.drop j) % val v = r at *
    rw [← e4]
    grind
theorem divmod_l0 (b v : List Int) (n : Nat) (A Bn : Int) (hn : n ≤ 31) (hv : Lim v) (hbv : b.length = v.length) (hnv : v.length < 1000000000) (h2 : 2 ≤ v.length) (htop : 2147483648 ≤ v.getD (v.length - 1) 0) (hV : val v = Bn * 2 ^ n) (d : Nat) : ∀ (u q : List Int), d ≤ q.length → u.length = q.length + v.length → u.length < 2000000000 → Lim u → Lim q → val (q.take d) = 0 → val (u.drop d) < val v → val u + val v * val q = A * 2 ^ n →
    Ev (fun k => nat_DivMod.l0 k b (n : Int) u v q ((d : Int) - 1)) (dig (A / Bn), dig (A % Bn), 0) := by
  have hp := p_pos n
  have hvv := val_lt hv
  induction d with
  | zero =>
    intro u q hd hl hnu hu hq hz hlt hval
    rw [List.drop_zero] at hlt
    have hu0 := val_nonneg hu
    have htake : val (u.take b.length) = val u := by
      have e := val_take_drop u b.length (by omega)
      have h3 := val_nonneg (hu.drop b.length)
      have h4 := val_nonneg (hu.take b.length)
      rw [hbv] at e h3 h4 ⊢
      have hP := pw_pos v.length
      by_cases hz : val (u.drop v.length) = 0
      · rw [hz] at e; omega
      · have : pw v.length * 1 ≤ pw v.length * val (u.drop v.length) := Int.mul_le_mul_of_nonneg_left (by omega) (by omega)
        omega
    -- u is the rest, moved up
    have hB : 0 < Bn := by
      by_cases h : 0 < Bn
      · exact h
      · have h1 := Int.mul_le_mul_of_nonneg_right (show Bn ≤ 0 by omega) (Int.le_of_lt hp)
        rw [Int.zero_mul] at h1
        omega
    have hr : val u = (A - Bn * val q) * 2 ^ n := by
      have : (A - Bn * val q) * 2 ^ n = A * 2 ^ n - (Bn * 2 ^ n) * val q := by grind
      rw [this, ← hV]; omega
    have hr0 : 0 ≤ A - Bn * val q := by
      by_cases h : 0 ≤ A - Bn * val q
      · exact h
      · have : (A - Bn * val q) * 2 ^ n < 0 := Int.mul_neg_of_neg_of_pos (by omega) hp
        omega
    have hr1 : A - Bn * val q < Bn := by
      have : (A - Bn * val q) * 2 ^ n < Bn * 2 ^ n := by omega
      exact Int.lt_of_mul_lt_mul_right this (Int.le_of_lt hp)
    obtain ⟨e1, e2⟩ := div_unique hB (a := A) (q := val q) (r := A - Bn * val q) (by rw [Int.mul_comm]; omega) hr0 hr1
    have hright := right_ev (u.take b.length) n (hu.take _) hn (by rw [List.length_take]; omega)
    rw [htake, hr, Int.mul_ediv_cancel _ (by omega)] at hright
    refine Ev.step (fun k => ?_) (Ev.bind (f := fun k t => some (dig (A / Bn), t, 0)) hright (by rw [e2]; exact Ev.now _))
    simp only [nat_DivMod.l0]
    rw [if_neg (by omega), norm_ev q hq (by omega)]
    simp only [Option.bind_some]
    rw [if_pos (by omega), if_pos (by omega), Int.toNat_natCast, e1]
  | succ d ih =>
    intro u q hd hl hnu hu hq hz hlt hval
    obtain ⟨u', h1, h2', h3, h4, h5⟩ := digitW_ev u v d hu hv hnv hnu h2 (by omega) htop hlt
    have hdu : d < u.length := by omega
    have hdq : d < q.length := by omega
    have gd := hu.get d hdu
    have gq := hq.get d hdq
    have hv0 : 0 < val v := by
      have := val_nonneg (hu.drop (d + 1))
      omega
    have hd1 : val (u.drop d) = u[d] + 4294967296 * val (u.drop (d + 1)) := val_drop_cons u d hdu
    have hq0 : 0 ≤ val (u.drop d) / val v := Int.ediv_nonneg (val_nonneg (hu.drop d)) (by omega)
    have hq1 : val (u.drop d) / val v < 4294967296 := Int.ediv_lt_of_lt_mul hv0 (by omega)
    have hm := Int.emod_lt_of_pos (val (u.drop d)) hv0
    have hz' : val (q.take d) = 0 ∧ q[d] = 0 := by
      have e := val_take_succ q d hdq
      rw [hz] at e
      have h6 := val_nonneg (hq.take d)
      have hP := pw_pos d
      by_cases h0 : q[d] = 0
      · rw [h0] at e; exact ⟨by omega, h0⟩
      · have : pw d * 1 ≤ pw d * q[d] := Int.mul_le_mul_of_nonneg_left (by omega) (by omega)
        omega
    refine Ev.step (fun k => ?_) (Ev.bind (f := fun k bt => if (d : Int) < (q.length : Int) then nat_DivMod.l0 k b (n : Int) bt.2 v (q.set (d : Int).toNat bt.1) (wrap64 ((d : Int) - 1)) else none) h1 ?_)
    · simp only [nat_DivMod.l0]
      rw [show ((d + 1 : Nat) : Int) - 1 = (d : Int) by omega, if_pos (by omega), if_pos (by omega), w64 (x := (d : Int) + (v.length : Int)) (by omega) (by omega), w64 (x := (d : Int) + (v.length : Int) + 1) (by omega) (by omega), show (d : Int) + (v.length : Int) + 1 = ((d + v.length + 1 : Nat) : Int) by omega, if_pos (by omega), if_pos (by omega)]
    · refine Ev.congr (fun k => ?_) (ih u' (q.set d (val (u.drop d) / val v)) (by simp; omega) (by simp; omega) (by omega) h3 (hq.set _ hq0 hq1) ?_ ?_ ?_)
      · simp only []
        rw [if_pos (by omega), Int.toNat_natCast, w64 (by omega) (by omega)]
      · rw [List.take_set_of_le (Nat.le_refl d)]; exact hz'.1
      · rw [h4]; exact hm
      · rw [h5, val_set _ _ _ hdq, hz'.2]
        rw [← hval]
        grind
theorem divmod_ev (a b : List Int) (ha : Lim a) (hb : Lim b) (hna : a.length < 1000000000) (hnb : b.length < 1000000000) :
    Ev (fun k => nat_DivMod.f k a b) (if val b = 0 then ([], [], 7) else (dig (val a / val b), dig (val a % val b), 0)) := by
  have va := val_nonneg ha
  have vb := val_nonneg hb
  have la := dig_length a ha
  have lb := dig_length b hb
  have na := norm_ev a ha (by omega)
  have nb := norm_ev b hb (by omega)
  by_cases hz : val b = 0
  · rw [if_pos hz]
    refine Ev.congr (f := fun _ => some _) (fun k => ?_) (Ev.now _)
    unfold nat_DivMod.f
    rw [na, nb, hz, dig_zero]
    rfl
  rw [if_neg hz]
  have hlb : 0 < (dig (val b)).length := by
    have : dig (val b) ≠ [] := by rw [Ne, dig_eq_nil vb]; exact hz
    cases h : dig (val b) with
    | nil => exact absurd h this
    | cons _ _ => simp
  have hc := cmp_ev (dig (val a)) (dig (val b)) (dig_lim _) (dig_lim _) (by omega) (by omega)
  rw [val_dig va, val_dig vb] at hc
  refine Ev.congr (fun k => by
    unfold nat_DivMod.f
    rw [na, nb, Option.bind_some, Option.bind_some, if_neg (by omega)]) (Ev.bind hc ?_)
  by_cases hlt : val a < val b
  · refine Ev.congr (f := fun _ => some _) (fun k => by unfold cmpI; rw [if_pos hlt, if_pos (by decide)]) ?_
    rw [Int.ediv_eq_zero_of_lt va hlt, Int.emod_eq_of_lt va hlt, dig_zero]
    exact Ev.now _
  have hcm : ¬ cmpI (val a) (val b) < 0 := by unfold cmpI; rw [if_neg hlt]; split <;> decide
  by_cases h1 : (dig (val b)).length = 1
  · obtain ⟨x, hx⟩ : ∃ x, dig (val b) = [x] := List.length_eq_one_iff.1 h1
    have hxb : val b = x := by rw [← val_dig vb, hx]; simp [val]
    have hx1 : x < 4294967296 := by have := dig_lim (val b) x (by rw [hx]; simp); exact this.2
    have hs := small_ev (dig (val a)) x (dig_lim _) (by omega) (by omega) (by omega)
    rw [val_dig va] at hs
    have hm0 := Int.emod_nonneg (val a) (show x ≠ 0 by omega)
    have hm1 := Int.emod_lt_of_pos (val a) (show 0 < x by omega)
    refine Ev.congr (fun k => by
      rw [if_neg hcm, if_pos (by omega), if_pos (by omega), hx, show rd [x] 0 = x from rfl, u64 (x := x) (by omega) (by omega)]) (Ev.bind hs ?_)
    refine Ev.congr (f := fun _ => some _) (fun k => ?_) (Ev.now _)
    simp only []
    rw [of_ev _ hm0 (by omega), hxb]
    rfl
  -- the great case
  have hlast := fun h => dig_last (n := val b) h
  obtain ⟨m, hm⟩ : ∃ m, (dig (val b)).length = m + 2 := ⟨(dig (val b)).length - 2, by omega⟩
  have hlen_le : (dig (val b)).length ≤ (dig (val a)).length := by
    by_cases h : (dig (val b)).length ≤ (dig (val a)).length
    · exact h
    · have := val_lt_of_length (dig_lim (val a)) (dig_lim (val b)) (by omega) hlast
      rw [val_dig va, val_dig vb] at this
      omega
  obtain ⟨e, he⟩ : ∃ e, (dig (val a)).length = e + (m + 2) := ⟨(dig (val a)).length - (m + 2), by omega⟩
  have hmb : m + 1 < (dig (val b)).length := by omega
  have gx := (dig_lim (val b)).get (m + 1) hmb
  have hx0 : (dig (val b))[m + 1] ≠ 0 := by
    have hne : dig (val b) ≠ [] := by rw [Ne, dig_eq_nil vb]; exact hz
    have := hlast hne
    rw [List.getLast_eq_getElem] at this
    simpa [hm] using this
  obtain ⟨n, z1, z2, z3, z4⟩ := lz_ev (dig (val b))[m + 1] (by omega) gx.2
  have hp := p_pos n
  have hp1 := p_le z2
  obtain ⟨u, u1, u2, u3, u4⟩ := left_ev (dig (val a)) n (dig_lim _) z2 (by omega)
  obtain ⟨vv, v1, v2, v3, v4⟩ := left_ev (dig (val b)) n (dig_lim _) z2 (by omega)
  rw [val_dig va] at u4
  rw [val_dig vb] at v4
  have hP := pw_pos (m + 1)
  -- the divisor's value, by its highest limb
  have dB : val b = val ((dig (val b)).take (m + 1)) + pw (m + 1) * (dig (val b))[m + 1] := by
    have h := val_take_succ (dig (val b)) (m + 1) hmb
    rw [List.take_of_length_le (by omega), val_dig vb] at h
    exact h
  have lB0 := val_nonneg ((dig_lim (val b)).take (m + 1))
  have lB1 := val_lt ((dig_lim (val b)).take (m + 1))
  rw [List.length_take, Nat.min_eq_left (by omega)] at lB1
  generalize hX : (dig (val b))[m + 1] = X at *
  have hBhi : val b * 2 ^ n < pw (m + 2) := by
    have h1 : (val b + 1) * 2 ^ n ≤ (pw (m + 1) * (X + 1)) * 2 ^ n := Int.mul_le_mul_of_nonneg_right (by rw [Int.mul_add]; omega) (Int.le_of_lt hp)
    have h2 : pw (m + 1) * ((X + 1) * 2 ^ n) ≤ pw (m + 1) * 4294967296 := Int.mul_le_mul_of_nonneg_left z4 (Int.le_of_lt hP)
    rw [← Int.mul_assoc] at h2
    rw [Int.add_mul, Int.one_mul] at h1
    rw [pw_succ (m + 1)]
    omega
  have hBlo : pw (m + 1) * 2147483648 ≤ val b * 2 ^ n := by
    have h1 : (pw (m + 1) * X) * 2 ^ n ≤ val b * 2 ^ n := Int.mul_le_mul_of_nonneg_right (by omega) (Int.le_of_lt hp)
    have h2 : pw (m + 1) * 2147483648 ≤ pw (m + 1) * (X * 2 ^ n) := Int.mul_le_mul_of_nonneg_left z3 (Int.le_of_lt hP)
    rw [← Int.mul_assoc] at h2
    omega
  have hvl : (vv.take (m + 2)).length = m + 2 := by rw [List.length_take]; omega
  have hvv : val (vv.take (m + 2)) = val b * 2 ^ n := by
    have h := val_take_drop vv (m + 2) (by omega)
    have h3 := val_nonneg (v3.drop (m + 2))
    have h4 := val_nonneg (v3.take (m + 2))
    have hP2 := pw_pos (m + 2)
    by_cases h0 : val (vv.drop (m + 2)) = 0
    · rw [h0] at h; omega
    · have : pw (m + 2) * 1 ≤ pw (m + 2) * val (vv.drop (m + 2)) := Int.mul_le_mul_of_nonneg_left (by omega) (by omega)
      omega
  have hLv : Lim (vv.take (m + 2)) := v3.take _
  have htop : 2147483648 ≤ (vv.take (m + 2)).getD (m + 2 - 1) 0 := by
    have hm1 : m + 1 < (vv.take (m + 2)).length := by omega
    rw [show m + 2 - 1 = m + 1 by omega, getD_get _ _ hm1]
    have h := val_take_succ (vv.take (m + 2)) (m + 1) hm1
    rw [List.take_of_length_le (by omega), hvv] at h
    have h3 := val_lt (hLv.take (m + 1))
    rw [List.length_take, Nat.min_eq_left (by omega)] at h3
    by_cases h4 : 2147483648 ≤ (vv.take (m + 2))[m + 1]
    · exact h4
    · have h5 : pw (m + 1) * ((vv.take (m + 2))[m + 1] + 1) ≤ pw (m + 1) * 2147483648 := Int.mul_le_mul_of_nonneg_left (by omega) (Int.le_of_lt hP)
      rw [Int.mul_add, Int.mul_one] at h5
      omega
  have hul : u.length = (e + 1) + (m + 2) := by omega
  have hstart : val (u.drop (e + 1)) < val b * 2 ^ n := by
    have h := val_take_drop u (e + 1) (by omega)
    have h3 := val_nonneg (u3.take (e + 1))
    have h4 := val_lt (dig_lim (val a))
    rw [val_dig va, he] at h4
    have h5 : val a * 2 ^ n < pw (e + (m + 2)) * 2 ^ n := Int.mul_lt_mul_of_pos_right h4 hp
    have h6 : pw (e + (m + 2)) = pw (e + 1) * pw (m + 1) := by rw [← pw_add]; congr 1; omega
    have h7 : pw (e + 1) * val (u.drop (e + 1)) < pw (e + 1) * (pw (m + 1) * 2 ^ n) := by
      rw [← Int.mul_assoc, ← h6]; omega
    have h8 := Int.lt_of_mul_lt_mul_left h7 (Int.le_of_lt (pw_pos _))
    have h9 : pw (m + 1) * 2 ^ n ≤ pw (m + 1) * 2147483648 := Int.mul_le_mul_of_nonneg_left hp1 (Int.le_of_lt hP)
    omega
  have hmain := divmod_l0 (dig (val b)) (vv.take (m + 2)) n (val a) (val b) z2 hLv (by omega) (by omega) (by omega) (by rw [hvl]; exact htop) hvv (e + 1) u (List.replicate (e + 1) 0) (by simp) (by simp [hvl]; omega) (by omega) u3 (Lim.zeros _) (by rw [List.take_of_length_le (by simp), val_zeros]) (by rw [hvv]; exact hstart) (by rw [u4, val_zeros]; omega)
  refine Ev.congr (fun k => by
    rw [if_neg hcm, if_neg (by omega), w64 (x := ((dig (val b)).length : Int) - 1) (by omega) (by omega), show ((dig (val b)).length : Int) - 1 = ((m + 1 : Nat) : Int) by omega, if_pos (by omega), if_pos (by omega), rd_get _ _ hmb, hX, z1, Option.bind_some]) (Ev.bind u1 ?_)
  refine Ev.congr (fun k => rfl) (Ev.bind v1 ?_)
  refine Ev.congr (fun k => ?_) hmain
  rw [if_pos (by omega), if_pos (by omega), he, hm, w64 (x := ((e + (m + 2) : Nat) : Int) - ((m + 2 : Nat) : Int)) (by omega) (by omega), w64 (x := ((e + (m + 2) : Nat) : Int) - ((m + 2 : Nat) : Int) + 1) (by omega) (by omega), show ((e + (m + 2) : Nat) : Int) - ((m + 2 : Nat) : Int) + 1 = ((e + 1 : Nat) : Int) by omega, if_pos (by omega), if_pos (by omega), Option.bind_some, Int.toNat_natCast, Int.toNat_natCast, List.length_replicate, w64 (by omega) (by omega)]

/-! ### the greatest common divisor -/
def gcdI (a b : Int) : Int := (Nat.gcd a.toNat b.toNat : Nat)
theorem gcdI_zero (a : Int) (h : 0 ≤ a) : gcdI a 0 = a := by unfold gcdI; simp; omega
theorem gcdI_rec (a b : Int) (ha : 0 ≤ a) (hb : 0 ≤ b) : gcdI b (a % b) = gcdI a b := by
  unfold gcdI
  obtain ⟨a, rfl⟩ := Int.eq_ofNat_of_zero_le ha
  obtain ⟨b, rfl⟩ := Int.eq_ofNat_of_zero_le hb
  have e : ((a : Int) % (b : Int)).toNat = a % b := by rw [← Int.natCast_emod]; exact Int.toNat_natCast _
  rw [e, Int.toNat_natCast, Int.toNat_natCast, Nat.gcd_comm a b, Nat.gcd_rec b a, Nat.gcd_comm]
theorem gcd_l0 (n : Nat) : ∀ (a b : Int), 0 ≤ a → 0 ≤ b → b.toNat = n → (dig a).length < 1000000000 → (dig b).length < 1000000000 → Ev (fun k => nat_Gcd.l0 k (dig a) (dig b)) (dig (gcdI a b)) := by
  induction n using Nat.strongRecOn with
  | _ n ih =>
    intro a b ha hb hn la lb
    by_cases hz : b = 0
    · subst hz
      refine Ev.step (f := fun _ => some _) (fun k => ?_) (Ev.now _)
      simp only [nat_Gcd.l0]
      rw [dig_zero, if_neg (by simp), gcdI_zero a ha]
    · have hlb : 0 < (dig b).length := by
        have : dig b ≠ [] := by rw [Ne, dig_eq_nil hb]; exact hz
        cases h : dig b with
        | nil => exact absurd h this
        | cons _ _ => simp
      have hd := divmod_ev (dig a) (dig b) (dig_lim _) (dig_lim _) la lb
      rw [val_dig ha, val_dig hb, if_neg hz] at hd
      have hm0 := Int.emod_nonneg a (show b ≠ 0 by omega)
      have hm1 := Int.emod_lt_of_pos a (show 0 < b by omega)
      have hlm : (dig (a % b)).length ≤ (dig b).length := by
        have := lt_of_dig_length hb (Nat.le_refl _)
        exact dig_length_le hm0 (by omega)
      have := ih (a % b).toNat (by omega) b (a % b) hb hm0 rfl lb (by omega)
      rw [gcdI_rec a b ha hb] at this
      refine Ev.step (fun k => by
        simp only [nat_Gcd.l0]
        rw [if_pos (by omega)]) (Ev.bind hd this)
theorem gcd_ev (a b : List Int) (ha : Lim a) (hb : Lim b) (hna : a.length < 1000000000) (hnb : b.length < 1000000000) : Ev (fun k => nat_Gcd.f k a b) (dig (gcdI (val a) (val b))) := by
  have la := dig_length a ha
  have lb := dig_length b hb
  refine Ev.congr (fun k => ?_) (gcd_l0 _ (val a) (val b) (val_nonneg ha) (val_nonneg hb) rfl (by omega) (by omega))
  unfold nat_Gcd.f
  rw [norm_ev a ha (by omega), norm_ev b hb (by omega)]
  rfl
end Go.Proofs.Ytdicjemjmlbmlaa.V
/- nat.Sub, as a number. -/
namespace Go.Proofs.Ytdicjemjmlbmlaa.V
set_option linter.unusedVariables false
set_option linter.unusedSimpArgs false
open Go.RowKit Go.Proofs.Ytdicjemjmlbmlaa.PA Go.Proofs.Ytdicjemjmlbmlaa.H Go.Proofs.YtdicjemjmlbmlaaW.PrintWords Go.Proofs.YtdicjemjmlbmlaaW.PrintLast Go.Proofs.YtdicjemjmlbmlaaW.PrintMore

/-! ### differences -/
theorem step_sub {P V A Bv c x y q r : Int} (h : V - P * c = A - Bv) (e : r - 4294967296 * q = x - y - c) : V + P * r - (4294967296 * P) * q = A + P * x - (Bv + P * y) := by grind
theorem sub_l0 (a b : List Int) (ha : Lim a) (hb : Lim b) (hab : val b ≤ val a) (hn : a.length ≤ 1000000000000) (d : Nat) : ∀ (i : Nat) (out : List Int) (c : Int), i + d = a.length → out.length = a.length → Lim out → 0 ≤ c → c ≤ 1 → val (out.take i) - pw i * c = val (a.take i) - val (b.take i) →
    Ev (fun k => nat_Sub.l0 k a b out c (a.length : Int) (i : Int)) (dig (val a - val b), 0) := by
  induction d with
  | zero =>
    intro i out c hi ho hL c0 c1 hv
    obtain rfl : i = a.length := by omega
    refine Ev.step (f := fun _ => some _) (fun k => ?_) (Ev.now _)
    simp only [nat_Sub.l0]
    rw [if_neg (by omega), norm_ev out hL (by omega)]
    simp only [Option.bind_some]
    rw [List.take_of_length_le (by omega), List.take_of_length_le (l := a) (by omega)] at hv
    have hbt : val (b.take a.length) = val b := by
      by_cases hl : b.length ≤ a.length
      · rw [List.take_of_length_le hl]
      · have e := val_take_drop b a.length (by omega)
        have h1 := val_lt ha
        have h2 := val_nonneg (hb.take a.length)
        have h3 := val_nonneg (hb.drop a.length)
        have h4 := pw_pos a.length
        by_cases hz : val (b.drop a.length) = 0
        · rw [hz] at e; omega
        · have : pw a.length * 1 ≤ pw a.length * val (b.drop a.length) := Int.mul_le_mul_of_nonneg_left (by omega) (by omega)
          omega
    rw [hbt] at hv
    have h1 := val_lt hL
    rw [ho] at h1
    have hc : c = 0 := by
      by_cases hc : c = 0
      · exact hc
      · have : c = 1 := by omega
        subst this
        omega
    subst hc
    congr 3
    omega
  | succ d ih =>
    intro i out c hi ho hL c0 c1 hv
    have ga := ha.getD i
    have gb := hb.getD i
    have hio : i < out.length := by omega
    have e1 : IntKind.u64.wrap ((IntKind.u64.wrap (a.getD i 0 - b.getD i 0)) - c) = (a.getD i 0 - b.getD i 0 - c) % 18446744073709551616 := by
      rw [u64e, u64e]; omega
    refine Ev.step (fun k => ?_) (ih (i + 1) (out.set i ((a.getD i 0 - b.getD i 0 - c) % 18446744073709551616 % 4294967296)) ((a.getD i 0 - b.getD i 0 - c) % 18446744073709551616 / 9223372036854775808) (by omega) (by simpa using ho) (hL.set i (by omega) (by omega)) (by omega) (by omega) ?_)
    · simp only [nat_Sub.l0]
      rw [if_pos (by omega), limb_ev a i ha, limb_ev b i hb]
      simp only [Option.bind_some]
      rw [if_pos (by omega), if_pos (by omega), e1, w64 (by omega) (by omega), Int.toNat_natCast]
      rfl
    · rw [val_set_take _ _ _ hio, val_take_getD a, val_take_getD b, pw_succ]
      exact step_sub hv (by omega)
theorem sub_ev (a b : List Int) (ha : Lim a) (hb : Lim b) (hna : a.length < 1000000000) (hnb : b.length < 1000000000) : Ev (fun k => nat_Sub.f k a b) (if val a < val b then ([], 6) else (dig (val a - val b), 0)) := by
  unfold nat_Sub.f
  refine Ev.bind (f := fun k t => _) (cmp_ev a b ha hb (by omega) (by omega)) ?_
  unfold cmpI
  by_cases h : val a < val b
  · rw [if_pos h, if_pos h]
    exact Ev.congr (fun k => by rw [if_pos (by decide)]) (Ev.now _)
  · rw [if_neg h, if_neg h]
    have := sub_l0 a b ha hb (by omega) (by omega) a.length 0 (List.replicate a.length 0) 0 (by omega) (by simp) (Lim.zeros _) (by omega) (by omega) (by simp [val])
    refine Ev.congr (fun k => ?_) this
    rw [if_neg (by split <;> decide), if_pos (by omega), if_pos (by omega)]
    simp only [Option.bind_some, Int.toNat_natCast, List.length_replicate]
    rfl
end Go.Proofs.Ytdicjemjmlbmlaa.V
/- Are two lists the same? -/
namespace Go.Proofs.Ytdicjemjmlbmlaa.V
set_option linter.unusedVariables false
set_option linter.unusedSimpArgs false
open Go.RowKit Go.Proofs.Ytdicjemjmlbmlaa.PA Go.Proofs.Ytdicjemjmlbmlaa.H Go.Proofs.YtdicjemjmlbmlaaW.PrintWords Go.Proofs.YtdicjemjmlbmlaaW.PrintLast Go.Proofs.YtdicjemjmlbmlaaW.PrintMore

/-! ### equality -/
theorem same_l0 (a b : List Int) (hl : a.length = b.length) (hn : a.length ≤ 1000000000) (d : Nat) : ∀ i : Nat, i + d = a.length → a.take i = b.take i → Ev (fun k => gudgeonref01_Same.l0 k a b (i : Int)) (decide (a = b)) := by
  induction d with
  | zero =>
    intro i hi he
    rw [List.take_of_length_le (by omega), List.take_of_length_le (by omega)] at he
    refine Ev.step (f := fun _ => some _) (fun k => ?_) (Ev.now _)
    simp only [gudgeonref01_Same.l0]
    rw [if_neg (by omega), decide_eq_true he]
  | succ d ih =>
    intro i hi he
    have hia : i < a.length := by omega
    have hib : i < b.length := by omega
    by_cases hx : a[i] = b[i]
    · refine Ev.step (fun k => ?_) (ih (i + 1) (by omega) (by rw [List.take_succ_eq_append_getElem hia, List.take_succ_eq_append_getElem hib, he, hx]))
      simp only [gudgeonref01_Same.l0]
      rw [if_pos (by omega), if_pos (by omega), if_pos (by omega), rd_get _ _ hia, rd_get _ _ hib, if_pos hx, w64 (by omega) (by omega)]
      rfl
    · refine Ev.step (f := fun _ => some _) (fun k => ?_) (Ev.now _)
      simp only [gudgeonref01_Same.l0]
      rw [if_pos (by omega), if_pos (by omega), if_pos (by omega), rd_get _ _ hia, rd_get _ _ hib, if_neg hx, decide_eq_false]
      intro h
      subst h
      exact hx rfl
theorem same_ev (a b : List Int) (hn : a.length ≤ 1000000000) : Ev (fun k => gudgeonref01_Same.f k a b) (decide (a = b)) := by
  by_cases hl : a.length = b.length
  · refine Ev.congr (fun k => ?_) (same_l0 a b hl hn a.length 0 (by omega) rfl)
    unfold gudgeonref01_Same.f
    rw [if_pos (by omega)]
    rfl
  · refine Ev.congr (f := fun _ => some _) (fun k => ?_) (Ev.now _)
    unfold gudgeonref01_Same.f
    rw [if_neg (by omega), decide_eq_false]
    intro h
    exact hl (by rw [h])
theorem same_self (a b : List Int) (h : a = b) (hn : a.length ≤ 1000000000) : Ev (fun k => gudgeonref01_Same.f k a b) true := by
  have := same_ev a b hn
  rwa [decide_eq_true h] at this
end Go.Proofs.Ytdicjemjmlbmlaa.V
/- The closure 'signed' of whole.DivMod, in the printed shape: it reads the truths of two captured variables and answers what made answers. -/
namespace Go.Proofs.Ytdicjemjmlbmlaa.H
open Go.RowKit Go.Proofs.YtdicjemjmlbmlaaW.PrintWords Go.Proofs.YtdicjemjmlbmlaaW.PrintLast Go.Proofs.YtdicjemjmlbmlaaW.PrintMore Go.Proofs.Ytdicjemjmlbmlaa.PA
attribute [local go_sem] box_twice
set_option linter.unusedVariables false
set_option linter.unusedSimpArgs false
set_option maxHeartbeats 8000000 in
set_option maxRecDepth 100000 in
theorem whole_DivMod_1.calls (ga gb : Nat) (an bn : Bool) (A1 : Option Addr) (c1 : Nat) (l1 : List Int) (r1 : Bool) (r2 : List Int) (w : World) (hr1 : Kd.C (Kd.int .u32) w A1 l1.length l1) (hc1 : l1.length ≤ c1) (h : whole_made.f (an != bn) l1 = some (r1, r2))
    (ha : w.cell? ⟨ga, 0, none⟩ = some (.bool an)) (hb : w.cell? ⟨gb, 0, none⟩ = some (.bool bn)) :
    Calls Try.prog 73 #[.slice A1 l1.length c1, .pointer (some ⟨ga, 0, none⟩), .pointer (some ⟨gb, 0, none⟩)] w fun e w' => ∃ v1_ : Value, e = .returned (.agg #[.bool r1, v1_]) ∧ Kd.R (Kd.int .u32) 81 w' w.heap.size (fun _ => True) v1_ r2 ∧ Below w.heap.size w w' := by
  have hu24 := Try.underlying24
  have HR1 := Aside0.mk hr1
  have HC1 := Aside0.mk hc1
  have A2 := Aside0.mk (show whole_made.f (!(an == bn)) l1 = some (r1, r2) from h)
  have HB := Aside0.mk (Below.refl w.heap.size w)
  have KA := Aside0.mk ha
  have KB := Aside0.mk hb
  clear hr1 hc1 h
  go_enter Try.func73, Try.ntmps73
  go_wp2_with (first
    | ((with_reducible refine gate_dst (N := 4) rfl ?_); (try (refine gate_guard (by rfl) ?_; dsimp only)); refine box_event ?hg (N := 4) ?hd (cs := #[.bool false, .slice none 0 0]) (t := 24) ?hr ?_; (case hd => rfl); (case hg => rfl); (case hr => first | (go_simp; done) | (go_simp; rfl)); intro g4 hg w3 hbox hb4; have BK := Aside0.mk hbox; have GE := Aside0.mk (show w.heap.size ≤ g4 by omega); have ha := pw_cell_below hb4 KA.out; have hb := pw_cell_below hb4 KB.out; have n_ := Aside0.mk (below_step HB.out hb4); clear HB; have HB := n_; clear n_ hb4 hbox hg)
    | (go_at_call 63; (with_reducible refine (whole_made.calls (!(an == bn)) _ _ l1 r1 r2 _ ?side1 ?side2 A2.out).mono ?_); (case side1 => exact (Kd.C_below HR1.out HB.out)); (case side2 => exact HC1.out); rintro e w7 ⟨v1, rfl, ho0, hb7⟩; have HO := Aside0.mk (Kd.R_lower ho0 (below_size HB.out)); have n1_ := Aside0.mk (blk_below BK.out hb7); clear BK; have BK := n1_; clear n1_; have n_ := Aside0.mk (below_step HB.out hb7); clear HB; have HB := n_; clear n_ hb7 ho0; obtain ⟨Ao, co, eo⟩ := Kd.R_slice HO.out; subst eo; have hcz0 : w7.cell? ⟨g4, 0, none⟩ = some (.bool false) := (blk_cell BK.out 0).trans rfl; have hcz1 : w7.cell? ⟨g4, 1, none⟩ = some (.slice none 0 0) := (blk_cell BK.out 1).trans rfl; have hfz0 := blk_frozen BK.out 0; have hfz1 := blk_frozen BK.out 1))
  refine bodyPost_ret (results_cell_row rfl _ _ g4 24 #[.bool r1, .slice Ao r2.length co] (0, 0) _ rfl (by (with_reducible repeat (first | refine blk_drewN ?_ _ | refine blk_drew ?_ | refine blk_alloc ?_ _)); refine blk_put (cs := #[.bool r1, .slice none 0 0]) ?_ 1 _ rfl; (with_reducible repeat (first | refine blk_drewN ?_ _ | refine blk_drew ?_ | refine blk_alloc ?_ _)); refine blk_put (cs := #[.bool false, .slice none 0 0]) ?_ 0 _ rfl; (with_reducible repeat (first | refine blk_drewN ?_ _ | refine blk_drew ?_ | refine blk_alloc ?_ _)); exact BK.out) Try.underlying24 rfl (by kernel_rfl)) rfl ?_
  exact ⟨_, by first | rfl | (simp [errW_none, errW_some] <;> rfl), by (with_reducible repeat (first | apply Kd.R_alloc | apply Kd.R_drewN | apply Kd.R_drew)); exact Kd.R_mono (Kd.R_far (p := ⟨g4, 1, none⟩) (Kd.R_far (p := ⟨g4, 0, none⟩) (Kd.R_types HO.out BK.out (by decide)) (fun _ hk => hk.2) (.bool r1)) (fun _ hk => hk.2) (.slice Ao r2.length co)) (fun _ hk => trivial), by repeat (first | (with_reducible first | exact HB.out | apply below_alloc | apply pw_below_drewN | apply below_drew1 | refine below_set ?_ GE.out) | exact HB.out)⟩
end Go.Proofs.Ytdicjemjmlbmlaa.H
