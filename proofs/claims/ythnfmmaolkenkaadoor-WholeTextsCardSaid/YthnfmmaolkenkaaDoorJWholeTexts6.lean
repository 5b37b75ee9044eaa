/- Joined by wip/tools/shake.py for the claim of WholeTexts: PAx9, HParse, PAx10, PAx12, PAx13, PAx16, PAx22. -/
import Derived.Test.YthnfmmaolkenkaaDoorJWholeTexts2
import Derived.Test.YthnfmmaolkenkaaDoorJWholeTexts4
import Derived.Lib.Strings
import Derived.Test.YthnfmmaolkenkaaDoorJWholeTexts5
/- Written by a program of this session, wip/tools/patch_print.py, over the kit's print of the loaded functions. -/
namespace Go.Proofs.YthnfmmaolkenkaaDoor.H
end Go.Proofs.YthnfmmaolkenkaaDoor.H
namespace Go.Proofs.YthnfmmaolkenkaaDoor.PA
open Go.RowKit Go.Proofs.YthnfmmaolkenkaaDoorW.PrintWords Go.Proofs.YthnfmmaolkenkaaDoorW.PrintLast Go.Proofs.YthnfmmaolkenkaaDoorW.PrintMore Go.Proofs.YthnfmmaolkenkaaDoor.H
attribute [local go_sem] max2_int min2_int max_two min_two max_three min_three max_four min_four   -- for this text's walks alone
set_option linter.unusedVariables false
set_option linter.unusedSimpArgs false

/-! ### nat_Mul: function 49 -/
mutual
def nat_Mul.l0 : Nat → List Int → List Int → List Int → Int → Int → Option (List Int)
 | 0, _, _, _, _, _ => none
 | k + 1, x1, x5, x16, x17, x18 => if x18 < x17 then (if 0 ≤ x18 then (if x18 < (x16.length : Int) then (nat_Mul.l1 k x1 x5 x18 (rd x16 x18) 0 x16 x17 x18 (x1.length : Int) 0) else (none)) else (none)) else ((nat_Norm.f x5).bind fun t432 => (some t432))
def nat_Mul.l1 : Nat → List Int → List Int → Int → Int → Int → List Int → Int → Int → Int → Int → Option (List Int)
 | 0, _, _, _, _, _, _, _, _, _, _ => none
 | k + 1, x1, x5, x6, x7, x8, x16, x17, x18, x24, x25 => if x25 < x24 then (if 0 ≤ x25 then (if x25 < (x1.length : Int) then (if 0 ≤ (wrap64 (x6 + x25)) then (if (wrap64 (x6 + x25)) < (x5.length : Int) then (nat_Mul.l1 k x1 (x5.set ((wrap64 (x6 + x25)) : Int).toNat ((IntKind.u64.wrap (x8 + (IntKind.u64.wrap ((IntKind.u64.wrap ((IntKind.u64.wrap (x7)) * (IntKind.u64.wrap (rd x1 x25)))) + (IntKind.u64.wrap (rd x5 (wrap64 (x6 + x25)))))))) % 4294967296)) x6 x7 ((IntKind.u64.wrap (x8 + (IntKind.u64.wrap ((IntKind.u64.wrap ((IntKind.u64.wrap (x7)) * (IntKind.u64.wrap (rd x1 x25)))) + (IntKind.u64.wrap (rd x5 (wrap64 (x6 + x25)))))))) / 4294967296) x16 x17 x18 x24 (wrap64 (x25 + 1))) else (none)) else (none)) else (none)) else (none)) else (if 0 ≤ (wrap64 (x6 + (x1.length : Int))) then (if (wrap64 (x6 + (x1.length : Int))) < (x5.length : Int) then (nat_Mul.l0 k x1 (x5.set ((wrap64 (x6 + (x1.length : Int))) : Int).toNat ((x8) % 4294967296)) x16 x17 (wrap64 (x18 + 1))) else (none)) else (none))
end
def nat_Mul.f (k : Nat) (l0 : List Int) (l1 : List Int) : Option (List Int) := if 0 ≤ (wrap64 ((l0.length : Int) + (l1.length : Int))) then (if (wrap64 ((l0.length : Int) + (l1.length : Int)) : Int).toNat ≤ 70368744177664 then (nat_Mul.l0 k l1 (List.replicate (wrap64 ((l0.length : Int) + (l1.length : Int)) : Int).toNat 0) l0 (l0.length : Int) 0) else (none)) else (none)
set_option maxHeartbeats 8000000 in
set_option maxRecDepth 100000 in
theorem nat_Mul.calls (k : Nat) (A0 : Option Addr) (c0 : Nat) (l0 : List Int) (A1 : Option Addr) (c1 : Nat) (l1 : List Int) (r : List Int) (w : World) (hr0 : Kd.C (Kd.int .u32) w A0 l0.length l0) (hc0 : l0.length ≤ c0) (hr1 : Kd.C (Kd.int .u32) w A1 l1.length l1) (hc1 : l1.length ≤ c1) (h : nat_Mul.f k l0 l1 = some r) :
  Calls Tryd.prog 49 #[.slice A0 l0.length c0, .slice A1 l1.length c1] w fun e w' => ∃ v0_ : Value, e = .returned (v0_) ∧ Kd.R (Kd.int .u32) 51 w' w.heap.size (fun _ => True) v0_ r ∧ Below w.heap.size w w' := by
 have HR0 := Aside0.mk hr0
 have HC0 := Aside0.mk hc0
 clear hr0 hc0
 have HR1 := Aside0.mk hr1
 have HC1 := Aside0.mk hc1
 clear hr1 hc1
 have HB := Aside0.mk (Below.refl w.heap.size w)
 have H : (if 0 ≤ (wrap64 ((l0.length : Int) + (l1.length : Int))) then (if (wrap64 ((l0.length : Int) + (l1.length : Int)) : Int).toNat ≤ 70368744177664 then (nat_Mul.l0 k l1 (List.replicate (wrap64 ((l0.length : Int) + (l1.length : Int)) : Int).toNat 0) l0 (l0.length : Int) 0) else (none)) else (none)) = some r := h
 clear h
 obtain ⟨ji3, hji3⟩ : ∃ j_ : Int, (wrap64 ((l0.length : Int) + (l1.length : Int))) = j_ := ⟨_, rfl⟩
 replace H : (if 0 ≤ (ji3) then (if (ji3 : Int).toNat ≤ 70368744177664 then (nat_Mul.l0 k l1 (List.replicate (ji3 : Int).toNat 0) l0 (l0.length : Int) 0) else (none)) else (none)) = some r := by first | (rw [hji3] at H; exact H) | (simp only [hji3] at H ⊢; exact H)
 have hji3w : (IntKind.i64.wrap ((l0.length : Int) + (l1.length : Int))) = ji3 := (i64_w _).trans hji3
 by_cases c4 : 0 ≤ (ji3)
 ·rw [if_pos c4] at H
  have c4b0 := eq_true c4
  have c4b1 : decide (0 ≤ (ji3)) = true := decide_eq_true c4
  clear c4
  by_cases c5 : (ji3 : Int).toNat ≤ 70368744177664
  ·rw [if_pos c5] at H
   have c5b0 := eq_true c5
   have c5b1 : decide ((ji3 : Int).toNat ≤ 70368744177664) = true := decide_eq_true c5
   clear c5
   obtain ⟨y429, hy429⟩ : ∃ y_ : List Int, y_ = (List.replicate (ji3 : Int).toNat 0) := ⟨_, rfl⟩
   replace H : (nat_Mul.l0 k l1 y429 l0 (l0.length : Int) 0) = some r := by first | (rw [hy429]; with_reducible exact H) | (have H2_ := (Option.bind_some _ _).symm.trans H; rw [hy429]; with_reducible exact H2_) | (have H2_ := (Option.bind_some _ _).symm.trans H; with_reducible exact H2_) | with_reducible exact H | (rw [hy429]; exact H) | exact H
   have Ny429 := Aside0.mk hy429
   clear hy429
   have H' := Aside0.mk H
   clear H
   go_enter Tryd.func49, Tryd.ntmps49
   go_wp2_with (first | ((with_reducible refine gate_dst (N := 15) rfl ?_); refine Kd.R_make (Kd.int .u32) _ 51 rfl (N := 15) rfl 22 _ _ rfl ji3 rfl rfl Tryd.underlying22 (.int .u32 0) 4 info51 rfl (by decide) (by omega) 0 (ok := fun _ => True) (okp := fun _ => True) rfl (fun _ hk => hk) trivial (of_decide_eq_true (by first | (with_reducible assumption) | assumption)) (Nat.le_trans (Nat.mul_le_mul_right _ (of_decide_eq_true (by first | (with_reducible assumption) | assumption) : ji3.toNat ≤ 70368744177664)) (by omega)) (Below.refl _ _) (Nat.le_refl _) ?_; intro v430 w6 ho7 hb hg_ hnew_; clear hg_ hnew_; (first | rw [← Ny429.out] at ho7 | (simp only [Int.reduceToNat] at ho7; rw [← Ny429.out] at ho7)); have HO431 := Aside0.mk (Kd.R_lower ho7 (below_size HB.out)); replace HB := Aside0.mk (below_step HB.out hb); clear hb ho7))
   repeat (go_quiet (first | ((with_reducible refine gate_dst (N := 15) rfl ?_); refine Kd.R_make (Kd.int .u32) _ 51 rfl (N := 15) rfl 22 _ _ rfl ji3 rfl rfl Tryd.underlying22 (.int .u32 0) 4 info51 rfl (by decide) (by omega) 0 (ok := fun _ => True) (okp := fun _ => True) rfl (fun _ hk => hk) trivial (of_decide_eq_true (by first | (with_reducible assumption) | assumption)) (Nat.le_trans (Nat.mul_le_mul_right _ (of_decide_eq_true (by first | (with_reducible assumption) | assumption) : ji3.toNat ≤ 70368744177664)) (by omega)) (Below.refl _ _) (Nat.le_refl _) ?_; intro v430 w6 ho7 hb hg_ hnew_; clear hg_ hnew_; (first | rw [← Ny429.out] at ho7 | (simp only [Int.reduceToNat] at ho7; rw [← Ny429.out] at ho7)); have HO431 := Aside0.mk (Kd.R_lower ho7 (below_size HB.out)); replace HB := Aside0.mk (below_step HB.out hb); clear hb ho7)); try go_wp2_with (first | ((with_reducible refine gate_dst (N := 15) rfl ?_); refine Kd.R_make (Kd.int .u32) _ 51 rfl (N := 15) rfl 22 _ _ rfl ji3 rfl rfl Tryd.underlying22 (.int .u32 0) 4 info51 rfl (by decide) (by omega) 0 (ok := fun _ => True) (okp := fun _ => True) rfl (fun _ hk => hk) trivial (of_decide_eq_true (by first | (with_reducible assumption) | assumption)) (Nat.le_trans (Nat.mul_le_mul_right _ (of_decide_eq_true (by first | (with_reducible assumption) | assumption) : ji3.toNat ≤ 70368744177664)) (by omega)) (Below.refl _ _) (Nat.le_refl _) ?_; intro v430 w6 ho7 hb hg_ hnew_; clear hg_ hnew_; (first | rw [← Ny429.out] at ho7 | (simp only [Int.reduceToNat] at ho7; rw [← Ny429.out] at ho7)); have HO431 := Aside0.mk (Kd.R_lower ho7 (below_size HB.out)); replace HB := Aside0.mk (below_step HB.out hb); clear hb ho7)))
   go_loopg [18] k (fun kq v18 w' => ∃ (x5_1 : List Int) (x18_1 : Int), v18 = .int .i64 x18_1 ∧ Aside0 (nat_Mul.l0 kq l1 x5_1 l0 (l0.length : Int) x18_1 = some r) ∧ Aside0 (kq ≤ k) ∧ Aside0 (Kd.R (Kd.int .u32) 51 w' w.heap.size (fun _ => True) v430 x5_1) ∧ Aside0 (Below w.heap.size w w'))
   case atStart => exact ⟨(y429), (0), (by first | rfl | (simp; done) | (simp [*]; done) | (refine congrArg (Value.int _) ?_; omega) | (refine congrArg Value.bool ?_; generalize ByteArray.toList _ = z_; cases z_ <;> rfl)), H', ⟨Nat.le_refl _⟩, ⟨by (with_reducible repeat (first | apply Kd.R_alloc | apply Kd.R_drewN | apply Kd.R_drew)); exact HO431.out⟩, ⟨by repeat (first | (with_reducible first | exact HB.out | apply below_alloc | apply pw_below_drewN | apply below_drew1) | exact HB.out)⟩⟩
   case round =>
    clear H'
    try clear c1
    try clear p2
    try clear c4
    try clear c4b0
    try clear c4b1
    try clear c5
    try clear c5b0
    try clear c5b1
    try clear p6
    obtain ⟨x5_1, x18_1, rfl, HA, HK1, HO_5, HB⟩ := hrel
    cases gk with
    | zero => exact absurd HA.out (by simp [nat_Mul.l0])
    | succ k1 =>
     have H := HA.out
     clear HA
     simp only [nat_Mul.l0] at H
     by_cases c8 : x18_1 < (l0.length : Int)
     ·rw [if_pos c8] at H
      have c8b0 : decide (x18_1 < (l0.length : Int)) = true := decide_eq_true c8
      clear c8
      by_cases c9 : 0 ≤ x18_1
      ·rw [if_pos c9] at H
       have c9b0 : decide (0 ≤ x18_1) = true := decide_eq_true c9
       clear c9
       by_cases c10 : x18_1 < (l0.length : Int)
       ·rw [if_pos c10] at H
        have c10b0 : decide (x18_1 < (l0.length : Int)) = true := decide_eq_true c10
        clear c10
        have H' := Aside0.mk H
        clear H
        have p435 : 0 ≤ (x18_1 : Int) := of_decide_eq_true (by first | (with_reducible assumption) | assumption)
        have q435 : x18_1 < (l0.length : Int) := of_decide_eq_true (by first | (with_reducible assumption) | assumption)
        obtain ⟨ad435, e435, hx435_0⟩ := Kd.at_int HR0.out x18_1 p435 q435
        cases e435
        replace hx435_0 := (HB.out.cell (World.block_lt_of_cell? w _ hx435_0)).trans hx435_0
        replace p435 := eq_true p435
        replace q435 := eq_true q435
        go_wp2
        repeat (go_quiet (fail); try go_wp2)
        go_loopg [8, 25] k1 (fun kq v8 v25 w' => ∃ (x5_2 : List Int) (x8_2 : Int) (x25_2 : Int), v8 = .int .u64 x8_2 ∧ v25 = .int .i64 x25_2 ∧ Aside0 (nat_Mul.l1 kq l1 x5_2 x18_1 (rd l0 x18_1) x8_2 l0 (l0.length : Int) x18_1 (l1.length : Int) x25_2 = some r) ∧ Aside0 (kq ≤ k1) ∧ Aside0 (Kd.R (Kd.int .u32) 51 w' w.heap.size (fun _ => True) v430 x5_2) ∧ Aside0 (Below w.heap.size w w'))
        case atStart => exact ⟨(x5_1), (0), (0), (by first | rfl | (simp; done) | (simp [*]; done) | (refine congrArg (Value.int _) ?_; omega) | (refine congrArg Value.bool ?_; generalize ByteArray.toList _ = z_; cases z_ <;> rfl)), (by first | rfl | (simp; done) | (simp [*]; done) | (refine congrArg (Value.int _) ?_; omega) | (refine congrArg Value.bool ?_; generalize ByteArray.toList _ = z_; cases z_ <;> rfl)), H', ⟨Nat.le_refl _⟩, ⟨by (with_reducible repeat (first | apply Kd.R_alloc | apply Kd.R_drewN | apply Kd.R_drew)); exact HO_5.out⟩, ⟨by repeat (first | (with_reducible first | exact HB.out | apply below_alloc | apply pw_below_drewN | apply below_drew1) | exact HB.out)⟩⟩
        case round =>
         clear H'
         try clear c1
         try clear p2
         try clear c4
         try clear c4b0
         try clear c4b1
         try clear p4
         try clear q4
         try clear hx4
         try clear c5
         try clear c5b0
         try clear c5b1
         try clear p6
         try clear c8
         try clear c8b0
         try clear c9
         try clear c9b0
         try clear c10
         try clear c10b0
         try clear hx435_0
         try clear p2
         try clear p435
         try clear p6
         try clear q435
         obtain ⟨x5_2, x8_2, x25_2, rfl, rfl, HA, HK2, HO_5, HB⟩ := hrel
         cases gk with
         | zero => exact absurd HA.out (by simp [nat_Mul.l1])
         | succ k2 =>
          have H := HA.out
          clear HA
          simp only [nat_Mul.l1] at H
          by_cases c11 : x25_2 < (l1.length : Int)
          ·rw [if_pos c11] at H
           have c11b0 : decide (x25_2 < (l1.length : Int)) = true := decide_eq_true c11
           clear c11
           by_cases c12 : 0 ≤ x25_2
           ·rw [if_pos c12] at H
            have c12b0 : decide (0 ≤ x25_2) = true := decide_eq_true c12
            clear c12
            by_cases c13 : x25_2 < (l1.length : Int)
            ·rw [if_pos c13] at H
             have c13b0 : decide (x25_2 < (l1.length : Int)) = true := decide_eq_true c13
             clear c13
             obtain ⟨ji14, hji14⟩ : ∃ j_ : Int, (wrap64 (x18_1 + x25_2)) = j_ := ⟨_, rfl⟩
             replace H : (if 0 ≤ (ji14) then (if (ji14) < (x5_2.length : Int) then (nat_Mul.l1 k2 l1 (x5_2.set ((ji14) : Int).toNat ((IntKind.u64.wrap (x8_2 + (IntKind.u64.wrap ((IntKind.u64.wrap ((IntKind.u64.wrap ((rd l0 x18_1))) * (IntKind.u64.wrap (rd l1 x25_2)))) + (IntKind.u64.wrap (rd x5_2 (ji14))))))) % 4294967296)) x18_1 (rd l0 x18_1) ((IntKind.u64.wrap (x8_2 + (IntKind.u64.wrap ((IntKind.u64.wrap ((IntKind.u64.wrap ((rd l0 x18_1))) * (IntKind.u64.wrap (rd l1 x25_2)))) + (IntKind.u64.wrap (rd x5_2 (ji14))))))) / 4294967296) l0 (l0.length : Int) x18_1 (l1.length : Int) (wrap64 (x25_2 + 1))) else (none)) else (none)) = some r := by first | (rw [hji14] at H; exact H) | (simp only [hji14] at H ⊢; exact H)
             have hji14w : (IntKind.i64.wrap (x18_1 + x25_2)) = ji14 := (i64_w _).trans hji14
             by_cases c15 : 0 ≤ (ji14)
             ·rw [if_pos c15] at H
              have c15b0 : decide (0 ≤ (ji14)) = true := decide_eq_true c15
              clear c15
              by_cases c16 : (ji14) < (x5_2.length : Int)
              ·rw [if_pos c16] at H
               have c16b0 : decide ((ji14) < (x5_2.length : Int)) = true := decide_eq_true c16
               clear c16
               obtain ⟨y438, hy438⟩ : ∃ y_ : List Int, y_ = (x5_2.set ((ji14) : Int).toNat ((IntKind.u64.wrap (x8_2 + (IntKind.u64.wrap ((IntKind.u64.wrap ((IntKind.u64.wrap ((rd l0 x18_1))) * (IntKind.u64.wrap (rd l1 x25_2)))) + (IntKind.u64.wrap (rd x5_2 (ji14))))))) % 4294967296)) := ⟨_, rfl⟩
               replace H : (nat_Mul.l1 k2 l1 y438 x18_1 (rd l0 x18_1) ((IntKind.u64.wrap (x8_2 + (IntKind.u64.wrap ((IntKind.u64.wrap ((IntKind.u64.wrap ((rd l0 x18_1))) * (IntKind.u64.wrap (rd l1 x25_2)))) + (IntKind.u64.wrap (rd x5_2 (ji14))))))) / 4294967296) l0 (l0.length : Int) x18_1 (l1.length : Int) (wrap64 (x25_2 + 1))) = some r := by first | (rw [hy438]; with_reducible exact H) | (have H2_ := (Option.bind_some _ _).symm.trans H; rw [hy438]; with_reducible exact H2_) | (have H2_ := (Option.bind_some _ _).symm.trans H; with_reducible exact H2_) | with_reducible exact H | (rw [hy438]; exact H) | exact H
               have Ny438 := Aside0.mk hy438
               clear hy438
               have H' := Aside0.mk H
               clear H
               have p436 : 0 ≤ (x25_2 : Int) := of_decide_eq_true (by first | (with_reducible assumption) | assumption)
               have q436 : x25_2 < (l1.length : Int) := of_decide_eq_true (by first | (with_reducible assumption) | assumption)
               obtain ⟨ad436, e436, hx436_0⟩ := Kd.at_int HR1.out x25_2 p436 q436
               cases e436
               replace hx436_0 := (HB.out.cell (World.block_lt_of_cell? w _ hx436_0)).trans hx436_0
               replace p436 := eq_true p436
               replace q436 := eq_true q436
               obtain ⟨Ao18, co18, eo18⟩ := Kd.R_slice HO_5.out
               subst eo18
               have p437 : 0 ≤ ((ji14) : Int) := of_decide_eq_true (by first | (with_reducible assumption) | assumption)
               have q437 : (ji14) < (x5_2.length : Int) := of_decide_eq_true (by first | (with_reducible assumption) | assumption)
               obtain ⟨ad437, e437, hx437_0⟩ := Kd.at_int (Kd.R_reads' HO_5.out).2.2 (ji14) p437 q437
               cases e437
               replace p437 := eq_true p437
               replace q437 := eq_true q437
               have p17 : 0 ≤ ((ji14) : Int) := of_decide_eq_true (by first | (with_reducible assumption) | assumption)
               have q17 : ((ji14) : Int) < ((x5_2.length : Int) : Int) := of_decide_eq_true (by first | (with_reducible assumption) | assumption)
               obtain ⟨go17, co17, eo17, gb17, gl17, cl17, HG17⟩ := Kd.R_form HO_5.out (by omega)
               (first | cases eo17 | (injection eo17 with ea_ en_ ec_; (first | subst ea_ | (injection ea_ with ea_; subst ea_)); subst ec_; clear en_))
               have GB17 := Aside0.mk gb17
               have GG17 := Aside0.mk HG17
               clear gb17 gl17 HG17
               (first | simp only [add_plain] at hx437_0 | skip)
               obtain ⟨hx17_0, hf17_0⟩ := Kd.R_celln 0 HO_5.out ((ji14) : Int) p17 q17
               replace p17 := eq_true p17
               replace q17 := eq_true q17
               have HP19 := Kd.R_putg HO_5.out ((ji14) : Int) ((IntKind.u64.wrap (x8_2 + (IntKind.u64.wrap ((IntKind.u64.wrap ((IntKind.u64.wrap ((rd l0 x18_1))) * (IntKind.u64.wrap (rd l1 x25_2)))) + (IntKind.u64.wrap (rd x5_2 (ji14))))))) % 4294967296)
               go_wp2_with (first | ((with_reducible refine gate_store (t := 51) (p := 52) rfl ?_); (try (rw [drewN_self wr]; generalize hq_ : World.drewN wr _ = wr; have n0_ := Aside0.mk (Kd.R_at hq_ HO_5.out); have n1_ := Aside0.mk (below_at hq_ HB.out); clear hq_ HO_5 HB; have HO_5 := n0_; have HB := n1_; clear n0_ n1_; (try (obtain ⟨hx17_0, hf17_0⟩ := Kd.R_celln 0 HO_5.out ((ji14) : Int) (of_eq_true p17) (of_eq_true q17))); (try (have HP19 := Kd.R_putg HO_5.out ((ji14) : Int) ((IntKind.u64.wrap (x8_2 + (IntKind.u64.wrap ((IntKind.u64.wrap ((IntKind.u64.wrap ((rd l0 x18_1))) * (IntKind.u64.wrap (rd l1 x25_2)))) + (IntKind.u64.wrap (rd x5_2 (ji14))))))) % 4294967296))))); refine store_event (t := 51) (p := 52) (v := ?vo_w20) (w1 := (wr.setCell ⟨go17, ((ji14) : Int).toNat, none⟩ (.int .u32 ((IntKind.u64.wrap (x8_2 + (IntKind.u64.wrap ((IntKind.u64.wrap ((IntKind.u64.wrap ((rd l0 x18_1))) * (IntKind.u64.wrap (rd l1 x25_2)))) + (IntKind.u64.wrap (rd x5_2 (ji14))))))) % 4294967296)))) ?hg ?ho ?hn ?hr ?_; (case ho => rfl); (case hg => rfl); (case hn => rfl); (case hr => first | (go_simp; done) | (go_simp; rfl)); intro w20 hw; have hg : wr.grownBy w20 (some go17) := (by rw [hw]; exact HP19.2); have hp_ : Kd.R (Kd.int .u32) 51 w20 w.heap.size (fun _ => True) (.slice (some ⟨go17, 0, none⟩) x5_2.length co18) y438 := (by rw [hw, Ny438.out]; exact HP19.1); clear HP19; replace HO_5 := Aside0.mk (hp_); replace HB := Aside0.mk ((by rw [hw]; exact below_set (HB.out) GB17.out : Below w.heap.size w w20)); clear hg hw hp_))
               repeat (go_quiet (first | ((with_reducible refine gate_store (t := 51) (p := 52) rfl ?_); (try (rw [drewN_self wr]; generalize hq_ : World.drewN wr _ = wr; have n0_ := Aside0.mk (Kd.R_at hq_ HO_5.out); have n1_ := Aside0.mk (below_at hq_ HB.out); clear hq_ HO_5 HB; have HO_5 := n0_; have HB := n1_; clear n0_ n1_; (try (obtain ⟨hx17_0, hf17_0⟩ := Kd.R_celln 0 HO_5.out ((ji14) : Int) (of_eq_true p17) (of_eq_true q17))); (try (have HP19 := Kd.R_putg HO_5.out ((ji14) : Int) ((IntKind.u64.wrap (x8_2 + (IntKind.u64.wrap ((IntKind.u64.wrap ((IntKind.u64.wrap ((rd l0 x18_1))) * (IntKind.u64.wrap (rd l1 x25_2)))) + (IntKind.u64.wrap (rd x5_2 (ji14))))))) % 4294967296))))); refine store_event (t := 51) (p := 52) (v := ?vo_w20) (w1 := (wr.setCell ⟨go17, ((ji14) : Int).toNat, none⟩ (.int .u32 ((IntKind.u64.wrap (x8_2 + (IntKind.u64.wrap ((IntKind.u64.wrap ((IntKind.u64.wrap ((rd l0 x18_1))) * (IntKind.u64.wrap (rd l1 x25_2)))) + (IntKind.u64.wrap (rd x5_2 (ji14))))))) % 4294967296)))) ?hg ?ho ?hn ?hr ?_; (case ho => rfl); (case hg => rfl); (case hn => rfl); (case hr => first | (go_simp; done) | (go_simp; rfl)); intro w20 hw; have hg : wr.grownBy w20 (some go17) := (by rw [hw]; exact HP19.2); have hp_ : Kd.R (Kd.int .u32) 51 w20 w.heap.size (fun _ => True) (.slice (some ⟨go17, 0, none⟩) x5_2.length co18) y438 := (by rw [hw, Ny438.out]; exact HP19.1); clear HP19; replace HO_5 := Aside0.mk (hp_); replace HB := Aside0.mk ((by rw [hw]; exact below_set (HB.out) GB17.out : Below w.heap.size w w20)); clear hg hw hp_)); try go_wp2_with (first | ((with_reducible refine gate_store (t := 51) (p := 52) rfl ?_); (try (rw [drewN_self wr]; generalize hq_ : World.drewN wr _ = wr; have n0_ := Aside0.mk (Kd.R_at hq_ HO_5.out); have n1_ := Aside0.mk (below_at hq_ HB.out); clear hq_ HO_5 HB; have HO_5 := n0_; have HB := n1_; clear n0_ n1_; (try (obtain ⟨hx17_0, hf17_0⟩ := Kd.R_celln 0 HO_5.out ((ji14) : Int) (of_eq_true p17) (of_eq_true q17))); (try (have HP19 := Kd.R_putg HO_5.out ((ji14) : Int) ((IntKind.u64.wrap (x8_2 + (IntKind.u64.wrap ((IntKind.u64.wrap ((IntKind.u64.wrap ((rd l0 x18_1))) * (IntKind.u64.wrap (rd l1 x25_2)))) + (IntKind.u64.wrap (rd x5_2 (ji14))))))) % 4294967296))))); refine store_event (t := 51) (p := 52) (v := ?vo_w20) (w1 := (wr.setCell ⟨go17, ((ji14) : Int).toNat, none⟩ (.int .u32 ((IntKind.u64.wrap (x8_2 + (IntKind.u64.wrap ((IntKind.u64.wrap ((IntKind.u64.wrap ((rd l0 x18_1))) * (IntKind.u64.wrap (rd l1 x25_2)))) + (IntKind.u64.wrap (rd x5_2 (ji14))))))) % 4294967296)))) ?hg ?ho ?hn ?hr ?_; (case ho => rfl); (case hg => rfl); (case hn => rfl); (case hr => first | (go_simp; done) | (go_simp; rfl)); intro w20 hw; have hg : wr.grownBy w20 (some go17) := (by rw [hw]; exact HP19.2); have hp_ : Kd.R (Kd.int .u32) 51 w20 w.heap.size (fun _ => True) (.slice (some ⟨go17, 0, none⟩) x5_2.length co18) y438 := (by rw [hw, Ny438.out]; exact HP19.1); clear HP19; replace HO_5 := Aside0.mk (hp_); replace HB := Aside0.mk ((by rw [hw]; exact below_set (HB.out) GB17.out : Below w.heap.size w w20)); clear hg hw hp_)))
               go_roundg k2
               case measure => have := HK1.out; have := HK2.out; omega
               case rel => exact ⟨(y438), ((IntKind.u64.wrap (x8_2 + (IntKind.u64.wrap ((IntKind.u64.wrap ((IntKind.u64.wrap ((rd l0 x18_1))) * (IntKind.u64.wrap (rd l1 x25_2)))) + (IntKind.u64.wrap (rd x5_2 (ji14))))))) / 4294967296), (wrap64 (x25_2 + 1)), (by first | rfl | (simp; done) | (simp only [← hji14] <;> (first | rfl | simp)) | (simp [*]; done)), (by first | rfl | (simp; done) | (simp [*]; done) | (refine congrArg (Value.int _) ?_; omega) | (refine congrArg Value.bool ?_; generalize ByteArray.toList _ = z_; cases z_ <;> rfl)), H', ⟨by have := HK1.out; have := HK2.out; omega⟩, ⟨by (with_reducible repeat (first | apply Kd.R_alloc | apply Kd.R_drewN | apply Kd.R_drew)); exact HO_5.out⟩, ⟨by repeat (first | (with_reducible first | exact HB.out | apply below_alloc | apply pw_below_drewN | apply below_drew1) | exact HB.out)⟩⟩
              ·rw [if_neg c16] at H
               exact absurd H (by simp)
             ·rw [if_neg c15] at H
              exact absurd H (by simp)
            ·rw [if_neg c13] at H
             exact absurd H (by simp)
           ·rw [if_neg c12] at H
            exact absurd H (by simp)
          ·rw [if_neg c11] at H
           have c11b0 : decide (x25_2 < (l1.length : Int)) = false := decide_eq_false c11
           clear c11
           obtain ⟨ji21, hji21⟩ : ∃ j_ : Int, (wrap64 (x18_1 + (l1.length : Int))) = j_ := ⟨_, rfl⟩
           replace H : (if 0 ≤ (ji21) then (if (ji21) < (x5_2.length : Int) then (nat_Mul.l0 k2 l1 (x5_2.set ((ji21) : Int).toNat ((x8_2) % 4294967296)) l0 (l0.length : Int) (wrap64 (x18_1 + 1))) else (none)) else (none)) = some r := by first | (rw [hji21] at H; exact H) | (simp only [hji21] at H ⊢; exact H)
           have hji21w : (IntKind.i64.wrap (x18_1 + (l1.length : Int))) = ji21 := (i64_w _).trans hji21
           by_cases c22 : 0 ≤ (ji21)
           ·rw [if_pos c22] at H
            have c22b0 : decide (0 ≤ (ji21)) = true := decide_eq_true c22
            clear c22
            by_cases c23 : (ji21) < (x5_2.length : Int)
            ·rw [if_pos c23] at H
             have c23b0 : decide ((ji21) < (x5_2.length : Int)) = true := decide_eq_true c23
             clear c23
             obtain ⟨y439, hy439⟩ : ∃ y_ : List Int, y_ = (x5_2.set ((ji21) : Int).toNat ((x8_2) % 4294967296)) := ⟨_, rfl⟩
             replace H : (nat_Mul.l0 k2 l1 y439 l0 (l0.length : Int) (wrap64 (x18_1 + 1))) = some r := by first | (rw [hy439]; with_reducible exact H) | (have H2_ := (Option.bind_some _ _).symm.trans H; rw [hy439]; with_reducible exact H2_) | (have H2_ := (Option.bind_some _ _).symm.trans H; with_reducible exact H2_) | with_reducible exact H | (rw [hy439]; exact H) | exact H
             have Ny439 := Aside0.mk hy439
             clear hy439
             have H' := Aside0.mk H
             clear H
             have p24 : 0 ≤ ((ji21) : Int) := of_decide_eq_true (by first | (with_reducible assumption) | assumption)
             have q24 : ((ji21) : Int) < ((x5_2.length : Int) : Int) := of_decide_eq_true (by first | (with_reducible assumption) | assumption)
             obtain ⟨go24, co24, eo24, gb24, gl24, cl24, HG24⟩ := Kd.R_form HO_5.out (by omega)
             (first | cases eo24 | (injection eo24 with ea_ en_ ec_; (first | subst ea_ | (injection ea_ with ea_; subst ea_)); subst ec_; clear en_))
             have GB24 := Aside0.mk gb24
             have GG24 := Aside0.mk HG24
             clear gb24 gl24 HG24
             obtain ⟨hx24_0, hf24_0⟩ := Kd.R_celln 0 HO_5.out ((ji21) : Int) p24 q24
             replace p24 := eq_true p24
             replace q24 := eq_true q24
             have HP25 := Kd.R_putg HO_5.out ((ji21) : Int) ((x8_2) % 4294967296)
             go_wp2_with (first | ((with_reducible refine gate_store (t := 51) (p := 63) rfl ?_); (try (rw [drewN_self wr]; generalize hq_ : World.drewN wr _ = wr; have n0_ := Aside0.mk (Kd.R_at hq_ HO_5.out); have n1_ := Aside0.mk (below_at hq_ HB.out); clear hq_ HO_5 HB; have HO_5 := n0_; have HB := n1_; clear n0_ n1_; (try (obtain ⟨hx24_0, hf24_0⟩ := Kd.R_celln 0 HO_5.out ((ji21) : Int) (of_eq_true p24) (of_eq_true q24))); (try (have HP25 := Kd.R_putg HO_5.out ((ji21) : Int) ((x8_2) % 4294967296))))); refine store_event (t := 51) (p := 63) (v := ?vo_w26) (w1 := (wr.setCell ⟨go24, ((ji21) : Int).toNat, none⟩ (.int .u32 ((x8_2) % 4294967296)))) ?hg ?ho ?hn ?hr ?_; (case ho => rfl); (case hg => rfl); (case hn => rfl); (case hr => first | (go_simp; done) | (go_simp; rfl)); intro w26 hw; have hg : wr.grownBy w26 (some go24) := (by rw [hw]; exact HP25.2); have hp_ : Kd.R (Kd.int .u32) 51 w26 w.heap.size (fun _ => True) (.slice (some ⟨go24, 0, none⟩) x5_2.length co24) y439 := (by rw [hw, Ny439.out]; exact HP25.1); clear HP25; replace HO_5 := Aside0.mk (hp_); replace HB := Aside0.mk ((by rw [hw]; exact below_set (HB.out) GB24.out : Below w.heap.size w w26)); clear hg hw hp_))
             repeat (go_quiet (first | ((with_reducible refine gate_store (t := 51) (p := 63) rfl ?_); (try (rw [drewN_self wr]; generalize hq_ : World.drewN wr _ = wr; have n0_ := Aside0.mk (Kd.R_at hq_ HO_5.out); have n1_ := Aside0.mk (below_at hq_ HB.out); clear hq_ HO_5 HB; have HO_5 := n0_; have HB := n1_; clear n0_ n1_; (try (obtain ⟨hx24_0, hf24_0⟩ := Kd.R_celln 0 HO_5.out ((ji21) : Int) (of_eq_true p24) (of_eq_true q24))); (try (have HP25 := Kd.R_putg HO_5.out ((ji21) : Int) ((x8_2) % 4294967296))))); refine store_event (t := 51) (p := 63) (v := ?vo_w26) (w1 := (wr.setCell ⟨go24, ((ji21) : Int).toNat, none⟩ (.int .u32 ((x8_2) % 4294967296)))) ?hg ?ho ?hn ?hr ?_; (case ho => rfl); (case hg => rfl); (case hn => rfl); (case hr => first | (go_simp; done) | (go_simp; rfl)); intro w26 hw; have hg : wr.grownBy w26 (some go24) := (by rw [hw]; exact HP25.2); have hp_ : Kd.R (Kd.int .u32) 51 w26 w.heap.size (fun _ => True) (.slice (some ⟨go24, 0, none⟩) x5_2.length co24) y439 := (by rw [hw, Ny439.out]; exact HP25.1); clear HP25; replace HO_5 := Aside0.mk (hp_); replace HB := Aside0.mk ((by rw [hw]; exact below_set (HB.out) GB24.out : Below w.heap.size w w26)); clear hg hw hp_)); try go_wp2_with (first | ((with_reducible refine gate_store (t := 51) (p := 63) rfl ?_); (try (rw [drewN_self wr]; generalize hq_ : World.drewN wr _ = wr; have n0_ := Aside0.mk (Kd.R_at hq_ HO_5.out); have n1_ := Aside0.mk (below_at hq_ HB.out); clear hq_ HO_5 HB; have HO_5 := n0_; have HB := n1_; clear n0_ n1_; (try (obtain ⟨hx24_0, hf24_0⟩ := Kd.R_celln 0 HO_5.out ((ji21) : Int) (of_eq_true p24) (of_eq_true q24))); (try (have HP25 := Kd.R_putg HO_5.out ((ji21) : Int) ((x8_2) % 4294967296))))); refine store_event (t := 51) (p := 63) (v := ?vo_w26) (w1 := (wr.setCell ⟨go24, ((ji21) : Int).toNat, none⟩ (.int .u32 ((x8_2) % 4294967296)))) ?hg ?ho ?hn ?hr ?_; (case ho => rfl); (case hg => rfl); (case hn => rfl); (case hr => first | (go_simp; done) | (go_simp; rfl)); intro w26 hw; have hg : wr.grownBy w26 (some go24) := (by rw [hw]; exact HP25.2); have hp_ : Kd.R (Kd.int .u32) 51 w26 w.heap.size (fun _ => True) (.slice (some ⟨go24, 0, none⟩) x5_2.length co24) y439 := (by rw [hw, Ny439.out]; exact HP25.1); clear HP25; replace HO_5 := Aside0.mk (hp_); replace HB := Aside0.mk ((by rw [hw]; exact below_set (HB.out) GB24.out : Below w.heap.size w w26)); clear hg hw hp_)))
             go_roundg k2
             case measure => have := HK1.out; have := HK2.out; omega
             case rel => exact ⟨(y439), (wrap64 (x18_1 + 1)), (by first | rfl | (simp; done) | (simp [*]; done) | (refine congrArg (Value.int _) ?_; omega) | (refine congrArg Value.bool ?_; generalize ByteArray.toList _ = z_; cases z_ <;> rfl)), H', ⟨by have := HK1.out; have := HK2.out; omega⟩, ⟨by (with_reducible repeat (first | apply Kd.R_alloc | apply Kd.R_drewN | apply Kd.R_drew)); exact HO_5.out⟩, ⟨by repeat (first | (with_reducible first | exact HB.out | apply below_alloc | apply pw_below_drewN | apply below_drew1) | exact HB.out)⟩⟩
            ·rw [if_neg c23] at H
             exact absurd H (by simp)
           ·rw [if_neg c22] at H
            exact absurd H (by simp)
       ·rw [if_neg c10] at H
        exact absurd H (by simp)
      ·rw [if_neg c9] at H
       exact absurd H (by simp)
     ·rw [if_neg c8] at H
      have c8b0 : decide (x18_1 < (l0.length : Int)) = false := decide_eq_false c8
      clear c8
      replace H := Option.bind_eq_some_iff.mp H
      obtain ⟨t432, A270, H⟩ := H
      replace H : (some t432) = some r := H
      have A27 := Aside0.mk A270
      clear A270
      obtain rfl := Option.some.inj H
      obtain ⟨Ao28, co28, eo28⟩ := Kd.R_slice HO_5.out
      subst eo28
      go_wp2_with (first | (go_at_call 60; (with_reducible refine (nat_Norm.calls _ _ x5_1 t432 _ ?side1 ?side2 A27.out).mono ?_); (case side1 => exact (Kd.R_reads' HO_5.out).2.2); (case side2 => exact (Kd.R_reads' HO_5.out).2.1); rintro e w29 ⟨v433, rfl, ho0, hb⟩; have n0_ := Aside0.mk (Kd.R_elder' HO_5.out (Kd.R_base ho0) hb); have n1_ := Aside0.mk (Kd.R_lower (Kd.R_new' ho0 (Kd.R_lt HO_5.out)) (below_size HB.out)); have n2_ := Aside0.mk (below_step HB.out hb); clear HO_5; clear HB; have HO_5 := n0_; have HO434 := n1_; have HB := n2_; clear n0_ n1_ n2_))
      repeat (go_quiet (first | (go_at_call 60; (with_reducible refine (nat_Norm.calls _ _ x5_1 t432 _ ?side1 ?side2 A27.out).mono ?_); (case side1 => exact (Kd.R_reads' HO_5.out).2.2); (case side2 => exact (Kd.R_reads' HO_5.out).2.1); rintro e w29 ⟨v433, rfl, ho0, hb⟩; have n0_ := Aside0.mk (Kd.R_elder' HO_5.out (Kd.R_base ho0) hb); have n1_ := Aside0.mk (Kd.R_lower (Kd.R_new' ho0 (Kd.R_lt HO_5.out)) (below_size HB.out)); have n2_ := Aside0.mk (below_step HB.out hb); clear HO_5; clear HB; have HO_5 := n0_; have HO434 := n1_; have HB := n2_; clear n0_ n1_ n2_)); try go_wp2_with (first | (go_at_call 60; (with_reducible refine (nat_Norm.calls _ _ x5_1 t432 _ ?side1 ?side2 A27.out).mono ?_); (case side1 => exact (Kd.R_reads' HO_5.out).2.2); (case side2 => exact (Kd.R_reads' HO_5.out).2.1); rintro e w29 ⟨v433, rfl, ho0, hb⟩; have n0_ := Aside0.mk (Kd.R_elder' HO_5.out (Kd.R_base ho0) hb); have n1_ := Aside0.mk (Kd.R_lower (Kd.R_new' ho0 (Kd.R_lt HO_5.out)) (below_size HB.out)); have n2_ := Aside0.mk (below_step HB.out hb); clear HO_5; clear HB; have HO_5 := n0_; have HO434 := n1_; have HB := n2_; clear n0_ n1_ n2_)))
      go_ret
      exact ⟨_, by first | rfl | (simp [errW_none, errW_some] <;> rfl) | (simp only [← hji3]; first | rfl | (simp [errW_none, errW_some] <;> rfl)) | (simp [*, errW_none, errW_some] <;> rfl), by (with_reducible repeat (first | apply Kd.R_alloc | apply Kd.R_drewN | apply Kd.R_drew)); exact Kd.R_mono HO434.out (fun _ hk => trivial), by repeat (first | (with_reducible first | exact HB.out | apply below_alloc | apply pw_below_drewN | apply below_drew1) | exact HB.out)⟩
  ·rw [if_neg c5] at H
   exact absurd H (by simp)
 ·rw [if_neg c4] at H
  exact absurd H (by simp)

end Go.Proofs.YthnfmmaolkenkaaDoor.PA
/- nat.Parse, in the printed shape: the number of a text's digits. -/
namespace Go.Proofs.YthnfmmaolkenkaaDoor.H
open Go.RowKit Go.Proofs.YthnfmmaolkenkaaDoorW.PrintWords Go.Proofs.YthnfmmaolkenkaaDoorW.PrintLast Go.Proofs.YthnfmmaolkenkaaDoor.PA

/-- The loop over the text's bytes. -/
def nat_Parse.l0 : Nat → ByteArray → List Int → Int → Option (List Int × Int)
  | 0, _, _, _ => none
  | k + 1, s, a, i => if i < (s.size : Int) then (if bt s i < 48 then some ([], 8) else if bt s i > 57 then some ([], 8) else (nat_Mul.f k a [10]).bind fun m => (nat_Add.f k m [bt s i - 48]).bind fun t => nat_Parse.l0 k s t (i + 1)) else (nat_Norm.f a).bind fun t => some (t, 0)
def nat_Parse.f (k : Nat) (s : ByteArray) : Option (List Int × Int) := if s.toList = ([] : List UInt8) then some ([], 8) else if (s.size : Int) > 2000 then some ([], 8) else if bt s 0 = 48 ∧ ¬ s.toList = ([48] : List UInt8) then some ([], 8) else nat_Parse.l0 k s [] 0
theorem below_frozen {b : Nat} {W0 W : World} (h : Below b W0 W) {p : Addr} (hp : b ≤ p.block) (n : Nat) : Below b W0 (W.freeze p n) := by
  by_cases hn : n = 0
  · simp only [World.freeze, hn, if_true]; exact h
  · refine ⟨?_, ?_, ?_, ?_, fun i hi => ?_⟩
    · simp only [World.freeze, hn, if_false]; exact h.os
    · simp only [World.freeze, hn, if_false]; exact h.tape
    · simp only [World.freeze, hn, if_false]; exact h.output
    · have := h.size
      simp only [World.freeze, hn, if_false, Array.size_modify]
      exact this
    · have := h.block i hi
      simp only [World.freeze, hn, if_false]
      rw [Array.getElem?_modify, if_neg (by omega)]
      exact this
theorem conv_run (W : World) (s : ByteArray) : (convert 9 77 (.string s)).run Tryd.prog W = .ok (.slice (some ⟨W.heap.size, 0, none⟩) s.size (grownCap W s.size 0 5)) (Lib.bytesWorld W 5 s) :=
  Lib.run_convert_string_bytes W 9 77 5 s Tryd.underlying9 Tryd.underlying77 Tryd.underlying5
theorem bytesWorld_below {W0 W : World} {b : Nat} (h : Below b W0 W) (hb : b ≤ W.heap.size) (e : TypeId) (s : ByteArray) : Below b W0 (Lib.bytesWorld W e s) := by
  unfold Lib.bytesWorld
  exact below_frozen ((below_drew1 h).alloc (by simpa using hb) _) (by simpa using hb) _
theorem bytesWorld_C (W : World) (s : ByteArray) (h : s.size ≤ 2000) : Kd.C (Kd.int .u8) (Lib.bytesWorld W 5 s) (some ⟨W.heap.size, 0, none⟩) (bytesOf s).length (bytesOf s) := by
  refine ⟨rfl, by rw [bytesOf_length]; omega, fun _ => ⟨_, rfl, fun j p hp => ⟨[.int .u8 p], rfl, rfl, fun i u hu => ?_⟩⟩⟩
  have hi0 : i = 0 := by
    rcases i with _ | i
    · rfl
    · simp at hu
  subst hi0
  have hu' : Value.int .u8 p = u := by simpa using hu
  subst hu'
  obtain ⟨hj, rfl⟩ := List.getElem?_eq_some_iff.1 hp
  have hjs : j < s.size := by rw [← bytesOf_length]; exact hj
  have e : (⟨W.heap.size, 0, none⟩ : Addr).add (j * (Kd.int .u8).sz + 0) = ⟨W.heap.size, j, none⟩ := by
    rw [add_plain]; simp [Kd.int, Kd.scalar]
  rw [e, Lib.bytesWorld_cell W _ s j hjs]
  simp [bytesOf, List.getD_eq_getElem?_getD, hjs]
set_option maxHeartbeats 4000000 in
set_option maxRecDepth 100000 in
theorem nat_Parse.calls (k : Nat) (a0 : ByteArray) (r1 : List Int) (r2 : Int) (w : World) (h : nat_Parse.f k a0 = some (r1, r2)) :
    Calls Tryd.prog 52 #[.string a0] w fun e w' => ∃ v0_ : Value, e = .returned (.tuple #[v0_, .int .i64 r2]) ∧ Kd.R (Kd.int .u32) 51 w' w.heap.size (fun _ => True) v0_ r1 ∧ Below w.heap.size w w' := by
  have HB := Aside0.mk (Below.refl w.heap.size w)
  unfold nat_Parse.f at h
  by_cases c3 : a0.toList = ([] : List UInt8)
  · rw [if_pos c3] at h
    obtain ⟨rfl, rfl⟩ := Prod.mk.inj (Option.some.inj h)
    have c3b0 : (a0.toList == ([] : List UInt8)) = true := beq_iff_eq.mpr c3
    clear c3
    go_enter Tryd.func52, Tryd.ntmps52
    go_wp2
    go_ret2
    exact ⟨_, rfl, Kd.R_nil _ _ _ _ _, HB.out⟩
  · rw [if_neg c3] at h
    have hs0 : a0.size ≠ 0 := by
      intro e
      apply c3
      rw [Lib.toList_data]
      exact List.eq_nil_of_length_eq_zero (by rw [data_length]; exact e)
    have c3b0 : (a0.toList == ([] : List UInt8)) = false := beq_eq_false_iff_ne.mpr c3
    clear c3
    by_cases c4 : (a0.size : Int) > 2000
    · rw [if_pos c4] at h
      obtain ⟨rfl, rfl⟩ := Prod.mk.inj (Option.some.inj h)
      have c4b0 : decide (2000 < (a0.size : Int)) = true := decide_eq_true c4
      have c4b1 : decide (2000 < a0.size) = true := decide_eq_true (by omega)
      clear c4 hs0
      go_enter Tryd.func52, Tryd.ntmps52
      go_wp2
      go_ret2
      exact ⟨_, rfl, Kd.R_nil _ _ _ _ _, HB.out⟩
    · rw [if_neg c4] at h
      have hsz : a0.size ≤ 2000 := by omega
      have c4b0 : decide (2000 < (a0.size : Int)) = false := decide_eq_false c4
      have c4b1 : decide (2000 < a0.size) = false := decide_eq_false (by omega)
      clear c4
      have q6 : (0 < a0.size) = True := eq_true (by omega)
      have qi6 : (0 < (a0.size : Int)) = True := eq_true (by omega)
      have hx6 : ∀ h : 0 < a0.size, ((a0[0]'h).toNat : Int) = bt a0 0 := bt_at a0 0
      clear hs0
      by_cases c5 : bt a0 0 = 48 ∧ ¬ a0.toList = ([48] : List UInt8)
      · rw [if_pos c5] at h
        obtain ⟨rfl, rfl⟩ := Prod.mk.inj (Option.some.inj h)
        have c5b0 : ((bt a0 0) == 48) = true := beq_iff_eq.mpr c5.1
        have c5b1 : (a0.toList != ([48] : List UInt8)) = true := bne_iff_ne.mpr c5.2
        have c5b2 : (a0.toList == ([48] : List UInt8)) = false := beq_eq_false_iff_ne.mpr c5.2
        clear c5 hsz
        go_enter Tryd.func52, Tryd.ntmps52
        go_wp2
        go_ret2
        exact ⟨_, rfl, Kd.R_nil _ _ _ _ _, HB.out⟩
      · rw [if_neg c5] at h
        have H' := Aside0.mk h
        have HSZ := Aside0.mk hsz
        clear h hsz
        have c5c : (bt a0 0 == 48) = false ∨ ((bt a0 0 == 48) = true ∧ (a0.toList == ([48] : List UInt8)) = true ∧ (a0.toList != ([48] : List UInt8)) = false) := by
          by_cases z : bt a0 0 = 48
          · right
            have z2 : a0.toList = ([48] : List UInt8) := by
              by_cases z2 : a0.toList = ([48] : List UInt8)
              · exact z2
              · exact absurd ⟨z, z2⟩ c5
            exact ⟨beq_iff_eq.mpr z, beq_iff_eq.mpr z2, bne_eq_false_iff_eq.mpr z2⟩
          · left; exact beq_eq_false_iff_ne.mpr z
        clear c5
        have hcv := conv_run w a0
        rcases c5c with c5b | ⟨c5b, c5d, c5e⟩
        all_goals
          go_enter Tryd.func52, Tryd.ntmps52
          go_wp2
          clear hcv
          have HC := Aside0.mk (bytesWorld_C w a0 HSZ.out)
          have HB1 := Aside0.mk (bytesWorld_below HB.out (Nat.le_refl _) 5 a0)
          generalize Lib.bytesWorld w 5 a0 = wB at HC HB1 ⊢
          generalize grownCap w a0.size 0 5 = cB
          generalize w.heap.size = gB at HC
          clear HB q6 qi6 hx6
          go_loopg [4, 26] k (fun kq v4 v26 w' => ∃ (a : List Int) (i : Nat), v26 = .int .i64 (i : Int) ∧ Aside0 (nat_Parse.l0 kq a0 a (i : Int) = some (r1, r2)) ∧ Aside0 (kq ≤ k) ∧ Aside0 (i ≤ a0.size) ∧ Aside0 (Kd.R (Kd.int .u32) 51 w' w.heap.size (fun _ => True) v4 a) ∧ Aside0 (Kd.C (Kd.int .u8) w' (some ⟨gB, 0, none⟩) (bytesOf a0).length (bytesOf a0)) ∧ Aside0 (Below w.heap.size w w'))
          case atStart => exact ⟨[], 0, rfl, H', ⟨Nat.le_refl _⟩, ⟨Nat.zero_le _⟩, ⟨Kd.R_nil _ _ _ _ _⟩, HC, HB1⟩
          case round =>
            clear H'
            obtain ⟨a, i, rfl, HA, HK, HI, HO, HC, HB⟩ := hrel
            cases gk with
            | zero => exact absurd HA.out (by simp [nat_Parse.l0])
            | succ k1 =>
              have H := HA.out
              clear HA
              simp only [nat_Parse.l0] at H
              by_cases c1 : (i : Int) < (a0.size : Int)
              · rw [if_pos c1] at H
                have hin : i < a0.size := by omega
                obtain ⟨ad, had, hcell⟩ := Kd.at_int HC.out (i : Int) (by omega) (by rw [bytesOf_length]; omega)
                injection had with had
                subst had
                rw [rd_bytesOf, Int.toNat_natCast, add_plain] at hcell
                have c1b : decide ((i : Int) < (a0.size : Int)) = true := decide_eq_true c1
                have c1n : decide (i < a0.size) = true := decide_eq_true hin
                have hbr := bt_range a0 (i : Int)
                have hkl : (i : Int) < (a0.size : Int) := c1
                have hk0 : (0 : Int) ≤ (i : Int) := by omega
                clear c1
                by_cases c2 : bt a0 (i : Int) < 48
                · rw [if_pos c2] at H
                  obtain ⟨rfl, rfl⟩ := Prod.mk.inj (Option.some.inj H)
                  have c2b : decide (bt a0 (i : Int) < 48) = true := decide_eq_true c2
                  clear c2 H hbr hin
                  go_wp2
                  go_ret2
                  exact ⟨_, rfl, Kd.R_nil _ _ _ _ _, HB.out⟩
                · rw [if_neg c2] at H
                  have c2b : decide (bt a0 (i : Int) < 48) = false := decide_eq_false c2
                  by_cases c3 : bt a0 (i : Int) > 57
                  · rw [if_pos c3] at H
                    obtain ⟨rfl, rfl⟩ := Prod.mk.inj (Option.some.inj H)
                    have c3b : decide (57 < bt a0 (i : Int)) = true := decide_eq_true c3
                    clear c2 c3 H hbr hin
                    go_wp2
                    go_ret2
                    exact ⟨_, rfl, Kd.R_nil _ _ _ _ _, HB.out⟩
                  · rw [if_neg c3] at H
                    have c3b : decide (57 < bt a0 (i : Int)) = false := decide_eq_false c3
                    obtain ⟨y1, hy1⟩ : ∃ y_ : List Int, y_ = [10] := ⟨_, rfl⟩
                    obtain ⟨y2, hy2⟩ : ∃ y_ : List Int, y_ = [bt a0 (i : Int) - 48] := ⟨_, rfl⟩
                    rw [← hy1, ← hy2] at H
                    obtain ⟨m, HM, H⟩ := Option.bind_eq_some_iff.1 H
                    obtain ⟨t, HT, H⟩ := Option.bind_eq_some_iff.1 H
                    have NY1 := Aside0.mk hy1
                    have NY2 := Aside0.mk hy2
                    have HM1 := Aside0.mk HM
                    have HT1 := Aside0.mk HT
                    have H1 := Aside0.mk H
                    have hlo : 48 ≤ bt a0 (i : Int) := by omega
                    have hhi : bt a0 (i : Int) ≤ 57 := by omega
                    have hi2 : (i : Int) < 2000 := by have := HSZ.out; omega
                    have HIN := Aside0.mk hin
                    clear hy1 hy2 HM HT H c2 c3 hbr hin
                    obtain ⟨A4, c4, rfl⟩ := Kd.R_slice HO.out
                    go_wp2_with (first | ((with_reducible refine gate_dst (N := 37) rfl ?_); refine Kd.R_lit (Kd.int .u32) _ 51 ?hg (N := 37) ?hd (xs := ([10] : List Int)) (inner := [.int .u32 (10)]) (ok := fun _ => True) (okp := fun _ => True) ?hr ?hp (fun _ hk => hk) trivial (Below.refl _ _) (Nat.le_refl _) (by simp) ?_; (case hd => rfl); (case hg => rfl); (case hr => first | (go_simp; done) | (go_simp; rfl)); (case hp => exact (Reps.one (show Kd.M (Kd.int .u32) _ _ _ (10) [.int .u32 (10)] from rfl) (Reps.none _ _))); intro v1 w1 ho1 hb1 hg_ hnew_; clear hg_ hnew_; rw [← NY1.out] at ho1; have n0 := Aside0.mk (Kd.R_mono (ok' := fun _ => True) (Kd.R_elder' HO.out (Kd.R_base ho1) hb1) (fun _ _ => trivial)); have n1 := Aside0.mk ho1; have n2 := Aside0.mk (Kd.C_below HC.out hb1); have n3 := Aside0.mk (below_step HB.out hb1); clear HO HC HB hb1 ho1; obtain ⟨A1, d1, rfl⟩ := Kd.R_slice n1.out) | ((with_reducible refine gate_callee (f := 49) rfl ?_); refine goesL_ (some 38) rfl rfl Tryd.func49 (by kernel_rfl) rfl #[.slice A4 a.length c4, .slice A1 y1.length d1] rfl (by (try simp only [List.map_toArray, List.map_cons, List.map_nil]); first | done | rfl) ?_; (with_reducible refine (nat_Mul.calls k1 _ _ a _ _ y1 m _ ?s1 ?s2 ?s3 ?s4 HM1.out).mono ?_); (case s1 => exact (Kd.R_reads' n0.out).2.2); (case s2 => exact (Kd.R_reads' n0.out).2.1); (case s3 => exact (Kd.R_reads' n1.out).2.2); (case s4 => exact (Kd.R_reads' n1.out).2.1); rintro e w2 ⟨v2, rfl, ho2, hb2⟩; refine ⟨_, rfl, ?_⟩; have m1 := Aside0.mk ho2; have m2 := Aside0.mk (Kd.C_below n2.out hb2); have m3 := Aside0.mk (below_step n3.out hb2); clear n0 n1 n2 n3 hb2 ho2; obtain ⟨A2, d2, rfl⟩ := Kd.R_slice m1.out) | ((with_reducible refine gate_dst (N := 42) rfl ?_); refine Kd.R_lit (Kd.int .u32) _ 51 ?hg (N := 42) ?hd (xs := ([bt a0 (i : Int) - 48] : List Int)) (inner := [.int .u32 (bt a0 (i : Int) - 48)]) (ok := fun _ => True) (okp := fun _ => True) ?hr ?hp (fun _ hk => hk) trivial (Below.refl _ _) (Nat.le_refl _) (by simp) ?_; (case hd => rfl); (case hg => rfl); (case hr => first | (go_simp; done) | (go_simp; rfl)); (case hp => exact (Reps.one (show Kd.M (Kd.int .u32) _ _ _ (bt a0 (i : Int) - 48) [.int .u32 (bt a0 (i : Int) - 48)] from rfl) (Reps.none _ _))); intro v3 w3 ho3 hb3 hg_ hnew_; clear hg_ hnew_; rw [← NY2.out] at ho3; have p0 := Aside0.mk (Kd.R_mono (ok' := fun _ => True) (Kd.R_elder' m1.out (Kd.R_base ho3) hb3) (fun _ _ => trivial)); have p1 := Aside0.mk ho3; have p2 := Aside0.mk (Kd.C_below m2.out hb3); have p3 := Aside0.mk (below_step m3.out hb3); clear m1 m2 m3 hb3 ho3; obtain ⟨A3, d3, rfl⟩ := Kd.R_slice p1.out) | ((with_reducible refine gate_callee (f := 42) rfl ?_); refine goesL_ (some 43) rfl rfl Tryd.func42 (by kernel_rfl) rfl #[.slice A2 m.length d2, .slice A3 y2.length d3] rfl (by (try simp only [List.map_toArray, List.map_cons, List.map_nil]); first | done | rfl) ?_; (with_reducible refine (nat_Add.calls k1 _ _ m _ _ y2 t _ ?s1 ?s2 ?s3 ?s4 HT1.out).mono ?_); (case s1 => exact (Kd.R_reads' p0.out).2.2); (case s2 => exact (Kd.R_reads' p0.out).2.1); (case s3 => exact (Kd.R_reads' p1.out).2.2); (case s4 => exact (Kd.R_reads' p1.out).2.1); rintro e w4 ⟨v4, rfl, ho4, hb4⟩; refine ⟨_, rfl, ?_⟩; have q1 := Aside0.mk (Kd.R_lower ho4 (below_size p3.out)); have q2 := Aside0.mk (Kd.C_below p2.out hb4); have q3 := Aside0.mk (below_step p3.out hb4); clear p0 p1 p2 p3 hb4 ho4))
                    go_roundg k1
                    case measure => have := HK.out; omega
                    case rel => exact ⟨t, i + 1, by go_num, H1, ⟨by have := HK.out; omega⟩, ⟨HIN.out⟩, q1, q2, q3⟩
              · rw [if_neg c1] at H
                obtain ⟨t, HT, H⟩ := Option.bind_eq_some_iff.1 H
                obtain ⟨rfl, rfl⟩ := Prod.mk.inj (Option.some.inj H)
                have HT1 := Aside0.mk HT
                have c1b : decide ((i : Int) < (a0.size : Int)) = false := decide_eq_false c1
                have c1n : decide (i < a0.size) = false := decide_eq_false (by omega)
                clear c1 H HT
                obtain ⟨A4, c4, rfl⟩ := Kd.R_slice HO.out
                go_wp2_with (first | ((with_reducible refine gate_callee (f := 60) rfl ?_); refine goesL_ (some 46) rfl rfl Tryd.func60 (by kernel_rfl) rfl #[.slice A4 a.length c4] rfl (by (try simp only [List.map_toArray, List.map_cons, List.map_nil]); first | done | rfl) ?_; (with_reducible refine (nat_Norm.calls _ _ a t _ ?s1 ?s2 HT1.out).mono ?_); (case s1 => exact (Kd.R_reads' HO.out).2.2); (case s2 => exact (Kd.R_reads' HO.out).2.1); rintro e w2 ⟨v2, rfl, ho2, hb2⟩; refine ⟨_, rfl, ?_⟩; have q1 := Aside0.mk (Kd.R_lower ho2 (below_size HB.out)); have q3 := Aside0.mk (below_step HB.out hb2); clear hb2 ho2))
                go_ret2
                exact ⟨_, rfl, q1.out, q3.out⟩
end Go.Proofs.YthnfmmaolkenkaaDoor.H
/- Written by a program of this session, wip/tools/patch_print.py, over the kit's print of the loaded functions. -/
namespace Go.Proofs.YthnfmmaolkenkaaDoor.H
end Go.Proofs.YthnfmmaolkenkaaDoor.H
namespace Go.Proofs.YthnfmmaolkenkaaDoor.PA
open Go.RowKit Go.Proofs.YthnfmmaolkenkaaDoorW.PrintWords Go.Proofs.YthnfmmaolkenkaaDoorW.PrintLast Go.Proofs.YthnfmmaolkenkaaDoorW.PrintMore Go.Proofs.YthnfmmaolkenkaaDoor.H
attribute [local go_sem] max2_int min2_int max_two min_two max_three min_three max_four min_four   -- for this text's walks alone
attribute [local go_sem] box_twice
set_option linter.unusedVariables false
set_option linter.unusedSimpArgs false

/-! ### whole_Parse: function 30 -/
def whole_Parse.f (k : Nat) (a0 : ByteArray) : Option (Bool × List Int × Int) := (strings_CutPrefix.f a0 (⟨#[45]⟩ : ByteArray)).bind fun bt441 => ((nat_Parse.f k bt441.1).bind fun bt443 => (if bt443.2 = 0 then (if bt441.2 = true then (if (bt443.1.length : Int) = 0 then (some (false, ([] : List Int), 8)) else ((whole_made.f bt441.2 bt443.1).bind fun bt447 => (some (bt447.1, bt447.2, 0)))) else ((whole_made.f bt441.2 bt443.1).bind fun bt451 => (some (bt451.1, bt451.2, 0)))) else (some (false, ([] : List Int), 8))))
set_option maxHeartbeats 8000000 in
set_option maxRecDepth 100000 in
theorem whole_Parse.calls (k : Nat) (a0 : ByteArray) (r1 : Bool) (r2 : List Int) (r3 : Int) (w : World) (h : whole_Parse.f k a0 = some (r1, r2, r3)) :
  Calls Tryd.prog 30 #[.string a0] w fun e w' => ∃ v1_ : Value, e = .returned (.tuple #[.agg #[.bool r1, v1_], .int .i64 r3]) ∧ Kd.R (Kd.int .u32) 51 w' w.heap.size (fun _ => True) v1_ r2 ∧ Below w.heap.size w w' := by
 have hu24 := Tryd.underlying24
 have HB := Aside0.mk (Below.refl w.heap.size w)
 have H : ((strings_CutPrefix.f a0 (⟨#[45]⟩ : ByteArray)).bind fun bt441 => ((nat_Parse.f k bt441.1).bind fun bt443 => (if bt443.2 = 0 then (if bt441.2 = true then (if (bt443.1.length : Int) = 0 then (some (false, ([] : List Int), 8)) else ((whole_made.f bt441.2 bt443.1).bind fun bt447 => (some (bt447.1, bt447.2, 0)))) else ((whole_made.f bt441.2 bt443.1).bind fun bt451 => (some (bt451.1, bt451.2, 0)))) else (some (false, ([] : List Int), 8))))) = some (r1, r2, r3) := h
 clear h
 replace H := Option.bind_eq_some_iff.mp H
 obtain ⟨⟨t441, t442⟩, A20, H⟩ := H
 replace H : ((nat_Parse.f k t441).bind fun bt443 => (if bt443.2 = 0 then (if t442 = true then (if (bt443.1.length : Int) = 0 then (some (false, ([] : List Int), 8)) else ((whole_made.f t442 bt443.1).bind fun bt447 => (some (bt447.1, bt447.2, 0)))) else ((whole_made.f t442 bt443.1).bind fun bt451 => (some (bt451.1, bt451.2, 0)))) else (some (false, ([] : List Int), 8)))) = some (r1, r2, r3) := H
 have A2 := Aside0.mk A20
 clear A20
 replace H := Option.bind_eq_some_iff.mp H
 obtain ⟨⟨t443, t444⟩, A30, H⟩ := H
 replace H : (if t444 = 0 then (if t442 = true then (if (t443.length : Int) = 0 then (some (false, ([] : List Int), 8)) else ((whole_made.f t442 t443).bind fun bt447 => (some (bt447.1, bt447.2, 0)))) else ((whole_made.f t442 t443).bind fun bt451 => (some (bt451.1, bt451.2, 0)))) else (some (false, ([] : List Int), 8))) = some (r1, r2, r3) := H
 have A3 := Aside0.mk A30
 clear A30
 by_cases c4 : t444 = 0
 ·rw [if_pos c4] at H
  have c4b0 : (t444 == 0) = true := beq_iff_eq.mpr c4
  have c4b1 : (t444 != 0) = false := bne_eq_false_iff_eq.mpr c4
  clear c4
  by_cases c5 : t442 = true
  ·subst c5
   have H1 : (if (t443.length : Int) = 0 then (some (false, ([] : List Int), 8)) else ((whole_made.f true t443).bind fun bt447 => (some (bt447.1, bt447.2, 0)))) = some (r1, r2, r3) := by rw [if_pos rfl] at H; exact H
   clear H
   have H := H1
   clear H1
   by_cases c6 : (t443.length : Int) = 0
   ·rw [if_pos c6] at H
    have c6b0 : ((t443.length : Int) == 0) = true := beq_iff_eq.mpr c6
    have c6b1 : ((t443.length : Int) != 0) = false := bne_eq_false_iff_eq.mpr c6
    clear c6
    simp only [Option.some.injEq, Prod.mk.injEq] at H
    obtain ⟨rfl, rfl, rfl⟩ := H
    go_enter Tryd.func30, Tryd.ntmps30
    go_wp2_with (first | ((with_reducible refine gate_dst (N := 2) rfl ?_); (try (refine gate_guard (by rfl) ?_; dsimp only)); refine box_event ?hg (N := 2) ?hd (cs := #[.bool false, .slice none 0 0]) (t := 24) ?hr ?_; (case hd => rfl); (case hg => rfl); (case hr => first | (go_simp; done) | (go_simp; rfl)); intro gb440 hg w7 hbox hb; have BK440 := Aside0.mk (hbox); have GW440 := Aside0.mk (bxLe (by repeat first | exact HB.out | refine bxSet ?_ (by assumption) | apply below_alloc | apply pw_below_drewN) hg); have GE440 := GW440; replace HB := Aside0.mk (below_step (by repeat first | exact HB.out | refine bxSet ?_ (by assumption) | apply below_alloc | apply pw_below_drewN) hb); clear hb hbox hg) | ((with_reducible refine gate_callee (f := 51) rfl ?_); refine goL (some 10) Tryd.func51 [.string a0, .string (⟨#[45]⟩ : ByteArray)] ?_; (with_reducible refine (strings_CutPrefix.calls a0 (⟨#[45]⟩ : ByteArray) t441 true _ A2.out).mono ?_); rintro e w' ⟨rfl, ⟨nd, rfl⟩⟩; refine ⟨_, rfl, ?_⟩; (try (rw [drewN_self w7]; generalize hq_ : World.drewN w7 _ = w7; have n0_ : Aside0 (w7.heap[gb440]? = some (.cells #[.bool false, .slice none 0 0] 24 (0, 0))) := ⟨by rw [← hq_]; exact (by (with_reducible repeat (first | refine blk_drewN ?_ _ | refine blk_drew ?_ | refine blk_alloc ?_ _)); exact BK440.out)⟩; have n1_ : Aside0 (Below w.heap.size w w7) := ⟨by rw [← hq_]; exact (by repeat first | exact HB.out | refine bxSet ?_ (by assumption) | apply below_alloc | apply pw_below_drewN)⟩; clear BK440 HB hq_; have BK440 := n0_; have HB := n1_; clear n0_ n1_))) | ((with_reducible refine gate_callee (f := 52) rfl ?_); refine goL (some 15) Tryd.func52 [.string t441] ?_; (with_reducible refine (nat_Parse.calls k t441 t443 t444 _ A3.out).mono ?_); rintro e w8 ⟨v445, rfl, ho0, hb⟩; refine ⟨_, rfl, ?_⟩; have HO446 := Aside0.mk (Kd.R_lower ho0 (below_size (by repeat first | exact HB.out | refine bxSet ?_ (by assumption) | apply below_alloc | apply pw_below_drewN))); replace BK440 := Aside0.mk (blk_below (g := gb440) (o := .cells #[.bool false, .slice none 0 0] 24 (0, 0)) (by (with_reducible repeat (first | refine blk_drewN ?_ _ | refine blk_drew ?_ | refine blk_alloc ?_ _)); exact BK440.out) hb); replace HB := Aside0.mk (below_step (by repeat first | exact HB.out | refine bxSet ?_ (by assumption) | apply below_alloc | apply pw_below_drewN) hb); obtain ⟨Ao9, co9, eo9⟩ := Kd.R_slice HO446.out; subst eo9; have hcz10_0 := bc0 BK440.out; have hcz10_1 := bc1 BK440.out; have hfz10_0 := blk_frozen BK440.out 0; have hfz10_1 := blk_frozen BK440.out 1))
    refine bodyPost_ret (results_ct rfl _ _ gb440 24 #[.bool false, .slice none 0 0] (0, 0) _ rfl (by (with_reducible repeat (first | refine blk_drewN ?_ _ | refine blk_drew ?_ | refine blk_alloc ?_ _)); refine blk_put (cs := #[.bool false, .slice none 0 0]) ?_ 1 _ rfl; (with_reducible repeat (first | refine blk_drewN ?_ _ | refine blk_drew ?_ | refine blk_alloc ?_ _)); refine blk_put (cs := #[.bool false, .slice none 0 0]) ?_ 0 _ rfl; (with_reducible repeat (first | refine blk_drewN ?_ _ | refine blk_drew ?_ | refine blk_alloc ?_ _)); exact BK440.out) Tryd.underlying24 rfl (by kernel_rfl)) rfl ?_
    exact ⟨_, by first | rfl | (simp [errW_none, errW_some] <;> rfl) | (simp [*, errW_none, errW_some] <;> rfl), by first | exact Kd.R_nil _ _ _ _ _ | exact Kd.N_nil _ _ _ _ _ | exact Kd.V_nil _ _ _ _ _ | exact Kd.Q_nil _ _ _ _ _ | exact Kd.S_nil _ _ _ _ _, by repeat (first | (with_reducible first | exact HB.out | apply below_alloc | apply pw_below_drewN | apply below_drew1 | refine below_set ?_ GE440.out) | exact HB.out)⟩
   ·rw [if_neg c6] at H
    have c6b0 : ((t443.length : Int) == 0) = false := beq_eq_false_iff_ne.mpr c6
    have c6b1 : ((t443.length : Int) != 0) = true := bne_iff_ne.mpr c6
    have c6b2 : ¬ (t443 = []) := fun h_ => c6 (by rw [h_]; rfl)
    replace H := Option.bind_eq_some_iff.mp H
    obtain ⟨⟨t447, t448⟩, A110, H⟩ := H
    replace H : (some (t447, t448, 0)) = some (r1, r2, r3) := H
    have A11 := Aside0.mk A110
    clear A110
    simp only [Option.some.injEq, Prod.mk.injEq] at H
    obtain ⟨rfl, rfl, rfl⟩ := H
    go_enter Tryd.func30, Tryd.ntmps30
    go_wp2_with (first | ((with_reducible refine gate_dst (N := 2) rfl ?_); (try (refine gate_guard (by rfl) ?_; dsimp only)); refine box_event ?hg (N := 2) ?hd (cs := #[.bool false, .slice none 0 0]) (t := 24) ?hr ?_; (case hd => rfl); (case hg => rfl); (case hr => first | (go_simp; done) | (go_simp; rfl) | (go_simp; simp only [IntKind.wrap_u8, IntKind.wrap_u32]; congr 4; omega) | (go_simp; simp only [IntKind.wrap_u8, IntKind.wrap_u32]; congr 5; omega)); intro gb440 hg w12 hbox hb; have n0_ := Aside0.mk (below_step (by repeat (first | (with_reducible first | exact HB.out | apply below_alloc | apply pw_below_drewN | apply below_drew1) | exact HB.out)) hb); have n1_ := Aside0.mk (hbox); have n2_ := Aside0.mk ((by rw [hg]; exact (below_size (by repeat (first | (with_reducible first | exact HB.out | apply below_alloc | apply pw_below_drewN | apply below_drew1) | exact HB.out))) : w.heap.size ≤ gb440)); have n3_ := Aside0.mk ((by rw [hg]; exact (below_size (by repeat (first | (with_reducible first | exact HB.out | apply below_alloc | apply pw_below_drewN | apply below_drew1) | exact HB.out))) : w.heap.size ≤ gb440)); clear HB; have HB := n0_; have BK440 := n1_; have GW440 := n2_; have GE440 := n3_; clear n0_ n1_ n2_ n3_; clear hb hbox hg) | ((with_reducible refine gate_callee (f := 51) rfl ?_); refine goesL_ (some 10) rfl rfl Tryd.func51 (by kernel_rfl) rfl #[.string a0, .string (⟨#[45]⟩ : ByteArray)] rfl (by (try simp only [List.map_toArray, List.map_cons, List.map_nil]); first | done | rfl | (simp only [List.length_drop, List.length_take]; rfl)) ?_; (with_reducible refine (strings_CutPrefix.calls a0 (⟨#[45]⟩ : ByteArray) t441 true _ A2.out).mono ?_); rintro e w' ⟨rfl, ⟨nd, rfl⟩⟩; refine ⟨_, rfl, ?_⟩; (try (rw [drewN_self w12]; generalize hq_ : World.drewN w12 _ = w12; have n0_ : Aside0 (w12.heap[gb440]? = some (.cells #[.bool false, .slice none 0 0] 24 (0, 0))) := ⟨by rw [← hq_]; exact (by (with_reducible repeat (first | refine blk_drewN ?_ _ | refine blk_drew ?_ | refine blk_alloc ?_ _)); exact BK440.out)⟩; have n1_ : Aside0 (Below w.heap.size w w12) := ⟨by rw [← hq_]; exact (by repeat (first | (with_reducible first | exact HB.out | apply below_alloc | apply pw_below_drewN | apply below_drew1 | refine below_set ?_ GE440.out) | exact HB.out))⟩; clear BK440 HB hq_; have BK440 := n0_; have HB := n1_; clear n0_ n1_))) | ((with_reducible refine gate_callee (f := 52) rfl ?_); refine goesL_ (some 15) rfl rfl Tryd.func52 (by kernel_rfl) rfl #[.string t441] rfl (by (try simp only [List.map_toArray, List.map_cons, List.map_nil]); first | done | rfl | (simp only [List.length_drop, List.length_take]; rfl)) ?_; (with_reducible refine (nat_Parse.calls k t441 t443 t444 _ A3.out).mono ?_); rintro e w13 ⟨v445, rfl, ho0, hb⟩; refine ⟨_, rfl, ?_⟩; have n0_ := Aside0.mk (Kd.R_lower ho0 (below_size (by repeat (first | (with_reducible first | exact HB.out | apply below_alloc | apply pw_below_drewN | apply below_drew1 | refine below_set ?_ GE440.out) | exact HB.out)))); have n1_ := Aside0.mk (blk_below (g := gb440) (o := .cells #[.bool false, .slice none 0 0] 24 (0, 0)) (by (with_reducible repeat (first | refine blk_drewN ?_ _ | refine blk_drew ?_ | refine blk_alloc ?_ _)); exact BK440.out) hb); have n2_ := Aside0.mk (below_step (by repeat (first | (with_reducible first | exact HB.out | apply below_alloc | apply pw_below_drewN | apply below_drew1 | refine below_set ?_ GE440.out) | exact HB.out)) hb); clear BK440; clear HB; have HO446 := n0_; have BK440 := n1_; have HB := n2_; clear n0_ n1_ n2_; (try clear hb); (try clear hb2); (try clear hk); (try clear hi); (try clear ho0); obtain ⟨Ao14, co14, eo14⟩ := Kd.R_slice HO446.out; subst eo14) | ((with_reducible refine gate_callee (f := 40) rfl ?_); refine goesL_ (some 31) rfl rfl Tryd.func40 (by kernel_rfl) rfl #[.bool true, .slice Ao14 t443.length co14] rfl (by (try simp only [List.map_toArray, List.map_cons, List.map_nil]); first | done | rfl | (simp only [List.length_drop, List.length_take]; rfl)) ?_; (with_reducible refine (whole_made.calls true _ _ t443 t447 t448 _ ?side1 ?side2 A11.out).mono ?_); (case side1 => repeat (first | exact (Kd.R_reads' HO446.out).2.2 | (with_reducible refine Kd.C_alloc ?_ _) | (with_reducible refine Kd.C_drewN ?_ _) | (with_reducible refine Kd.C_drew ?_))); (case side2 => exact (Kd.R_reads' HO446.out).2.1); rintro e w15 ⟨v449, rfl, ho0, hb⟩; refine ⟨_, rfl, ?_⟩; have n0_ := Aside0.mk (Kd.R_elder' (by (with_reducible repeat (first | apply Kd.R_alloc | apply Kd.R_drewN | apply Kd.R_drew)); exact HO446.out) (Kd.R_base ho0) hb); have n1_ := Aside0.mk (Kd.R_lower (Kd.R_new' ho0 (Kd.R_lt (by (with_reducible repeat (first | apply Kd.R_alloc | apply Kd.R_drewN | apply Kd.R_drew)); exact HO446.out))) (below_size (by repeat (first | (with_reducible first | exact HB.out | apply below_alloc | apply pw_below_drewN | apply below_drew1 | refine below_set ?_ GE440.out) | exact HB.out)))); have n2_ := Aside0.mk (blk_below (g := gb440) (o := .cells #[.bool false, .slice none 0 0] 24 (0, 0)) (by (with_reducible repeat (first | refine blk_drewN ?_ _ | refine blk_drew ?_ | refine blk_alloc ?_ _)); exact BK440.out) hb); have n3_ := Aside0.mk (below_step (by repeat (first | (with_reducible first | exact HB.out | apply below_alloc | apply pw_below_drewN | apply below_drew1 | refine below_set ?_ GE440.out) | exact HB.out)) hb); clear HO446; clear BK440; clear HB; have HO446 := n0_; have HO450 := n1_; have BK440 := n2_; have HB := n3_; clear n0_ n1_ n2_ n3_; (try clear hb); (try clear hb2); (try clear hk); (try clear hi); (try clear ho0); have hcz16_0 : w15.cell? ⟨gb440, 0, none⟩ = some (.bool false) := (blk_cell BK440.out 0).trans rfl; have hcz16_1 : w15.cell? ⟨gb440, 1, none⟩ = some (.slice none 0 0) := (blk_cell BK440.out 1).trans rfl; have hfz16_0 := blk_frozen BK440.out 0; have hfz16_1 := blk_frozen BK440.out 1; obtain ⟨Ao17, co17, eo17⟩ := Kd.R_slice HO450.out; subst eo17))
    refine bodyPost_ret (results_ct rfl _ _ gb440 24 #[.bool t447, .slice Ao17 t448.length co17] (0, 0) _ rfl (by (with_reducible repeat (first | refine blk_drewN ?_ _ | refine blk_drew ?_ | refine blk_alloc ?_ _)); refine blk_put (cs := #[.bool t447, .slice none 0 0]) ?_ 1 _ rfl; (with_reducible repeat (first | refine blk_drewN ?_ _ | refine blk_drew ?_ | refine blk_alloc ?_ _)); refine blk_put (cs := #[.bool false, .slice none 0 0]) ?_ 0 _ rfl; (with_reducible repeat (first | refine blk_drewN ?_ _ | refine blk_drew ?_ | refine blk_alloc ?_ _)); exact BK440.out) Tryd.underlying24 rfl (by kernel_rfl)) rfl ?_
    exact ⟨_, by first | rfl | (simp [errW_none, errW_some] <;> rfl) | (simp [*, errW_none, errW_some] <;> rfl), by (with_reducible repeat (first | apply Kd.R_alloc | apply Kd.R_drewN | apply Kd.R_drew)); exact Kd.R_mono (Kd.R_far (p := ⟨gb440, 1, none⟩) (Kd.R_far (p := ⟨gb440, 0, none⟩) (Kd.R_types HO450.out BK440.out (by decide)) (fun _ hk => hk.2) (.bool t447)) (fun _ hk => hk.2) (.slice Ao17 t448.length co17)) (fun _ hk => trivial), by repeat (first | (with_reducible first | exact HB.out | apply below_alloc | apply pw_below_drewN | apply below_drew1 | refine below_set ?_ GE440.out) | exact HB.out)⟩
  ·replace c5 := Bool.eq_false_iff.mpr c5
   subst c5
   have H1 : ((whole_made.f false t443).bind fun bt451 => (some (bt451.1, bt451.2, 0))) = some (r1, r2, r3) := by rw [if_neg (show ¬ (false = true) by decide)] at H; exact H
   clear H
   have H := H1
   clear H1
   replace H := Option.bind_eq_some_iff.mp H
   obtain ⟨⟨t451, t452⟩, A180, H⟩ := H
   replace H : (some (t451, t452, 0)) = some (r1, r2, r3) := H
   have A18 := Aside0.mk A180
   clear A180
   simp only [Option.some.injEq, Prod.mk.injEq] at H
   obtain ⟨rfl, rfl, rfl⟩ := H
   go_enter Tryd.func30, Tryd.ntmps30
   go_wp2_with (first | ((with_reducible refine gate_dst (N := 2) rfl ?_); (try (refine gate_guard (by rfl) ?_; dsimp only)); refine box_event ?hg (N := 2) ?hd (cs := #[.bool false, .slice none 0 0]) (t := 24) ?hr ?_; (case hd => rfl); (case hg => rfl); (case hr => first | (go_simp; done) | (go_simp; rfl)); intro gb440 hg w19 hbox hb; have BK440 := Aside0.mk (hbox); have GW440 := Aside0.mk (bxLe (by repeat first | exact HB.out | refine bxSet ?_ (by assumption) | apply below_alloc | apply pw_below_drewN) hg); have GE440 := GW440; replace HB := Aside0.mk (below_step (by repeat first | exact HB.out | refine bxSet ?_ (by assumption) | apply below_alloc | apply pw_below_drewN) hb); clear hb hbox hg) | ((with_reducible refine gate_callee (f := 51) rfl ?_); refine goL (some 10) Tryd.func51 [.string a0, .string (⟨#[45]⟩ : ByteArray)] ?_; (with_reducible refine (strings_CutPrefix.calls a0 (⟨#[45]⟩ : ByteArray) t441 false _ A2.out).mono ?_); rintro e w' ⟨rfl, ⟨nd, rfl⟩⟩; refine ⟨_, rfl, ?_⟩; (try (rw [drewN_self w19]; generalize hq_ : World.drewN w19 _ = w19; have n0_ : Aside0 (w19.heap[gb440]? = some (.cells #[.bool false, .slice none 0 0] 24 (0, 0))) := ⟨by rw [← hq_]; exact (by (with_reducible repeat (first | refine blk_drewN ?_ _ | refine blk_drew ?_ | refine blk_alloc ?_ _)); exact BK440.out)⟩; have n1_ : Aside0 (Below w.heap.size w w19) := ⟨by rw [← hq_]; exact (by repeat first | exact HB.out | refine bxSet ?_ (by assumption) | apply below_alloc | apply pw_below_drewN)⟩; clear BK440 HB hq_; have BK440 := n0_; have HB := n1_; clear n0_ n1_))) | ((with_reducible refine gate_callee (f := 52) rfl ?_); refine goL (some 15) Tryd.func52 [.string t441] ?_; (with_reducible refine (nat_Parse.calls k t441 t443 t444 _ A3.out).mono ?_); rintro e w20 ⟨v445, rfl, ho0, hb⟩; refine ⟨_, rfl, ?_⟩; have HO446 := Aside0.mk (Kd.R_lower ho0 (below_size (by repeat first | exact HB.out | refine bxSet ?_ (by assumption) | apply below_alloc | apply pw_below_drewN))); replace BK440 := Aside0.mk (blk_below (g := gb440) (o := .cells #[.bool false, .slice none 0 0] 24 (0, 0)) (by (with_reducible repeat (first | refine blk_drewN ?_ _ | refine blk_drew ?_ | refine blk_alloc ?_ _)); exact BK440.out) hb); replace HB := Aside0.mk (below_step (by repeat first | exact HB.out | refine bxSet ?_ (by assumption) | apply below_alloc | apply pw_below_drewN) hb); obtain ⟨Ao21, co21, eo21⟩ := Kd.R_slice HO446.out; subst eo21) | ((with_reducible refine gate_callee (f := 40) rfl ?_); refine goL (some 31) Tryd.func40 [.bool false, .slice Ao21 t443.length co21] ?_; (with_reducible refine (whole_made.calls false _ _ t443 t451 t452 _ ?side1 ?side2 A18.out).mono ?_); (case side1 => repeat (first | exact (Kd.R_reads' HO446.out).2.2 | (with_reducible refine Kd.C_alloc ?_ _) | (with_reducible refine Kd.C_drewN ?_ _) | (with_reducible refine Kd.C_drew ?_))); (case side2 => exact (Kd.R_reads' HO446.out).2.1); rintro e w22 ⟨v453, rfl, ho0, hb⟩; refine ⟨_, rfl, ?_⟩; have HO454 := Aside0.mk (Kd.R_lower (Kd.R_new' ho0 (Kd.R_lt (by (with_reducible repeat (first | apply Kd.R_alloc | apply Kd.R_drewN | apply Kd.R_drew)); exact HO446.out))) (below_size (by repeat first | exact HB.out | refine bxSet ?_ (by assumption) | apply below_alloc | apply pw_below_drewN))); replace HO446 := Aside0.mk (Kd.R_elder' (by (with_reducible repeat (first | apply Kd.R_alloc | apply Kd.R_drewN | apply Kd.R_drew)); exact HO446.out) (Kd.R_base ho0) hb); replace BK440 := Aside0.mk (blk_below (g := gb440) (o := .cells #[.bool false, .slice none 0 0] 24 (0, 0)) (by (with_reducible repeat (first | refine blk_drewN ?_ _ | refine blk_drew ?_ | refine blk_alloc ?_ _)); exact BK440.out) hb); replace HB := Aside0.mk (below_step (by repeat first | exact HB.out | refine bxSet ?_ (by assumption) | apply below_alloc | apply pw_below_drewN) hb); have hcz23_0 := bc0 BK440.out; have hcz23_1 := bc1 BK440.out; have hfz23_0 := blk_frozen BK440.out 0; have hfz23_1 := blk_frozen BK440.out 1; obtain ⟨Ao24, co24, eo24⟩ := Kd.R_slice HO454.out; subst eo24))
   refine bodyPost_ret (results_ct rfl _ _ gb440 24 #[.bool t451, .slice Ao24 t452.length co24] (0, 0) _ rfl (by (with_reducible repeat (first | refine blk_drewN ?_ _ | refine blk_drew ?_ | refine blk_alloc ?_ _)); refine blk_put (cs := #[.bool t451, .slice none 0 0]) ?_ 1 _ rfl; (with_reducible repeat (first | refine blk_drewN ?_ _ | refine blk_drew ?_ | refine blk_alloc ?_ _)); refine blk_put (cs := #[.bool false, .slice none 0 0]) ?_ 0 _ rfl; (with_reducible repeat (first | refine blk_drewN ?_ _ | refine blk_drew ?_ | refine blk_alloc ?_ _)); exact BK440.out) Tryd.underlying24 rfl (by kernel_rfl)) rfl ?_
   exact ⟨_, by first | rfl | (simp [errW_none, errW_some] <;> rfl) | (simp [*, errW_none, errW_some] <;> rfl), by (with_reducible repeat (first | apply Kd.R_alloc | apply Kd.R_drewN | apply Kd.R_drew)); exact Kd.R_mono (Kd.R_far (p := ⟨gb440, 1, none⟩) (Kd.R_far (p := ⟨gb440, 0, none⟩) (Kd.R_types HO454.out BK440.out (by decide)) (fun _ hk => hk.2) (.bool t451)) (fun _ hk => hk.2) (.slice Ao24 t452.length co24)) (fun _ hk => trivial), by repeat (first | (with_reducible first | exact HB.out | apply below_alloc | apply pw_below_drewN | apply below_drew1 | refine below_set ?_ GE440.out) | exact HB.out)⟩
 ·rw [if_neg c4] at H
  have c4b0 : (t444 == 0) = false := beq_eq_false_iff_ne.mpr c4
  have c4b1 : (t444 != 0) = true := bne_iff_ne.mpr c4
  simp only [Option.some.injEq, Prod.mk.injEq] at H
  obtain ⟨rfl, rfl, rfl⟩ := H
  go_enter Tryd.func30, Tryd.ntmps30
  go_wp2_with (first | ((with_reducible refine gate_dst (N := 2) rfl ?_); (try (refine gate_guard (by rfl) ?_; dsimp only)); refine box_event ?hg (N := 2) ?hd (cs := #[.bool false, .slice none 0 0]) (t := 24) ?hr ?_; (case hd => rfl); (case hg => rfl); (case hr => first | (go_simp; done) | (go_simp; rfl)); intro gb440 hg w25 hbox hb; have BK440 := Aside0.mk (hbox); have GW440 := Aside0.mk (bxLe (by repeat first | exact HB.out | refine bxSet ?_ (by assumption) | apply below_alloc | apply pw_below_drewN) hg); have GE440 := GW440; replace HB := Aside0.mk (below_step (by repeat first | exact HB.out | refine bxSet ?_ (by assumption) | apply below_alloc | apply pw_below_drewN) hb); clear hb hbox hg) | ((with_reducible refine gate_callee (f := 51) rfl ?_); refine goL (some 10) Tryd.func51 [.string a0, .string (⟨#[45]⟩ : ByteArray)] ?_; (with_reducible refine (strings_CutPrefix.calls a0 (⟨#[45]⟩ : ByteArray) t441 t442 _ A2.out).mono ?_); rintro e w' ⟨rfl, ⟨nd, rfl⟩⟩; refine ⟨_, rfl, ?_⟩; (try (rw [drewN_self w25]; generalize hq_ : World.drewN w25 _ = w25; have n0_ : Aside0 (w25.heap[gb440]? = some (.cells #[.bool false, .slice none 0 0] 24 (0, 0))) := ⟨by rw [← hq_]; exact (by (with_reducible repeat (first | refine blk_drewN ?_ _ | refine blk_drew ?_ | refine blk_alloc ?_ _)); exact BK440.out)⟩; have n1_ : Aside0 (Below w.heap.size w w25) := ⟨by rw [← hq_]; exact (by repeat first | exact HB.out | refine bxSet ?_ (by assumption) | apply below_alloc | apply pw_below_drewN)⟩; clear BK440 HB hq_; have BK440 := n0_; have HB := n1_; clear n0_ n1_))) | ((with_reducible refine gate_callee (f := 52) rfl ?_); refine goL (some 15) Tryd.func52 [.string t441] ?_; (with_reducible refine (nat_Parse.calls k t441 t443 t444 _ A3.out).mono ?_); rintro e w26 ⟨v445, rfl, ho0, hb⟩; refine ⟨_, rfl, ?_⟩; have HO446 := Aside0.mk (Kd.R_lower ho0 (below_size (by repeat first | exact HB.out | refine bxSet ?_ (by assumption) | apply below_alloc | apply pw_below_drewN))); replace BK440 := Aside0.mk (blk_below (g := gb440) (o := .cells #[.bool false, .slice none 0 0] 24 (0, 0)) (by (with_reducible repeat (first | refine blk_drewN ?_ _ | refine blk_drew ?_ | refine blk_alloc ?_ _)); exact BK440.out) hb); replace HB := Aside0.mk (below_step (by repeat first | exact HB.out | refine bxSet ?_ (by assumption) | apply below_alloc | apply pw_below_drewN) hb); have hcz27_0 := bc0 BK440.out; have hcz27_1 := bc1 BK440.out; have hfz27_0 := blk_frozen BK440.out 0; have hfz27_1 := blk_frozen BK440.out 1))
  refine bodyPost_ret (results_ct rfl _ _ gb440 24 #[.bool false, .slice none 0 0] (0, 0) _ rfl (by (with_reducible repeat (first | refine blk_drewN ?_ _ | refine blk_drew ?_ | refine blk_alloc ?_ _)); refine blk_put (cs := #[.bool false, .slice none 0 0]) ?_ 1 _ rfl; (with_reducible repeat (first | refine blk_drewN ?_ _ | refine blk_drew ?_ | refine blk_alloc ?_ _)); refine blk_put (cs := #[.bool false, .slice none 0 0]) ?_ 0 _ rfl; (with_reducible repeat (first | refine blk_drewN ?_ _ | refine blk_drew ?_ | refine blk_alloc ?_ _)); exact BK440.out) Tryd.underlying24 rfl (by kernel_rfl)) rfl ?_
  exact ⟨_, by first | rfl | (simp [errW_none, errW_some] <;> rfl) | (simp [*, errW_none, errW_some] <;> rfl), by first | exact Kd.R_nil _ _ _ _ _ | exact Kd.N_nil _ _ _ _ _ | exact Kd.V_nil _ _ _ _ _ | exact Kd.Q_nil _ _ _ _ _ | exact Kd.S_nil _ _ _ _ _, by repeat (first | (with_reducible first | exact HB.out | apply below_alloc | apply pw_below_drewN | apply below_drew1 | refine below_set ?_ GE440.out) | exact HB.out)⟩

/-! ### nat_Int: function 56 -/
def nat_Int.l0 : Nat → Int → List Int → Int → Int → Option (Int × Bool)
 | 0, _, _, _, _ => none
 | k + 1, x4, x12, x13, x14 => if x14 < x13 then (if 0 ≤ x14 then (if x14 < (x12.length : Int) then (if 0 ≤ (wrap64 (32 * x14)) then (nat_Int.l0 k (Go.bits .or .u64 x4 (shl .u64 (IntKind.u64.wrap (rd x12 x14)) (wrap64 (32 * x14)))) x12 x13 (wrap64 (x14 + 1))) else (none)) else (none)) else (none)) else (if x4 ≥ 4611686018427387904 then (some (0, false)) else (some (wrap64 (x4), true)))
def nat_Int.f (k : Nat) (l0 : List Int) : Option (Int × Bool) := (nat_Norm.f l0).bind fun t455 => (if (t455.length : Int) > 2 then (some (0, false)) else (nat_Int.l0 k 0 t455 (t455.length : Int) 0))
set_option maxHeartbeats 8000000 in
set_option maxRecDepth 100000 in
theorem nat_Int.calls (k : Nat) (A0 : Option Addr) (c0 : Nat) (l0 : List Int) (r1 : Int) (r2 : Bool) (w : World) (hr0 : Kd.C (Kd.int .u32) w A0 l0.length l0) (hc0 : l0.length ≤ c0) (h : nat_Int.f k l0 = some (r1, r2)) :
  Calls Tryd.prog 56 #[.slice A0 l0.length c0] w fun e w' => e = .returned (.tuple #[.int .i64 r1, .bool r2]) ∧ Below w.heap.size w w' := by
 have HR0 := Aside0.mk hr0
 have HC0 := Aside0.mk hc0
 clear hr0 hc0
 have HB := Aside0.mk (Below.refl w.heap.size w)
 have H : ((nat_Norm.f l0).bind fun t455 => (if (t455.length : Int) > 2 then (some (0, false)) else (nat_Int.l0 k 0 t455 (t455.length : Int) 0))) = some (r1, r2) := h
 clear h
 replace H := Option.bind_eq_some_iff.mp H
 obtain ⟨t455, A20, H⟩ := H
 replace H : (if (t455.length : Int) > 2 then (some (0, false)) else (nat_Int.l0 k 0 t455 (t455.length : Int) 0)) = some (r1, r2) := H
 have A2 := Aside0.mk A20
 clear A20
 by_cases c3 : (t455.length : Int) > 2
 ·rw [if_pos c3] at H
  have c3b0 : decide (2 < (t455.length : Int)) = true := decide_eq_true c3
  have c3b1 : decide (2 < t455.length) = true := decide_eq_true (by omega)
  clear c3
  simp only [Option.some.injEq, Prod.mk.injEq] at H
  obtain ⟨rfl, rfl⟩ := H
  go_enter Tryd.func56, Tryd.ntmps56
  go_wp2_with (first | ((with_reducible refine gate_callee (f := 60) rfl ?_); refine goL (some 8) Tryd.func60 [.slice A0 l0.length c0] ?_; (with_reducible refine (nat_Norm.calls _ _ l0 t455 _ ?side1 ?side2 A2.out).mono ?_); (case side1 => exact HR0.out); (case side2 => exact HC0.out); rintro e w4 ⟨v456, rfl, ho0, hb⟩; refine ⟨_, rfl, ?_⟩; have HO457 := Aside0.mk (Kd.R_lower ho0 (below_size HB.out)); replace HB := Aside0.mk (below_step HB.out hb); obtain ⟨Ao5, co5, eo5⟩ := Kd.R_slice HO457.out; subst eo5))
  go_ret2
  exact ⟨by first | rfl | (simp [errW_none, errW_some] <;> rfl) | (refine congrArg (fun z_ => Ending.returned (Value.bool z_)) (decide_eq_decide.mpr ?_); unfold wrap64; omega) | (simp [*, errW_none, errW_some] <;> rfl), by repeat (first | (with_reducible first | exact HB.out | apply below_alloc | apply pw_below_drewN | apply below_drew1) | exact HB.out)⟩
 ·rw [if_neg c3] at H
  have c3b0 : decide (2 < (t455.length : Int)) = false := decide_eq_false c3
  have c3b1 : decide (2 < t455.length) = false := decide_eq_false (by omega)
  clear c3
  have H' := Aside0.mk H
  clear H
  go_enter Tryd.func56, Tryd.ntmps56
  go_wp2_with (first | ((with_reducible refine gate_callee (f := 60) rfl ?_); refine goL (some 8) Tryd.func60 [.slice A0 l0.length c0] ?_; (with_reducible refine (nat_Norm.calls _ _ l0 t455 _ ?side1 ?side2 A2.out).mono ?_); (case side1 => exact HR0.out); (case side2 => exact HC0.out); rintro e w6 ⟨v456, rfl, ho0, hb⟩; refine ⟨_, rfl, ?_⟩; have HO457 := Aside0.mk (Kd.R_lower ho0 (below_size HB.out)); replace HB := Aside0.mk (below_step HB.out hb); obtain ⟨Ao7, co7, eo7⟩ := Kd.R_slice HO457.out; subst eo7))
  go_loopg [4, 14] k (fun kq v4 v14 w' => ∃ (x4_1 : Int) (x14_1 : Int), v4 = .int .u64 x4_1 ∧ v14 = .int .i64 x14_1 ∧ Aside0 (nat_Int.l0 kq x4_1 t455 (t455.length : Int) x14_1 = some (r1, r2)) ∧ Aside0 (kq ≤ k) ∧ Aside0 (Kd.R (Kd.int .u32) 51 w' w.heap.size (fun _ => True) (.slice Ao7 t455.length co7) t455) ∧ Aside0 (Below w.heap.size w w'))
  case atStart => exact ⟨(0), (0), (by first | rfl | (simp; done) | (simp [*]; done) | (refine congrArg (Value.int _) ?_; omega) | (refine congrArg Value.bool ?_; generalize ByteArray.toList _ = z_; cases z_ <;> rfl)), (by first | rfl | (simp; done) | (simp [*]; done) | (refine congrArg (Value.int _) ?_; omega) | (refine congrArg Value.bool ?_; generalize ByteArray.toList _ = z_; cases z_ <;> rfl)), H', ⟨Nat.le_refl _⟩, ⟨by (with_reducible repeat (first | apply Kd.R_alloc | apply Kd.R_drewN | apply Kd.R_drew)); exact HO457.out⟩, ⟨by repeat (first | (with_reducible first | exact HB.out | apply below_alloc | apply pw_below_drewN | apply below_drew1) | exact HB.out)⟩⟩
  case round =>
   clear H'
   try clear p2
   try clear c3
   try clear c3b0
   try clear c3b1
   try clear c5
   try clear c6
   obtain ⟨x4_1, x14_1, rfl, rfl, HA, HK1, HO_12, HB⟩ := hrel
   cases gk with
   | zero => exact absurd HA.out (by simp [nat_Int.l0])
   | succ k1 =>
    have H := HA.out
    clear HA
    simp only [nat_Int.l0] at H
    by_cases c8 : x14_1 < (t455.length : Int)
    ·rw [if_pos c8] at H
     have c8b0 : decide (x14_1 < (t455.length : Int)) = true := decide_eq_true c8
     clear c8
     by_cases c9 : 0 ≤ x14_1
     ·rw [if_pos c9] at H
      have c9b0 : decide (0 ≤ x14_1) = true := decide_eq_true c9
      clear c9
      by_cases c10 : x14_1 < (t455.length : Int)
      ·rw [if_pos c10] at H
       have c10b0 : decide (x14_1 < (t455.length : Int)) = true := decide_eq_true c10
       clear c10
       obtain ⟨ji11, hji11⟩ : ∃ j_ : Int, (wrap64 (32 * x14_1)) = j_ := ⟨_, rfl⟩
       replace H : (if 0 ≤ (ji11) then (nat_Int.l0 k1 (Go.bits .or .u64 x4_1 (shl .u64 (IntKind.u64.wrap (rd t455 x14_1)) (ji11))) t455 (t455.length : Int) (wrap64 (x14_1 + 1))) else (none)) = some (r1, r2) := by first | (rw [hji11] at H; exact H) | (simp only [hji11] at H ⊢; exact H)
       have hji11w : (IntKind.i64.wrap (32 * x14_1)) = ji11 := (i64_w _).trans hji11
       by_cases c12 : 0 ≤ (ji11)
       ·rw [if_pos c12] at H
        have c12b0 := eq_true c12
        have c12b1 : decide (0 ≤ (ji11)) = true := decide_eq_true c12
        clear c12
        obtain ⟨ji13, hji13⟩ : ∃ j_ : Int, (shl .u64 (IntKind.u64.wrap (rd t455 x14_1)) (ji11)) = j_ := ⟨_, rfl⟩
        replace H : (nat_Int.l0 k1 (Go.bits .or .u64 x4_1 (ji13)) t455 (t455.length : Int) (wrap64 (x14_1 + 1))) = some (r1, r2) := by first | (rw [hji13] at H; exact H) | (simp only [hji13] at H ⊢; exact H)
        have hji13_ : (IntKind.u64.wrap ((IntKind.u64.wrap (rd t455 x14_1)) * 2 ^ min (ji11).toNat 64)) = ji13 := hji13
        have hji13z : (ji11) ≤ 64 → (IntKind.u64.wrap ((IntKind.u64.wrap (rd t455 x14_1)) * 2 ^ (ji11).toNat)) = ji13 := shl_small hji13
        have H' := Aside0.mk H
        clear H
        have p458 : 0 ≤ (x14_1 : Int) := of_decide_eq_true (by first | (with_reducible assumption) | assumption)
        have q458 : x14_1 < (t455.length : Int) := of_decide_eq_true (by first | (with_reducible assumption) | assumption)
        obtain ⟨ad458, e458, hx458_0⟩ := Kd.at_int (Kd.R_reads' HO_12.out).2.2 x14_1 p458 q458
        cases e458
        replace p458 := eq_true p458
        replace q458 := eq_true q458
        go_wp2
        go_roundg k1
        case measure => have := HK1.out; omega
        case rel => exact ⟨(Go.bits .or .u64 x4_1 (ji13)), (wrap64 (x14_1 + 1)), (by first | rfl | (simp; done) | (simp only [← hji13] <;> (first | rfl | simp)) | (simp [*]; done)), (by first | rfl | (simp; done) | (simp [*]; done) | (refine congrArg (Value.int _) ?_; omega) | (refine congrArg Value.bool ?_; generalize ByteArray.toList _ = z_; cases z_ <;> rfl)), H', ⟨by have := HK1.out; omega⟩, ⟨by (with_reducible repeat (first | apply Kd.R_alloc | apply Kd.R_drewN | apply Kd.R_drew)); exact HO_12.out⟩, ⟨by repeat (first | (with_reducible first | exact HB.out | apply below_alloc | apply pw_below_drewN | apply below_drew1) | exact HB.out)⟩⟩
       ·rw [if_neg c12] at H
        exact absurd H (by simp)
      ·rw [if_neg c10] at H
       exact absurd H (by simp)
     ·rw [if_neg c9] at H
      exact absurd H (by simp)
    ·rw [if_neg c8] at H
     have c8b0 : decide (x14_1 < (t455.length : Int)) = false := decide_eq_false c8
     clear c8
     by_cases c14 : x4_1 ≥ 4611686018427387904
     ·rw [if_pos c14] at H
      have c14b0 : decide (4611686018427387904 ≤ x4_1) = true := decide_eq_true c14
      clear c14
      simp only [Option.some.injEq, Prod.mk.injEq] at H
      obtain ⟨rfl, rfl⟩ := H
      go_wp2
      go_ret2
      exact ⟨by first | rfl | (simp [errW_none, errW_some] <;> rfl) | (refine congrArg (fun z_ => Ending.returned (Value.bool z_)) (decide_eq_decide.mpr ?_); unfold wrap64; omega) | (simp [*, errW_none, errW_some] <;> rfl), by repeat (first | (with_reducible first | exact HB.out | apply below_alloc | apply pw_below_drewN | apply below_drew1) | exact HB.out)⟩
     ·rw [if_neg c14] at H
      have c14b0 : decide (4611686018427387904 ≤ x4_1) = false := decide_eq_false c14
      clear c14
      simp only [Option.some.injEq, Prod.mk.injEq] at H
      obtain ⟨rfl, rfl⟩ := H
      go_wp2
      go_ret2
      exact ⟨by first | rfl | (simp [errW_none, errW_some] <;> rfl) | (refine congrArg (fun z_ => Ending.returned (Value.bool z_)) (decide_eq_decide.mpr ?_); unfold wrap64; omega) | (simp [*, errW_none, errW_some] <;> rfl), by repeat (first | (with_reducible first | exact HB.out | apply below_alloc | apply pw_below_drewN | apply below_drew1) | exact HB.out)⟩

/-! ### whole_Int: function 34 -/
def whole_Int.f (k : Nat) (a0_0 : Bool) (l0_1 : List Int) : Option (Int × Bool) := (nat_Int.f k l0_1).bind fun bt460 => (if a0_0 = true then (some (wrap64 (-bt460.1), bt460.2)) else (some (bt460.1, bt460.2)))
set_option maxHeartbeats 8000000 in
set_option maxRecDepth 100000 in
theorem whole_Int.calls (k : Nat) (a0_0 : Bool) (A0_1 : Option Addr) (c0_1 : Nat) (l0_1 : List Int) (r1 : Int) (r2 : Bool) (w : World) (hr0_1 : Kd.C (Kd.int .u32) w A0_1 l0_1.length l0_1) (hc0_1 : l0_1.length ≤ c0_1) (h : whole_Int.f k a0_0 l0_1 = some (r1, r2)) :
  Calls Tryd.prog 34 #[.agg #[.bool a0_0, .slice A0_1 l0_1.length c0_1]] w fun e w' => e = .returned (.tuple #[.int .i64 r1, .bool r2]) ∧ Below w.heap.size w w' := by
 have hu24 := Tryd.underlying24
 have HR0_1 := Aside0.mk hr0_1
 have HC0_1 := Aside0.mk hc0_1
 clear hr0_1 hc0_1
 have HB := Aside0.mk (Below.refl w.heap.size w)
 have H : ((nat_Int.f k l0_1).bind fun bt460 => (if a0_0 = true then (some (wrap64 (-bt460.1), bt460.2)) else (some (bt460.1, bt460.2)))) = some (r1, r2) := h
 clear h
 replace H := Option.bind_eq_some_iff.mp H
 obtain ⟨⟨t460, t461⟩, A20, H⟩ := H
 replace H : (if a0_0 = true then (some (wrap64 (-t460), t461)) else (some (t460, t461))) = some (r1, r2) := H
 have A2 := Aside0.mk A20
 clear A20
 by_cases c3 : a0_0 = true
 ·subst c3
  have H1 : (some (wrap64 (-t460), t461)) = some (r1, r2) := by rw [if_pos rfl] at H; exact H
  clear H
  have H := H1
  clear H1
  simp only [Option.some.injEq, Prod.mk.injEq] at H
  obtain ⟨rfl, rfl⟩ := H
  go_enter Tryd.func34, Tryd.ntmps34
  go_wp2_with (first | ((with_reducible refine gate_dst (N := 1) rfl ?_); refine box_event ?hg (N := 1) ?hd (cs := #[.bool true, .slice A0_1 l0_1.length c0_1]) (t := 24) ?hr ?_; (case hd => rfl); (case hg => rfl); (case hr => first | (go_simp; done) | (go_simp; rfl)); intro gb459 hg w4 hbox hb; have BK459 := Aside0.mk (hbox); have GW459 := Aside0.mk (bxLe HB.out hg); have GE459 := GW459; replace HB := Aside0.mk (below_step HB.out hb); clear hb hbox hg; have hcz5_0 := bc0 BK459.out; have hcz5_1 := bc1 BK459.out; have hfz5_0 := blk_frozen BK459.out 0; have hfz5_1 := blk_frozen BK459.out 1) | ((with_reducible refine gate_callee (f := 56) rfl ?_); refine goL (some 9) Tryd.func56 [.slice A0_1 l0_1.length c0_1] ?_; (with_reducible refine (nat_Int.calls k _ _ l0_1 t460 t461 _ ?side1 ?side2 A2.out).mono ?_); (case side1 => exact (Kd.C_below HR0_1.out HB.out)); (case side2 => exact HC0_1.out); rintro e w6 ⟨rfl, hb⟩; refine ⟨_, rfl, ?_⟩; replace BK459 := Aside0.mk (blk_below BK459.out hb); replace HB := Aside0.mk (below_step HB.out hb); (try clear hb); (try clear hb2); (try clear hk); (try clear hi); have hcz7_0 := bc0 BK459.out; have hcz7_1 := bc1 BK459.out; have hfz7_0 := blk_frozen BK459.out 0; have hfz7_1 := blk_frozen BK459.out 1))
  go_ret2
  exact ⟨by first | rfl | (simp [errW_none, errW_some] <;> rfl) | (refine congrArg (fun z_ => Ending.returned (Value.bool z_)) (decide_eq_decide.mpr ?_); unfold wrap64; omega) | (simp [*, errW_none, errW_some] <;> rfl), by repeat (first | (with_reducible first | exact HB.out | apply below_alloc | apply pw_below_drewN | apply below_drew1 | refine below_set ?_ GE459.out) | exact HB.out)⟩
 ·replace c3 := Bool.eq_false_iff.mpr c3
  subst c3
  have H1 : (some (t460, t461)) = some (r1, r2) := by rw [if_neg (show ¬ (false = true) by decide)] at H; exact H
  clear H
  have H := H1
  clear H1
  simp only [Option.some.injEq, Prod.mk.injEq] at H
  obtain ⟨rfl, rfl⟩ := H
  go_enter Tryd.func34, Tryd.ntmps34
  go_wp2_with (first | ((with_reducible refine gate_dst (N := 1) rfl ?_); refine box_event ?hg (N := 1) ?hd (cs := #[.bool false, .slice A0_1 l0_1.length c0_1]) (t := 24) ?hr ?_; (case hd => rfl); (case hg => rfl); (case hr => first | (go_simp; done) | (go_simp; rfl)); intro gb459 hg w8 hbox hb; have BK459 := Aside0.mk (hbox); have GW459 := Aside0.mk (bxLe HB.out hg); have GE459 := GW459; replace HB := Aside0.mk (below_step HB.out hb); clear hb hbox hg; have hcz9_0 := bc0 BK459.out; have hcz9_1 := bc1 BK459.out; have hfz9_0 := blk_frozen BK459.out 0; have hfz9_1 := blk_frozen BK459.out 1) | ((with_reducible refine gate_callee (f := 56) rfl ?_); refine goL (some 9) Tryd.func56 [.slice A0_1 l0_1.length c0_1] ?_; (with_reducible refine (nat_Int.calls k _ _ l0_1 t460 t461 _ ?side1 ?side2 A2.out).mono ?_); (case side1 => exact (Kd.C_below HR0_1.out HB.out)); (case side2 => exact HC0_1.out); rintro e w10 ⟨rfl, hb⟩; refine ⟨_, rfl, ?_⟩; replace BK459 := Aside0.mk (blk_below BK459.out hb); replace HB := Aside0.mk (below_step HB.out hb); (try clear hb); (try clear hb2); (try clear hk); (try clear hi); have hcz11_0 := bc0 BK459.out; have hcz11_1 := bc1 BK459.out; have hfz11_0 := blk_frozen BK459.out 0; have hfz11_1 := blk_frozen BK459.out 1))
  go_ret2
  exact ⟨by first | rfl | (simp [errW_none, errW_some] <;> rfl) | (refine congrArg (fun z_ => Ending.returned (Value.bool z_)) (decide_eq_decide.mpr ?_); unfold wrap64; omega) | (simp [*, errW_none, errW_some] <;> rfl), by repeat (first | (with_reducible first | exact HB.out | apply below_alloc | apply pw_below_drewN | apply below_drew1 | refine below_set ?_ GE459.out) | exact HB.out)⟩

end Go.Proofs.YthnfmmaolkenkaaDoor.PA
/- Written by a program of this session, wip/tools/patch_print.py, over the kit's print of the loaded functions. -/
namespace Go.Proofs.YthnfmmaolkenkaaDoor.H
end Go.Proofs.YthnfmmaolkenkaaDoor.H
namespace Go.Proofs.YthnfmmaolkenkaaDoor.PA
open Go.RowKit Go.Proofs.YthnfmmaolkenkaaDoorW.PrintWords Go.Proofs.YthnfmmaolkenkaaDoorW.PrintLast Go.Proofs.YthnfmmaolkenkaaDoorW.PrintMore Go.Proofs.YthnfmmaolkenkaaDoor.H
attribute [local go_sem] max2_int min2_int max_two min_two max_three min_three max_four min_four   -- for this text's walks alone
attribute [local go_sem] box_twice
set_option linter.unusedVariables false
set_option linter.unusedSimpArgs false

/-! ### gudgeonlaw02_few: function 10 -/
/-! ### gudgeonref01_trim: function 81 -/
def gudgeonref01_trim.l0 : Nat → List Bool → Int → Option (List Bool)
 | 0, _, _ => none
 | k + 1, x0, x3 => if x3 > 0 then (if 0 ≤ (wrap64 (x3 - 1)) then (if (wrap64 (x3 - 1)) < (x0.length : Int) then (if (rdOf false x0 (wrap64 (x3 - 1)) = true) then (if 0 ≤ x3 then (if x3 ≤ (x0.length : Int) then (if ([] : List Bool).length + (x0.take (x3 : Int).toNat).length < 140737488355328 then (some (([] : List Bool) ++ (x0.take (x3 : Int).toNat))) else (none)) else (none)) else (none)) else (gudgeonref01_trim.l0 k x0 (wrap64 (x3 - 1)))) else (none)) else (none)) else (if 0 ≤ x3 then (if x3 ≤ (x0.length : Int) then (if ([] : List Bool).length + (x0.take (x3 : Int).toNat).length < 140737488355328 then (some (([] : List Bool) ++ (x0.take (x3 : Int).toNat))) else (none)) else (none)) else (none))
def gudgeonref01_trim.f (k : Nat) (l0 : List Bool) : Option (List Bool) := gudgeonref01_trim.l0 k l0 (l0.length : Int)
set_option maxHeartbeats 8000000 in
set_option maxRecDepth 100000 in
theorem gudgeonref01_trim.calls (k : Nat) (A0 : Option Addr) (c0 : Nat) (l0 : List Bool) (r : List Bool) (w : World) (hr0 : Kd.C Kd.bool w A0 l0.length l0) (hc0 : l0.length ≤ c0) (h : gudgeonref01_trim.f k l0 = some r) :
  Calls Tryd.prog 81 #[.slice A0 l0.length c0] w fun e w' => ∃ v0_ : Value, e = .returned (v0_) ∧ Kd.R Kd.bool 4 w' w.heap.size (fun _ => True) v0_ r ∧ Below w.heap.size w w' := by
 have HR0 := Aside0.mk hr0
 have HC0 := Aside0.mk hc0
 clear hr0 hc0
 have HB := Aside0.mk (Below.refl w.heap.size w)
 have H : (gudgeonref01_trim.l0 k l0 (l0.length : Int)) = some r := h
 clear h
 have H' := Aside0.mk H
 clear H
 go_enter Tryd.func81, Tryd.ntmps81
 go_wp2
 go_loopg [3] k (fun kq v3 w' => ∃ (x3_1 : Int), v3 = .int .i64 x3_1 ∧ Aside0 (gudgeonref01_trim.l0 kq l0 x3_1 = some r) ∧ Aside0 (kq ≤ k) ∧ Aside0 (Below w.heap.size w w'))
 case atStart => exact ⟨((l0.length : Int)), (by first | rfl | (simp; done) | (simp [*]; done) | (refine congrArg (Value.int _) ?_; omega) | (refine congrArg Value.bool ?_; generalize ByteArray.toList _ = z_; cases z_ <;> rfl)), H', ⟨Nat.le_refl _⟩, ⟨by repeat (first | (with_reducible first | exact HB.out | apply below_alloc | apply pw_below_drewN | apply below_drew1) | exact HB.out)⟩⟩
 case round =>
  clear H'
  obtain ⟨x3_1, rfl, HA, HK1, HB⟩ := hrel
  cases gk with
  | zero => exact absurd HA.out (by simp [gudgeonref01_trim.l0])
  | succ k1 =>
   have H := HA.out
   clear HA
   simp only [gudgeonref01_trim.l0] at H
   by_cases c2 : x3_1 > 0
   ·rw [if_pos c2] at H
    have c2b0 : decide (0 < x3_1) = true := decide_eq_true c2
    clear c2
    obtain ⟨ji3, hji3⟩ : ∃ j_ : Int, (wrap64 (x3_1 - 1)) = j_ := ⟨_, rfl⟩
    replace H : (if 0 ≤ (ji3) then (if (ji3) < (l0.length : Int) then (if (rdOf false l0 (ji3) = true) then (if 0 ≤ x3_1 then (if x3_1 ≤ (l0.length : Int) then (if ([] : List Bool).length + (l0.take (x3_1 : Int).toNat).length < 140737488355328 then (some (([] : List Bool) ++ (l0.take (x3_1 : Int).toNat))) else (none)) else (none)) else (none)) else (gudgeonref01_trim.l0 k1 l0 ji3)) else (none)) else (none)) = some r := by first | (rw [hji3] at H; exact H) | (simp only [hji3] at H ⊢; exact H)
    have hji3w : (IntKind.i64.wrap (x3_1 - 1)) = ji3 := (i64_w _).trans hji3
    by_cases c4 : 0 ≤ (ji3)
    ·rw [if_pos c4] at H
     have c4b0 : decide (0 ≤ (ji3)) = true := decide_eq_true c4
     clear c4
     by_cases c5 : (ji3) < (l0.length : Int)
     ·rw [if_pos c5] at H
      have c5b0 : decide ((ji3) < (l0.length : Int)) = true := decide_eq_true c5
      clear c5
      obtain ⟨bq6, hbq6⟩ : ∃ b_ : Bool, b_ = (rdOf false l0 (ji3)) := ⟨_, rfl⟩
      replace H : (if (bq6 = true) then (if 0 ≤ x3_1 then (if x3_1 ≤ (l0.length : Int) then (if ([] : List Bool).length + (l0.take (x3_1 : Int).toNat).length < 140737488355328 then (some (([] : List Bool) ++ (l0.take (x3_1 : Int).toNat))) else (none)) else (none)) else (none)) else (gudgeonref01_trim.l0 k1 l0 ji3)) = some r := by rw [← hbq6] at H; exact H
      have Nbq6 := Aside0.mk hbq6
      clear hbq6
      by_cases c7 : (bq6 = true)
      ·subst c7
       have H1 : (if 0 ≤ x3_1 then (if x3_1 ≤ (l0.length : Int) then (if ([] : List Bool).length + (l0.take (x3_1 : Int).toNat).length < 140737488355328 then (some (([] : List Bool) ++ (l0.take (x3_1 : Int).toNat))) else (none)) else (none)) else (none)) = some r := by rw [if_pos rfl] at H; exact H
       clear H
       have H := H1
       clear H1
       by_cases c8 : 0 ≤ x3_1
       ·rw [if_pos c8] at H
        have c8b0 := eq_true c8
        have c8b1 : decide (0 ≤ x3_1) = true := decide_eq_true c8
        clear c8
        by_cases c9 : x3_1 ≤ (l0.length : Int)
        ·rw [if_pos c9] at H
         have c9b0 := eq_true c9
         have c9b1 : decide (x3_1 ≤ (l0.length : Int)) = true := decide_eq_true c9
         clear c9
         by_cases c10 : ([] : List Bool).length + (l0.take (x3_1 : Int).toNat).length < 140737488355328
         ·rw [if_pos c10] at H
          have LMc10 := Aside0.mk c10
          clear c10
          obtain ⟨y493, hy493⟩ : ∃ y_ : List Bool, y_ = (([] : List Bool) ++ (l0.take (x3_1 : Int).toNat)) := ⟨_, rfl⟩
          replace H : (some y493) = some r := by first | (rw [hy493]; with_reducible exact H) | (have H2_ := (Option.bind_some _ _).symm.trans H; rw [hy493]; with_reducible exact H2_) | (have H2_ := (Option.bind_some _ _).symm.trans H; with_reducible exact H2_) | with_reducible exact H | (rw [hy493]; exact H) | exact H
          have Ny493 := Aside0.mk hy493
          clear hy493
          obtain rfl := Option.some.inj H
          have p491 : 0 ≤ ((ji3) : Int) := of_decide_eq_true (by first | (with_reducible assumption) | assumption)
          have q491 : (ji3) < (l0.length : Int) := of_decide_eq_true (by first | (with_reducible assumption) | assumption)
          obtain ⟨ad491, e491, hx491_0⟩ := Kd.at_bool HR0.out (ji3) p491 q491
          (try rw [← Nbq6.out] at hx491_0)
          cases e491
          replace hx491_0 := (HB.out.cell (World.block_lt_of_cell? w _ hx491_0)).trans hx491_0
          replace p491 := eq_true p491
          replace q491 := eq_true q491
          obtain ⟨i011, hi011, _, hsz11, _⟩ := info_parts info4
          obtain ⟨hcut11, hA11, hC11⟩ := print_take_of (P := Tryd.prog) Value.bool false 69 4 .i64 Tryd.underlying69 hi011 hsz11 (some ad491) c0 l0 x3_1 (of_decide_eq_true (by first | (with_reducible assumption) | assumption)) (of_decide_eq_true (by first | (with_reducible assumption) | assumption)) HC0.out
          have HR492 := Aside0.mk (Kd.C_of_reads (h1 := fun _ => rfl) (hA11 _ (Kd.reads_of_C HR0.out)))
          have HC492 := Aside0.mk hC11
          clear hA11 hC11 hi011 hsz11
          go_wp2_with (first | ((with_reducible refine gate_builtin (b := .append) (xs := #[.const (.slice none 0 0), .tmp 20]) rfl ?_); at_builtin; refine Kd.R_append_rows Kd.bool (w0 := w) w.heap.size rfl (.const (.slice none 0 0)) (.tmp 20) 69 4 (.bool false) 1 rfl Tryd.underlying69 info4 rfl (by decide) (by omega) (.slice none 0 0) ([] : List Bool) (l0.take (x3_1 : Int).toNat) _ _ _ (fun _ => True) (fun _ => False) rfl rfl ?aO ?aR (fun _ _ h => h) (fun _ h => h.elim) ?aF ?aB ?aS ?aL ?_; (case aR => first | (have X_ := (Kd.C_below HR492.out HB.out); rw [show (l0.take (x3_1 : Int).toNat).length = x3_1.toNat from (by rw [List.length_take]; have h_ : (x3_1 : Int) ≤ (l0.length : Int) := of_decide_eq_true (by first | (with_reducible assumption) | assumption); omega)] at X_; exact X_) | (rw [← show (l0.take (x3_1 : Int).toNat).length = x3_1.toNat from (by rw [List.length_take]; have h_ : (x3_1 : Int) ≤ (l0.length : Int) := of_decide_eq_true (by first | (with_reducible assumption) | assumption); omega)]; repeat (first | exact (Kd.C_below HR492.out HB.out) | (with_reducible refine Kd.C_alloc ?_ _) | (with_reducible refine Kd.C_drewN ?_ _) | (with_reducible refine Kd.C_drew ?_))) | (repeat (first | exact (Kd.C_below HR492.out HB.out) | (with_reducible refine Kd.C_alloc ?_ _) | (with_reducible refine Kd.C_drewN ?_ _) | (with_reducible refine Kd.C_drew ?_)))); (case aB => exact HB.out); (case aF => exact (fun _ _ => trivial)); (case aO => exact ((Kd.R_nil _ _ _ _ (fun _ => True)))); (case aS => exact (below_size HB.out)); (case aL => have := LMc10.out; have hlx_ := (show (l0.take (x3_1 : Int).toNat).length = x3_1.toNat from (by rw [List.length_take]; have h_ : (x3_1 : Int) ≤ (l0.length : Int) := of_decide_eq_true (by first | (with_reducible assumption) | assumption); omega)); omega); intro v494 w12 ho hb hg hat; rw [← Ny493.out] at ho; replace HB := Aside0.mk (hb); have HO495 := Aside0.mk (ho); clear ho hb hg hat))
          go_ret
          exact ⟨_, by first | rfl | (simp [errW_none, errW_some] <;> rfl) | (simp only [← hji3]; first | rfl | (simp [errW_none, errW_some] <;> rfl)) | (simp [*, errW_none, errW_some] <;> rfl), by (with_reducible repeat (first | apply Kd.R_alloc | apply Kd.R_drewN | apply Kd.R_drew)); exact HO495.out, by repeat (first | (with_reducible first | exact HB.out | apply below_alloc | apply pw_below_drewN | apply below_drew1) | exact HB.out)⟩
         ·rw [if_neg c10] at H
          exact absurd H (by simp)
        ·rw [if_neg c9] at H
         exact absurd H (by simp)
       ·rw [if_neg c8] at H
        exact absurd H (by simp)
      ·replace c7 := Bool.eq_false_iff.mpr c7
       subst c7
       have H1 : (gudgeonref01_trim.l0 k1 l0 ji3) = some r := by rw [if_neg (show ¬ (false = true) by decide)] at H; exact H
       clear H
       have H := H1
       clear H1
       have H' := Aside0.mk H
       clear H
       have p491 : 0 ≤ ((ji3) : Int) := of_decide_eq_true (by first | (with_reducible assumption) | assumption)
       have q491 : (ji3) < (l0.length : Int) := of_decide_eq_true (by first | (with_reducible assumption) | assumption)
       obtain ⟨ad491, e491, hx491_0⟩ := Kd.at_bool HR0.out (ji3) p491 q491
       (try rw [← Nbq6.out] at hx491_0)
       cases e491
       replace hx491_0 := (HB.out.cell (World.block_lt_of_cell? w _ hx491_0)).trans hx491_0
       replace p491 := eq_true p491
       replace q491 := eq_true q491
       go_wp2
       go_roundg k1
       case measure => have := HK1.out; omega
       case rel => exact ⟨(ji3), (by first | rfl | (simp; done) | (simp only [← hji3] <;> (first | rfl | simp)) | (simp [*]; done)), H', ⟨by have := HK1.out; omega⟩, ⟨by repeat (first | (with_reducible first | exact HB.out | apply below_alloc | apply pw_below_drewN | apply below_drew1) | exact HB.out)⟩⟩
     ·rw [if_neg c5] at H
      exact absurd H (by simp)
    ·rw [if_neg c4] at H
     exact absurd H (by simp)
   ·rw [if_neg c2] at H
    have c2b0 : decide (0 < x3_1) = false := decide_eq_false c2
    clear c2
    by_cases c13 : 0 ≤ x3_1
    ·rw [if_pos c13] at H
     have c13b0 := eq_true c13
     have c13b1 : decide (0 ≤ x3_1) = true := decide_eq_true c13
     clear c13
     by_cases c14 : x3_1 ≤ (l0.length : Int)
     ·rw [if_pos c14] at H
      have c14b0 := eq_true c14
      have c14b1 : decide (x3_1 ≤ (l0.length : Int)) = true := decide_eq_true c14
      clear c14
      by_cases c15 : ([] : List Bool).length + (l0.take (x3_1 : Int).toNat).length < 140737488355328
      ·rw [if_pos c15] at H
       have LMc15 := Aside0.mk c15
       clear c15
       obtain ⟨y497, hy497⟩ : ∃ y_ : List Bool, y_ = (([] : List Bool) ++ (l0.take (x3_1 : Int).toNat)) := ⟨_, rfl⟩
       replace H : (some y497) = some r := by first | (rw [hy497]; with_reducible exact H) | (have H2_ := (Option.bind_some _ _).symm.trans H; rw [hy497]; with_reducible exact H2_) | (have H2_ := (Option.bind_some _ _).symm.trans H; with_reducible exact H2_) | with_reducible exact H | (rw [hy497]; exact H) | exact H
       have Ny497 := Aside0.mk hy497
       clear hy497
       obtain rfl := Option.some.inj H
       obtain ⟨i016, hi016, _, hsz16, _⟩ := info_parts info4
       obtain ⟨hcut16, hA16, hC16⟩ := print_take_of (P := Tryd.prog) Value.bool false 69 4 .i64 Tryd.underlying69 hi016 hsz16 A0 c0 l0 x3_1 (of_decide_eq_true (by first | (with_reducible assumption) | assumption)) (of_decide_eq_true (by first | (with_reducible assumption) | assumption)) HC0.out
       have HR496 := Aside0.mk (Kd.C_of_reads (h1 := fun _ => rfl) (hA16 _ (Kd.reads_of_C HR0.out)))
       have HC496 := Aside0.mk hC16
       clear hA16 hC16 hi016 hsz16
       go_wp2_with (first | ((with_reducible refine gate_builtin (b := .append) (xs := #[.const (.slice none 0 0), .tmp 20]) rfl ?_); at_builtin; refine Kd.R_append_rows Kd.bool (w0 := w) w.heap.size rfl (.const (.slice none 0 0)) (.tmp 20) 69 4 (.bool false) 1 rfl Tryd.underlying69 info4 rfl (by decide) (by omega) (.slice none 0 0) ([] : List Bool) (l0.take (x3_1 : Int).toNat) _ _ _ (fun _ => True) (fun _ => False) rfl rfl ?aO ?aR (fun _ _ h => h) (fun _ h => h.elim) ?aF ?aB ?aS ?aL ?_; (case aR => first | (have X_ := (Kd.C_below HR496.out HB.out); rw [show (l0.take (x3_1 : Int).toNat).length = x3_1.toNat from (by rw [List.length_take]; have h_ : (x3_1 : Int) ≤ (l0.length : Int) := of_decide_eq_true (by first | (with_reducible assumption) | assumption); omega)] at X_; exact X_) | (rw [← show (l0.take (x3_1 : Int).toNat).length = x3_1.toNat from (by rw [List.length_take]; have h_ : (x3_1 : Int) ≤ (l0.length : Int) := of_decide_eq_true (by first | (with_reducible assumption) | assumption); omega)]; repeat (first | exact (Kd.C_below HR496.out HB.out) | (with_reducible refine Kd.C_alloc ?_ _) | (with_reducible refine Kd.C_drewN ?_ _) | (with_reducible refine Kd.C_drew ?_))) | (repeat (first | exact (Kd.C_below HR496.out HB.out) | (with_reducible refine Kd.C_alloc ?_ _) | (with_reducible refine Kd.C_drewN ?_ _) | (with_reducible refine Kd.C_drew ?_)))); (case aB => exact HB.out); (case aF => exact (fun _ _ => trivial)); (case aO => exact ((Kd.R_nil _ _ _ _ (fun _ => True)))); (case aS => exact (below_size HB.out)); (case aL => have := LMc15.out; have hlx_ := (show (l0.take (x3_1 : Int).toNat).length = x3_1.toNat from (by rw [List.length_take]; have h_ : (x3_1 : Int) ≤ (l0.length : Int) := of_decide_eq_true (by first | (with_reducible assumption) | assumption); omega)); omega); intro v498 w17 ho hb hg hat; rw [← Ny497.out] at ho; replace HB := Aside0.mk (hb); have HO499 := Aside0.mk (ho); clear ho hb hg hat))
       go_ret
       exact ⟨_, by first | rfl | (simp [errW_none, errW_some] <;> rfl) | (simp [*, errW_none, errW_some] <;> rfl), by (with_reducible repeat (first | apply Kd.R_alloc | apply Kd.R_drewN | apply Kd.R_drew)); exact HO499.out, by repeat (first | (with_reducible first | exact HB.out | apply below_alloc | apply pw_below_drewN | apply below_drew1) | exact HB.out)⟩
      ·rw [if_neg c15] at H
       exact absurd H (by simp)
     ·rw [if_neg c14] at H
      exact absurd H (by simp)
    ·rw [if_neg c13] at H
     exact absurd H (by simp)

/-! ### gudgeonref01_Bits: function 67 -/
mutual
def gudgeonref01_Bits.l0 : Nat → List Int → List Bool → Int → Option (List Bool)
 | 0, _, _, _ => none
 | k + 1, x0, x3, x4 => if x4 < (x0.length : Int) then (if 0 ≤ x4 then (gudgeonref01_Bits.l1 k x0 x3 x4 (rd x0 x4) 0) else (none)) else ((gudgeonref01_trim.f k x3).bind fun t500 => (some t500))
def gudgeonref01_Bits.l1 : Nat → List Int → List Bool → Int → Int → Int → Option (List Bool)
 | 0, _, _, _, _, _ => none
 | k + 1, x0, x3, x4, x5, x6 => if x6 < 32 then (if x3.length < 140737488355328 then (gudgeonref01_Bits.l1 k x0 (x3 ++ [((Int.tmod x5 2) == 1)]) x4 ((Int.tdiv x5 2) % 4294967296) (wrap64 (x6 + 1))) else (none)) else (gudgeonref01_Bits.l0 k x0 x3 (wrap64 (x4 + 1)))
end
def gudgeonref01_Bits.f (k : Nat) (l0 : List Int) : Option (List Bool) := gudgeonref01_Bits.l0 k l0 ([] : List Bool) 0
set_option maxHeartbeats 8000000 in
set_option maxRecDepth 100000 in
theorem gudgeonref01_Bits.calls (k : Nat) (A0 : Option Addr) (c0 : Nat) (l0 : List Int) (r : List Bool) (w : World) (hr0 : Kd.C (Kd.int .u32) w A0 l0.length l0) (hc0 : l0.length ≤ c0) (h : gudgeonref01_Bits.f k l0 = some r) :
  Calls Tryd.prog 67 #[.slice A0 l0.length c0] w fun e w' => ∃ v0_ : Value, e = .returned (v0_) ∧ Kd.R Kd.bool 4 w' w.heap.size (fun _ => True) v0_ r ∧ Below w.heap.size w w' := by
 have HR0 := Aside0.mk hr0
 have HC0 := Aside0.mk hc0
 clear hr0 hc0
 have HB := Aside0.mk (Below.refl w.heap.size w)
 have H : (gudgeonref01_Bits.l0 k l0 ([] : List Bool) 0) = some r := h
 clear h
 have H' := Aside0.mk H
 clear H
 go_enter Tryd.func67, Tryd.ntmps67
 go_wp2
 go_loopg [3, 4] k (fun kq v3 v4 w' => ∃ (x3_1 : List Bool) (x4_1 : Int), v4 = .int .i64 x4_1 ∧ Aside0 (gudgeonref01_Bits.l0 kq l0 x3_1 x4_1 = some r) ∧ Aside0 (kq ≤ k) ∧ Aside0 (Kd.R Kd.bool 4 w' w.heap.size (fun _ => True) v3 x3_1) ∧ Aside0 (Below w.heap.size w w'))
 case atStart => exact ⟨(([] : List Bool)), (0), (by first | rfl | (simp; done) | (simp [*]; done) | (refine congrArg (Value.int _) ?_; omega) | (refine congrArg Value.bool ?_; generalize ByteArray.toList _ = z_; cases z_ <;> rfl)), H', ⟨Nat.le_refl _⟩, ⟨by first | exact Kd.R_nil _ _ _ _ _ | exact Kd.N_nil _ _ _ _ _ | exact Kd.V_nil _ _ _ _ _ | exact Kd.Q_nil _ _ _ _ _ | exact Kd.S_nil _ _ _ _ _⟩, ⟨by repeat (first | (with_reducible first | exact HB.out | apply below_alloc | apply pw_below_drewN | apply below_drew1) | exact HB.out)⟩⟩
 case round =>
  clear H'
  obtain ⟨x3_1, x4_1, rfl, HA, HK1, HO_3, HB⟩ := hrel
  cases gk with
  | zero => exact absurd HA.out (by simp [gudgeonref01_Bits.l0])
  | succ k1 =>
   have H := HA.out
   clear HA
   simp only [gudgeonref01_Bits.l0] at H
   by_cases c2 : x4_1 < (l0.length : Int)
   ·rw [if_pos c2] at H
    have c2b0 : decide (x4_1 < (l0.length : Int)) = true := decide_eq_true c2
    clear c2
    by_cases c3 : 0 ≤ x4_1
    ·rw [if_pos c3] at H
     have c3b0 : decide (0 ≤ x4_1) = true := decide_eq_true c3
     clear c3
     have H' := Aside0.mk H
     clear H
     have p503 : 0 ≤ (x4_1 : Int) := of_decide_eq_true (by first | (with_reducible assumption) | assumption)
     have q503 : x4_1 < (l0.length : Int) := of_decide_eq_true (by first | (with_reducible assumption) | assumption)
     obtain ⟨ad503, e503, hx503_0⟩ := Kd.at_int HR0.out x4_1 p503 q503
     cases e503
     replace hx503_0 := (HB.out.cell (World.block_lt_of_cell? w _ hx503_0)).trans hx503_0
     replace p503 := eq_true p503
     replace q503 := eq_true q503
     go_wp2
     go_loopg [3, 5, 6] k1 (fun kq v3 v5 v6 w' => ∃ (x3_2 : List Bool) (x5_2 : Int) (x6_2 : Int), v5 = .int .u32 x5_2 ∧ v6 = .int .i64 x6_2 ∧ Aside0 (gudgeonref01_Bits.l1 kq l0 x3_2 x4_1 x5_2 x6_2 = some r) ∧ Aside0 (kq ≤ k1) ∧ Aside0 (Kd.R Kd.bool 4 w' w.heap.size (fun _ => True) v3 x3_2) ∧ Aside0 (Below w.heap.size w w'))
     case atStart => exact ⟨(x3_1), (rd l0 x4_1), (0), (by first | rfl | (simp; done) | (simp [*]; done) | (refine congrArg (Value.int _) ?_; omega) | (refine congrArg Value.bool ?_; generalize ByteArray.toList _ = z_; cases z_ <;> rfl)), (by first | rfl | (simp; done) | (simp [*]; done) | (refine congrArg (Value.int _) ?_; omega) | (refine congrArg Value.bool ?_; generalize ByteArray.toList _ = z_; cases z_ <;> rfl)), H', ⟨Nat.le_refl _⟩, ⟨by (with_reducible repeat (first | apply Kd.R_alloc | apply Kd.R_drewN | apply Kd.R_drew)); exact HO_3.out⟩, ⟨by repeat (first | (with_reducible first | exact HB.out | apply below_alloc | apply pw_below_drewN | apply below_drew1) | exact HB.out)⟩⟩
     case round =>
      clear H'
      try clear c2
      try clear c2b0
      try clear p2
      try clear c3
      try clear c3b0
      try clear hx503_0
      try clear p503
      try clear q503
      obtain ⟨x3_2, x5_2, x6_2, rfl, rfl, HA, HK2, HO_3, HB⟩ := hrel
      cases gk with
      | zero => exact absurd HA.out (by simp [gudgeonref01_Bits.l1])
      | succ k2 =>
       have H := HA.out
       clear HA
       simp only [gudgeonref01_Bits.l1] at H
       by_cases c4 : x6_2 < 32
       ·rw [if_pos c4] at H
        have c4b0 : decide (x6_2 < 32) = true := decide_eq_true c4
        clear c4
        by_cases c5 : x3_2.length < 140737488355328
        ·rw [if_pos c5] at H
         have LMc5 := Aside0.mk c5
         clear c5
         obtain ⟨y504, hy504⟩ : ∃ y_ : List Bool, y_ = (x3_2 ++ [((Int.tmod x5_2 2) == 1)]) := ⟨_, rfl⟩
         replace H : (gudgeonref01_Bits.l1 k2 l0 y504 x4_1 ((Int.tdiv x5_2 2) % 4294967296) (wrap64 (x6_2 + 1))) = some r := by first | (rw [hy504]; with_reducible exact H) | (have H2_ := (Option.bind_some _ _).symm.trans H; rw [hy504]; with_reducible exact H2_) | (have H2_ := (Option.bind_some _ _).symm.trans H; with_reducible exact H2_) | with_reducible exact H | (rw [hy504]; exact H) | exact H
         have Ny504 := Aside0.mk hy504
         clear hy504
         have H' := Aside0.mk H
         clear H
         go_wp2_with (first | ((with_reducible refine gate_builtin (b := .append) (xs := #[.tmp 21, .tmp 25]) rfl ?_); at_builtin; refine Kd.R_append Kd.bool (w0 := w) w.heap.size rfl (.tmp 21) (.tmp 25) 69 4 (.bool false) 1 rfl Tryd.underlying69 info4 rfl (by decide) (by omega) u3 x3_2 ((Int.tmod x5_2 2) == 1) [.bool ((Int.tmod x5_2 2) == 1)] (fun _ => True) (fun _ => False) rfl rfl ?aP (fun _ hk => hk.elim) ?aF ?aO ?aB ?aS ?aL ?_; (case aP => exact rfl); (case aB => exact HB.out); (case aF => exact (fun _ _ => trivial)); (case aO => exact HO_3.out); (case aS => exact (below_size HB.out)); (case aL => have := LMc5.out; omega); intro v505 w6 ho hb hg hat; rw [← Ny504.out] at ho; have n0_ := Aside0.mk (hb); have n1_ := Aside0.mk (ho); clear HB; clear HO_3; have HB := n0_; have HO506 := n1_; clear n0_ n1_; clear ho hb hg hat))
         go_roundg k2
         case measure => have := HK1.out; have := HK2.out; omega
         case rel => exact ⟨(y504), ((Int.tdiv x5_2 2) % 4294967296), (wrap64 (x6_2 + 1)), (by first | rfl | (simp; done) | (simp [*]; done) | (refine congrArg (Value.int _) ?_; omega) | (refine congrArg Value.bool ?_; generalize ByteArray.toList _ = z_; cases z_ <;> rfl)), (by first | rfl | (simp; done) | (simp [*]; done) | (refine congrArg (Value.int _) ?_; omega) | (refine congrArg Value.bool ?_; generalize ByteArray.toList _ = z_; cases z_ <;> rfl)), H', ⟨by have := HK1.out; have := HK2.out; omega⟩, ⟨by (with_reducible repeat (first | apply Kd.R_alloc | apply Kd.R_drewN | apply Kd.R_drew)); exact HO506.out⟩, ⟨by repeat (first | (with_reducible first | exact HB.out | apply below_alloc | apply pw_below_drewN | apply below_drew1) | exact HB.out)⟩⟩
        ·rw [if_neg c5] at H
         exact absurd H (by simp)
       ·rw [if_neg c4] at H
        have c4b0 : decide (x6_2 < 32) = false := decide_eq_false c4
        clear c4
        have H' := Aside0.mk H
        clear H
        go_wp2
        go_roundg k2
        case measure => have := HK1.out; have := HK2.out; omega
        case rel => exact ⟨(x3_2), (wrap64 (x4_1 + 1)), (by first | rfl | (simp; done) | (simp [*]; done) | (refine congrArg (Value.int _) ?_; omega) | (refine congrArg Value.bool ?_; generalize ByteArray.toList _ = z_; cases z_ <;> rfl)), H', ⟨by have := HK1.out; have := HK2.out; omega⟩, ⟨by (with_reducible repeat (first | apply Kd.R_alloc | apply Kd.R_drewN | apply Kd.R_drew)); exact HO_3.out⟩, ⟨by repeat (first | (with_reducible first | exact HB.out | apply below_alloc | apply pw_below_drewN | apply below_drew1) | exact HB.out)⟩⟩
    ·rw [if_neg c3] at H
     exact absurd H (by simp)
   ·rw [if_neg c2] at H
    have c2b0 : decide (x4_1 < (l0.length : Int)) = false := decide_eq_false c2
    clear c2
    replace H := Option.bind_eq_some_iff.mp H
    obtain ⟨t500, A70, H⟩ := H
    replace H : (some t500) = some r := H
    have A7 := Aside0.mk A70
    clear A70
    obtain rfl := Option.some.inj H
    obtain ⟨Ao8, co8, eo8⟩ := Kd.R_slice HO_3.out
    subst eo8
    go_wp2_with (first | ((with_reducible refine gate_callee (f := 81) rfl ?_); refine goL (some 30) Tryd.func81 [.slice Ao8 x3_1.length co8] ?_; (with_reducible refine (gudgeonref01_trim.calls k1 _ _ x3_1 t500 _ ?side1 ?side2 A7.out).mono ?_); (case side1 => exact (Kd.R_reads' HO_3.out).2.2); (case side2 => exact (Kd.R_reads' HO_3.out).2.1); rintro e w9 ⟨v501, rfl, ho0, hb⟩; refine ⟨_, rfl, ?_⟩; have HO502 := Aside0.mk (Kd.R_lower (Kd.R_new' ho0 (Kd.R_lt HO_3.out)) (below_size HB.out)); replace HO_3 := Aside0.mk (Kd.R_elder' HO_3.out (Kd.R_base ho0) hb); replace HB := Aside0.mk (below_step HB.out hb)))
    go_ret
    exact ⟨_, by first | rfl | (simp [errW_none, errW_some] <;> rfl) | (simp [*, errW_none, errW_some] <;> rfl), by (with_reducible repeat (first | apply Kd.R_alloc | apply Kd.R_drewN | apply Kd.R_drew)); exact Kd.R_mono HO502.out (fun _ hk => trivial), by repeat (first | (with_reducible first | exact HB.out | apply below_alloc | apply pw_below_drewN | apply below_drew1) | exact HB.out)⟩

/-! ### gudgeonref01_Limbs: function 69 -/
mutual
def gudgeonref01_Limbs.l0 : Nat → List Bool → List Int → Int → Option (List Int)
 | 0, _, _, _ => none
 | k + 1, x0, x3, x4 => if x4 < (x0.length : Int) then (gudgeonref01_Limbs.l1 k x0 x3 x4 0 (wrap64 (x4 + 31))) else (some x3)
def gudgeonref01_Limbs.l1 : Nat → List Bool → List Int → Int → Int → Int → Option (List Int)
 | 0, _, _, _, _, _ => none
 | k + 1, x0, x3, x4, x5, x6 => if x6 ≥ x4 then (if x6 < (x0.length : Int) then (if 0 ≤ x6 then (if rdOf false x0 x6 = true then (gudgeonref01_Limbs.l1 k x0 x3 x4 ((((x5 * 2) % 4294967296) + 1) % 4294967296) (wrap64 (x6 - 1))) else (gudgeonref01_Limbs.l1 k x0 x3 x4 ((x5 * 2) % 4294967296) (wrap64 (x6 - 1)))) else (none)) else (gudgeonref01_Limbs.l1 k x0 x3 x4 ((x5 * 2) % 4294967296) (wrap64 (x6 - 1)))) else (if x3.length < 35184372088832 then (gudgeonref01_Limbs.l0 k x0 (x3 ++ [x5]) (wrap64 (x4 + 32))) else (none))
end
def gudgeonref01_Limbs.f (k : Nat) (l0 : List Bool) : Option (List Int) := (gudgeonref01_trim.f k l0).bind fun t507 => (gudgeonref01_Limbs.l0 k t507 ([] : List Int) 0)
set_option maxHeartbeats 8000000 in
set_option maxRecDepth 100000 in
theorem gudgeonref01_Limbs.calls (k : Nat) (A0 : Option Addr) (c0 : Nat) (l0 : List Bool) (r : List Int) (w : World) (hr0 : Kd.C Kd.bool w A0 l0.length l0) (hc0 : l0.length ≤ c0) (h : gudgeonref01_Limbs.f k l0 = some r) :
  Calls Tryd.prog 69 #[.slice A0 l0.length c0] w fun e w' => ∃ v0_ : Value, e = .returned (v0_) ∧ Kd.R (Kd.int .u32) 51 w' w.heap.size (fun _ => True) v0_ r ∧ Below w.heap.size w w' := by
 have HR0 := Aside0.mk hr0
 have HC0 := Aside0.mk hc0
 clear hr0 hc0
 have HB := Aside0.mk (Below.refl w.heap.size w)
 have H : ((gudgeonref01_trim.f k l0).bind fun t507 => (gudgeonref01_Limbs.l0 k t507 ([] : List Int) 0)) = some r := h
 clear h
 replace H := Option.bind_eq_some_iff.mp H
 obtain ⟨t507, A20, H⟩ := H
 replace H : (gudgeonref01_Limbs.l0 k t507 ([] : List Int) 0) = some r := H
 have A2 := Aside0.mk A20
 clear A20
 have H' := Aside0.mk H
 clear H
 go_enter Tryd.func69, Tryd.ntmps69
 go_wp2_with (first | ((with_reducible refine gate_callee (f := 81) rfl ?_); refine goL (some 8) Tryd.func81 [.slice A0 l0.length c0] ?_; (with_reducible refine (gudgeonref01_trim.calls k _ _ l0 t507 _ ?side1 ?side2 A2.out).mono ?_); (case side1 => exact HR0.out); (case side2 => exact HC0.out); rintro e w3 ⟨v508, rfl, ho0, hb⟩; refine ⟨_, rfl, ?_⟩; have HO509 := Aside0.mk (Kd.R_lower ho0 (below_size HB.out)); replace HB := Aside0.mk (below_step HB.out hb)))
 go_loopg [3, 4] k (fun kq v3 v4 w' => ∃ (x3_1 : List Int) (x4_1 : Int), v4 = .int .i64 x4_1 ∧ Aside0 (gudgeonref01_Limbs.l0 kq t507 x3_1 x4_1 = some r) ∧ Aside0 (kq ≤ k) ∧ Aside0 (Kd.R Kd.bool 4 w' w.heap.size (fun _ => True) v508 t507) ∧ Aside0 (Kd.R (Kd.int .u32) 51 w' w.heap.size (fun _ => True) v3 x3_1) ∧ Aside0 (Below w.heap.size w w'))
 case atStart => exact ⟨(([] : List Int)), (0), (by first | rfl | (simp; done) | (simp [*]; done) | (refine congrArg (Value.int _) ?_; omega) | (refine congrArg Value.bool ?_; generalize ByteArray.toList _ = z_; cases z_ <;> rfl)), H', ⟨Nat.le_refl _⟩, ⟨by (with_reducible repeat (first | apply Kd.R_alloc | apply Kd.R_drewN | apply Kd.R_drew)); exact HO509.out⟩, ⟨by first | exact Kd.R_nil _ _ _ _ _ | exact Kd.N_nil _ _ _ _ _ | exact Kd.V_nil _ _ _ _ _ | exact Kd.Q_nil _ _ _ _ _ | exact Kd.S_nil _ _ _ _ _⟩, ⟨by repeat (first | (with_reducible first | exact HB.out | apply below_alloc | apply pw_below_drewN | apply below_drew1) | exact HB.out)⟩⟩
 case round =>
  clear H'
  try clear p2
  obtain ⟨x3_1, x4_1, rfl, HA, HK1, HO_0, HO_3, HB⟩ := hrel
  cases gk with
  | zero => exact absurd HA.out (by simp [gudgeonref01_Limbs.l0])
  | succ k1 =>
   have H := HA.out
   clear HA
   simp only [gudgeonref01_Limbs.l0] at H
   by_cases c4 : x4_1 < (t507.length : Int)
   ·rw [if_pos c4] at H
    have c4b0 : decide (x4_1 < (t507.length : Int)) = true := decide_eq_true c4
    clear c4
    have H' := Aside0.mk H
    clear H
    obtain ⟨Ao5, co5, eo5⟩ := Kd.R_slice HO_0.out
    subst eo5
    go_wp2
    go_loopg [5, 6] k1 (fun kq v5 v6 w' => ∃ (x5_2 : Int) (x6_2 : Int), v5 = .int .u32 x5_2 ∧ v6 = .int .i64 x6_2 ∧ Aside0 (gudgeonref01_Limbs.l1 kq t507 x3_1 x4_1 x5_2 x6_2 = some r) ∧ Aside0 (kq ≤ k1) ∧ Aside0 (Kd.R Kd.bool 4 w' w.heap.size (fun _ => True) (.slice Ao5 t507.length co5) t507) ∧ Aside0 (Kd.R (Kd.int .u32) 51 w' w.heap.size (fun _ => True) u3 x3_1) ∧ Aside0 (Below w.heap.size w w'))
    case atStart => exact ⟨(0), (wrap64 (x4_1 + 31)), (by first | rfl | (simp; done) | (simp [*]; done) | (refine congrArg (Value.int _) ?_; omega) | (refine congrArg Value.bool ?_; generalize ByteArray.toList _ = z_; cases z_ <;> rfl)), (by first | rfl | (simp; done) | (simp [*]; done) | (refine congrArg (Value.int _) ?_; omega) | (refine congrArg Value.bool ?_; generalize ByteArray.toList _ = z_; cases z_ <;> rfl)), H', ⟨Nat.le_refl _⟩, ⟨by (with_reducible repeat (first | apply Kd.R_alloc | apply Kd.R_drewN | apply Kd.R_drew)); exact HO_0.out⟩, ⟨by (with_reducible repeat (first | apply Kd.R_alloc | apply Kd.R_drewN | apply Kd.R_drew)); exact HO_3.out⟩, ⟨by repeat (first | (with_reducible first | exact HB.out | apply below_alloc | apply pw_below_drewN | apply below_drew1) | exact HB.out)⟩⟩
    case round =>
     clear H'
     try clear p2
     try clear c4
     try clear c4b0
     try clear p2
     obtain ⟨x5_2, x6_2, rfl, rfl, HA, HK2, HO_0, HO_3, HB⟩ := hrel
     cases gk with
     | zero => exact absurd HA.out (by simp [gudgeonref01_Limbs.l1])
     | succ k2 =>
      have H := HA.out
      clear HA
      simp only [gudgeonref01_Limbs.l1] at H
      by_cases c6 : x6_2 ≥ x4_1
      ·rw [if_pos c6] at H
       have c6b0 : decide (x4_1 ≤ x6_2) = true := decide_eq_true c6
       clear c6
       by_cases c7 : x6_2 < (t507.length : Int)
       ·rw [if_pos c7] at H
        have c7b0 : decide (x6_2 < (t507.length : Int)) = true := decide_eq_true c7
        clear c7
        by_cases c8 : 0 ≤ x6_2
        ·rw [if_pos c8] at H
         have c8b0 : decide (0 ≤ x6_2) = true := decide_eq_true c8
         clear c8
         obtain ⟨bq9, hbq9⟩ : ∃ b_ : Bool, b_ = (rdOf false t507 x6_2) := ⟨_, rfl⟩
         replace H : (if bq9 = true then (gudgeonref01_Limbs.l1 k2 t507 x3_1 x4_1 ((((x5_2 * 2) % 4294967296) + 1) % 4294967296) (wrap64 (x6_2 - 1))) else (gudgeonref01_Limbs.l1 k2 t507 x3_1 x4_1 ((x5_2 * 2) % 4294967296) (wrap64 (x6_2 - 1)))) = some r := by rw [← hbq9] at H; exact H
         have Nbq9 := Aside0.mk hbq9
         clear hbq9
         by_cases c10 : bq9 = true
         ·subst c10
          have H1 : (gudgeonref01_Limbs.l1 k2 t507 x3_1 x4_1 ((((x5_2 * 2) % 4294967296) + 1) % 4294967296) (wrap64 (x6_2 - 1))) = some r := by rw [if_pos rfl] at H; exact H
          clear H
          have H := H1
          clear H1
          have H' := Aside0.mk H
          clear H
          have p510 : 0 ≤ (x6_2 : Int) := of_decide_eq_true (by first | (with_reducible assumption) | assumption)
          have q510 : x6_2 < (t507.length : Int) := of_decide_eq_true (by first | (with_reducible assumption) | assumption)
          obtain ⟨ad510, e510, hx510_0⟩ := Kd.at_bool (Kd.R_reads' HO_0.out).2.2 x6_2 p510 q510
          (try rw [← Nbq9.out] at hx510_0)
          cases e510
          replace p510 := eq_true p510
          replace q510 := eq_true q510
          go_wp2
          go_roundg k2
          case measure => have := HK1.out; have := HK2.out; omega
          case rel => exact ⟨((((x5_2 * 2) % 4294967296) + 1) % 4294967296), (wrap64 (x6_2 - 1)), (by first | rfl | (simp; done) | (simp [*]; done) | (refine congrArg (Value.int _) ?_; omega) | (refine congrArg Value.bool ?_; generalize ByteArray.toList _ = z_; cases z_ <;> rfl)), (by first | rfl | (simp; done) | (simp [*]; done) | (refine congrArg (Value.int _) ?_; omega) | (refine congrArg Value.bool ?_; generalize ByteArray.toList _ = z_; cases z_ <;> rfl)), H', ⟨by have := HK1.out; have := HK2.out; omega⟩, ⟨by (with_reducible repeat (first | apply Kd.R_alloc | apply Kd.R_drewN | apply Kd.R_drew)); exact HO_0.out⟩, ⟨by (with_reducible repeat (first | apply Kd.R_alloc | apply Kd.R_drewN | apply Kd.R_drew)); exact HO_3.out⟩, ⟨by repeat (first | (with_reducible first | exact HB.out | apply below_alloc | apply pw_below_drewN | apply below_drew1) | exact HB.out)⟩⟩
         ·replace c10 := Bool.eq_false_iff.mpr c10
          subst c10
          have H1 : (gudgeonref01_Limbs.l1 k2 t507 x3_1 x4_1 ((x5_2 * 2) % 4294967296) (wrap64 (x6_2 - 1))) = some r := by rw [if_neg (show ¬ (false = true) by decide)] at H; exact H
          clear H
          have H := H1
          clear H1
          have H' := Aside0.mk H
          clear H
          have p510 : 0 ≤ (x6_2 : Int) := of_decide_eq_true (by first | (with_reducible assumption) | assumption)
          have q510 : x6_2 < (t507.length : Int) := of_decide_eq_true (by first | (with_reducible assumption) | assumption)
          obtain ⟨ad510, e510, hx510_0⟩ := Kd.at_bool (Kd.R_reads' HO_0.out).2.2 x6_2 p510 q510
          (try rw [← Nbq9.out] at hx510_0)
          cases e510
          replace p510 := eq_true p510
          replace q510 := eq_true q510
          go_wp2
          go_roundg k2
          case measure => have := HK1.out; have := HK2.out; omega
          case rel => exact ⟨((x5_2 * 2) % 4294967296), (wrap64 (x6_2 - 1)), (by first | rfl | (simp; done) | (simp [*]; done) | (refine congrArg (Value.int _) ?_; omega) | (refine congrArg Value.bool ?_; generalize ByteArray.toList _ = z_; cases z_ <;> rfl)), (by first | rfl | (simp; done) | (simp [*]; done) | (refine congrArg (Value.int _) ?_; omega) | (refine congrArg Value.bool ?_; generalize ByteArray.toList _ = z_; cases z_ <;> rfl)), H', ⟨by have := HK1.out; have := HK2.out; omega⟩, ⟨by (with_reducible repeat (first | apply Kd.R_alloc | apply Kd.R_drewN | apply Kd.R_drew)); exact HO_0.out⟩, ⟨by (with_reducible repeat (first | apply Kd.R_alloc | apply Kd.R_drewN | apply Kd.R_drew)); exact HO_3.out⟩, ⟨by repeat (first | (with_reducible first | exact HB.out | apply below_alloc | apply pw_below_drewN | apply below_drew1) | exact HB.out)⟩⟩
        ·rw [if_neg c8] at H
         exact absurd H (by simp)
       ·rw [if_neg c7] at H
        have c7b0 : decide (x6_2 < (t507.length : Int)) = false := decide_eq_false c7
        clear c7
        have H' := Aside0.mk H
        clear H
        go_wp2
        go_roundg k2
        case measure => have := HK1.out; have := HK2.out; omega
        case rel => exact ⟨((x5_2 * 2) % 4294967296), (wrap64 (x6_2 - 1)), (by first | rfl | (simp; done) | (simp [*]; done) | (refine congrArg (Value.int _) ?_; omega) | (refine congrArg Value.bool ?_; generalize ByteArray.toList _ = z_; cases z_ <;> rfl)), (by first | rfl | (simp; done) | (simp [*]; done) | (refine congrArg (Value.int _) ?_; omega) | (refine congrArg Value.bool ?_; generalize ByteArray.toList _ = z_; cases z_ <;> rfl)), H', ⟨by have := HK1.out; have := HK2.out; omega⟩, ⟨by (with_reducible repeat (first | apply Kd.R_alloc | apply Kd.R_drewN | apply Kd.R_drew)); exact HO_0.out⟩, ⟨by (with_reducible repeat (first | apply Kd.R_alloc | apply Kd.R_drewN | apply Kd.R_drew)); exact HO_3.out⟩, ⟨by repeat (first | (with_reducible first | exact HB.out | apply below_alloc | apply pw_below_drewN | apply below_drew1) | exact HB.out)⟩⟩
      ·rw [if_neg c6] at H
       have c6b0 : decide (x4_1 ≤ x6_2) = false := decide_eq_false c6
       clear c6
       by_cases c11 : x3_1.length < 35184372088832
       ·rw [if_pos c11] at H
        have LMc11 := Aside0.mk c11
        clear c11
        obtain ⟨y511, hy511⟩ : ∃ y_ : List Int, y_ = (x3_1 ++ [x5_2]) := ⟨_, rfl⟩
        replace H : (gudgeonref01_Limbs.l0 k2 t507 y511 (wrap64 (x4_1 + 32))) = some r := by first | (rw [hy511]; with_reducible exact H) | (have H2_ := (Option.bind_some _ _).symm.trans H; rw [hy511]; with_reducible exact H2_) | (have H2_ := (Option.bind_some _ _).symm.trans H; with_reducible exact H2_) | with_reducible exact H | (rw [hy511]; exact H) | exact H
        have Ny511 := Aside0.mk hy511
        clear hy511
        have H' := Aside0.mk H
        clear H
        go_wp2_with (first | ((with_reducible refine gate_builtin (b := .append) (xs := #[.tmp 36, .tmp 38]) rfl ?_); at_builtin; refine Kd.R_append (Kd.int .u32) (w0 := w) w.heap.size rfl (.tmp 36) (.tmp 38) 22 51 (.int .u32 0) 4 rfl Tryd.underlying22 info51 rfl (by decide) (by omega) u3 x3_1 x5_2 [.int .u32 x5_2] (fun _ => True) (fun _ => False) rfl rfl ?aP (fun _ hk => hk.elim) ?aF ?aO ?aB ?aS ?aL ?_; (case aP => exact rfl); (case aB => exact HB.out); (case aF => exact (fun _ _ => trivial)); (case aO => exact HO_3.out); (case aS => exact (below_size HB.out)); (case aL => have := LMc11.out; omega); intro v512 w12 ho hb hg hat; rw [← Ny511.out] at ho; have n0_ := Aside0.mk (Kd.R_over' HO_0.out (Kd.R_typed HO_3.out) (by decide) hg); have n1_ := Aside0.mk (hb); have n2_ := Aside0.mk (ho); clear HO_0; clear HB; clear HO_3; have HO_0 := n0_; have HB := n1_; have HO513 := n2_; clear n0_ n1_ n2_; clear ho hb hg hat))
        go_roundg k2
        case measure => have := HK1.out; have := HK2.out; omega
        case rel => exact ⟨(y511), (wrap64 (x4_1 + 32)), (by first | rfl | (simp; done) | (simp [*]; done) | (refine congrArg (Value.int _) ?_; omega) | (refine congrArg Value.bool ?_; generalize ByteArray.toList _ = z_; cases z_ <;> rfl)), H', ⟨by have := HK1.out; have := HK2.out; omega⟩, ⟨by (with_reducible repeat (first | apply Kd.R_alloc | apply Kd.R_drewN | apply Kd.R_drew)); exact HO_0.out⟩, ⟨by (with_reducible repeat (first | apply Kd.R_alloc | apply Kd.R_drewN | apply Kd.R_drew)); exact HO513.out⟩, ⟨by repeat (first | (with_reducible first | exact HB.out | apply below_alloc | apply pw_below_drewN | apply below_drew1) | exact HB.out)⟩⟩
       ·rw [if_neg c11] at H
        exact absurd H (by simp)
   ·rw [if_neg c4] at H
    have c4b0 : decide (x4_1 < (t507.length : Int)) = false := decide_eq_false c4
    clear c4
    obtain rfl := Option.some.inj H
    obtain ⟨Ao13, co13, eo13⟩ := Kd.R_slice HO_0.out
    subst eo13
    go_wp2
    go_ret
    exact ⟨_, by first | rfl | (simp [errW_none, errW_some] <;> rfl) | (simp [*, errW_none, errW_some] <;> rfl), by (with_reducible repeat (first | apply Kd.R_alloc | apply Kd.R_drewN | apply Kd.R_drew)); exact HO_3.out, by repeat (first | (with_reducible first | exact HB.out | apply below_alloc | apply pw_below_drewN | apply below_drew1) | exact HB.out)⟩

/-! ### gudgeonref01_Norm: function 46 -/
def gudgeonref01_Norm.f (k : Nat) (l0 : List Int) : Option (List Int) := (gudgeonref01_Bits.f k l0).bind fun t514 => ((gudgeonref01_Limbs.f k t514).bind fun t517 => (some t517))
set_option maxHeartbeats 8000000 in
set_option maxRecDepth 100000 in
theorem gudgeonref01_Norm.calls (k : Nat) (A0 : Option Addr) (c0 : Nat) (l0 : List Int) (r : List Int) (w : World) (hr0 : Kd.C (Kd.int .u32) w A0 l0.length l0) (hc0 : l0.length ≤ c0) (h : gudgeonref01_Norm.f k l0 = some r) :
  Calls Tryd.prog 46 #[.slice A0 l0.length c0] w fun e w' => ∃ v0_ : Value, e = .returned (v0_) ∧ Kd.R (Kd.int .u32) 51 w' w.heap.size (fun _ => True) v0_ r ∧ Below w.heap.size w w' := by
 have HR0 := Aside0.mk hr0
 have HC0 := Aside0.mk hc0
 clear hr0 hc0
 have HB := Aside0.mk (Below.refl w.heap.size w)
 have H : ((gudgeonref01_Bits.f k l0).bind fun t514 => ((gudgeonref01_Limbs.f k t514).bind fun t517 => (some t517))) = some r := h
 clear h
 replace H := Option.bind_eq_some_iff.mp H
 obtain ⟨t514, A20, H⟩ := H
 replace H : ((gudgeonref01_Limbs.f k t514).bind fun t517 => (some t517)) = some r := H
 have A2 := Aside0.mk A20
 clear A20
 replace H := Option.bind_eq_some_iff.mp H
 obtain ⟨t517, A30, H⟩ := H
 replace H : (some t517) = some r := H
 have A3 := Aside0.mk A30
 clear A30
 obtain rfl := Option.some.inj H
 go_enter Tryd.func46, Tryd.ntmps46
 go_wp2_with (first | ((with_reducible refine gate_callee (f := 67) rfl ?_); refine goL (some 4) Tryd.func67 [.slice A0 l0.length c0] ?_; (with_reducible refine (gudgeonref01_Bits.calls k _ _ l0 t514 _ ?side1 ?side2 A2.out).mono ?_); (case side1 => exact HR0.out); (case side2 => exact HC0.out); rintro e w4 ⟨v515, rfl, ho0, hb⟩; refine ⟨_, rfl, ?_⟩; have HO516 := Aside0.mk (Kd.R_lower ho0 (below_size HB.out)); replace HB := Aside0.mk (below_step HB.out hb); obtain ⟨Ao5, co5, eo5⟩ := Kd.R_slice HO516.out; subst eo5) | ((with_reducible refine gate_callee (f := 69) rfl ?_); refine goL (some 5) Tryd.func69 [.slice Ao5 t514.length co5] ?_; (with_reducible refine (gudgeonref01_Limbs.calls k _ _ t514 t517 _ ?side1 ?side2 A3.out).mono ?_); (case side1 => exact (Kd.R_reads' HO516.out).2.2); (case side2 => exact (Kd.R_reads' HO516.out).2.1); rintro e w6 ⟨v518, rfl, ho0, hb⟩; refine ⟨_, rfl, ?_⟩; replace HO516 := Aside0.mk (Kd.R_below HO516.out hb); have HO519 := Aside0.mk (Kd.R_lower ho0 (below_size HB.out)); replace HB := Aside0.mk (below_step HB.out hb)))
 go_ret
 exact ⟨_, by first | rfl | (simp [errW_none, errW_some] <;> rfl) | (simp [*, errW_none, errW_some] <;> rfl), by (with_reducible repeat (first | apply Kd.R_alloc | apply Kd.R_drewN | apply Kd.R_drew)); exact HO519.out, by repeat (first | (with_reducible first | exact HB.out | apply below_alloc | apply pw_below_drewN | apply below_drew1) | exact HB.out)⟩

/-! ### gudgeonref02_Norm: function 17 -/
def gudgeonref02_Norm.f (k : Nat) (a0_0 : Bool) (l0_1 : List Int) : Option (Bool × List Int) := (gudgeonref01_Norm.f k l0_1).bind fun t522 => (if a0_0 = true then (some (decide ((t522.length : Int) > 0), t522)) else (some (false, t522)))
set_option maxHeartbeats 8000000 in
set_option maxRecDepth 100000 in
theorem gudgeonref02_Norm.calls (k : Nat) (a0_0 : Bool) (A0_1 : Option Addr) (c0_1 : Nat) (l0_1 : List Int) (r1 : Bool) (r2 : List Int) (w : World) (hr0_1 : Kd.C (Kd.int .u32) w A0_1 l0_1.length l0_1) (hc0_1 : l0_1.length ≤ c0_1) (h : gudgeonref02_Norm.f k a0_0 l0_1 = some (r1, r2)) :
  Calls Tryd.prog 17 #[.agg #[.bool a0_0, .slice A0_1 l0_1.length c0_1]] w fun e w' => ∃ v1_ : Value, e = .returned (.agg #[.bool r1, v1_]) ∧ Kd.R (Kd.int .u32) 51 w' w.heap.size (fun _ => True) v1_ r2 ∧ Below w.heap.size w w' := by
 have hu24 := Tryd.underlying24
 have HR0_1 := Aside0.mk hr0_1
 have HC0_1 := Aside0.mk hc0_1
 clear hr0_1 hc0_1
 have HB := Aside0.mk (Below.refl w.heap.size w)
 have H : ((gudgeonref01_Norm.f k l0_1).bind fun t522 => (if a0_0 = true then (some (decide ((t522.length : Int) > 0), t522)) else (some (false, t522)))) = some (r1, r2) := h
 clear h
 replace H := Option.bind_eq_some_iff.mp H
 obtain ⟨t522, A20, H⟩ := H
 replace H : (if a0_0 = true then (some (decide ((t522.length : Int) > 0), t522)) else (some (false, t522))) = some (r1, r2) := H
 have A2 := Aside0.mk A20
 clear A20
 by_cases c3 : a0_0 = true
 ·subst c3
  have H1 : (some (decide ((t522.length : Int) > 0), t522)) = some (r1, r2) := by rw [if_pos rfl] at H; exact H
  clear H
  have H := H1
  clear H1
  rw [show decide ((t522.length : Int) > 0) = decide (0 < t522.length) from decide_eq_decide.mpr (by omega)] at H
  simp only [Option.some.injEq, Prod.mk.injEq] at H
  obtain ⟨rfl, rfl⟩ := H
  go_enter Tryd.func17, Tryd.ntmps17
  go_wp2_with (first | ((with_reducible refine gate_dst (N := 1) rfl ?_); (try (refine gate_guard (by rfl) ?_; dsimp only)); refine box_event ?hg (N := 1) ?hd (cs := #[.bool true, .slice A0_1 l0_1.length c0_1]) (t := 24) ?hr ?_; (case hd => rfl); (case hg => rfl); (case hr => first | (go_simp; done) | (go_simp; rfl)); intro gb520 hg w4 hbox hb; have BK520 := Aside0.mk (hbox); have GW520 := Aside0.mk (bxLe HB.out hg); have GE520 := GW520; replace HB := Aside0.mk (below_step HB.out hb); clear hb hbox hg) | ((with_reducible refine gate_dst (N := 2) rfl ?_); (try (refine gate_guard (by rfl) ?_; dsimp only)); refine box_event ?hg (N := 2) ?hd (cs := #[.bool false, .slice none 0 0]) (t := 24) ?hr ?_; (case hd => rfl); (case hg => rfl); (case hr => first | (go_simp; done) | (go_simp; rfl)); intro gb521 hg w5 hbox hb; have BK521 := Aside0.mk (hbox); have GW521 := Aside0.mk (bxLe HB.out hg); have GE521 := GW521; replace HB := Aside0.mk (below_step HB.out hb); have NB520_521 := Aside0.mk (neL BK520.out hg); have NB521_520 := Aside0.mk (neR BK520.out hg); replace BK520 := Aside0.mk (blk_below BK520.out hb); clear hb hbox hg; have hnb6 := NB520_521.out; have hnc6 := NB521_520.out; have hcz7_0 := bc0 BK520.out; have hcz7_1 := bc1 BK520.out; have hfz7_0 := blk_frozen BK520.out 0; have hfz7_1 := blk_frozen BK520.out 1) | ((with_reducible refine gate_callee (f := 46) rfl ?_); refine goL (some 6) Tryd.func46 [.slice A0_1 l0_1.length c0_1] ?_; (with_reducible refine (gudgeonref01_Norm.calls k _ _ l0_1 t522 _ ?side1 ?side2 A2.out).mono ?_); (case side1 => exact (Kd.C_below HR0_1.out HB.out)); (case side2 => exact HC0_1.out); rintro e w8 ⟨v523, rfl, ho0, hb⟩; refine ⟨_, rfl, ?_⟩; have HO524 := Aside0.mk (Kd.R_lower ho0 (below_size HB.out)); replace BK520 := Aside0.mk (blk_below BK520.out hb); replace BK521 := Aside0.mk (blk_below BK521.out hb); replace HB := Aside0.mk (below_step HB.out hb); have hcz9_0 := bc0 BK520.out; have hcz9_1 := bc1 BK520.out; have hfz9_0 := blk_frozen BK520.out 0; have hfz9_1 := blk_frozen BK520.out 1; obtain ⟨Ao10, co10, eo10⟩ := Kd.R_slice HO524.out; subst eo10; have hcz11_0 := bc0 BK521.out; have hcz11_1 := bc1 BK521.out; have hfz11_0 := blk_frozen BK521.out 0; have hfz11_1 := blk_frozen BK521.out 1))
  refine bodyPost_ret (results_cell_row rfl _ _ gb521 24 #[.bool (decide (0 < t522.length)), .slice Ao10 t522.length co10] (0, 0) _ rfl (by refine blk_put (cs := #[.bool (decide (0 < t522.length)), .slice none 0 0]) ?_ 1 _ rfl; refine blk_put (cs := #[.bool false, .slice none 0 0]) ?_ 0 _ rfl; exact BK521.out) Tryd.underlying24 rfl (by kernel_rfl)) rfl ?_
  exact ⟨_, by first | rfl | (simp [errW_none, errW_some] <;> rfl) | (simp [*, errW_none, errW_some] <;> rfl), by (with_reducible repeat (first | apply Kd.R_alloc | apply Kd.R_drewN | apply Kd.R_drew)); exact Kd.R_mono (Kd.R_far (p := ⟨gb521, 1, none⟩) (Kd.R_far (p := ⟨gb521, 0, none⟩) (Kd.R_types HO524.out BK521.out (by decide)) (fun _ hk => hk.2) (.bool (decide (0 < t522.length)))) (fun _ hk => hk.2) (.slice Ao10 t522.length co10)) (fun _ hk => trivial), by repeat (first | (with_reducible first | exact HB.out | apply below_alloc | apply pw_below_drewN | apply below_drew1 | refine below_set ?_ GE520.out | refine below_set ?_ GE521.out) | exact HB.out)⟩
 ·replace c3 := Bool.eq_false_iff.mpr c3
  subst c3
  have H1 : (some (false, t522)) = some (r1, r2) := by rw [if_neg (show ¬ (false = true) by decide)] at H; exact H
  clear H
  have H := H1
  clear H1
  simp only [Option.some.injEq, Prod.mk.injEq] at H
  obtain ⟨rfl, rfl⟩ := H
  go_enter Tryd.func17, Tryd.ntmps17
  go_wp2_with (first | ((with_reducible refine gate_dst (N := 1) rfl ?_); (try (refine gate_guard (by rfl) ?_; dsimp only)); refine box_event ?hg (N := 1) ?hd (cs := #[.bool false, .slice A0_1 l0_1.length c0_1]) (t := 24) ?hr ?_; (case hd => rfl); (case hg => rfl); (case hr => first | (go_simp; done) | (go_simp; rfl)); intro gb520 hg w12 hbox hb; have BK520 := Aside0.mk (hbox); have GW520 := Aside0.mk (bxLe HB.out hg); have GE520 := GW520; replace HB := Aside0.mk (below_step HB.out hb); clear hb hbox hg) | ((with_reducible refine gate_dst (N := 2) rfl ?_); (try (refine gate_guard (by rfl) ?_; dsimp only)); refine box_event ?hg (N := 2) ?hd (cs := #[.bool false, .slice none 0 0]) (t := 24) ?hr ?_; (case hd => rfl); (case hg => rfl); (case hr => first | (go_simp; done) | (go_simp; rfl)); intro gb521 hg w13 hbox hb; have BK521 := Aside0.mk (hbox); have GW521 := Aside0.mk (bxLe HB.out hg); have GE521 := GW521; replace HB := Aside0.mk (below_step HB.out hb); have NB520_521 := Aside0.mk (neL BK520.out hg); have NB521_520 := Aside0.mk (neR BK520.out hg); replace BK520 := Aside0.mk (blk_below BK520.out hb); clear hb hbox hg; have hnb14 := NB520_521.out; have hnc14 := NB521_520.out; have hcz15_0 := bc0 BK520.out; have hcz15_1 := bc1 BK520.out; have hfz15_0 := blk_frozen BK520.out 0; have hfz15_1 := blk_frozen BK520.out 1) | ((with_reducible refine gate_callee (f := 46) rfl ?_); refine goL (some 6) Tryd.func46 [.slice A0_1 l0_1.length c0_1] ?_; (with_reducible refine (gudgeonref01_Norm.calls k _ _ l0_1 t522 _ ?side1 ?side2 A2.out).mono ?_); (case side1 => exact (Kd.C_below HR0_1.out HB.out)); (case side2 => exact HC0_1.out); rintro e w16 ⟨v523, rfl, ho0, hb⟩; refine ⟨_, rfl, ?_⟩; have HO524 := Aside0.mk (Kd.R_lower ho0 (below_size HB.out)); replace BK520 := Aside0.mk (blk_below BK520.out hb); replace BK521 := Aside0.mk (blk_below BK521.out hb); replace HB := Aside0.mk (below_step HB.out hb); have hcz17_0 := bc0 BK520.out; have hcz17_1 := bc1 BK520.out; have hfz17_0 := blk_frozen BK520.out 0; have hfz17_1 := blk_frozen BK520.out 1; obtain ⟨Ao18, co18, eo18⟩ := Kd.R_slice HO524.out; subst eo18; have hcz19_0 := bc0 BK521.out; have hcz19_1 := bc1 BK521.out; have hfz19_0 := blk_frozen BK521.out 0; have hfz19_1 := blk_frozen BK521.out 1))
  refine bodyPost_ret (results_cell_row rfl _ _ gb521 24 #[.bool false, .slice Ao18 t522.length co18] (0, 0) _ rfl (by refine blk_put (cs := #[.bool false, .slice none 0 0]) ?_ 1 _ rfl; refine blk_put (cs := #[.bool false, .slice none 0 0]) ?_ 0 _ rfl; exact BK521.out) Tryd.underlying24 rfl (by kernel_rfl)) rfl ?_
  exact ⟨_, by first | rfl | (simp [errW_none, errW_some] <;> rfl) | (simp [*, errW_none, errW_some] <;> rfl), by (with_reducible repeat (first | apply Kd.R_alloc | apply Kd.R_drewN | apply Kd.R_drew)); exact Kd.R_mono (Kd.R_far (p := ⟨gb521, 1, none⟩) (Kd.R_far (p := ⟨gb521, 0, none⟩) (Kd.R_types HO524.out BK521.out (by decide)) (fun _ hk => hk.2) (.bool false)) (fun _ hk => hk.2) (.slice Ao18 t522.length co18)) (fun _ hk => trivial), by repeat (first | (with_reducible first | exact HB.out | apply below_alloc | apply pw_below_drewN | apply below_drew1 | refine below_set ?_ GE520.out | refine below_set ?_ GE521.out) | exact HB.out)⟩

/-! ### gudgeonref02_Neg: function 19 -/
end Go.Proofs.YthnfmmaolkenkaaDoor.PA
/- Written by a program of this session, wip/tools/patch_print.py, over the kit's print of the loaded functions. -/
namespace Go.Proofs.YthnfmmaolkenkaaDoor.H
end Go.Proofs.YthnfmmaolkenkaaDoor.H
namespace Go.Proofs.YthnfmmaolkenkaaDoor.PA
open Go.RowKit Go.Proofs.YthnfmmaolkenkaaDoorW.PrintWords Go.Proofs.YthnfmmaolkenkaaDoorW.PrintLast Go.Proofs.YthnfmmaolkenkaaDoorW.PrintMore Go.Proofs.YthnfmmaolkenkaaDoor.H
attribute [local go_sem] max2_int min2_int max_two min_two max_three min_three max_four min_four   -- for this text's walks alone
attribute [local go_sem] box_twice
set_option linter.unusedVariables false
set_option linter.unusedSimpArgs false

/-! ### whole_Add: function 20 -/
/-! ### gudgeonref01_at: function 82 -/
def gudgeonref01_at.f (l0 : List Bool) (a1 : Int) : Option (Bool) := if a1 < (l0.length : Int) then (if 0 ≤ a1 then (some (rdOf false l0 a1)) else (none)) else (some false)
set_option maxHeartbeats 8000000 in
set_option maxRecDepth 100000 in
theorem gudgeonref01_at.calls (A0 : Option Addr) (c0 : Nat) (l0 : List Bool) (a1 : Int) (r : Bool) (w : World) (hr0 : Kd.C Kd.bool w A0 l0.length l0) (hc0 : l0.length ≤ c0) (h : gudgeonref01_at.f l0 a1 = some r) :
  Calls Tryd.prog 82 #[.slice A0 l0.length c0, .int .i64 a1] w fun e w' => e = .returned (.bool r) ∧ Drawn0 w w' := by
 have HR0 := Aside0.mk hr0
 have HC0 := Aside0.mk hc0
 clear hr0 hc0
 have H : (if a1 < (l0.length : Int) then (if 0 ≤ a1 then (some (rdOf false l0 a1)) else (none)) else (some false)) = some r := h
 clear h
 by_cases c3 : a1 < (l0.length : Int)
 ·rw [if_pos c3] at H
  have c3b0 : decide (a1 < (l0.length : Int)) = true := decide_eq_true c3
  clear c3
  by_cases c4 : 0 ≤ a1
  ·rw [if_pos c4] at H
   have c4b0 : decide (0 ≤ a1) = true := decide_eq_true c4
   clear c4
   obtain rfl := Option.some.inj H
   have p558 : 0 ≤ (a1 : Int) := of_decide_eq_true (by first | (with_reducible assumption) | assumption)
   have q558 : a1 < (l0.length : Int) := of_decide_eq_true (by first | (with_reducible assumption) | assumption)
   obtain ⟨ad558, e558, hx558_0⟩ := Kd.at_bool HR0.out a1 p558 q558
   cases e558
   replace p558 := eq_true p558
   replace q558 := eq_true q558
   go_enter Tryd.func82, Tryd.ntmps82
   go_wp2
   go_ret
   exact ⟨by first | rfl | (simp; done) | (simp [*]; done) | (refine congrArg (fun z_ => Ending.returned (Value.bool z_)) ?_; generalize ByteArray.toList _ = z_; cases z_ <;> rfl) | (refine congrArg (Value.int _) ?_; omega) | (refine congrArg Value.bool ?_; generalize ByteArray.toList _ = z_; cases z_ <;> rfl), by repeat (first | exact Drawn0.refl _ | apply Drawn0.step)⟩
  ·rw [if_neg c4] at H
   exact absurd H (by simp)
 ·rw [if_neg c3] at H
  have c3b0 : decide (a1 < (l0.length : Int)) = false := decide_eq_false c3
  clear c3
  obtain rfl := Option.some.inj H
  go_enter Tryd.func82, Tryd.ntmps82
  go_wp2
  go_ret
  exact ⟨by first | rfl | (simp; done) | (simp [*]; done) | (refine congrArg (fun z_ => Ending.returned (Value.bool z_)) ?_; generalize ByteArray.toList _ = z_; cases z_ <;> rfl) | (refine congrArg (Value.int _) ?_; omega) | (refine congrArg Value.bool ?_; generalize ByteArray.toList _ = z_; cases z_ <;> rfl), by repeat (first | exact Drawn0.refl _ | apply Drawn0.step)⟩

/-! ### gudgeonref01_add: function 70 -/
mutual
def gudgeonref01_add.l0 : Nat → List Bool → List Bool → List Bool → Bool → Int → Option (List Bool)
 | 0, _, _, _, _, _ => none
 | k + 1, x0, x1, x5, x6, x7 => if x7 < (x0.length : Int) then (gudgeonref01_add.j1 k x0 x1 x5 x6 x7 true) else (if x7 < (x1.length : Int) then (gudgeonref01_add.j1 k x0 x1 x5 x6 x7 true) else (gudgeonref01_add.j1 k x0 x1 x5 x6 x7 x6))
def gudgeonref01_add.j1 : Nat → List Bool → List Bool → List Bool → Bool → Int → Bool → Option (List Bool)
 | 0, _, _, _, _, _, _ => none
 | k + 1, x0, x1, x5, x6, x7, x23 => if x23 = true then ((gudgeonref01_at.f x0 x7).bind fun t562 => ((gudgeonref01_at.f x1 x7).bind fun t563 => (if t562 = true then (gudgeonref01_add.j2 k x0 x1 x5 x6 x7 t563 (0 + 1)) else (gudgeonref01_add.j2 k x0 x1 x5 x6 x7 t563 0)))) else ((gudgeonref01_trim.f k x5).bind fun t559 => (some t559))
def gudgeonref01_add.j2 : Nat → List Bool → List Bool → List Bool → Bool → Int → Bool → Int → Option (List Bool)
 | 0, _, _, _, _, _, _, _ => none
 | k + 1, x0, x1, x5, x6, x7, x9, x10 => if x9 = true then (if x6 = true then (if x5.length < 140737488355328 then (gudgeonref01_add.l0 k x0 x1 (x5 ++ [((Int.tmod (wrap64 ((wrap64 (x10 + 1)) + 1)) 2) == 1)]) (decide ((wrap64 ((wrap64 (x10 + 1)) + 1)) > 1)) (wrap64 (x7 + 1))) else (none)) else (if x5.length < 140737488355328 then (gudgeonref01_add.l0 k x0 x1 (x5 ++ [((Int.tmod (wrap64 (x10 + 1)) 2) == 1)]) (decide ((wrap64 (x10 + 1)) > 1)) (wrap64 (x7 + 1))) else (none))) else (if x6 = true then (if x5.length < 140737488355328 then (gudgeonref01_add.l0 k x0 x1 (x5 ++ [((Int.tmod (wrap64 (x10 + 1)) 2) == 1)]) (decide ((wrap64 (x10 + 1)) > 1)) (wrap64 (x7 + 1))) else (none)) else (if x5.length < 140737488355328 then (gudgeonref01_add.l0 k x0 x1 (x5 ++ [((Int.tmod x10 2) == 1)]) (decide (x10 > 1)) (wrap64 (x7 + 1))) else (none)))
end
def gudgeonref01_add.f (k : Nat) (l0 : List Bool) (l1 : List Bool) : Option (List Bool) := gudgeonref01_add.l0 k l0 l1 ([] : List Bool) false 0
set_option maxHeartbeats 8000000 in
set_option maxRecDepth 100000 in
theorem gudgeonref01_add.calls (k : Nat) (A0 : Option Addr) (c0 : Nat) (l0 : List Bool) (A1 : Option Addr) (c1 : Nat) (l1 : List Bool) (r : List Bool) (w : World) (hr0 : Kd.C Kd.bool w A0 l0.length l0) (hc0 : l0.length ≤ c0) (hr1 : Kd.C Kd.bool w A1 l1.length l1) (hc1 : l1.length ≤ c1) (h : gudgeonref01_add.f k l0 l1 = some r) :
  Calls Tryd.prog 70 #[.slice A0 l0.length c0, .slice A1 l1.length c1] w fun e w' => ∃ v0_ : Value, e = .returned (v0_) ∧ Kd.R Kd.bool 4 w' w.heap.size (fun _ => True) v0_ r ∧ Below w.heap.size w w' := by
 have HR0 := Aside0.mk hr0
 have HC0 := Aside0.mk hc0
 clear hr0 hc0
 have HR1 := Aside0.mk hr1
 have HC1 := Aside0.mk hc1
 clear hr1 hc1
 have HB := Aside0.mk (Below.refl w.heap.size w)
 have H : (gudgeonref01_add.l0 k l0 l1 ([] : List Bool) false 0) = some r := h
 clear h
 have H' := Aside0.mk H
 clear H
 go_enter Tryd.func70, Tryd.ntmps70
 go_wp2
 go_loopg [5, 6, 7] k (fun kq v5 v6 v7 w' => ∃ (x5_1 : List Bool) (x6_1 : Bool) (x7_1 : Int), v6 = .bool x6_1 ∧ v7 = .int .i64 x7_1 ∧ Aside0 (gudgeonref01_add.l0 kq l0 l1 x5_1 x6_1 x7_1 = some r) ∧ Aside0 (kq ≤ k) ∧ Aside0 (Kd.R Kd.bool 4 w' w.heap.size (fun _ => True) v5 x5_1) ∧ Aside0 (Below w.heap.size w w'))
 case atStart => exact ⟨(([] : List Bool)), (false), (0), (by first | rfl | (simp; done) | (simp [*]; done) | (refine congrArg (Value.int _) ?_; omega) | (refine congrArg Value.bool ?_; generalize ByteArray.toList _ = z_; cases z_ <;> rfl)), (by first | rfl | (simp; done) | (simp [*]; done) | (refine congrArg (Value.int _) ?_; omega) | (refine congrArg Value.bool ?_; generalize ByteArray.toList _ = z_; cases z_ <;> rfl)), H', ⟨Nat.le_refl _⟩, ⟨by first | exact Kd.R_nil _ _ _ _ _ | exact Kd.N_nil _ _ _ _ _ | exact Kd.V_nil _ _ _ _ _ | exact Kd.Q_nil _ _ _ _ _ | exact Kd.S_nil _ _ _ _ _⟩, ⟨by repeat (first | (with_reducible first | exact HB.out | apply below_alloc | apply pw_below_drewN | apply below_drew1) | exact HB.out)⟩⟩
 case round =>
  clear H'
  try clear c1
  try clear p2
  obtain ⟨x5_1, x6_1, x7_1, rfl, rfl, HA, HK1, HO_5, HB⟩ := hrel
  cases gk with
  | zero => exact absurd HA.out (by simp [gudgeonref01_add.l0])
  | succ k1 =>
   have H := HA.out
   clear HA
   simp only [gudgeonref01_add.l0] at H
   have HC3 := Aside0.mk H
   clear H
   go_upto_region 4 with (fail)
   go_cut [23] (fun v23 wc => ∃ (kq : Nat) (x23_2 : Bool), v23 = .bool x23_2 ∧ Aside0 (gudgeonref01_add.j1 kq l0 l1 x5_1 x6_1 x7_1 x23_2 = some r) ∧ Aside0 (kq ≤ k1) ∧ Aside0 (Kd.R Kd.bool 4 wc w.heap.size (fun _ => True) u5 x5_1) ∧ Aside0 (Below w.heap.size w wc))
   case first =>
    have H := HC3.out
    clear HC3
    by_cases c4 : x7_1 < (l0.length : Int)
    ·rw [if_pos c4] at H
     have c4b0 : decide (x7_1 < (l0.length : Int)) = true := decide_eq_true c4
     clear c4
     (first | rw [c4b0] | rw [c4b1] | (simp only [i64_w, i32_w]; rw [c4b0]) | skip)
     have H' := Aside0.mk H
     clear H
     go_wp2
     go_meet
     case rel => exact ⟨_, (true), (by first | rfl | (simp; done) | (simp [*]; done) | (refine congrArg (Value.int _) ?_; omega) | (refine congrArg Value.bool ?_; generalize ByteArray.toList _ = z_; cases z_ <;> rfl)), H', ⟨by have := HK1.out; first | omega | exact Nat.le_refl _⟩, ⟨by (with_reducible repeat (first | apply Kd.R_alloc | apply Kd.R_drewN | apply Kd.R_drew)); exact HO_5.out⟩, ⟨by repeat (first | (with_reducible first | exact HB.out | apply below_alloc | apply pw_below_drewN | apply below_drew1) | exact HB.out)⟩⟩
    ·rw [if_neg c4] at H
     have c4b0 : decide (x7_1 < (l0.length : Int)) = false := decide_eq_false c4
     clear c4
     (first | rw [c4b0] | rw [c4b1] | (simp only [i64_w, i32_w]; rw [c4b0]) | skip)
     by_cases c5 : x7_1 < (l1.length : Int)
     ·rw [if_pos c5] at H
      have c5b0 : decide (x7_1 < (l1.length : Int)) = true := decide_eq_true c5
      clear c5
      have H' := Aside0.mk H
      clear H
      go_wp2
      go_meet
      case rel => exact ⟨_, (true), (by first | rfl | (simp; done) | (simp [*]; done) | (refine congrArg (Value.int _) ?_; omega) | (refine congrArg Value.bool ?_; generalize ByteArray.toList _ = z_; cases z_ <;> rfl)), H', ⟨by have := HK1.out; first | omega | exact Nat.le_refl _⟩, ⟨by (with_reducible repeat (first | apply Kd.R_alloc | apply Kd.R_drewN | apply Kd.R_drew)); exact HO_5.out⟩, ⟨by repeat (first | (with_reducible first | exact HB.out | apply below_alloc | apply pw_below_drewN | apply below_drew1) | exact HB.out)⟩⟩
     ·rw [if_neg c5] at H
      have c5b0 : decide (x7_1 < (l1.length : Int)) = false := decide_eq_false c5
      clear c5
      have H' := Aside0.mk H
      clear H
      go_wp2
      go_meet
      case rel => exact ⟨_, (x6_1), (by first | rfl | (simp; done) | (simp [*]; done) | (refine congrArg (Value.int _) ?_; omega) | (refine congrArg Value.bool ?_; generalize ByteArray.toList _ = z_; cases z_ <;> rfl)), H', ⟨by have := HK1.out; first | omega | exact Nat.le_refl _⟩, ⟨by (with_reducible repeat (first | apply Kd.R_alloc | apply Kd.R_drewN | apply Kd.R_drew)); exact HO_5.out⟩, ⟨by repeat (first | (with_reducible first | exact HB.out | apply below_alloc | apply pw_below_drewN | apply below_drew1) | exact HB.out)⟩⟩
   case rest =>
    clear HC3
    try clear c1
    try clear p2
    try clear c4
    try clear c4b0
    try clear c5
    try clear c5b0
    try clear p2
    obtain ⟨kq, x23_2, rfl, HA, HJ2, HO_5, HB⟩ := hcut
    cases kq with
    | zero => exact absurd HA.out (by simp [gudgeonref01_add.j1])
    | succ kj2 =>
     have H := HA.out
     clear HA
     simp only [gudgeonref01_add.j1] at H
     by_cases c6 : x23_2 = true
     ·subst c6
      have H1 : ((gudgeonref01_at.f l0 x7_1).bind fun t562 => ((gudgeonref01_at.f l1 x7_1).bind fun t563 => (if t562 = true then (gudgeonref01_add.j2 kj2 l0 l1 x5_1 x6_1 x7_1 t563 (0 + 1)) else (gudgeonref01_add.j2 kj2 l0 l1 x5_1 x6_1 x7_1 t563 0)))) = some r := by rw [if_pos rfl] at H; exact H
      clear H
      have H := H1
      clear H1
      replace H := Option.bind_eq_some_iff.mp H
      obtain ⟨t562, A70, H⟩ := H
      replace H : ((gudgeonref01_at.f l1 x7_1).bind fun t563 => (if t562 = true then (gudgeonref01_add.j2 kj2 l0 l1 x5_1 x6_1 x7_1 t563 (0 + 1)) else (gudgeonref01_add.j2 kj2 l0 l1 x5_1 x6_1 x7_1 t563 0))) = some r := H
      have A7 := Aside0.mk A70
      clear A70
      replace H := Option.bind_eq_some_iff.mp H
      obtain ⟨t563, A80, H⟩ := H
      replace H : (if t562 = true then (gudgeonref01_add.j2 kj2 l0 l1 x5_1 x6_1 x7_1 t563 (0 + 1)) else (gudgeonref01_add.j2 kj2 l0 l1 x5_1 x6_1 x7_1 t563 0)) = some r := H
      have A8 := Aside0.mk A80
      clear A80
      have HC9 := Aside0.mk H
      clear H
      go_upto_if 32 with (first | ((with_reducible refine gate_callee (f := 82) rfl ?_); refine goL (some 28) Tryd.func82 [.slice A0 l0.length c0, .int .i64 x7_1] ?_; (with_reducible refine (gudgeonref01_at.calls _ _ l0 x7_1 t562 _ ?side1 ?side2 A7.out).mono ?_); (case side1 => repeat (first | exact (Kd.C_below HR0.out HB.out) | (with_reducible refine Kd.C_alloc ?_ _) | (with_reducible refine Kd.C_drewN ?_ _) | (with_reducible refine Kd.C_drew ?_))); (case side2 => exact HC0.out); rintro e w' ⟨rfl, ⟨nd, rfl⟩⟩; refine ⟨_, rfl, ?_⟩) | ((with_reducible refine gate_callee (f := 82) rfl ?_); refine goL (some 31) Tryd.func82 [.slice A1 l1.length c1, .int .i64 x7_1] ?_; (with_reducible refine (gudgeonref01_at.calls _ _ l1 x7_1 t563 _ ?side1 ?side2 A8.out).mono ?_); (case side1 => repeat (first | exact (Kd.C_below HR1.out (by repeat first | exact HB.out | refine bxSet ?_ (by assumption) | apply below_alloc | apply pw_below_drewN)) | (with_reducible refine Kd.C_alloc ?_ _) | (with_reducible refine Kd.C_drewN ?_ _) | (with_reducible refine Kd.C_drew ?_))); (case side2 => exact HC1.out); rintro e w' ⟨rfl, ⟨nd, rfl⟩⟩; refine ⟨_, rfl, ?_⟩))
      (try simp only [Act.put, List.setIfInBounds_toArray, List.set_cons_zero, List.set_cons_succ])
      go_cut [10] (fun v10 wc => ∃ (kq : Nat) (x10_8 : Int), v10 = .int .i64 x10_8 ∧ Aside0 (gudgeonref01_add.j2 kq l0 l1 x5_1 x6_1 x7_1 t563 x10_8 = some r) ∧ Aside0 (kq ≤ kj2) ∧ Aside0 (Kd.R Kd.bool 4 wc w.heap.size (fun _ => True) u5 x5_1) ∧ Aside0 (Below w.heap.size w wc))
      case first =>
       have H := HC9.out
       clear HC9
       by_cases c10 : t562 = true
       ·subst c10
        have H1 : (gudgeonref01_add.j2 kj2 l0 l1 x5_1 x6_1 x7_1 t563 (0 + 1)) = some r := by rw [if_pos rfl] at H; exact H
        clear H
        have H := H1
        clear H1
        have H' := Aside0.mk H
        clear H
        go_wp2
        go_meet
        case rel => exact ⟨_, (0 + 1), (by first | rfl | (simp; done) | (simp [*]; done) | (refine congrArg (Value.int _) ?_; omega) | (refine congrArg Value.bool ?_; generalize ByteArray.toList _ = z_; cases z_ <;> rfl)), H', ⟨by have := HK1.out; have := HJ2.out; first | omega | exact Nat.le_refl _⟩, ⟨by (with_reducible repeat (first | apply Kd.R_alloc | apply Kd.R_drewN | apply Kd.R_drew)); exact HO_5.out⟩, ⟨by repeat (first | (with_reducible first | exact HB.out | apply below_alloc | apply pw_below_drewN | apply below_drew1) | exact HB.out)⟩⟩
       ·replace c10 := Bool.eq_false_iff.mpr c10
        subst c10
        have H1 : (gudgeonref01_add.j2 kj2 l0 l1 x5_1 x6_1 x7_1 t563 0) = some r := by rw [if_neg (show ¬ (false = true) by decide)] at H; exact H
        clear H
        have H := H1
        clear H1
        have H' := Aside0.mk H
        clear H
        go_wp2
        go_meet
        case rel => exact ⟨_, (0), (by first | rfl | (simp; done) | (simp [*]; done) | (refine congrArg (Value.int _) ?_; omega) | (refine congrArg Value.bool ?_; generalize ByteArray.toList _ = z_; cases z_ <;> rfl)), H', ⟨by have := HK1.out; have := HJ2.out; first | omega | exact Nat.le_refl _⟩, ⟨by (with_reducible repeat (first | apply Kd.R_alloc | apply Kd.R_drewN | apply Kd.R_drew)); exact HO_5.out⟩, ⟨by repeat (first | (with_reducible first | exact HB.out | apply below_alloc | apply pw_below_drewN | apply below_drew1) | exact HB.out)⟩⟩
      case rest =>
       clear HC9
       try clear c1
       try clear p2
       try clear c4
       try clear c4b0
       try clear c5
       try clear c5b0
       try clear c6
       try clear c7
       try clear c8
       try clear c10
       try clear p2
       obtain ⟨kq, x10_8, rfl, HA, HJ8, HO_5, HB⟩ := hcut
       cases kq with
       | zero => exact absurd HA.out (by simp [gudgeonref01_add.j2])
       | succ kj8 =>
        have H := HA.out
        clear HA
        simp only [gudgeonref01_add.j2] at H
        by_cases c11 : t563 = true
        ·subst c11
         have H1 : (if x6_1 = true then (if x5_1.length < 140737488355328 then (gudgeonref01_add.l0 kj8 l0 l1 (x5_1 ++ [((Int.tmod (wrap64 ((wrap64 (x10_8 + 1)) + 1)) 2) == 1)]) (decide ((wrap64 ((wrap64 (x10_8 + 1)) + 1)) > 1)) (wrap64 (x7_1 + 1))) else (none)) else (if x5_1.length < 140737488355328 then (gudgeonref01_add.l0 kj8 l0 l1 (x5_1 ++ [((Int.tmod (wrap64 (x10_8 + 1)) 2) == 1)]) (decide ((wrap64 (x10_8 + 1)) > 1)) (wrap64 (x7_1 + 1))) else (none))) = some r := by rw [if_pos rfl] at H; exact H
         clear H
         have H := H1
         clear H1
         by_cases c12 : x6_1 = true
         ·subst c12
          have H1 : (if x5_1.length < 140737488355328 then (gudgeonref01_add.l0 kj8 l0 l1 (x5_1 ++ [((Int.tmod (wrap64 ((wrap64 (x10_8 + 1)) + 1)) 2) == 1)]) (decide ((wrap64 ((wrap64 (x10_8 + 1)) + 1)) > 1)) (wrap64 (x7_1 + 1))) else (none)) = some r := by rw [if_pos rfl] at H; exact H
          clear H
          have H := H1
          clear H1
          by_cases c13 : x5_1.length < 140737488355328
          ·rw [if_pos c13] at H
           have LMc13 := Aside0.mk c13
           clear c13
           obtain ⟨y564, hy564⟩ : ∃ y_ : List Bool, y_ = (x5_1 ++ [((Int.tmod (wrap64 ((wrap64 (x10_8 + 1)) + 1)) 2) == 1)]) := ⟨_, rfl⟩
           replace H : (gudgeonref01_add.l0 kj8 l0 l1 y564 (decide ((wrap64 ((wrap64 (x10_8 + 1)) + 1)) > 1)) (wrap64 (x7_1 + 1))) = some r := by first | (rw [hy564]; with_reducible exact H) | (have H2_ := (Option.bind_some _ _).symm.trans H; rw [hy564]; with_reducible exact H2_) | (have H2_ := (Option.bind_some _ _).symm.trans H; with_reducible exact H2_) | with_reducible exact H | (rw [hy564]; exact H) | exact H
           have Ny564 := Aside0.mk hy564
           clear hy564
           have H' := Aside0.mk H
           clear H
           go_wp2_with (first | ((with_reducible refine gate_builtin (b := .append) (xs := #[.tmp 41, .tmp 45]) rfl ?_); (try (refine gate_guard (by rfl) ?_; dsimp only)); at_builtin; refine Kd.R_append Kd.bool (w0 := w) w.heap.size rfl (.tmp 41) (.tmp 45) 69 4 (.bool false) 1 rfl Tryd.underlying69 info4 rfl (by decide) (by omega) u5 x5_1 ((Int.tmod (wrap64 ((wrap64 (x10_8 + 1)) + 1)) 2) == 1) [.bool ((Int.tmod (wrap64 ((wrap64 (x10_8 + 1)) + 1)) 2) == 1)] (fun _ => True) (fun _ => False) rfl rfl ?aP (fun _ hk => hk.elim) ?aF ?aO ?aB ?aS ?aL ?_; (case aP => exact rfl); (case aB => exact HB.out); (case aF => exact (fun _ _ => trivial)); (case aO => exact HO_5.out); (case aS => exact (below_size HB.out)); (case aL => have := LMc13.out; omega); intro v565 w14 ho hb hg hat; rw [← Ny564.out] at ho; have n0_ := Aside0.mk (hb); have n1_ := Aside0.mk (ho); clear HB; clear HO_5; have HB := n0_; have HO566 := n1_; clear n0_ n1_; clear ho hb hg hat))
           go_roundg kj8
           case measure => have := HK1.out; have := HJ2.out; have := HJ8.out; omega
           case rel => exact ⟨(y564), (decide ((wrap64 ((wrap64 (x10_8 + 1)) + 1)) > 1)), (wrap64 (x7_1 + 1)), (by first | rfl | (simp; done) | (simp [*]; done) | (refine congrArg (Value.int _) ?_; omega) | (refine congrArg Value.bool ?_; generalize ByteArray.toList _ = z_; cases z_ <;> rfl)), (by first | rfl | (simp; done) | (simp [*]; done) | (refine congrArg (Value.int _) ?_; omega) | (refine congrArg Value.bool ?_; generalize ByteArray.toList _ = z_; cases z_ <;> rfl)), H', ⟨by have := HK1.out; have := HJ2.out; have := HJ8.out; omega⟩, ⟨by (with_reducible repeat (first | apply Kd.R_alloc | apply Kd.R_drewN | apply Kd.R_drew)); exact HO566.out⟩, ⟨by repeat (first | (with_reducible first | exact HB.out | apply below_alloc | apply pw_below_drewN | apply below_drew1) | exact HB.out)⟩⟩
          ·rw [if_neg c13] at H
           exact absurd H (by simp)
         ·replace c12 := Bool.eq_false_iff.mpr c12
          subst c12
          have H1 : (if x5_1.length < 140737488355328 then (gudgeonref01_add.l0 kj8 l0 l1 (x5_1 ++ [((Int.tmod (wrap64 (x10_8 + 1)) 2) == 1)]) (decide ((wrap64 (x10_8 + 1)) > 1)) (wrap64 (x7_1 + 1))) else (none)) = some r := by rw [if_neg (show ¬ (false = true) by decide)] at H; exact H
          clear H
          have H := H1
          clear H1
          by_cases c15 : x5_1.length < 140737488355328
          ·rw [if_pos c15] at H
           have LMc15 := Aside0.mk c15
           clear c15
           obtain ⟨y567, hy567⟩ : ∃ y_ : List Bool, y_ = (x5_1 ++ [((Int.tmod (wrap64 (x10_8 + 1)) 2) == 1)]) := ⟨_, rfl⟩
           replace H : (gudgeonref01_add.l0 kj8 l0 l1 y567 (decide ((wrap64 (x10_8 + 1)) > 1)) (wrap64 (x7_1 + 1))) = some r := by first | (rw [hy567]; with_reducible exact H) | (have H2_ := (Option.bind_some _ _).symm.trans H; rw [hy567]; with_reducible exact H2_) | (have H2_ := (Option.bind_some _ _).symm.trans H; with_reducible exact H2_) | with_reducible exact H | (rw [hy567]; exact H) | exact H
           have Ny567 := Aside0.mk hy567
           clear hy567
           have H' := Aside0.mk H
           clear H
           go_wp2_with (first | ((with_reducible refine gate_builtin (b := .append) (xs := #[.tmp 41, .tmp 45]) rfl ?_); (try (refine gate_guard (by rfl) ?_; dsimp only)); at_builtin; refine Kd.R_append Kd.bool (w0 := w) w.heap.size rfl (.tmp 41) (.tmp 45) 69 4 (.bool false) 1 rfl Tryd.underlying69 info4 rfl (by decide) (by omega) u5 x5_1 ((Int.tmod (wrap64 (x10_8 + 1)) 2) == 1) [.bool ((Int.tmod (wrap64 (x10_8 + 1)) 2) == 1)] (fun _ => True) (fun _ => False) rfl rfl ?aP (fun _ hk => hk.elim) ?aF ?aO ?aB ?aS ?aL ?_; (case aP => exact rfl); (case aB => exact HB.out); (case aF => exact (fun _ _ => trivial)); (case aO => exact HO_5.out); (case aS => exact (below_size HB.out)); (case aL => have := LMc15.out; omega); intro v568 w16 ho hb hg hat; rw [← Ny567.out] at ho; have n0_ := Aside0.mk (hb); have n1_ := Aside0.mk (ho); clear HB; clear HO_5; have HB := n0_; have HO569 := n1_; clear n0_ n1_; clear ho hb hg hat))
           go_roundg kj8
           case measure => have := HK1.out; have := HJ2.out; have := HJ8.out; omega
           case rel => exact ⟨(y567), (decide ((wrap64 (x10_8 + 1)) > 1)), (wrap64 (x7_1 + 1)), (by first | rfl | (simp; done) | (simp [*]; done) | (refine congrArg (Value.int _) ?_; omega) | (refine congrArg Value.bool ?_; generalize ByteArray.toList _ = z_; cases z_ <;> rfl)), (by first | rfl | (simp; done) | (simp [*]; done) | (refine congrArg (Value.int _) ?_; omega) | (refine congrArg Value.bool ?_; generalize ByteArray.toList _ = z_; cases z_ <;> rfl)), H', ⟨by have := HK1.out; have := HJ2.out; have := HJ8.out; omega⟩, ⟨by (with_reducible repeat (first | apply Kd.R_alloc | apply Kd.R_drewN | apply Kd.R_drew)); exact HO569.out⟩, ⟨by repeat (first | (with_reducible first | exact HB.out | apply below_alloc | apply pw_below_drewN | apply below_drew1) | exact HB.out)⟩⟩
          ·rw [if_neg c15] at H
           exact absurd H (by simp)
        ·replace c11 := Bool.eq_false_iff.mpr c11
         subst c11
         have H1 : (if x6_1 = true then (if x5_1.length < 140737488355328 then (gudgeonref01_add.l0 kj8 l0 l1 (x5_1 ++ [((Int.tmod (wrap64 (x10_8 + 1)) 2) == 1)]) (decide ((wrap64 (x10_8 + 1)) > 1)) (wrap64 (x7_1 + 1))) else (none)) else (if x5_1.length < 140737488355328 then (gudgeonref01_add.l0 kj8 l0 l1 (x5_1 ++ [((Int.tmod x10_8 2) == 1)]) (decide (x10_8 > 1)) (wrap64 (x7_1 + 1))) else (none))) = some r := by rw [if_neg (show ¬ (false = true) by decide)] at H; exact H
         clear H
         have H := H1
         clear H1
         by_cases c17 : x6_1 = true
         ·subst c17
          have H1 : (if x5_1.length < 140737488355328 then (gudgeonref01_add.l0 kj8 l0 l1 (x5_1 ++ [((Int.tmod (wrap64 (x10_8 + 1)) 2) == 1)]) (decide ((wrap64 (x10_8 + 1)) > 1)) (wrap64 (x7_1 + 1))) else (none)) = some r := by rw [if_pos rfl] at H; exact H
          clear H
          have H := H1
          clear H1
          by_cases c18 : x5_1.length < 140737488355328
          ·rw [if_pos c18] at H
           have LMc18 := Aside0.mk c18
           clear c18
           obtain ⟨y570, hy570⟩ : ∃ y_ : List Bool, y_ = (x5_1 ++ [((Int.tmod (wrap64 (x10_8 + 1)) 2) == 1)]) := ⟨_, rfl⟩
           replace H : (gudgeonref01_add.l0 kj8 l0 l1 y570 (decide ((wrap64 (x10_8 + 1)) > 1)) (wrap64 (x7_1 + 1))) = some r := by first | (rw [hy570]; with_reducible exact H) | (have H2_ := (Option.bind_some _ _).symm.trans H; rw [hy570]; with_reducible exact H2_) | (have H2_ := (Option.bind_some _ _).symm.trans H; with_reducible exact H2_) | with_reducible exact H | (rw [hy570]; exact H) | exact H
           have Ny570 := Aside0.mk hy570
           clear hy570
           have H' := Aside0.mk H
           clear H
           go_wp2_with (first | ((with_reducible refine gate_builtin (b := .append) (xs := #[.tmp 41, .tmp 45]) rfl ?_); (try (refine gate_guard (by rfl) ?_; dsimp only)); at_builtin; refine Kd.R_append Kd.bool (w0 := w) w.heap.size rfl (.tmp 41) (.tmp 45) 69 4 (.bool false) 1 rfl Tryd.underlying69 info4 rfl (by decide) (by omega) u5 x5_1 ((Int.tmod (wrap64 (x10_8 + 1)) 2) == 1) [.bool ((Int.tmod (wrap64 (x10_8 + 1)) 2) == 1)] (fun _ => True) (fun _ => False) rfl rfl ?aP (fun _ hk => hk.elim) ?aF ?aO ?aB ?aS ?aL ?_; (case aP => exact rfl); (case aB => exact HB.out); (case aF => exact (fun _ _ => trivial)); (case aO => exact HO_5.out); (case aS => exact (below_size HB.out)); (case aL => have := LMc18.out; omega); intro v571 w19 ho hb hg hat; rw [← Ny570.out] at ho; have n0_ := Aside0.mk (hb); have n1_ := Aside0.mk (ho); clear HB; clear HO_5; have HB := n0_; have HO572 := n1_; clear n0_ n1_; clear ho hb hg hat))
           go_roundg kj8
           case measure => have := HK1.out; have := HJ2.out; have := HJ8.out; omega
           case rel => exact ⟨(y570), (decide ((wrap64 (x10_8 + 1)) > 1)), (wrap64 (x7_1 + 1)), (by first | rfl | (simp; done) | (simp [*]; done) | (refine congrArg (Value.int _) ?_; omega) | (refine congrArg Value.bool ?_; generalize ByteArray.toList _ = z_; cases z_ <;> rfl)), (by first | rfl | (simp; done) | (simp [*]; done) | (refine congrArg (Value.int _) ?_; omega) | (refine congrArg Value.bool ?_; generalize ByteArray.toList _ = z_; cases z_ <;> rfl)), H', ⟨by have := HK1.out; have := HJ2.out; have := HJ8.out; omega⟩, ⟨by (with_reducible repeat (first | apply Kd.R_alloc | apply Kd.R_drewN | apply Kd.R_drew)); exact HO572.out⟩, ⟨by repeat (first | (with_reducible first | exact HB.out | apply below_alloc | apply pw_below_drewN | apply below_drew1) | exact HB.out)⟩⟩
          ·rw [if_neg c18] at H
           exact absurd H (by simp)
         ·replace c17 := Bool.eq_false_iff.mpr c17
          subst c17
          have H1 : (if x5_1.length < 140737488355328 then (gudgeonref01_add.l0 kj8 l0 l1 (x5_1 ++ [((Int.tmod x10_8 2) == 1)]) (decide (x10_8 > 1)) (wrap64 (x7_1 + 1))) else (none)) = some r := by rw [if_neg (show ¬ (false = true) by decide)] at H; exact H
          clear H
          have H := H1
          clear H1
          by_cases c20 : x5_1.length < 140737488355328
          ·rw [if_pos c20] at H
           have LMc20 := Aside0.mk c20
           clear c20
           obtain ⟨y573, hy573⟩ : ∃ y_ : List Bool, y_ = (x5_1 ++ [((Int.tmod x10_8 2) == 1)]) := ⟨_, rfl⟩
           replace H : (gudgeonref01_add.l0 kj8 l0 l1 y573 (decide (x10_8 > 1)) (wrap64 (x7_1 + 1))) = some r := by first | (rw [hy573]; with_reducible exact H) | (have H2_ := (Option.bind_some _ _).symm.trans H; rw [hy573]; with_reducible exact H2_) | (have H2_ := (Option.bind_some _ _).symm.trans H; with_reducible exact H2_) | with_reducible exact H | (rw [hy573]; exact H) | exact H
           have Ny573 := Aside0.mk hy573
           clear hy573
           have H' := Aside0.mk H
           clear H
           go_wp2_with (first | ((with_reducible refine gate_builtin (b := .append) (xs := #[.tmp 41, .tmp 45]) rfl ?_); (try (refine gate_guard (by rfl) ?_; dsimp only)); at_builtin; refine Kd.R_append Kd.bool (w0 := w) w.heap.size rfl (.tmp 41) (.tmp 45) 69 4 (.bool false) 1 rfl Tryd.underlying69 info4 rfl (by decide) (by omega) u5 x5_1 ((Int.tmod x10_8 2) == 1) [.bool ((Int.tmod x10_8 2) == 1)] (fun _ => True) (fun _ => False) rfl rfl ?aP (fun _ hk => hk.elim) ?aF ?aO ?aB ?aS ?aL ?_; (case aP => exact rfl); (case aB => exact HB.out); (case aF => exact (fun _ _ => trivial)); (case aO => exact HO_5.out); (case aS => exact (below_size HB.out)); (case aL => have := LMc20.out; omega); intro v574 w21 ho hb hg hat; rw [← Ny573.out] at ho; have n0_ := Aside0.mk (hb); have n1_ := Aside0.mk (ho); clear HB; clear HO_5; have HB := n0_; have HO575 := n1_; clear n0_ n1_; clear ho hb hg hat))
           go_roundg kj8
           case measure => have := HK1.out; have := HJ2.out; have := HJ8.out; omega
           case rel => exact ⟨(y573), (decide (x10_8 > 1)), (wrap64 (x7_1 + 1)), (by first | rfl | (simp; done) | (simp [*]; done) | (refine congrArg (Value.int _) ?_; omega) | (refine congrArg Value.bool ?_; generalize ByteArray.toList _ = z_; cases z_ <;> rfl)), (by first | rfl | (simp; done) | (simp [*]; done) | (refine congrArg (Value.int _) ?_; omega) | (refine congrArg Value.bool ?_; generalize ByteArray.toList _ = z_; cases z_ <;> rfl)), H', ⟨by have := HK1.out; have := HJ2.out; have := HJ8.out; omega⟩, ⟨by (with_reducible repeat (first | apply Kd.R_alloc | apply Kd.R_drewN | apply Kd.R_drew)); exact HO575.out⟩, ⟨by repeat (first | (with_reducible first | exact HB.out | apply below_alloc | apply pw_below_drewN | apply below_drew1) | exact HB.out)⟩⟩
          ·rw [if_neg c20] at H
           exact absurd H (by simp)
     ·replace c6 := Bool.eq_false_iff.mpr c6
      subst c6
      have H1 : ((gudgeonref01_trim.f kj2 x5_1).bind fun t559 => (some t559)) = some r := by rw [if_neg (show ¬ (false = true) by decide)] at H; exact H
      clear H
      have H := H1
      clear H1
      replace H := Option.bind_eq_some_iff.mp H
      obtain ⟨t559, A220, H⟩ := H
      replace H : (some t559) = some r := H
      have A22 := Aside0.mk A220
      clear A220
      obtain rfl := Option.some.inj H
      obtain ⟨Ao23, co23, eo23⟩ := Kd.R_slice HO_5.out
      subst eo23
      go_wp2_with (first | ((with_reducible refine gate_callee (f := 81) rfl ?_); refine goL (some 50) Tryd.func81 [.slice Ao23 x5_1.length co23] ?_; (with_reducible refine (gudgeonref01_trim.calls kj2 _ _ x5_1 t559 _ ?side1 ?side2 A22.out).mono ?_); (case side1 => exact (Kd.R_reads' HO_5.out).2.2); (case side2 => exact (Kd.R_reads' HO_5.out).2.1); rintro e w24 ⟨v560, rfl, ho0, hb⟩; refine ⟨_, rfl, ?_⟩; have HO561 := Aside0.mk (Kd.R_lower (Kd.R_new' ho0 (Kd.R_lt HO_5.out)) (below_size HB.out)); replace HO_5 := Aside0.mk (Kd.R_elder' HO_5.out (Kd.R_base ho0) hb); replace HB := Aside0.mk (below_step HB.out hb)))
      go_ret
      exact ⟨_, by first | rfl | (simp [errW_none, errW_some] <;> rfl) | (simp [*, errW_none, errW_some] <;> rfl), by (with_reducible repeat (first | apply Kd.R_alloc | apply Kd.R_drewN | apply Kd.R_drew)); exact Kd.R_mono HO561.out (fun _ hk => trivial), by repeat (first | (with_reducible first | exact HB.out | apply below_alloc | apply pw_below_drewN | apply below_drew1) | exact HB.out)⟩

/-! ### gudgeonref01_Add: function 44 -/
end Go.Proofs.YthnfmmaolkenkaaDoor.PA
/- Written by a program of this session, wip/tools/patch_print.py, over the kit's print of the loaded functions. -/
namespace Go.Proofs.YthnfmmaolkenkaaDoor.H
end Go.Proofs.YthnfmmaolkenkaaDoor.H
namespace Go.Proofs.YthnfmmaolkenkaaDoor.PA
open Go.RowKit Go.Proofs.YthnfmmaolkenkaaDoorW.PrintWords Go.Proofs.YthnfmmaolkenkaaDoorW.PrintLast Go.Proofs.YthnfmmaolkenkaaDoorW.PrintMore Go.Proofs.YthnfmmaolkenkaaDoor.H
attribute [local go_sem] max2_int min2_int max_two min_two max_three min_three max_four min_four   -- for this text's walks alone
attribute [local go_sem] box_twice
set_option linter.unusedVariables false
set_option linter.unusedSimpArgs false

/-! ### gudgeonref01_mul: function 74 -/
def gudgeonref01_mul.l0 : Nat → List Bool → List Bool → List Bool → Int → Option (List Bool)
 | 0, _, _, _, _ => none
 | k + 1, x0, x1, x5, x6 => if x6 ≥ 0 then ((some (([false] : List Bool) : List Bool)).bind fun y690 => (if y690.length + x5.length < 140737488355328 then ((some (y690 ++ x5 : List Bool)).bind fun y693 => (if 0 ≤ x6 then (if x6 < (x0.length : Int) then (if rdOf false x0 x6 = true then ((gudgeonref01_add.f k y693 x1).bind fun t697 => (gudgeonref01_mul.l0 k x0 x1 t697 (wrap64 (x6 - 1)))) else (gudgeonref01_mul.l0 k x0 x1 y693 (wrap64 (x6 - 1)))) else (none)) else (none))) else (none))) else ((gudgeonref01_trim.f k x5).bind fun t700 => (some t700))
def gudgeonref01_mul.f (k : Nat) (l0 : List Bool) (l1 : List Bool) : Option (List Bool) := gudgeonref01_mul.l0 k l0 l1 ([] : List Bool) (wrap64 ((l0.length : Int) - 1))
set_option maxHeartbeats 8000000 in
set_option maxRecDepth 100000 in
theorem gudgeonref01_mul.calls (k : Nat) (A0 : Option Addr) (c0 : Nat) (l0 : List Bool) (A1 : Option Addr) (c1 : Nat) (l1 : List Bool) (r : List Bool) (w : World) (hr0 : Kd.C Kd.bool w A0 l0.length l0) (hc0 : l0.length ≤ c0) (hr1 : Kd.C Kd.bool w A1 l1.length l1) (hc1 : l1.length ≤ c1) (h : gudgeonref01_mul.f k l0 l1 = some r) :
  Calls Tryd.prog 74 #[.slice A0 l0.length c0, .slice A1 l1.length c1] w fun e w' => ∃ v0_ : Value, e = .returned (v0_) ∧ Kd.R Kd.bool 4 w' w.heap.size (fun _ => True) v0_ r ∧ Below w.heap.size w w' := by
 have HR0 := Aside0.mk hr0
 have HC0 := Aside0.mk hc0
 clear hr0 hc0
 have HR1 := Aside0.mk hr1
 have HC1 := Aside0.mk hc1
 clear hr1 hc1
 have HB := Aside0.mk (Below.refl w.heap.size w)
 have H : (gudgeonref01_mul.l0 k l0 l1 ([] : List Bool) (wrap64 ((l0.length : Int) - 1))) = some r := h
 clear h
 have H' := Aside0.mk H
 clear H
 go_enter Tryd.func74, Tryd.ntmps74
 go_wp2
 go_loopg [5, 6] k (fun kq v5 v6 w' => ∃ (x5_1 : List Bool) (x6_1 : Int), v6 = .int .i64 x6_1 ∧ Aside0 (gudgeonref01_mul.l0 kq l0 l1 x5_1 x6_1 = some r) ∧ Aside0 (kq ≤ k) ∧ Aside0 (Kd.R Kd.bool 4 w' w.heap.size (fun _ => True) v5 x5_1) ∧ Aside0 (Below w.heap.size w w'))
 case atStart => exact ⟨(([] : List Bool)), (wrap64 ((l0.length : Int) - 1)), (by first | rfl | (simp; done) | (simp [*]; done) | (refine congrArg (Value.int _) ?_; omega) | (refine congrArg Value.bool ?_; generalize ByteArray.toList _ = z_; cases z_ <;> rfl)), H', ⟨Nat.le_refl _⟩, ⟨by first | exact Kd.R_nil _ _ _ _ _ | exact Kd.N_nil _ _ _ _ _ | exact Kd.V_nil _ _ _ _ _ | exact Kd.Q_nil _ _ _ _ _ | exact Kd.S_nil _ _ _ _ _⟩, ⟨by repeat (first | (with_reducible first | exact HB.out | apply below_alloc | apply pw_below_drewN | apply below_drew1) | exact HB.out)⟩⟩
 case round =>
  clear H'
  try clear c1
  try clear p2
  obtain ⟨x5_1, x6_1, rfl, HA, HK1, HO_5, HB⟩ := hrel
  cases gk with
  | zero => exact absurd HA.out (by simp [gudgeonref01_mul.l0])
  | succ k1 =>
   have H := HA.out
   clear HA
   simp only [gudgeonref01_mul.l0] at H
   by_cases c3 : x6_1 ≥ 0
   ·rw [if_pos c3] at H
    have c3b0 : decide (0 ≤ x6_1) = true := decide_eq_true c3
    clear c3
    obtain ⟨y690, hy690⟩ : ∃ y_ : List Bool, y_ = (([false] : List Bool)) := ⟨_, rfl⟩
    replace H : (if y690.length + x5_1.length < 140737488355328 then ((some (y690 ++ x5_1 : List Bool)).bind fun y693 => (if 0 ≤ x6_1 then (if x6_1 < (l0.length : Int) then (if rdOf false l0 x6_1 = true then ((gudgeonref01_add.f k1 y693 l1).bind fun t697 => (gudgeonref01_mul.l0 k1 l0 l1 t697 (wrap64 (x6_1 - 1)))) else (gudgeonref01_mul.l0 k1 l0 l1 y693 (wrap64 (x6_1 - 1)))) else (none)) else (none))) else (none)) = some r := by first | (rw [hy690]; with_reducible exact H) | (have H2_ := (Option.bind_some _ _).symm.trans H; rw [hy690]; with_reducible exact H2_) | (have H2_ := (Option.bind_some _ _).symm.trans H; with_reducible exact H2_) | with_reducible exact H | (rw [hy690]; exact H) | exact H
    have Ny690 := Aside0.mk hy690
    clear hy690
    by_cases c4 : y690.length + x5_1.length < 140737488355328
    ·rw [if_pos c4] at H
     have LMc4 := Aside0.mk c4
     clear c4
     obtain ⟨y693, hy693⟩ : ∃ y_ : List Bool, y_ = (y690 ++ x5_1) := ⟨_, rfl⟩
     replace H : (if 0 ≤ x6_1 then (if x6_1 < (l0.length : Int) then (if rdOf false l0 x6_1 = true then ((gudgeonref01_add.f k1 y693 l1).bind fun t697 => (gudgeonref01_mul.l0 k1 l0 l1 t697 (wrap64 (x6_1 - 1)))) else (gudgeonref01_mul.l0 k1 l0 l1 y693 (wrap64 (x6_1 - 1)))) else (none)) else (none)) = some r := by first | (rw [hy693]; with_reducible exact H) | (have H2_ := (Option.bind_some _ _).symm.trans H; rw [hy693]; with_reducible exact H2_) | (have H2_ := (Option.bind_some _ _).symm.trans H; with_reducible exact H2_) | with_reducible exact H | (rw [hy693]; exact H) | exact H
     have Ny693 := Aside0.mk hy693
     clear hy693
     by_cases c5 : 0 ≤ x6_1
     ·rw [if_pos c5] at H
      have c5b0 : decide (0 ≤ x6_1) = true := decide_eq_true c5
      clear c5
      by_cases c6 : x6_1 < (l0.length : Int)
      ·rw [if_pos c6] at H
       have c6b0 : decide (x6_1 < (l0.length : Int)) = true := decide_eq_true c6
       clear c6
       obtain ⟨bq7, hbq7⟩ : ∃ b_ : Bool, b_ = (rdOf false l0 x6_1) := ⟨_, rfl⟩
       replace H : (if bq7 = true then ((gudgeonref01_add.f k1 y693 l1).bind fun t697 => (gudgeonref01_mul.l0 k1 l0 l1 t697 (wrap64 (x6_1 - 1)))) else (gudgeonref01_mul.l0 k1 l0 l1 y693 (wrap64 (x6_1 - 1)))) = some r := by rw [← hbq7] at H; exact H
       have Nbq7 := Aside0.mk hbq7
       clear hbq7
       by_cases c8 : bq7 = true
       ·subst c8
        have H1 : ((gudgeonref01_add.f k1 y693 l1).bind fun t697 => (gudgeonref01_mul.l0 k1 l0 l1 t697 (wrap64 (x6_1 - 1)))) = some r := by rw [if_pos rfl] at H; exact H
        clear H
        have H := H1
        clear H1
        replace H := Option.bind_eq_some_iff.mp H
        obtain ⟨t697, A90, H⟩ := H
        replace H : (gudgeonref01_mul.l0 k1 l0 l1 t697 (wrap64 (x6_1 - 1))) = some r := H
        have A9 := Aside0.mk A90
        clear A90
        have H' := Aside0.mk H
        clear H
        go_wp2_with (first | ((with_reducible refine gate_dst (N := 14) rfl ?_); refine Kd.R_lit Kd.bool _ 4 ?hg (N := 14) ?hd (xs := ([false] : List Bool)) (inner := [.bool false]) (ok := fun _ => True) (okp := fun _ => True) ?hr ?hp (fun _ hk => hk) trivial (Below.refl _ _) (Nat.le_refl _) (by simp) ?_; (case hd => rfl); (case hg => rfl); (case hr => first | (go_simp; done) | (go_simp; rfl)); (case hp => exact (Reps.one (show Kd.M Kd.bool _ _ _ false [.bool false] from rfl) (Reps.none _ _))); intro v691 w10 ho11 hb hg_ hnew_; clear hg_ hnew_; (first | rw [← Ny690.out] at ho11 | (simp only [Int.reduceToNat] at ho11; rw [← Ny690.out] at ho11)); have HO692 := Aside0.mk (Kd.R_lower (Kd.R_new' ho11 (Kd.R_lt HO_5.out)) (below_size HB.out)); replace HO_5 := Aside0.mk (Kd.R_elder' HO_5.out (Kd.R_base ho11) hb); replace HB := Aside0.mk (below_step HB.out hb); clear hb ho11; obtain ⟨Ao13, co13, eo13⟩ := Kd.R_slice HO_5.out; subst eo13) | ((with_reducible refine gate_builtin (b := .append) (xs := #[.tmp 14, .tmp 15]) rfl ?_); at_builtin; refine Kd.R_append_rows Kd.bool (w0 := w) w.heap.size rfl (.tmp 14) (.tmp 15) 69 4 (.bool false) 1 rfl Tryd.underlying69 info4 rfl (by decide) (by omega) v691 y690 x5_1 _ _ _ (fun k_ => some k_ ≠ (.slice Ao13 x5_1.length co13 : Value).ownBlock) (fun _ => False) rfl rfl ?aO ?aR (fun _ _ h => h) (fun _ h => h.elim) ?aF ?aB ?aS ?aL ?_; (case aR => repeat (first | exact (Kd.R_reads' HO_5.out).2.2 | (with_reducible refine Kd.C_alloc ?_ _) | (with_reducible refine Kd.C_drewN ?_ _) | (with_reducible refine Kd.C_drew ?_))); (case aB => exact HB.out); (case aF => exact (fun k_ hk => Kd.fresh' (Kd.R_lt HO_5.out) k_ hk)); (case aO => exact (Kd.R_mono HO692.out (fun _ hk => hk.2))); (case aS => exact (below_size HB.out)); (case aL => have := LMc4.out; omega); intro v694 w12 ho hb hg hat; rw [← Ny693.out] at ho; have n0_ := Aside0.mk (Kd.R_after (ok := (fun _ => True)) HO_5.out hg hat); have n1_ := Aside0.mk (hb); have n2_ := Aside0.mk (ho); clear HO_5; clear HB; clear HO692; have HO_5 := n0_; have HB := n1_; have HO695 := n2_; clear n0_ n1_ n2_; clear ho hb hg hat; have p696 : 0 ≤ (x6_1 : Int) := of_decide_eq_true (by first | (with_reducible assumption) | assumption); have q696 : x6_1 < (l0.length : Int) := of_decide_eq_true (by first | (with_reducible assumption) | assumption); obtain ⟨ad696, e696, hx696_0⟩ := Kd.at_bool HR0.out x6_1 p696 q696; (try rw [← Nbq7.out] at hx696_0); cases e696; replace hx696_0 := (HB.out.cell (World.block_lt_of_cell? w _ hx696_0)).trans hx696_0; replace p696 := eq_true p696; replace q696 := eq_true q696; obtain ⟨Ao14, co14, eo14⟩ := Kd.R_slice HO695.out; subst eo14) | ((with_reducible refine gate_callee (f := 70) rfl ?_); refine goL (some 23) Tryd.func70 [.slice Ao14 y693.length co14, .slice A1 l1.length c1] ?_; (with_reducible refine (gudgeonref01_add.calls k1 _ _ y693 _ _ l1 t697 _ ?side1 ?side2 ?side3 ?side4 A9.out).mono ?_); (case side1 => exact (Kd.R_reads' HO695.out).2.2); (case side2 => exact (Kd.R_reads' HO695.out).2.1); (case side3 => exact (Kd.C_below HR1.out HB.out)); (case side4 => exact HC1.out); rintro e w15 ⟨v698, rfl, ho0, hb⟩; refine ⟨_, rfl, ?_⟩; have HO699 := Aside0.mk (Kd.R_lower (Kd.R_new' (Kd.R_new' ho0 (Kd.R_lt HO_5.out)) (Kd.R_lt HO695.out)) (below_size HB.out)); replace HO_5 := Aside0.mk (Kd.R_elder' HO_5.out (Kd.R_base ho0) hb); replace HO695 := Aside0.mk (Kd.R_elder' HO695.out (Kd.R_base ho0) hb); replace HB := Aside0.mk (below_step HB.out hb)))
        go_roundg k1
        case measure => have := HK1.out; omega
        case rel => exact ⟨(t697), (wrap64 (x6_1 - 1)), (by first | rfl | (simp; done) | (simp [*]; done) | (refine congrArg (Value.int _) ?_; omega) | (refine congrArg Value.bool ?_; generalize ByteArray.toList _ = z_; cases z_ <;> rfl)), H', ⟨by have := HK1.out; omega⟩, ⟨by (with_reducible repeat (first | apply Kd.R_alloc | apply Kd.R_drewN | apply Kd.R_drew)); exact Kd.R_mono HO699.out (fun _ hk => trivial)⟩, ⟨by repeat (first | (with_reducible first | exact HB.out | apply below_alloc | apply pw_below_drewN | apply below_drew1) | exact HB.out)⟩⟩
       ·replace c8 := Bool.eq_false_iff.mpr c8
        subst c8
        have H1 : (gudgeonref01_mul.l0 k1 l0 l1 y693 (wrap64 (x6_1 - 1))) = some r := by rw [if_neg (show ¬ (false = true) by decide)] at H; exact H
        clear H
        have H := H1
        clear H1
        have H' := Aside0.mk H
        clear H
        go_wp2_with (first | ((with_reducible refine gate_dst (N := 14) rfl ?_); refine Kd.R_lit Kd.bool _ 4 ?hg (N := 14) ?hd (xs := ([false] : List Bool)) (inner := [.bool false]) (ok := fun _ => True) (okp := fun _ => True) ?hr ?hp (fun _ hk => hk) trivial (Below.refl _ _) (Nat.le_refl _) (by simp) ?_; (case hd => rfl); (case hg => rfl); (case hr => first | (go_simp; done) | (go_simp; rfl)); (case hp => exact (Reps.one (show Kd.M Kd.bool _ _ _ false [.bool false] from rfl) (Reps.none _ _))); intro v691 w16 ho17 hb hg_ hnew_; clear hg_ hnew_; (first | rw [← Ny690.out] at ho17 | (simp only [Int.reduceToNat] at ho17; rw [← Ny690.out] at ho17)); have HO692 := Aside0.mk (Kd.R_lower (Kd.R_new' ho17 (Kd.R_lt HO_5.out)) (below_size HB.out)); replace HO_5 := Aside0.mk (Kd.R_elder' HO_5.out (Kd.R_base ho17) hb); replace HB := Aside0.mk (below_step HB.out hb); clear hb ho17; obtain ⟨Ao19, co19, eo19⟩ := Kd.R_slice HO_5.out; subst eo19) | ((with_reducible refine gate_builtin (b := .append) (xs := #[.tmp 14, .tmp 15]) rfl ?_); at_builtin; refine Kd.R_append_rows Kd.bool (w0 := w) w.heap.size rfl (.tmp 14) (.tmp 15) 69 4 (.bool false) 1 rfl Tryd.underlying69 info4 rfl (by decide) (by omega) v691 y690 x5_1 _ _ _ (fun k_ => some k_ ≠ (.slice Ao19 x5_1.length co19 : Value).ownBlock) (fun _ => False) rfl rfl ?aO ?aR (fun _ _ h => h) (fun _ h => h.elim) ?aF ?aB ?aS ?aL ?_; (case aR => repeat (first | exact (Kd.R_reads' HO_5.out).2.2 | (with_reducible refine Kd.C_alloc ?_ _) | (with_reducible refine Kd.C_drewN ?_ _) | (with_reducible refine Kd.C_drew ?_))); (case aB => exact HB.out); (case aF => exact (fun k_ hk => Kd.fresh' (Kd.R_lt HO_5.out) k_ hk)); (case aO => exact (Kd.R_mono HO692.out (fun _ hk => hk.2))); (case aS => exact (below_size HB.out)); (case aL => have := LMc4.out; omega); intro v694 w18 ho hb hg hat; rw [← Ny693.out] at ho; have n0_ := Aside0.mk (Kd.R_after (ok := (fun _ => True)) HO_5.out hg hat); have n1_ := Aside0.mk (hb); have n2_ := Aside0.mk (ho); clear HO_5; clear HB; clear HO692; have HO_5 := n0_; have HB := n1_; have HO695 := n2_; clear n0_ n1_ n2_; clear ho hb hg hat; have p696 : 0 ≤ (x6_1 : Int) := of_decide_eq_true (by first | (with_reducible assumption) | assumption); have q696 : x6_1 < (l0.length : Int) := of_decide_eq_true (by first | (with_reducible assumption) | assumption); obtain ⟨ad696, e696, hx696_0⟩ := Kd.at_bool HR0.out x6_1 p696 q696; (try rw [← Nbq7.out] at hx696_0); cases e696; replace hx696_0 := (HB.out.cell (World.block_lt_of_cell? w _ hx696_0)).trans hx696_0; replace p696 := eq_true p696; replace q696 := eq_true q696))
        go_roundg k1
        case measure => have := HK1.out; omega
        case rel => exact ⟨(y693), (wrap64 (x6_1 - 1)), (by first | rfl | (simp; done) | (simp [*]; done) | (refine congrArg (Value.int _) ?_; omega) | (refine congrArg Value.bool ?_; generalize ByteArray.toList _ = z_; cases z_ <;> rfl)), H', ⟨by have := HK1.out; omega⟩, ⟨by (with_reducible repeat (first | apply Kd.R_alloc | apply Kd.R_drewN | apply Kd.R_drew)); exact Kd.R_mono HO695.out (fun _ hk => trivial)⟩, ⟨by repeat (first | (with_reducible first | exact HB.out | apply below_alloc | apply pw_below_drewN | apply below_drew1) | exact HB.out)⟩⟩
      ·rw [if_neg c6] at H
       exact absurd H (by simp)
     ·rw [if_neg c5] at H
      exact absurd H (by simp)
    ·rw [if_neg c4] at H
     exact absurd H (by simp)
   ·rw [if_neg c3] at H
    have c3b0 : decide (0 ≤ x6_1) = false := decide_eq_false c3
    clear c3
    replace H := Option.bind_eq_some_iff.mp H
    obtain ⟨t700, A200, H⟩ := H
    replace H : (some t700) = some r := H
    have A20 := Aside0.mk A200
    clear A200
    obtain rfl := Option.some.inj H
    obtain ⟨Ao21, co21, eo21⟩ := Kd.R_slice HO_5.out
    subst eo21
    go_wp2_with (first | ((with_reducible refine gate_callee (f := 81) rfl ?_); refine goL (some 25) Tryd.func81 [.slice Ao21 x5_1.length co21] ?_; (with_reducible refine (gudgeonref01_trim.calls k1 _ _ x5_1 t700 _ ?side1 ?side2 A20.out).mono ?_); (case side1 => exact (Kd.R_reads' HO_5.out).2.2); (case side2 => exact (Kd.R_reads' HO_5.out).2.1); rintro e w22 ⟨v701, rfl, ho0, hb⟩; refine ⟨_, rfl, ?_⟩; have HO702 := Aside0.mk (Kd.R_lower (Kd.R_new' ho0 (Kd.R_lt HO_5.out)) (below_size HB.out)); replace HO_5 := Aside0.mk (Kd.R_elder' HO_5.out (Kd.R_base ho0) hb); replace HB := Aside0.mk (below_step HB.out hb)))
    go_ret
    exact ⟨_, by first | rfl | (simp [errW_none, errW_some] <;> rfl) | (simp [*, errW_none, errW_some] <;> rfl), by (with_reducible repeat (first | apply Kd.R_alloc | apply Kd.R_drewN | apply Kd.R_drew)); exact Kd.R_mono HO702.out (fun _ hk => trivial), by repeat (first | (with_reducible first | exact HB.out | apply below_alloc | apply pw_below_drewN | apply below_drew1) | exact HB.out)⟩

/-! ### gudgeonref01_Mul: function 50 -/
/-! ### gudgeonref02_Mul: function 25 -/
/-! ### whole_Cmp: function 26 -/
/-! ### gudgeonref02_Sign: function 29 -/
def gudgeonref02_Sign.f (k : Nat) (a0_0 : Bool) (l0_1 : List Int) : Option (Int) := (gudgeonref02_Norm.f k a0_0 l0_1).bind fun bt733 => (if (bt733.2.length : Int) = 0 then (some 0) else (if bt733.1 = true then (some (-1)) else (some 1)))
set_option maxHeartbeats 8000000 in
set_option maxRecDepth 100000 in
theorem gudgeonref02_Sign.calls (k : Nat) (a0_0 : Bool) (A0_1 : Option Addr) (c0_1 : Nat) (l0_1 : List Int) (r : Int) (w : World) (hr0_1 : Kd.C (Kd.int .u32) w A0_1 l0_1.length l0_1) (hc0_1 : l0_1.length ≤ c0_1) (h : gudgeonref02_Sign.f k a0_0 l0_1 = some r) :
  Calls Tryd.prog 29 #[.agg #[.bool a0_0, .slice A0_1 l0_1.length c0_1]] w fun e w' => e = .returned (.int .i64 r) ∧ Below w.heap.size w w' := by
 have hu24 := Tryd.underlying24
 have HR0_1 := Aside0.mk hr0_1
 have HC0_1 := Aside0.mk hc0_1
 clear hr0_1 hc0_1
 have HB := Aside0.mk (Below.refl w.heap.size w)
 have H : ((gudgeonref02_Norm.f k a0_0 l0_1).bind fun bt733 => (if (bt733.2.length : Int) = 0 then (some 0) else (if bt733.1 = true then (some (-1)) else (some 1)))) = some r := h
 clear h
 replace H := Option.bind_eq_some_iff.mp H
 obtain ⟨⟨t733, t734⟩, A20, H⟩ := H
 replace H : (if (t734.length : Int) = 0 then (some 0) else (if t733 = true then (some (-1)) else (some 1))) = some r := H
 have A2 := Aside0.mk A20
 clear A20
 by_cases c3 : (t734.length : Int) = 0
 ·rw [if_pos c3] at H
  have c3b0 : ((t734.length : Int) == 0) = true := beq_iff_eq.mpr c3
  have c3b1 : ((t734.length : Int) != 0) = false := bne_eq_false_iff_eq.mpr c3
  clear c3
  obtain rfl := Option.some.inj H
  go_enter Tryd.func29, Tryd.ntmps29
  go_wp2_with (first | ((with_reducible refine gate_dst (N := 1) rfl ?_); refine box_event ?hg (N := 1) ?hd (cs := #[.bool a0_0, .slice A0_1 l0_1.length c0_1]) (t := 24) ?hr ?_; (case hd => rfl); (case hg => rfl); (case hr => first | (go_simp; done) | (go_simp; rfl)); intro gb732 hg w4 hbox hb; have BK732 := Aside0.mk (hbox); have GW732 := Aside0.mk (bxLe HB.out hg); have GE732 := GW732; replace HB := Aside0.mk (below_step HB.out hb); clear hb hbox hg; have hcz5_0 := bc0 BK732.out; have hcz5_1 := bc1 BK732.out; have hfz5_0 := blk_frozen BK732.out 0; have hfz5_1 := blk_frozen BK732.out 1) | ((with_reducible refine gate_callee (f := 17) rfl ?_); refine goL (some 5) Tryd.func17 [.agg #[.bool a0_0, .slice A0_1 l0_1.length c0_1]] ?_; (with_reducible refine (gudgeonref02_Norm.calls k a0_0 _ _ l0_1 t733 t734 _ ?side1 ?side2 A2.out).mono ?_); (case side1 => exact (Kd.C_below HR0_1.out HB.out)); (case side2 => exact HC0_1.out); rintro e w6 ⟨v735, rfl, ho0, hb⟩; refine ⟨_, rfl, ?_⟩; have HO736 := Aside0.mk (Kd.R_lower ho0 (below_size HB.out)); replace BK732 := Aside0.mk (blk_below BK732.out hb); replace HB := Aside0.mk (below_step HB.out hb)) | ((with_reducible refine gate_dst (N := 3) rfl ?_); refine box_event ?hg (N := 3) ?hd (cs := #[.bool false, .slice none 0 0]) (t := 24) ?hr ?_; (case hd => rfl); (case hg => rfl); (case hr => first | (go_simp; done) | (go_simp; rfl)); intro gb737 hg w7 hbox hb; replace HO736 := Aside0.mk (Kd.R_below HO736.out hb); have BK737 := Aside0.mk (hbox); have GW737 := Aside0.mk (bxLe HB.out hg); have GE737 := GW737; replace HB := Aside0.mk (below_step HB.out hb); have NB732_737 := Aside0.mk (neL BK732.out hg); have NB737_732 := Aside0.mk (neR BK732.out hg); replace BK732 := Aside0.mk (blk_below BK732.out hb); clear hb hbox hg; have hnb8 := NB737_732.out; have hnc8 := NB732_737.out; have hcz9_0 := bc0 BK737.out; have hcz9_1 := bc1 BK737.out; have hfz9_0 := blk_frozen BK737.out 0; have hfz9_1 := blk_frozen BK737.out 1; obtain ⟨Ao10, co10, eo10⟩ := Kd.R_slice HO736.out; subst eo10))
  go_ret
  exact ⟨by first | rfl | (simp [errW_none, errW_some] <;> rfl) | (refine congrArg (fun z_ => Ending.returned (Value.bool z_)) (decide_eq_decide.mpr ?_); unfold wrap64; omega) | (simp [*, errW_none, errW_some] <;> rfl), by repeat (first | (with_reducible first | exact HB.out | apply below_alloc | apply pw_below_drewN | apply below_drew1 | refine below_set ?_ GE732.out | refine below_set ?_ GE737.out) | exact HB.out)⟩
 ·rw [if_neg c3] at H
  have c3b0 : ((t734.length : Int) == 0) = false := beq_eq_false_iff_ne.mpr c3
  have c3b1 : ((t734.length : Int) != 0) = true := bne_iff_ne.mpr c3
  have c3b2 : ¬ (t734 = []) := fun h_ => c3 (by rw [h_]; rfl)
  by_cases c11 : t733 = true
  ·subst c11
   have H1 : (some (-1)) = some r := by rw [if_pos rfl] at H; exact H
   clear H
   have H := H1
   clear H1
   obtain rfl := Option.some.inj H
   go_enter Tryd.func29, Tryd.ntmps29
   go_wp2_with (first | ((with_reducible refine gate_dst (N := 1) rfl ?_); refine box_event ?hg (N := 1) ?hd (cs := #[.bool a0_0, .slice A0_1 l0_1.length c0_1]) (t := 24) ?hr ?_; (case hd => rfl); (case hg => rfl); (case hr => first | (go_simp; done) | (go_simp; rfl)); intro gb732 hg w12 hbox hb; have BK732 := Aside0.mk (hbox); have GW732 := Aside0.mk (bxLe HB.out hg); have GE732 := GW732; replace HB := Aside0.mk (below_step HB.out hb); clear hb hbox hg; have hcz13_0 := bc0 BK732.out; have hcz13_1 := bc1 BK732.out; have hfz13_0 := blk_frozen BK732.out 0; have hfz13_1 := blk_frozen BK732.out 1) | ((with_reducible refine gate_callee (f := 17) rfl ?_); refine goL (some 5) Tryd.func17 [.agg #[.bool a0_0, .slice A0_1 l0_1.length c0_1]] ?_; (with_reducible refine (gudgeonref02_Norm.calls k a0_0 _ _ l0_1 true t734 _ ?side1 ?side2 A2.out).mono ?_); (case side1 => exact (Kd.C_below HR0_1.out HB.out)); (case side2 => exact HC0_1.out); rintro e w14 ⟨v735, rfl, ho0, hb⟩; refine ⟨_, rfl, ?_⟩; have HO736 := Aside0.mk (Kd.R_lower ho0 (below_size HB.out)); replace BK732 := Aside0.mk (blk_below BK732.out hb); replace HB := Aside0.mk (below_step HB.out hb)) | ((with_reducible refine gate_dst (N := 3) rfl ?_); refine box_event ?hg (N := 3) ?hd (cs := #[.bool false, .slice none 0 0]) (t := 24) ?hr ?_; (case hd => rfl); (case hg => rfl); (case hr => first | (go_simp; done) | (go_simp; rfl)); intro gb737 hg w15 hbox hb; replace HO736 := Aside0.mk (Kd.R_below HO736.out hb); have BK737 := Aside0.mk (hbox); have GW737 := Aside0.mk (bxLe HB.out hg); have GE737 := GW737; replace HB := Aside0.mk (below_step HB.out hb); have NB732_737 := Aside0.mk (neL BK732.out hg); have NB737_732 := Aside0.mk (neR BK732.out hg); replace BK732 := Aside0.mk (blk_below BK732.out hb); clear hb hbox hg; have hnb16 := NB737_732.out; have hnc16 := NB732_737.out; have hcz17_0 := bc0 BK737.out; have hcz17_1 := bc1 BK737.out; have hfz17_0 := blk_frozen BK737.out 0; have hfz17_1 := blk_frozen BK737.out 1; obtain ⟨Ao18, co18, eo18⟩ := Kd.R_slice HO736.out; subst eo18))
   go_ret
   exact ⟨by first | rfl | (simp [errW_none, errW_some] <;> rfl) | (refine congrArg (fun z_ => Ending.returned (Value.bool z_)) (decide_eq_decide.mpr ?_); unfold wrap64; omega) | (simp [*, errW_none, errW_some] <;> rfl), by repeat (first | (with_reducible first | exact HB.out | apply below_alloc | apply pw_below_drewN | apply below_drew1 | refine below_set ?_ GE732.out | refine below_set ?_ GE737.out) | exact HB.out)⟩
  ·replace c11 := Bool.eq_false_iff.mpr c11
   subst c11
   have H1 : (some 1) = some r := by rw [if_neg (show ¬ (false = true) by decide)] at H; exact H
   clear H
   have H := H1
   clear H1
   obtain rfl := Option.some.inj H
   go_enter Tryd.func29, Tryd.ntmps29
   go_wp2_with (first | ((with_reducible refine gate_dst (N := 1) rfl ?_); refine box_event ?hg (N := 1) ?hd (cs := #[.bool a0_0, .slice A0_1 l0_1.length c0_1]) (t := 24) ?hr ?_; (case hd => rfl); (case hg => rfl); (case hr => first | (go_simp; done) | (go_simp; rfl)); intro gb732 hg w19 hbox hb; have BK732 := Aside0.mk (hbox); have GW732 := Aside0.mk (bxLe HB.out hg); have GE732 := GW732; replace HB := Aside0.mk (below_step HB.out hb); clear hb hbox hg; have hcz20_0 := bc0 BK732.out; have hcz20_1 := bc1 BK732.out; have hfz20_0 := blk_frozen BK732.out 0; have hfz20_1 := blk_frozen BK732.out 1) | ((with_reducible refine gate_callee (f := 17) rfl ?_); refine goL (some 5) Tryd.func17 [.agg #[.bool a0_0, .slice A0_1 l0_1.length c0_1]] ?_; (with_reducible refine (gudgeonref02_Norm.calls k a0_0 _ _ l0_1 false t734 _ ?side1 ?side2 A2.out).mono ?_); (case side1 => exact (Kd.C_below HR0_1.out HB.out)); (case side2 => exact HC0_1.out); rintro e w21 ⟨v735, rfl, ho0, hb⟩; refine ⟨_, rfl, ?_⟩; have HO736 := Aside0.mk (Kd.R_lower ho0 (below_size HB.out)); replace BK732 := Aside0.mk (blk_below BK732.out hb); replace HB := Aside0.mk (below_step HB.out hb)) | ((with_reducible refine gate_dst (N := 3) rfl ?_); refine box_event ?hg (N := 3) ?hd (cs := #[.bool false, .slice none 0 0]) (t := 24) ?hr ?_; (case hd => rfl); (case hg => rfl); (case hr => first | (go_simp; done) | (go_simp; rfl)); intro gb737 hg w22 hbox hb; replace HO736 := Aside0.mk (Kd.R_below HO736.out hb); have BK737 := Aside0.mk (hbox); have GW737 := Aside0.mk (bxLe HB.out hg); have GE737 := GW737; replace HB := Aside0.mk (below_step HB.out hb); have NB732_737 := Aside0.mk (neL BK732.out hg); have NB737_732 := Aside0.mk (neR BK732.out hg); replace BK732 := Aside0.mk (blk_below BK732.out hb); clear hb hbox hg; have hnb23 := NB737_732.out; have hnc23 := NB732_737.out; have hcz24_0 := bc0 BK737.out; have hcz24_1 := bc1 BK737.out; have hfz24_0 := blk_frozen BK737.out 0; have hfz24_1 := blk_frozen BK737.out 1; obtain ⟨Ao25, co25, eo25⟩ := Kd.R_slice HO736.out; subst eo25))
   go_ret
   exact ⟨by first | rfl | (simp [errW_none, errW_some] <;> rfl) | (refine congrArg (fun z_ => Ending.returned (Value.bool z_)) (decide_eq_decide.mpr ?_); unfold wrap64; omega) | (simp [*, errW_none, errW_some] <;> rfl), by repeat (first | (with_reducible first | exact HB.out | apply below_alloc | apply pw_below_drewN | apply below_drew1 | refine below_set ?_ GE732.out | refine below_set ?_ GE737.out) | exact HB.out)⟩

/-! ### gudgeonref02_Cmp: function 27 -/
end Go.Proofs.YthnfmmaolkenkaaDoor.PA
/- Written by a program of this session, wip/tools/patch_print.py, over the kit's print of the loaded functions. -/
namespace Go.Proofs.YthnfmmaolkenkaaDoor.H
end Go.Proofs.YthnfmmaolkenkaaDoor.H
namespace Go.Proofs.YthnfmmaolkenkaaDoor.PA
open Go.RowKit Go.Proofs.YthnfmmaolkenkaaDoorW.PrintWords Go.Proofs.YthnfmmaolkenkaaDoorW.PrintLast Go.Proofs.YthnfmmaolkenkaaDoorW.PrintMore Go.Proofs.YthnfmmaolkenkaaDoor.H
attribute [local go_sem] max2_int min2_int max_two min_two max_three min_three max_four min_four   -- for this text's walks alone
set_option linter.unusedVariables false
set_option linter.unusedSimpArgs false

/-! ### gudgeonref01_Parse: function 53 -/
mutual
def gudgeonref01_Parse.j0 : Nat → ByteArray → Bool → Option (List Int × Int)
 | 0, _, _ => none
 | k + 1, x0, x23 => if x23 = true then (some (([] : List Int), 8)) else (gudgeonref01_Parse.l0 k x0 (([false, true, false, true] : List Bool)) ([] : List Bool) 0)
def gudgeonref01_Parse.l0 : Nat → ByteArray → List Bool → List Bool → Int → Option (List Int × Int)
 | 0, _, _, _, _ => none
 | k + 1, x0, x4, x5, x6 => if x6 < (x0.size : Int) then (if 0 ≤ x6 then (if (bt x0 x6) < 48 then (gudgeonref01_Parse.j2 k x0 x4 x5 x6 true) else (gudgeonref01_Parse.j2 k x0 x4 x5 x6 (decide ((bt x0 x6) > 57)))) else (none)) else ((gudgeonref01_Limbs.f k x5).bind fun t962 => (some (t962, 0)))
def gudgeonref01_Parse.j2 : Nat → ByteArray → List Bool → List Bool → Int → Bool → Option (List Int × Int)
 | 0, _, _, _, _, _ => none
 | k + 1, x0, x4, x5, x6, x40 => if x40 = true then (some (([] : List Int), 8)) else ((gudgeonref01_mul.f k x4 x5).bind fun t965 => (if 0 ≤ x6 then (if x6 < (x0.size : Int) then ((gudgeonref01_Bits.f k (([((bt x0 x6) - 48) % 256] : List Int))).bind fun t971 => ((gudgeonref01_add.f k t965 t971).bind fun t974 => (gudgeonref01_Parse.l0 k x0 x4 t974 (wrap64 (x6 + 1))))) else (none)) else (none)))
end
def gudgeonref01_Parse.f (k : Nat) (a0 : ByteArray) : Option (List Int × Int) := if a0.toList = ([] : List UInt8) then (gudgeonref01_Parse.j0 k a0 true) else (if (a0.size : Int) > 2000 then (gudgeonref01_Parse.j0 k a0 true) else (if 0 < (a0.size : Int) then (if (bt a0 0) = 48 then (gudgeonref01_Parse.j0 k a0 (decide ((a0.size : Int) > 1))) else (gudgeonref01_Parse.j0 k a0 false)) else (none)))
def gudgeonref01_Parse.T10 : Bool × List (List Nat × List Nat) := (true, [([], []), ([], []), ([0, 1], [0, 1]), ([], []), ([], []), ([3, 4], [3, 4]), ([5], [5]), ([6], [6]), ([7], [7]), ([8, 2], [8]), ([2, 9, 9], [2, 9]), ([10, 10, 0, 1, 2, 3, 4, 5, 6, 7, 8, 9, 10], [1, 10])])
def gudgeonref01_Parse.B10 : List Nat := [0, 0, 3, 0, 0, 24, 56, 120, 248, 511, 1023, 2047]
theorem gudgeonref01_Parse.tab10 : rtab .any (opsOf Tryd.f53 10) = gudgeonref01_Parse.T10 := by kernel_rfl
theorem gudgeonref01_Parse.bits10 : waitsOk gudgeonref01_Parse.T10.2 gudgeonref01_Parse.B10 = true := by kernel_rfl
set_option maxHeartbeats 8000000 in
set_option maxRecDepth 100000 in
theorem gudgeonref01_Parse.calls (k : Nat) (a0 : ByteArray) (r1 : List Int) (r2 : Int) (w : World) (h : gudgeonref01_Parse.f k a0 = some (r1, r2)) :
  Calls Tryd.prog 53 #[.string a0] w fun e w' => ∃ v0_ : Value, e = .returned (.tuple #[v0_, .int .i64 r2]) ∧ Kd.R (Kd.int .u32) 51 w' w.heap.size (fun _ => True) v0_ r1 ∧ Below w.heap.size w w' := by
 have HB := Aside0.mk (Below.refl w.heap.size w)
 have H : (if a0.toList = ([] : List UInt8) then (gudgeonref01_Parse.j0 k a0 true) else (if (a0.size : Int) > 2000 then (gudgeonref01_Parse.j0 k a0 true) else (if 0 < (a0.size : Int) then (if (bt a0 0) = 48 then (gudgeonref01_Parse.j0 k a0 (decide ((a0.size : Int) > 1))) else (gudgeonref01_Parse.j0 k a0 false)) else (none)))) = some (r1, r2) := h
 clear h
 have HC2 := Aside0.mk H
 clear H
 go_enter Tryd.func53, Tryd.ntmps53
 go_upto_region 1 with (fail)
 go_cut [23] (fun v23 wc => ∃ (kq : Nat) (x23_1 : Bool), v23 = .bool x23_1 ∧ Aside0 (gudgeonref01_Parse.j0 kq a0 x23_1 = some (r1, r2)) ∧ Aside0 (kq ≤ k) ∧ Aside0 (Below w.heap.size w wc))
 case first =>
  have H := HC2.out
  clear HC2
  by_cases c3 : a0.toList = ([] : List UInt8)
  ·rw [if_pos c3] at H
   have c3b0 : (a0.toList == ([] : List UInt8)) = true := beq_iff_eq.mpr c3
   have c3b1 : (a0.toList != ([] : List UInt8)) = false := bne_eq_false_iff_eq.mpr c3
   clear c3
   (first | rw [c3b0] | rw [c3b1] | (simp only [i64_w, i32_w]; rw [c3b0]) | skip)
   have H' := Aside0.mk H
   clear H
   go_wp2
   go_meet
   case rel => exact ⟨_, (true), (by first | rfl | (simp; done) | (simp [*]; done) | (refine congrArg (Value.int _) ?_; omega) | (refine congrArg Value.bool ?_; generalize ByteArray.toList _ = z_; cases z_ <;> rfl)), H', ⟨by first | omega | exact Nat.le_refl _⟩, ⟨by repeat (first | (with_reducible first | exact HB.out | apply below_alloc | apply pw_below_drewN | apply below_drew1) | exact HB.out)⟩⟩
  ·rw [if_neg c3] at H
   have c3b0 : (a0.toList == ([] : List UInt8)) = false := beq_eq_false_iff_ne.mpr c3
   have c3b1 : (a0.toList != ([] : List UInt8)) = true := bne_iff_ne.mpr c3
   (first | rw [c3b0] | rw [c3b1] | (simp only [i64_w, i32_w]; rw [c3b0]) | skip)
   by_cases c4 : (a0.size : Int) > 2000
   ·rw [if_pos c4] at H
    have c4b0 : decide (2000 < (a0.size : Int)) = true := decide_eq_true c4
    have c4b1 : decide (2000 < a0.size) = true := decide_eq_true (by omega)
    clear c4
    have H' := Aside0.mk H
    clear H
    go_wp2
    go_meet
    case rel => exact ⟨_, (true), (by first | rfl | (simp; done) | (simp [*]; done) | (refine congrArg (Value.int _) ?_; omega) | (refine congrArg Value.bool ?_; generalize ByteArray.toList _ = z_; cases z_ <;> rfl)), H', ⟨by first | omega | exact Nat.le_refl _⟩, ⟨by repeat (first | (with_reducible first | exact HB.out | apply below_alloc | apply pw_below_drewN | apply below_drew1) | exact HB.out)⟩⟩
   ·rw [if_neg c4] at H
    have c4b0 : decide (2000 < (a0.size : Int)) = false := decide_eq_false c4
    have c4b1 : decide (2000 < a0.size) = false := decide_eq_false (by omega)
    clear c4
    by_cases c5 : 0 < (a0.size : Int)
    ·rw [if_pos c5] at H
     have c5b0 : decide (0 < (a0.size : Int)) = true := decide_eq_true c5
     have c5b1 : decide (0 < a0.size) = true := decide_eq_true (by omega)
     clear c5
     by_cases c7 : (bt a0 0) = 48
     ·rw [if_pos c7] at H
      have c7b0 : ((bt a0 0) == 48) = true := beq_iff_eq.mpr c7
      have c7b1 : ((bt a0 0) != 48) = false := bne_eq_false_iff_eq.mpr c7
      clear c7
      have H' := Aside0.mk H
      clear H
      have p6 : 0 ≤ (0 : Int) := (by omega)
      have q6 : 0 < a0.size := (by have : (0 : Int) < (a0.size : Int) := of_decide_eq_true (by first | (with_reducible assumption) | assumption); omega)
      have hx6 : ∀ h : 0 < a0.size, ((a0[0]'h).toNat : Int) = bt a0 0 := bt_at a0 0
      clear p6
      have qi6 : (0 < (a0.size : Int)) = True := eq_true (of_decide_eq_true (by first | (with_reducible assumption) | assumption))
      replace q6 := eq_true q6
      go_wp2
      go_meet
      case rel => exact ⟨_, (decide ((a0.size : Int) > 1)), (by first | rfl | (simp; done) | (simp [*]; done) | (refine congrArg (Value.int _) ?_; omega) | (refine congrArg Value.bool ?_; generalize ByteArray.toList _ = z_; cases z_ <;> rfl)), H', ⟨by first | omega | exact Nat.le_refl _⟩, ⟨by repeat (first | (with_reducible first | exact HB.out | apply below_alloc | apply pw_below_drewN | apply below_drew1) | exact HB.out)⟩⟩
     ·rw [if_neg c7] at H
      have c7b0 : ((bt a0 0) == 48) = false := beq_eq_false_iff_ne.mpr c7
      have c7b1 : ((bt a0 0) != 48) = true := bne_iff_ne.mpr c7
      have H' := Aside0.mk H
      clear H
      have p6 : 0 ≤ (0 : Int) := (by omega)
      have q6 : 0 < a0.size := (by have : (0 : Int) < (a0.size : Int) := of_decide_eq_true (by first | (with_reducible assumption) | assumption); omega)
      have hx6 : ∀ h : 0 < a0.size, ((a0[0]'h).toNat : Int) = bt a0 0 := bt_at a0 0
      clear p6
      have qi6 : (0 < (a0.size : Int)) = True := eq_true (of_decide_eq_true (by first | (with_reducible assumption) | assumption))
      replace q6 := eq_true q6
      go_wp2
      go_meet
      case rel => exact ⟨_, (false), (by first | rfl | (simp; done) | (simp [*]; done) | (refine congrArg (Value.int _) ?_; omega) | (refine congrArg Value.bool ?_; generalize ByteArray.toList _ = z_; cases z_ <;> rfl)), H', ⟨by first | omega | exact Nat.le_refl _⟩, ⟨by repeat (first | (with_reducible first | exact HB.out | apply below_alloc | apply pw_below_drewN | apply below_drew1) | exact HB.out)⟩⟩
    ·rw [if_neg c5] at H
     exact absurd H (by simp)
 case rest =>
  clear HC2
  try clear p2
  try clear c3
  try clear c3b0
  try clear c3b1
  try clear c4
  try clear c4b0
  try clear c4b1
  try clear c5
  try clear c5b0
  try clear c5b1
  try clear p6
  try clear q6
  try clear hx6
  try clear qi6
  try clear c7
  try clear c7b0
  try clear c7b1
  try clear p6
  try clear q6
  obtain ⟨kq, x23_1, rfl, HA, HJ1, HB⟩ := hcut
  cases kq with
  | zero => exact absurd HA.out (by simp [gudgeonref01_Parse.j0])
  | succ kj1 =>
   have H := HA.out
   clear HA
   simp only [gudgeonref01_Parse.j0] at H
   by_cases c8 : x23_1 = true
   ·subst c8
    have H1 : (some (([] : List Int), 8)) = some (r1, r2) := by rw [if_pos rfl] at H; exact H
    clear H
    have H := H1
    clear H1
    simp only [Option.some.injEq, Prod.mk.injEq] at H
    obtain ⟨rfl, rfl⟩ := H
    go_wp2
    go_ret2
    exact ⟨_, by first | rfl | (simp [errW_none, errW_some] <;> rfl) | (simp [*, errW_none, errW_some] <;> rfl), by first | exact Kd.R_nil _ _ _ _ _ | exact Kd.N_nil _ _ _ _ _ | exact Kd.V_nil _ _ _ _ _ | exact Kd.Q_nil _ _ _ _ _ | exact Kd.S_nil _ _ _ _ _, by repeat (first | (with_reducible first | exact HB.out | apply below_alloc | apply pw_below_drewN | apply below_drew1) | exact HB.out)⟩
   ·replace c8 := Bool.eq_false_iff.mpr c8
    subst c8
    have H1 : (gudgeonref01_Parse.l0 kj1 a0 (([false, true, false, true] : List Bool)) ([] : List Bool) 0) = some (r1, r2) := by rw [if_neg (show ¬ (false = true) by decide)] at H; exact H
    clear H
    have H := H1
    clear H1
    obtain ⟨y959, hy959⟩ : ∃ y_ : List Bool, y_ = (([false, true, false, true] : List Bool)) := ⟨_, rfl⟩
    replace H : (gudgeonref01_Parse.l0 kj1 a0 y959 ([] : List Bool) 0) = some (r1, r2) := by first | (rw [hy959]; with_reducible exact H) | (have H2_ := (Option.bind_some _ _).symm.trans H; rw [hy959]; with_reducible exact H2_) | (have H2_ := (Option.bind_some _ _).symm.trans H; with_reducible exact H2_) | with_reducible exact H | (rw [hy959]; exact H) | exact H
    have Ny959 := Aside0.mk hy959
    clear hy959
    have H' := Aside0.mk H
    clear H
    go_wp2_with (first | ((with_reducible refine gate_dst (N := 24) rfl ?_); (try (refine gate_guard (by rfl) ?_; dsimp only)); refine Kd.R_lit Kd.bool _ 4 ?hg (N := 24) ?hd (xs := ([false, true, false, true] : List Bool)) (inner := [.bool false, .bool true, .bool false, .bool true]) (ok := fun _ => True) (okp := fun _ => True) ?hr ?hp (fun _ hk => hk) trivial (Below.refl _ _) (Nat.le_refl _) (by simp) ?_; (case hd => rfl); (case hg => rfl); (case hr => first | (go_simp; done) | (go_simp; rfl)); (case hp => exact (Reps.one (show Kd.M Kd.bool _ _ _ false [.bool false] from rfl) (Reps.one (show Kd.M Kd.bool _ _ _ true [.bool true] from rfl) (Reps.one (show Kd.M Kd.bool _ _ _ false [.bool false] from rfl) (Reps.one (show Kd.M Kd.bool _ _ _ true [.bool true] from rfl) (Reps.none _ _)))))); intro v960 w9 ho10 hb hg_ hnew_; clear hg_ hnew_; (first | rw [← Ny959.out] at ho10 | (simp only [Int.reduceToNat] at ho10; rw [← Ny959.out] at ho10)); have HO961 := Aside0.mk (Kd.R_lower ho10 (below_size HB.out)); replace HB := Aside0.mk (below_step HB.out hb); clear hb ho10))
    go_loopg [5, 6] kj1 (fun kq v5 v6 w' => ∃ (x5_2 : List Bool) (x6_2 : Int), v6 = .int .i64 x6_2 ∧ Aside0 (gudgeonref01_Parse.l0 kq a0 y959 x5_2 x6_2 = some (r1, r2)) ∧ Aside0 (kq ≤ kj1) ∧ Aside0 (Kd.R Kd.bool 4 w' w.heap.size (fun k_ => some k_ ≠ (v5 : Value).ownBlock) v960 y959) ∧ Aside0 (Kd.R Kd.bool 4 w' w.heap.size (fun k_ => some k_ ≠ (v960 : Value).ownBlock) v5 x5_2) ∧ Aside0 (Below w.heap.size w w'))
    case atStart => exact ⟨(([] : List Bool)), (0), (by first | rfl | (simp; done) | (simp [*]; done) | (refine congrArg (Value.int _) ?_; omega) | (refine congrArg Value.bool ?_; generalize ByteArray.toList _ = z_; cases z_ <;> rfl)), H', ⟨Nat.le_refl _⟩, ⟨by (with_reducible repeat (first | apply Kd.R_alloc | apply Kd.R_drewN | apply Kd.R_drew)); exact Kd.R_mono HO961.out (fun _ hk => (by simp [Value.ownBlock]))⟩, ⟨by first | exact Kd.R_nil _ _ _ _ _ | exact Kd.N_nil _ _ _ _ _ | exact Kd.V_nil _ _ _ _ _ | exact Kd.Q_nil _ _ _ _ _ | exact Kd.S_nil _ _ _ _ _⟩, ⟨by repeat (first | (with_reducible first | exact HB.out | apply below_alloc | apply pw_below_drewN | apply below_drew1) | exact HB.out)⟩⟩
    case round =>
     clear H'
     try clear p2
     try clear c3
     try clear c3b0
     try clear c3b1
     try clear c4
     try clear c4b0
     try clear c4b1
     try clear c5
     try clear c5b0
     try clear c5b1
     try clear p6
     try clear q6
     try clear hx6
     try clear qi6
     try clear c7
     try clear c7b0
     try clear c7b1
     try clear c8
     try clear p2
     try clear p6
     try clear q6
     obtain ⟨x5_2, x6_2, rfl, HA, HK2, HO_4, HO_5, HB⟩ := hrel
     cases gk with
     | zero => exact absurd HA.out (by simp [gudgeonref01_Parse.l0])
     | succ k2 =>
      have H := HA.out
      clear HA
      simp only [gudgeonref01_Parse.l0] at H
      by_cases c11 : x6_2 < (a0.size : Int)
      ·rw [if_pos c11] at H
       have c11b0 : decide (x6_2 < (a0.size : Int)) = true := decide_eq_true c11
       clear c11
       have HC12 := Aside0.mk H
       clear H
       go_upto_region 8 with (fail)
       go_cut [40] (fun v40 wc => ∃ (kq : Nat) (x40_11 : Bool), v40 = .bool x40_11 ∧ Aside0 (gudgeonref01_Parse.j2 kq a0 y959 x5_2 x6_2 x40_11 = some (r1, r2)) ∧ Aside0 (kq ≤ k2) ∧ Aside0 (Kd.R Kd.bool 4 wc w.heap.size (fun k_ => some k_ ≠ (u5 : Value).ownBlock) v960 y959) ∧ Aside0 (Kd.R Kd.bool 4 wc w.heap.size (fun k_ => some k_ ≠ (v960 : Value).ownBlock) u5 x5_2) ∧ Aside0 (Below w.heap.size w wc))
       case first =>
        have H := HC12.out
        clear HC12
        by_cases c13 : 0 ≤ x6_2
        ·rw [if_pos c13] at H
         have c13b0 : decide (0 ≤ x6_2) = true := decide_eq_true c13
         clear c13
         (first | rw [c13b0] | rw [c13b1] | (simp only [i64_w, i32_w]; rw [c13b0]) | skip)
         by_cases c15 : (bt a0 x6_2) < 48
         ·rw [if_pos c15] at H
          have c15b0 : decide ((bt a0 x6_2) < 48) = true := decide_eq_true c15
          clear c15
          have H' := Aside0.mk H
          clear H
          have p14 : 0 ≤ (x6_2 : Int) := of_decide_eq_true (by first | (with_reducible assumption) | assumption)
          have q14 : x6_2 < (a0.size : Int) := of_decide_eq_true (by first | (with_reducible assumption) | assumption)
          have hx14 := bt_at a0 x6_2
          replace p14 := eq_true p14
          replace q14 := eq_true q14
          go_wp2
          go_meet
          case rel => exact ⟨_, (true), (by first | rfl | (simp; done) | (simp [*]; done) | (refine congrArg (Value.int _) ?_; omega) | (refine congrArg Value.bool ?_; generalize ByteArray.toList _ = z_; cases z_ <;> rfl)), H', ⟨by have := HJ1.out; have := HK2.out; first | omega | exact Nat.le_refl _⟩, ⟨by (with_reducible repeat (first | apply Kd.R_alloc | apply Kd.R_drewN | apply Kd.R_drew)); exact HO_4.out⟩, ⟨by (with_reducible repeat (first | apply Kd.R_alloc | apply Kd.R_drewN | apply Kd.R_drew)); exact HO_5.out⟩, ⟨by repeat (first | (with_reducible first | exact HB.out | apply below_alloc | apply pw_below_drewN | apply below_drew1) | exact HB.out)⟩⟩
         ·rw [if_neg c15] at H
          have c15b0 : decide ((bt a0 x6_2) < 48) = false := decide_eq_false c15
          clear c15
          have H' := Aside0.mk H
          clear H
          have p14 : 0 ≤ (x6_2 : Int) := of_decide_eq_true (by first | (with_reducible assumption) | assumption)
          have q14 : x6_2 < (a0.size : Int) := of_decide_eq_true (by first | (with_reducible assumption) | assumption)
          have hx14 := bt_at a0 x6_2
          replace p14 := eq_true p14
          replace q14 := eq_true q14
          have p16 : 0 ≤ (x6_2 : Int) := of_decide_eq_true (by first | (with_reducible assumption) | assumption)
          have q16 : x6_2 < (a0.size : Int) := of_decide_eq_true (by first | (with_reducible assumption) | assumption)
          have hx16 := bt_at a0 x6_2
          replace p16 := eq_true p16
          replace q16 := eq_true q16
          go_wp2
          go_meet
          case rel => exact ⟨_, (decide ((bt a0 x6_2) > 57)), (by first | rfl | (simp; done) | (simp [*]; done) | (refine congrArg (Value.int _) ?_; omega) | (refine congrArg Value.bool ?_; generalize ByteArray.toList _ = z_; cases z_ <;> rfl)), H', ⟨by have := HJ1.out; have := HK2.out; first | omega | exact Nat.le_refl _⟩, ⟨by (with_reducible repeat (first | apply Kd.R_alloc | apply Kd.R_drewN | apply Kd.R_drew)); exact HO_4.out⟩, ⟨by (with_reducible repeat (first | apply Kd.R_alloc | apply Kd.R_drewN | apply Kd.R_drew)); exact HO_5.out⟩, ⟨by repeat (first | (with_reducible first | exact HB.out | apply below_alloc | apply pw_below_drewN | apply below_drew1) | exact HB.out)⟩⟩
        ·rw [if_neg c13] at H
         exact absurd H (by simp)
       case rest =>
        clear HC12
        try clear c1
        try clear p1
        try clear q1
        try clear hx1
        try clear p2
        try clear c3
        try clear c3b0
        try clear c3b1
        try clear c4
        try clear c4b0
        try clear c4b1
        try clear c5
        try clear c5b0
        try clear c5b1
        try clear p6
        try clear q6
        try clear hx6
        try clear qi6
        try clear c7
        try clear c7b0
        try clear c7b1
        try clear c8
        try clear c11
        try clear c11b0
        try clear c13
        try clear c13b0
        try clear p14
        try clear q14
        try clear hx14
        try clear c15
        try clear c15b0
        try clear p16
        try clear q16
        try clear hx16
        try clear p14
        try clear p16
        try clear p2
        try clear p6
        try clear q14
        try clear q16
        try clear q6
        obtain ⟨kq, x40_11, rfl, HA, HJ11, HO_4, HO_5, HB⟩ := hcut
        cases kq with
        | zero => exact absurd HA.out (by simp [gudgeonref01_Parse.j2])
        | succ kj11 =>
         have H := HA.out
         clear HA
         simp only [gudgeonref01_Parse.j2] at H
         by_cases c17 : x40_11 = true
         ·subst c17
          have H1 : (some (([] : List Int), 8)) = some (r1, r2) := by rw [if_pos rfl] at H; exact H
          clear H
          have H := H1
          clear H1
          simp only [Option.some.injEq, Prod.mk.injEq] at H
          obtain ⟨rfl, rfl⟩ := H
          go_wp2
          go_ret2
          exact ⟨_, by first | rfl | (simp [errW_none, errW_some] <;> rfl) | (simp [*, errW_none, errW_some] <;> rfl), by first | exact Kd.R_nil _ _ _ _ _ | exact Kd.N_nil _ _ _ _ _ | exact Kd.V_nil _ _ _ _ _ | exact Kd.Q_nil _ _ _ _ _ | exact Kd.S_nil _ _ _ _ _, by repeat (first | (with_reducible first | exact HB.out | apply below_alloc | apply pw_below_drewN | apply below_drew1) | exact HB.out)⟩
         ·replace c17 := Bool.eq_false_iff.mpr c17
          subst c17
          have H1 : ((gudgeonref01_mul.f kj11 y959 x5_2).bind fun t965 => (if 0 ≤ x6_2 then (if x6_2 < (a0.size : Int) then ((gudgeonref01_Bits.f kj11 (([((bt a0 x6_2) - 48) % 256] : List Int))).bind fun t971 => ((gudgeonref01_add.f kj11 t965 t971).bind fun t974 => (gudgeonref01_Parse.l0 kj11 a0 y959 t974 (wrap64 (x6_2 + 1))))) else (none)) else (none))) = some (r1, r2) := by rw [if_neg (show ¬ (false = true) by decide)] at H; exact H
          clear H
          have H := H1
          clear H1
          replace H := Option.bind_eq_some_iff.mp H
          obtain ⟨t965, A180, H⟩ := H
          replace H : (if 0 ≤ x6_2 then (if x6_2 < (a0.size : Int) then ((gudgeonref01_Bits.f kj11 (([((bt a0 x6_2) - 48) % 256] : List Int))).bind fun t971 => ((gudgeonref01_add.f kj11 t965 t971).bind fun t974 => (gudgeonref01_Parse.l0 kj11 a0 y959 t974 (wrap64 (x6_2 + 1))))) else (none)) else (none)) = some (r1, r2) := H
          have A18 := Aside0.mk A180
          clear A180
          by_cases c19 : 0 ≤ x6_2
          ·rw [if_pos c19] at H
           have c19b0 : decide (0 ≤ x6_2) = true := decide_eq_true c19
           clear c19
           by_cases c20 : x6_2 < (a0.size : Int)
           ·rw [if_pos c20] at H
            have c20b0 : decide (x6_2 < (a0.size : Int)) = true := decide_eq_true c20
            clear c20
            obtain ⟨y968, hy968⟩ : ∃ y_ : List Int, y_ = (([((bt a0 x6_2) - 48) % 256] : List Int)) := ⟨_, rfl⟩
            replace H : ((gudgeonref01_Bits.f kj11 y968).bind fun t971 => ((gudgeonref01_add.f kj11 t965 t971).bind fun t974 => (gudgeonref01_Parse.l0 kj11 a0 y959 t974 (wrap64 (x6_2 + 1))))) = some (r1, r2) := by first | (rw [hy968]; with_reducible exact H) | (have H2_ := (Option.bind_some _ _).symm.trans H; rw [hy968]; with_reducible exact H2_) | (have H2_ := (Option.bind_some _ _).symm.trans H; with_reducible exact H2_) | with_reducible exact H | (rw [hy968]; exact H) | exact H
            have Ny968 := Aside0.mk hy968
            clear hy968
            replace H := Option.bind_eq_some_iff.mp H
            obtain ⟨t971, A220, H⟩ := H
            replace H : ((gudgeonref01_add.f kj11 t965 t971).bind fun t974 => (gudgeonref01_Parse.l0 kj11 a0 y959 t974 (wrap64 (x6_2 + 1)))) = some (r1, r2) := H
            have A22 := Aside0.mk A220
            clear A220
            replace H := Option.bind_eq_some_iff.mp H
            obtain ⟨t974, A230, H⟩ := H
            replace H : (gudgeonref01_Parse.l0 kj11 a0 y959 t974 (wrap64 (x6_2 + 1))) = some (r1, r2) := H
            have A23 := Aside0.mk A230
            clear A230
            have H' := Aside0.mk H
            clear H
            obtain ⟨Ao24, co24, eo24⟩ := Kd.R_slice HO_4.out
            subst eo24
            obtain ⟨Ao25, co25, eo25⟩ := Kd.R_slice HO_5.out
            subst eo25
            try go_wp2
            replace HO_4 := Aside0.mk (Kd.R_drew HO_4.out)
            replace HO_5 := Aside0.mk (Kd.R_drew HO_5.out)
            replace HB := Aside0.mk (below_drew1 HB.out)
            have p21 : 0 ≤ (x6_2 : Int) := of_decide_eq_true (by first | (with_reducible assumption) | assumption)
            have q21 : x6_2 < (a0.size : Int) := of_decide_eq_true (by first | (with_reducible assumption) | assumption)
            have hx21 := bt_at a0 x6_2
            replace p21 := eq_true p21
            replace q21 := eq_true q21
            refine start_ (n := 12) (S := fun w' => True) (ds := []) #[false, false, false, false, false, false, false, false, false, false, false, false] (by kernel_rfl) rfl rfl trivial (fun hHeld => ?_); refine with_tabW gudgeonref01_Parse.tab10 gudgeonref01_Parse.bits10 (fun HT_ HW_ => ?_)
            generalize wc.drew = w26 at HO_4 HO_5 HB hHeld ⊢
            refine pure_ (i := 0) (N := some 41) (v := ?_) (a' := ?_) #[true, false, false, false, false, false, false, false, false, false, false, false] rfl rfl (any_of HT_.out (by kernel_rfl)) (fun _ _ _ h => h) (Or.inl ⟨by rfl, ?_⟩) ?_ ?_
            rotate_left
            ·intro w'
             go_simp
             with_reducible rfl
            rotate_left
            ·simp only [Act.put, List.setIfInBounds_toArray, List.set_cons_zero, List.set_cons_succ, i64_w, i32_w]
             rfl
            refine pure_ (i := 1) (N := some 42) (v := ?_) (a' := ?_) #[true, true, false, false, false, false, false, false, false, false, false, false] rfl rfl (any_of HT_.out (by kernel_rfl)) (fun _ _ _ h => h) (Or.inl ⟨by rfl, ?_⟩) ?_ ?_
            rotate_left
            ·intro w'
             go_simp
             with_reducible rfl
            rotate_left
            ·simp only [Act.put, List.setIfInBounds_toArray, List.set_cons_zero, List.set_cons_succ, i64_w, i32_w]
             rfl
            refine pure_ (i := 3) (N := some 44) (v := ?_) (a' := ?_) #[true, true, false, true, false, false, false, false, false, false, false, false] rfl rfl (any_of HT_.out (by kernel_rfl)) (fun _ _ _ h => h) (Or.inl ⟨by rfl, ?_⟩) ?_ ?_
            rotate_left
            ·intro w'
             go_simp
             with_reducible rfl
            rotate_left
            ·simp only [Act.put, List.setIfInBounds_toArray, List.set_cons_zero, List.set_cons_succ, i64_w, i32_w]
             rfl
            refine pure_ (i := 4) (N := some 45) (v := ?_) (a' := ?_) #[true, true, false, true, true, false, false, false, false, false, false, false] rfl rfl (any_of HT_.out (by kernel_rfl)) (fun _ _ _ h => h) (Or.inl ⟨by rfl, ?_⟩) ?_ ?_
            rotate_left
            ·intro w'
             go_simp
             with_reducible rfl
            rotate_left
            ·simp only [Act.put, List.setIfInBounds_toArray, List.set_cons_zero, List.set_cons_succ, i64_w, i32_w]
             rfl
            refine take_ (i := 5) (N := some 46) (v := ?_) (a' := ?_) #[true, true, false, true, true, true, false, false, false, false, false, false] rfl rfl (take_ofW HT_.out HW_.out (by kernel_rfl)) (fun _ _ _ h => h) (Or.inl ⟨by rfl, ?_⟩) hHeld ?_ ?_
            rotate_left
            ·intro w' _
             go_simp
             with_reducible rfl
            rotate_left
            ·simp only [Act.put, List.setIfInBounds_toArray, List.set_cons_zero, List.set_cons_succ, i64_w, i32_w]
             rfl
            refine pure_ (i := 6) (N := some 47) (v := ?_) (a' := ?_) #[true, true, false, true, true, true, true, false, false, false, false, false] rfl rfl (any_of HT_.out (by kernel_rfl)) (fun _ _ _ h => h) (Or.inl ⟨by rfl, ?_⟩) ?_ ?_
            rotate_left
            ·intro w'
             go_simp
             with_reducible rfl
            rotate_left
            ·simp only [Act.put, List.setIfInBounds_toArray, List.set_cons_zero, List.set_cons_succ, i64_w, i32_w]
             rfl
            refine pure_ (i := 7) (N := some 48) (v := ?_) (a' := ?_) #[true, true, false, true, true, true, true, true, false, false, false, false] rfl rfl (any_of HT_.out (by kernel_rfl)) (fun _ _ _ h => h) (Or.inl ⟨by rfl, ?_⟩) ?_ ?_
            rotate_left
            ·intro w'
             go_simp
             with_reducible rfl
            rotate_left
            ·simp only [Act.put, List.setIfInBounds_toArray, List.set_cons_zero, List.set_cons_succ, i64_w, i32_w]
             rfl
            refine join_ (σ := Value × Value) 3 #[true, true, true, true, true, true, true, true, true, false, false, false] (fun s_ => [(43, s_.1), (49, s_.2)]) (fun s_ w' => (Kd.R Kd.bool 4 w' w.heap.size (fun k_ => some k_ ≠ (.slice Ao24 y959.length co24 : Value).ownBlock ∧ some k_ ≠ (.slice Ao25 x5_2.length co25 : Value).ownBlock) s_.1 t965) ∧ (Kd.R (Kd.int .u32) 51 w' w.heap.size (fun _ => True) s_.2 y968) ∧ (Kd.R Kd.bool 4 w' w.heap.size (fun k_ => some k_ ≠ (s_.1 : Value).ownBlock ∧ some k_ ≠ (.slice Ao25 x5_2.length co25 : Value).ownBlock) (.slice Ao24 y959.length co24) y959) ∧ (Kd.R Kd.bool 4 w' w.heap.size (fun k_ => some k_ ≠ (s_.1 : Value).ownBlock ∧ some k_ ≠ (.slice Ao24 y959.length co24 : Value).ownBlock) (.slice Ao25 x5_2.length co25) x5_2) ∧ (Below w.heap.size w w')) ?_ ?_
            rotate_left
            ·intro hCont
             refine two_ (i := 2) (j := 8) (Ni := some 43) (Nj := some 49) #[true, true, true, true, true, true, true, true, false, false, false, false] #[true, true, false, true, true, true, true, true, true, false, false, false] rfl rfl rfl rfl (two_of HT_.out (by kernel_rfl)) (by decide) (by decide) (fun K hK => ?_) (fun K hK => ?_)
             ·skip
              refine goR Tryd.func74 [.slice Ao24 y959.length co24, .slice Ao25 x5_2.length co25] ?_
              with_reducible refine (gudgeonref01_mul.calls kj11 _ _ y959 _ _ x5_2 t965 _ ?side1 ?side2 ?side3 ?side4 A18.out).mono ?_
              (case side1 => exact (Kd.R_reads' HO_4.out).2.2)
              (case side2 => exact (Kd.R_reads' HO_4.out).2.1)
              (case side3 => exact (Kd.R_reads' HO_5.out).2.2)
              (case side4 => exact (Kd.R_reads' HO_5.out).2.1)
              rintro e w27 ⟨v966, rfl, ho0, hb⟩
              refine ⟨_, rfl, ?_⟩
              have HO967 := Aside0.mk (Kd.R_lower (Kd.R_new' (Kd.R_new' ho0 (Kd.R_lt HO_4.out)) (Kd.R_lt HO_5.out)) (below_size HB.out))
              replace HO_4 := Aside0.mk (Kd.R_elder' HO_4.out (Kd.R_base ho0) hb)
              replace HO_5 := Aside0.mk (Kd.R_elder' HO_5.out (Kd.R_base ho0) hb)
              replace HB := Aside0.mk (below_step HB.out hb)
              (try clear hb)
              (try clear hb2)
              (try clear hk)
              (try clear hi)
              (try clear ho0)
              refine hK.out _ _ trivial (fun hHeld => ?_)
              clear hK K
              refine norm_ (a' := ?_) ?_ ?_
              rotate_left
              ·show Act.put _ (some 43) _ = _
               simp only [Act.put, List.setIfInBounds_toArray, List.set_cons_zero, List.set_cons_succ, i64_w, i32_w]
               rfl
              refine one_ (i := 8) (N := some 49) #[true, true, true, true, true, true, true, true, true, false, false, false] rfl rfl (one_of HT_.out (by kernel_rfl)) (by decide) (fun K hK => ?_)
              refine Kd.R_lit_step (Kd.int .u32) _ 51 ?hg (N := 49) ?hd (xs := ([((bt a0 x6_2) - 48) % 256] : List Int)) (inner := [.int .u32 (((bt a0 x6_2) - 48) % 256)]) (ok := fun _ => True) (okp := fun _ => True) ?hr ?hp (fun _ hk => hk) trivial (Below.refl _ _) (Nat.le_refl _) (by simp) ?_; (case hd => rfl); (case hg => rfl); (case hr => first | (go_simp; done) | (go_simp; rfl) | (go_simp; simp only [IntKind.wrap_u8, IntKind.wrap_u32]; congr 4; omega) | (go_simp; simp only [IntKind.wrap_u8, IntKind.wrap_u32]; congr 5; omega)); (case hp => exact (Reps.one (show Kd.M (Kd.int .u32) _ _ _ (((bt a0 x6_2) - 48) % 256) [.int .u32 (((bt a0 x6_2) - 48) % 256)] from rfl) (Reps.none _ _)))
              intro v969 w28 ho29 hb hg_ hnew_
              clear hg_ hnew_
              (first | rw [← Ny968.out] at ho29 | (simp only [Int.reduceToNat] at ho29; rw [← Ny968.out] at ho29))
              replace HO_4 := Aside0.mk (Kd.R_below HO_4.out hb)
              replace HO_5 := Aside0.mk (Kd.R_below HO_5.out hb)
              replace HO967 := Aside0.mk (Kd.R_below HO967.out hb)
              have HO970 := Aside0.mk (Kd.R_lower ho29 (below_size HB.out))
              replace HB := Aside0.mk (below_step HB.out hb)
              clear hb ho29
              refine hK.out _ _ trivial (fun hHeld => ?_)
              clear hK K
              refine norm_ (a' := ?_) ?_ ?_
              rotate_left
              ·show Act.put _ (some 49) _ = _
               simp only [Act.put, List.setIfInBounds_toArray, List.set_cons_zero, List.set_cons_succ, i64_w, i32_w]
               rfl
              exact norm_ (by simp only [putAll, Act.put, List.setIfInBounds_toArray, List.set_cons_zero, List.set_cons_succ]) (hCont (v966, v969) _ ⟨(Kd.R_mono HO967.out (fun _ hk => by first | exact ⟨hk.1.2, hk.2⟩ | ((repeat' refine ⟨?_, ?_⟩) <;> (first | exact hk.1 | exact hk.2 | exact hk.1.1 | exact hk.1.2 | exact hk.2.1 | exact hk.2.2 | exact hk.1.1.1 | exact hk.1.1.2 | exact hk.1.2.1 | exact hk.1.2.2 | exact hk.2.1.1 | exact hk.2.1.2 | exact hk.2.2.1 | exact hk.2.2.2 | exact hk.1.1.1.1 | exact hk.1.1.1.2 | exact hk.1.1.2.1 | exact hk.1.1.2.2 | exact hk.1.2.1.1 | exact hk.1.2.1.2 | exact hk.1.2.2.1 | exact hk.1.2.2.2 | exact hk.2.1.1.1 | exact hk.2.1.1.2 | exact hk.2.1.2.1 | exact hk.2.1.2.2 | exact hk.2.2.1.1 | exact hk.2.2.1.2 | exact hk.2.2.2.1 | exact hk.2.2.2.2)))), HO970.out, (Kd.R_mono HO_4.out (fun _ hk => by first | exact ⟨hk.2, hk.1⟩ | ((repeat' refine ⟨?_, ?_⟩) <;> (first | exact hk.1 | exact hk.2 | exact hk.1.1 | exact hk.1.2 | exact hk.2.1 | exact hk.2.2 | exact hk.1.1.1 | exact hk.1.1.2 | exact hk.1.2.1 | exact hk.1.2.2 | exact hk.2.1.1 | exact hk.2.1.2 | exact hk.2.2.1 | exact hk.2.2.2 | exact hk.1.1.1.1 | exact hk.1.1.1.2 | exact hk.1.1.2.1 | exact hk.1.1.2.2 | exact hk.1.2.1.1 | exact hk.1.2.1.2 | exact hk.1.2.2.1 | exact hk.1.2.2.2 | exact hk.2.1.1.1 | exact hk.2.1.1.2 | exact hk.2.1.2.1 | exact hk.2.1.2.2 | exact hk.2.2.1.1 | exact hk.2.2.1.2 | exact hk.2.2.2.1 | exact hk.2.2.2.2)))), (Kd.R_mono HO_5.out (fun _ hk => by first | exact ⟨hk.2, hk.1⟩ | ((repeat' refine ⟨?_, ?_⟩) <;> (first | exact hk.1 | exact hk.2 | exact hk.1.1 | exact hk.1.2 | exact hk.2.1 | exact hk.2.2 | exact hk.1.1.1 | exact hk.1.1.2 | exact hk.1.2.1 | exact hk.1.2.2 | exact hk.2.1.1 | exact hk.2.1.2 | exact hk.2.2.1 | exact hk.2.2.2 | exact hk.1.1.1.1 | exact hk.1.1.1.2 | exact hk.1.1.2.1 | exact hk.1.1.2.2 | exact hk.1.2.1.1 | exact hk.1.2.1.2 | exact hk.1.2.2.1 | exact hk.1.2.2.2 | exact hk.2.1.1.1 | exact hk.2.1.1.2 | exact hk.2.1.2.1 | exact hk.2.1.2.2 | exact hk.2.2.1.1 | exact hk.2.2.1.2 | exact hk.2.2.2.1 | exact hk.2.2.2.2)))), HB.out⟩)
             ·skip
              refine Kd.R_lit_step (Kd.int .u32) _ 51 ?hg (N := 49) ?hd (xs := ([((bt a0 x6_2) - 48) % 256] : List Int)) (inner := [.int .u32 (((bt a0 x6_2) - 48) % 256)]) (ok := fun _ => True) (okp := fun _ => True) ?hr ?hp (fun _ hk => hk) trivial (Below.refl _ _) (Nat.le_refl _) (by simp) ?_; (case hd => rfl); (case hg => rfl); (case hr => first | (go_simp; done) | (go_simp; rfl) | (go_simp; simp only [IntKind.wrap_u8, IntKind.wrap_u32]; congr 4; omega) | (go_simp; simp only [IntKind.wrap_u8, IntKind.wrap_u32]; congr 5; omega)); (case hp => exact (Reps.one (show Kd.M (Kd.int .u32) _ _ _ (((bt a0 x6_2) - 48) % 256) [.int .u32 (((bt a0 x6_2) - 48) % 256)] from rfl) (Reps.none _ _)))
              intro v969 w27 ho28 hb hg_ hnew_
              clear hg_ hnew_
              (first | rw [← Ny968.out] at ho28 | (simp only [Int.reduceToNat] at ho28; rw [← Ny968.out] at ho28))
              replace HO_4 := Aside0.mk (Kd.R_below HO_4.out hb)
              replace HO_5 := Aside0.mk (Kd.R_below HO_5.out hb)
              have HO970 := Aside0.mk (Kd.R_lower ho28 (below_size HB.out))
              replace HB := Aside0.mk (below_step HB.out hb)
              clear hb ho28
              refine hK.out _ _ trivial (fun hHeld => ?_)
              clear hK K
              refine norm_ (a' := ?_) ?_ ?_
              rotate_left
              ·show Act.put _ (some 49) _ = _
               simp only [Act.put, List.setIfInBounds_toArray, List.set_cons_zero, List.set_cons_succ, i64_w, i32_w]
               rfl
              refine one_ (i := 2) (N := some 43) #[true, true, true, true, true, true, true, true, true, false, false, false] rfl rfl (one_of HT_.out (by kernel_rfl)) (by decide) (fun K hK => ?_)
              refine goR Tryd.func74 [.slice Ao24 y959.length co24, .slice Ao25 x5_2.length co25] ?_
              with_reducible refine (gudgeonref01_mul.calls kj11 _ _ y959 _ _ x5_2 t965 _ ?side1 ?side2 ?side3 ?side4 A18.out).mono ?_
              (case side1 => exact (Kd.R_reads' HO_4.out).2.2)
              (case side2 => exact (Kd.R_reads' HO_4.out).2.1)
              (case side3 => exact (Kd.R_reads' HO_5.out).2.2)
              (case side4 => exact (Kd.R_reads' HO_5.out).2.1)
              rintro e w29 ⟨v966, rfl, ho0, hb⟩
              refine ⟨_, rfl, ?_⟩
              replace HO970 := Aside0.mk (Kd.R_below HO970.out hb)
              have HO967 := Aside0.mk (Kd.R_lower (Kd.R_new' (Kd.R_new' ho0 (Kd.R_lt HO_4.out)) (Kd.R_lt HO_5.out)) (below_size HB.out))
              replace HO_4 := Aside0.mk (Kd.R_elder' HO_4.out (Kd.R_base ho0) hb)
              replace HO_5 := Aside0.mk (Kd.R_elder' HO_5.out (Kd.R_base ho0) hb)
              replace HB := Aside0.mk (below_step HB.out hb)
              (try clear hb)
              (try clear hb2)
              (try clear hk)
              (try clear hi)
              (try clear ho0)
              refine hK.out _ _ trivial (fun hHeld => ?_)
              clear hK K
              refine norm_ (a' := ?_) ?_ ?_
              rotate_left
              ·show Act.put _ (some 43) _ = _
               simp only [Act.put, List.setIfInBounds_toArray, List.set_cons_zero, List.set_cons_succ, i64_w, i32_w]
               rfl
              exact norm_ (by simp only [putAll, Act.put, List.setIfInBounds_toArray, List.set_cons_zero, List.set_cons_succ]) (hCont (v966, v969) _ ⟨(Kd.R_mono HO967.out (fun _ hk => by first | exact ⟨hk.1.2, hk.2⟩ | ((repeat' refine ⟨?_, ?_⟩) <;> (first | exact hk.1 | exact hk.2 | exact hk.1.1 | exact hk.1.2 | exact hk.2.1 | exact hk.2.2 | exact hk.1.1.1 | exact hk.1.1.2 | exact hk.1.2.1 | exact hk.1.2.2 | exact hk.2.1.1 | exact hk.2.1.2 | exact hk.2.2.1 | exact hk.2.2.2 | exact hk.1.1.1.1 | exact hk.1.1.1.2 | exact hk.1.1.2.1 | exact hk.1.1.2.2 | exact hk.1.2.1.1 | exact hk.1.2.1.2 | exact hk.1.2.2.1 | exact hk.1.2.2.2 | exact hk.2.1.1.1 | exact hk.2.1.1.2 | exact hk.2.1.2.1 | exact hk.2.1.2.2 | exact hk.2.2.1.1 | exact hk.2.2.1.2 | exact hk.2.2.2.1 | exact hk.2.2.2.2)))), HO970.out, (Kd.R_mono HO_4.out (fun _ hk => by first | exact ⟨hk.2, hk.1⟩ | ((repeat' refine ⟨?_, ?_⟩) <;> (first | exact hk.1 | exact hk.2 | exact hk.1.1 | exact hk.1.2 | exact hk.2.1 | exact hk.2.2 | exact hk.1.1.1 | exact hk.1.1.2 | exact hk.1.2.1 | exact hk.1.2.2 | exact hk.2.1.1 | exact hk.2.1.2 | exact hk.2.2.1 | exact hk.2.2.2 | exact hk.1.1.1.1 | exact hk.1.1.1.2 | exact hk.1.1.2.1 | exact hk.1.1.2.2 | exact hk.1.2.1.1 | exact hk.1.2.1.2 | exact hk.1.2.2.1 | exact hk.1.2.2.2 | exact hk.2.1.1.1 | exact hk.2.1.1.2 | exact hk.2.1.2.1 | exact hk.2.1.2.2 | exact hk.2.2.1.1 | exact hk.2.2.1.2 | exact hk.2.2.2.1 | exact hk.2.2.2.2)))), (Kd.R_mono HO_5.out (fun _ hk => by first | exact ⟨hk.2, hk.1⟩ | ((repeat' refine ⟨?_, ?_⟩) <;> (first | exact hk.1 | exact hk.2 | exact hk.1.1 | exact hk.1.2 | exact hk.2.1 | exact hk.2.2 | exact hk.1.1.1 | exact hk.1.1.2 | exact hk.1.2.1 | exact hk.1.2.2 | exact hk.2.1.1 | exact hk.2.1.2 | exact hk.2.2.1 | exact hk.2.2.2 | exact hk.1.1.1.1 | exact hk.1.1.1.2 | exact hk.1.1.2.1 | exact hk.1.1.2.2 | exact hk.1.2.1.1 | exact hk.1.2.1.2 | exact hk.1.2.2.1 | exact hk.1.2.2.2 | exact hk.2.1.1.1 | exact hk.2.1.1.2 | exact hk.2.1.2.1 | exact hk.2.1.2.2 | exact hk.2.2.1.1 | exact hk.2.2.1.2 | exact hk.2.2.2.1 | exact hk.2.2.2.2)))), HB.out⟩)
            rintro ⟨v966, v969⟩ w30 ⟨h0_, h1_, h2_, h3_, h4_⟩
            have n0_ : Aside0 (Kd.R Kd.bool 4 w30 w.heap.size (fun k_ => some k_ ≠ (.slice Ao24 y959.length co24 : Value).ownBlock ∧ some k_ ≠ (.slice Ao25 x5_2.length co25 : Value).ownBlock) v966 t965) := ⟨h0_⟩
            have n1_ : Aside0 (Kd.R (Kd.int .u32) 51 w30 w.heap.size (fun _ => True) v969 y968) := ⟨h1_⟩
            have n2_ : Aside0 (Kd.R Kd.bool 4 w30 w.heap.size (fun k_ => some k_ ≠ (v966 : Value).ownBlock ∧ some k_ ≠ (.slice Ao25 x5_2.length co25 : Value).ownBlock) (.slice Ao24 y959.length co24) y959) := ⟨h2_⟩
            have n3_ : Aside0 (Kd.R Kd.bool 4 w30 w.heap.size (fun k_ => some k_ ≠ (v966 : Value).ownBlock ∧ some k_ ≠ (.slice Ao24 y959.length co24 : Value).ownBlock) (.slice Ao25 x5_2.length co25) x5_2) := ⟨h3_⟩
            have n4_ : Aside0 (Below w.heap.size w w30) := ⟨h4_⟩
            clear HO_4
            clear HO_5
            clear HB
            clear h0_ h1_ h2_ h3_ h4_
            have HO967 := n0_
            have HO970 := n1_
            have HO_4 := n2_
            have HO_5 := n3_
            have HB := n4_
            clear n0_ n1_ n2_ n3_ n4_
            have hHeld := trivial
            obtain ⟨Ao31, co31, eo31⟩ := Kd.R_slice HO970.out
            subst eo31
            refine norm_ (a' := ?_) ?_ ?_
            rotate_left
            ·simp only [putAll, Act.put, List.setIfInBounds_toArray, List.set_cons_zero, List.set_cons_succ]
             rfl
            refine one_ (i := 9) (N := some 50) #[true, true, true, true, true, true, true, true, true, true, false, false] rfl rfl (one_of HT_.out (by kernel_rfl)) (by decide) (fun K hK => ?_)
            refine goR Tryd.func67 [.slice Ao31 y968.length co31] ?_
            with_reducible refine (gudgeonref01_Bits.calls kj11 _ _ y968 t971 _ ?side1 ?side2 A22.out).mono ?_
            (case side1 => exact (Kd.R_reads' HO970.out).2.2)
            (case side2 => exact (Kd.R_reads' HO970.out).2.1)
            rintro e w32 ⟨v972, rfl, ho0, hb⟩
            refine ⟨_, rfl, ?_⟩
            replace HO970 := Aside0.mk (Kd.R_below HO970.out hb)
            have HO973 := Aside0.mk (Kd.R_lower (Kd.R_new' (Kd.R_new' (Kd.R_new' ho0 (Kd.R_lt HO_4.out)) (Kd.R_lt HO_5.out)) (Kd.R_lt HO967.out)) (below_size HB.out))
            replace HO_4 := Aside0.mk (Kd.R_elder' HO_4.out (Kd.R_base ho0) hb)
            replace HO_5 := Aside0.mk (Kd.R_elder' HO_5.out (Kd.R_base ho0) hb)
            replace HO967 := Aside0.mk (Kd.R_elder' HO967.out (Kd.R_base ho0) hb)
            replace HB := Aside0.mk (below_step HB.out hb)
            (try clear hb)
            (try clear hb2)
            (try clear hk)
            (try clear hi)
            (try clear ho0)
            obtain ⟨Ao33, co33, eo33⟩ := Kd.R_slice HO967.out
            subst eo33
            obtain ⟨Ao34, co34, eo34⟩ := Kd.R_slice HO973.out
            subst eo34
            refine hK.out _ _ trivial (fun hHeld => ?_)
            clear hK K
            refine norm_ (a' := ?_) ?_ ?_
            rotate_left
            ·show Act.put _ (some 50) _ = _
             simp only [Act.put, List.setIfInBounds_toArray, List.set_cons_zero, List.set_cons_succ, i64_w, i32_w]
             rfl
            refine one_ (i := 10) (N := some 51) #[true, true, true, true, true, true, true, true, true, true, true, false] rfl rfl (one_of HT_.out (by kernel_rfl)) (by decide) (fun K hK => ?_)
            refine goR Tryd.func70 [.slice Ao33 t965.length co33, .slice Ao34 t971.length co34] ?_
            with_reducible refine (gudgeonref01_add.calls kj11 _ _ t965 _ _ t971 t974 _ ?side1 ?side2 ?side3 ?side4 A23.out).mono ?_
            (case side1 => exact (Kd.R_reads' HO967.out).2.2)
            (case side2 => exact (Kd.R_reads' HO967.out).2.1)
            (case side3 => exact (Kd.R_reads' HO973.out).2.2)
            (case side4 => exact (Kd.R_reads' HO973.out).2.1)
            rintro e w35 ⟨v975, rfl, ho0, hb⟩
            refine ⟨_, rfl, ?_⟩
            replace HO970 := Aside0.mk (Kd.R_below HO970.out hb)
            have HO976 := Aside0.mk (Kd.R_lower (Kd.R_new' (Kd.R_new' (Kd.R_new' (Kd.R_new' ho0 (Kd.R_lt HO_4.out)) (Kd.R_lt HO_5.out)) (Kd.R_lt HO967.out)) (Kd.R_lt HO973.out)) (below_size HB.out))
            replace HO_4 := Aside0.mk (Kd.R_elder' HO_4.out (Kd.R_base ho0) hb)
            replace HO_5 := Aside0.mk (Kd.R_elder' HO_5.out (Kd.R_base ho0) hb)
            replace HO967 := Aside0.mk (Kd.R_elder' HO967.out (Kd.R_base ho0) hb)
            replace HO973 := Aside0.mk (Kd.R_elder' HO973.out (Kd.R_base ho0) hb)
            replace HB := Aside0.mk (below_step HB.out hb)
            (try clear hb)
            (try clear hb2)
            (try clear hk)
            (try clear hi)
            (try clear ho0)
            refine hK.out _ _ trivial (fun hHeld => ?_)
            clear hK K
            refine norm_ (a' := ?_) ?_ ?_
            rotate_left
            ·show Act.put _ (some 51) _ = _
             simp only [Act.put, List.setIfInBounds_toArray, List.set_cons_zero, List.set_cons_succ, i64_w, i32_w]
             rfl
            refine pure_ (i := 11) (N := some 5) (v := ?_) (a' := ?_) #[true, true, true, true, true, true, true, true, true, true, true, true] rfl rfl (any_of HT_.out (by kernel_rfl)) (fun _ _ _ h => h) (Or.inl ⟨by rfl, ?_⟩) ?_ ?_
            rotate_left
            ·intro w'
             go_simp
             with_reducible rfl
            rotate_left
            ·simp only [Act.put, List.setIfInBounds_toArray, List.set_cons_zero, List.set_cons_succ, i64_w, i32_w]
             rfl
            refine done_ (done_of HT_.out (by kernel_rfl)) ?_
            try go_wp2
            go_roundg kj11
            case measure => have := HJ1.out; have := HK2.out; have := HJ11.out; omega
            case rel => exact ⟨(t974), (wrap64 (x6_2 + 1)), (by first | rfl | (simp; done) | (simp [*]; done) | (refine congrArg (Value.int _) ?_; omega) | (refine congrArg Value.bool ?_; generalize ByteArray.toList _ = z_; cases z_ <;> rfl)), H', ⟨by have := HJ1.out; have := HK2.out; have := HJ11.out; omega⟩, ⟨by (with_reducible repeat (first | apply Kd.R_alloc | apply Kd.R_drewN | apply Kd.R_drew)); exact Kd.R_mono HO_4.out (fun _ hk => hk.2)⟩, ⟨by (with_reducible repeat (first | apply Kd.R_alloc | apply Kd.R_drewN | apply Kd.R_drew)); exact Kd.R_mono HO976.out (fun _ hk => hk.1.1.1.2)⟩, ⟨by repeat (first | (with_reducible first | exact HB.out | apply below_alloc | apply pw_below_drewN | apply below_drew1) | exact HB.out)⟩⟩
           ·rw [if_neg c20] at H
            exact absurd H (by simp)
          ·rw [if_neg c19] at H
           exact absurd H (by simp)
      ·rw [if_neg c11] at H
       have c11b0 : decide (x6_2 < (a0.size : Int)) = false := decide_eq_false c11
       clear c11
       replace H := Option.bind_eq_some_iff.mp H
       obtain ⟨t962, A360, H⟩ := H
       replace H : (some (t962, 0)) = some (r1, r2) := H
       have A36 := Aside0.mk A360
       clear A360
       simp only [Option.some.injEq, Prod.mk.injEq] at H
       obtain ⟨rfl, rfl⟩ := H
       obtain ⟨Ao37, co37, eo37⟩ := Kd.R_slice HO_5.out
       subst eo37
       go_wp2_with (first | ((with_reducible refine gate_callee (f := 69) rfl ?_); refine goL (some 53) Tryd.func69 [.slice Ao37 x5_2.length co37] ?_; (with_reducible refine (gudgeonref01_Limbs.calls k2 _ _ x5_2 t962 _ ?side1 ?side2 A36.out).mono ?_); (case side1 => exact (Kd.R_reads' HO_5.out).2.2); (case side2 => exact (Kd.R_reads' HO_5.out).2.1); rintro e w38 ⟨v963, rfl, ho0, hb⟩; refine ⟨_, rfl, ?_⟩; replace HO_4 := Aside0.mk (Kd.R_below HO_4.out hb); replace HO_5 := Aside0.mk (Kd.R_below HO_5.out hb); have HO964 := Aside0.mk (Kd.R_lower ho0 (below_size HB.out)); replace HB := Aside0.mk (below_step HB.out hb)))
       go_ret2
       exact ⟨_, by first | rfl | (simp [errW_none, errW_some] <;> rfl) | (simp [*, errW_none, errW_some] <;> rfl), by (with_reducible repeat (first | apply Kd.R_alloc | apply Kd.R_drewN | apply Kd.R_drew)); exact HO964.out, by repeat (first | (with_reducible first | exact HB.out | apply below_alloc | apply pw_below_drewN | apply below_drew1) | exact HB.out)⟩

end Go.Proofs.YthnfmmaolkenkaaDoor.PA
