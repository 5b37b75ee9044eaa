/- Joined by wip/tools/shake.py for the claim of WholeBack: PAx9, PAx15, PAx16. -/
import Derived.Test.YthnfmmaolkenkaaDoorJWholeBack2
import Derived.Test.YthnfmmaolkenkaaDoorJWholeBack4
import Derived.Test.YthnfmmaolkenkaaDoorJWholeBack5
/- Written by a program of this session, wip/tools/patch_print.py, over the kit's print of the loaded functions. -/
namespace Go.Proofs.YthnfmmaolkenkaaDoor.H
end Go.Proofs.YthnfmmaolkenkaaDoor.H
namespace Go.Proofs.YthnfmmaolkenkaaDoor.PA
open Go.RowKit Go.Proofs.YthnfmmaolkenkaaDoorW.PrintWords Go.Proofs.YthnfmmaolkenkaaDoorW.PrintLast Go.Proofs.YthnfmmaolkenkaaDoorW.PrintMore Go.Proofs.YthnfmmaolkenkaaDoor.H
attribute [local go_sem] max2_int min2_int max_two min_two max_three min_three max_four min_four   -- for this text's walks alone
set_option linter.unusedVariables false
set_option linter.unusedSimpArgs false

/-! ### nat_Mul: function 49 -/
mutual
def nat_Mul.l0 : Nat → List Int → List Int → List Int → Int → Int → Option (List Int)
 | 0, _, _, _, _, _ => none
 | k + 1, x1, x5, x16, x17, x18 => if x18 < x17 then (if 0 ≤ x18 then (if x18 < (x16.length : Int) then (nat_Mul.l1 k x1 x5 x18 (rd x16 x18) 0 x16 x17 x18 (x1.length : Int) 0) else (none)) else (none)) else ((nat_Norm.f x5).bind fun t432 => (some t432))
def nat_Mul.l1 : Nat → List Int → List Int → Int → Int → Int → List Int → Int → Int → Int → Int → Option (List Int)
 | 0, _, _, _, _, _, _, _, _, _, _ => none
 | k + 1, x1, x5, x6, x7, x8, x16, x17, x18, x24, x25 => if x25 < x24 then (if 0 ≤ x25 then (if x25 < (x1.length : Int) then (if 0 ≤ (wrap64 (x6 + x25)) then (if (wrap64 (x6 + x25)) < (x5.length : Int) then (nat_Mul.l1 k x1 (x5.set ((wrap64 (x6 + x25)) : Int).toNat ((IntKind.u64.wrap (x8 + (IntKind.u64.wrap ((IntKind.u64.wrap ((IntKind.u64.wrap (x7)) * (IntKind.u64.wrap (rd x1 x25)))) + (IntKind.u64.wrap (rd x5 (wrap64 (x6 + x25)))))))) % 4294967296)) x6 x7 ((IntKind.u64.wrap (x8 + (IntKind.u64.wrap ((IntKind.u64.wrap ((IntKind.u64.wrap (x7)) * (IntKind.u64.wrap (rd x1 x25)))) + (IntKind.u64.wrap (rd x5 (wrap64 (x6 + x25)))))))) / 4294967296) x16 x17 x18 x24 (wrap64 (x25 + 1))) else (none)) else (none)) else (none)) else (none)) else (if 0 ≤ (wrap64 (x6 + (x1.length : Int))) then (if (wrap64 (x6 + (x1.length : Int))) < (x5.length : Int) then (nat_Mul.l0 k x1 (x5.set ((wrap64 (x6 + (x1.length : Int))) : Int).toNat ((x8) % 4294967296)) x16 x17 (wrap64 (x18 + 1))) else (none)) else (none))
end
def nat_Mul.f (k : Nat) (l0 : List Int) (l1 : List Int) : Option (List Int) := if 0 ≤ (wrap64 ((l0.length : Int) + (l1.length : Int))) then (if (wrap64 ((l0.length : Int) + (l1.length : Int)) : Int).toNat ≤ 70368744177664 then (nat_Mul.l0 k l1 (List.replicate (wrap64 ((l0.length : Int) + (l1.length : Int)) : Int).toNat 0) l0 (l0.length : Int) 0) else (none)) else (none)
set_option maxHeartbeats 8000000 in
set_option maxRecDepth 100000 in
theorem nat_Mul.calls (k : Nat) (A0 : Option Addr) (c0 : Nat) (l0 : List Int) (A1 : Option Addr) (c1 : Nat) (l1 : List Int) (r : List Int) (w : World) (hr0 : Kd.C (Kd.int .u32) w A0 l0.length l0) (hc0 : l0.length ≤ c0) (hr1 : Kd.C (Kd.int .u32) w A1 l1.length l1) (hc1 : l1.length ≤ c1) (h : nat_Mul.f k l0 l1 = some r) :
  Calls Tryd.prog 49 #[.slice A0 l0.length c0, .slice A1 l1.length c1] w fun e w' => ∃ v0_ : Value, e = .returned (v0_) ∧ Kd.R (Kd.int .u32) 51 w' w.heap.size (fun _ => True) v0_ r ∧ Below w.heap.size w w' := by
 have HR0 := Aside0.mk hr0
 have HC0 := Aside0.mk hc0
 clear hr0 hc0
 have HR1 := Aside0.mk hr1
 have HC1 := Aside0.mk hc1
 clear hr1 hc1
 have HB := Aside0.mk (Below.refl w.heap.size w)
 have H : (if 0 ≤ (wrap64 ((l0.length : Int) + (l1.length : Int))) then (if (wrap64 ((l0.length : Int) + (l1.length : Int)) : Int).toNat ≤ 70368744177664 then (nat_Mul.l0 k l1 (List.replicate (wrap64 ((l0.length : Int) + (l1.length : Int)) : Int).toNat 0) l0 (l0.length : Int) 0) else (none)) else (none)) = some r := h
 clear h
 obtain ⟨ji3, hji3⟩ : ∃ j_ : Int, (wrap64 ((l0.length : Int) + (l1.length : Int))) = j_ := ⟨_, rfl⟩
 replace H : (if 0 ≤ (ji3) then (if (ji3 : Int).toNat ≤ 70368744177664 then (nat_Mul.l0 k l1 (List.replicate (ji3 : Int).toNat 0) l0 (l0.length : Int) 0) else (none)) else (none)) = some r := by first | (rw [hji3] at H; exact H) | (simp only [hji3] at H ⊢; exact H)
 have hji3w : (IntKind.i64.wrap ((l0.length : Int) + (l1.length : Int))) = ji3 := (i64_w _).trans hji3
 by_cases c4 : 0 ≤ (ji3)
 ·rw [if_pos c4] at H
  have c4b0 := eq_true c4
  have c4b1 : decide (0 ≤ (ji3)) = true := decide_eq_true c4
  clear c4
  by_cases c5 : (ji3 : Int).toNat ≤ 70368744177664
  ·rw [if_pos c5] at H
   have c5b0 := eq_true c5
   have c5b1 : decide ((ji3 : Int).toNat ≤ 70368744177664) = true := decide_eq_true c5
   clear c5
   obtain ⟨y429, hy429⟩ : ∃ y_ : List Int, y_ = (List.replicate (ji3 : Int).toNat 0) := ⟨_, rfl⟩
   replace H : (nat_Mul.l0 k l1 y429 l0 (l0.length : Int) 0) = some r := by first | (rw [hy429]; with_reducible exact H) | (have H2_ := (Option.bind_some _ _).symm.trans H; rw [hy429]; with_reducible exact H2_) | (have H2_ := (Option.bind_some _ _).symm.trans H; with_reducible exact H2_) | with_reducible exact H | (rw [hy429]; exact H) | exact H
   have Ny429 := Aside0.mk hy429
   clear hy429
   have H' := Aside0.mk H
   clear H
   go_enter Tryd.func49, Tryd.ntmps49
   go_wp2_with (first | ((with_reducible refine gate_dst (N := 15) rfl ?_); refine Kd.R_make (Kd.int .u32) _ 51 rfl (N := 15) rfl 22 _ _ rfl ji3 rfl rfl Tryd.underlying22 (.int .u32 0) 4 info51 rfl (by decide) (by omega) 0 (ok := fun _ => True) (okp := fun _ => True) rfl (fun _ hk => hk) trivial (of_decide_eq_true (by first | (with_reducible assumption) | assumption)) (Nat.le_trans (Nat.mul_le_mul_right _ (of_decide_eq_true (by first | (with_reducible assumption) | assumption) : ji3.toNat ≤ 70368744177664)) (by omega)) (Below.refl _ _) (Nat.le_refl _) ?_; intro v430 w6 ho7 hb hg_ hnew_; clear hg_ hnew_; (first | rw [← Ny429.out] at ho7 | (simp only [Int.reduceToNat] at ho7; rw [← Ny429.out] at ho7)); have HO431 := Aside0.mk (Kd.R_lower ho7 (below_size HB.out)); replace HB := Aside0.mk (below_step HB.out hb); clear hb ho7))
   repeat (go_quiet (first | ((with_reducible refine gate_dst (N := 15) rfl ?_); refine Kd.R_make (Kd.int .u32) _ 51 rfl (N := 15) rfl 22 _ _ rfl ji3 rfl rfl Tryd.underlying22 (.int .u32 0) 4 info51 rfl (by decide) (by omega) 0 (ok := fun _ => True) (okp := fun _ => True) rfl (fun _ hk => hk) trivial (of_decide_eq_true (by first | (with_reducible assumption) | assumption)) (Nat.le_trans (Nat.mul_le_mul_right _ (of_decide_eq_true (by first | (with_reducible assumption) | assumption) : ji3.toNat ≤ 70368744177664)) (by omega)) (Below.refl _ _) (Nat.le_refl _) ?_; intro v430 w6 ho7 hb hg_ hnew_; clear hg_ hnew_; (first | rw [← Ny429.out] at ho7 | (simp only [Int.reduceToNat] at ho7; rw [← Ny429.out] at ho7)); have HO431 := Aside0.mk (Kd.R_lower ho7 (below_size HB.out)); replace HB := Aside0.mk (below_step HB.out hb); clear hb ho7)); try go_wp2_with (first | ((with_reducible refine gate_dst (N := 15) rfl ?_); refine Kd.R_make (Kd.int .u32) _ 51 rfl (N := 15) rfl 22 _ _ rfl ji3 rfl rfl Tryd.underlying22 (.int .u32 0) 4 info51 rfl (by decide) (by omega) 0 (ok := fun _ => True) (okp := fun _ => True) rfl (fun _ hk => hk) trivial (of_decide_eq_true (by first | (with_reducible assumption) | assumption)) (Nat.le_trans (Nat.mul_le_mul_right _ (of_decide_eq_true (by first | (with_reducible assumption) | assumption) : ji3.toNat ≤ 70368744177664)) (by omega)) (Below.refl _ _) (Nat.le_refl _) ?_; intro v430 w6 ho7 hb hg_ hnew_; clear hg_ hnew_; (first | rw [← Ny429.out] at ho7 | (simp only [Int.reduceToNat] at ho7; rw [← Ny429.out] at ho7)); have HO431 := Aside0.mk (Kd.R_lower ho7 (below_size HB.out)); replace HB := Aside0.mk (below_step HB.out hb); clear hb ho7)))
   go_loopg [18] k (fun kq v18 w' => ∃ (x5_1 : List Int) (x18_1 : Int), v18 = .int .i64 x18_1 ∧ Aside0 (nat_Mul.l0 kq l1 x5_1 l0 (l0.length : Int) x18_1 = some r) ∧ Aside0 (kq ≤ k) ∧ Aside0 (Kd.R (Kd.int .u32) 51 w' w.heap.size (fun _ => True) v430 x5_1) ∧ Aside0 (Below w.heap.size w w'))
   case atStart => exact ⟨(y429), (0), (by first | rfl | (simp; done) | (simp [*]; done) | (refine congrArg (Value.int _) ?_; omega) | (refine congrArg Value.bool ?_; generalize ByteArray.toList _ = z_; cases z_ <;> rfl)), H', ⟨Nat.le_refl _⟩, ⟨by (with_reducible repeat (first | apply Kd.R_alloc | apply Kd.R_drewN | apply Kd.R_drew)); exact HO431.out⟩, ⟨by repeat (first | (with_reducible first | exact HB.out | apply below_alloc | apply pw_below_drewN | apply below_drew1) | exact HB.out)⟩⟩
   case round =>
    clear H'
    try clear c1
    try clear p2
    try clear c4
    try clear c4b0
    try clear c4b1
    try clear c5
    try clear c5b0
    try clear c5b1
    try clear p6
    obtain ⟨x5_1, x18_1, rfl, HA, HK1, HO_5, HB⟩ := hrel
    cases gk with
    | zero => exact absurd HA.out (by simp [nat_Mul.l0])
    | succ k1 =>
     have H := HA.out
     clear HA
     simp only [nat_Mul.l0] at H
     by_cases c8 : x18_1 < (l0.length : Int)
     ·rw [if_pos c8] at H
      have c8b0 : decide (x18_1 < (l0.length : Int)) = true := decide_eq_true c8
      clear c8
      by_cases c9 : 0 ≤ x18_1
      ·rw [if_pos c9] at H
       have c9b0 : decide (0 ≤ x18_1) = true := decide_eq_true c9
       clear c9
       by_cases c10 : x18_1 < (l0.length : Int)
       ·rw [if_pos c10] at H
        have c10b0 : decide (x18_1 < (l0.length : Int)) = true := decide_eq_true c10
        clear c10
        have H' := Aside0.mk H
        clear H
        have p435 : 0 ≤ (x18_1 : Int) := of_decide_eq_true (by first | (with_reducible assumption) | assumption)
        have q435 : x18_1 < (l0.length : Int) := of_decide_eq_true (by first | (with_reducible assumption) | assumption)
        obtain ⟨ad435, e435, hx435_0⟩ := Kd.at_int HR0.out x18_1 p435 q435
        cases e435
        replace hx435_0 := (HB.out.cell (World.block_lt_of_cell? w _ hx435_0)).trans hx435_0
        replace p435 := eq_true p435
        replace q435 := eq_true q435
        go_wp2
        repeat (go_quiet (fail); try go_wp2)
        go_loopg [8, 25] k1 (fun kq v8 v25 w' => ∃ (x5_2 : List Int) (x8_2 : Int) (x25_2 : Int), v8 = .int .u64 x8_2 ∧ v25 = .int .i64 x25_2 ∧ Aside0 (nat_Mul.l1 kq l1 x5_2 x18_1 (rd l0 x18_1) x8_2 l0 (l0.length : Int) x18_1 (l1.length : Int) x25_2 = some r) ∧ Aside0 (kq ≤ k1) ∧ Aside0 (Kd.R (Kd.int .u32) 51 w' w.heap.size (fun _ => True) v430 x5_2) ∧ Aside0 (Below w.heap.size w w'))
        case atStart => exact ⟨(x5_1), (0), (0), (by first | rfl | (simp; done) | (simp [*]; done) | (refine congrArg (Value.int _) ?_; omega) | (refine congrArg Value.bool ?_; generalize ByteArray.toList _ = z_; cases z_ <;> rfl)), (by first | rfl | (simp; done) | (simp [*]; done) | (refine congrArg (Value.int _) ?_; omega) | (refine congrArg Value.bool ?_; generalize ByteArray.toList _ = z_; cases z_ <;> rfl)), H', ⟨Nat.le_refl _⟩, ⟨by (with_reducible repeat (first | apply Kd.R_alloc | apply Kd.R_drewN | apply Kd.R_drew)); exact HO_5.out⟩, ⟨by repeat (first | (with_reducible first | exact HB.out | apply below_alloc | apply pw_below_drewN | apply below_drew1) | exact HB.out)⟩⟩
        case round =>
         clear H'
         try clear c1
         try clear p2
         try clear c4
         try clear c4b0
         try clear c4b1
         try clear p4
         try clear q4
         try clear hx4
         try clear c5
         try clear c5b0
         try clear c5b1
         try clear p6
         try clear c8
         try clear c8b0
         try clear c9
         try clear c9b0
         try clear c10
         try clear c10b0
         try clear hx435_0
         try clear p2
         try clear p435
         try clear p6
         try clear q435
         obtain ⟨x5_2, x8_2, x25_2, rfl, rfl, HA, HK2, HO_5, HB⟩ := hrel
         cases gk with
         | zero => exact absurd HA.out (by simp [nat_Mul.l1])
         | succ k2 =>
          have H := HA.out
          clear HA
          simp only [nat_Mul.l1] at H
          by_cases c11 : x25_2 < (l1.length : Int)
          ·rw [if_pos c11] at H
           have c11b0 : decide (x25_2 < (l1.length : Int)) = true := decide_eq_true c11
           clear c11
           by_cases c12 : 0 ≤ x25_2
           ·rw [if_pos c12] at H
            have c12b0 : decide (0 ≤ x25_2) = true := decide_eq_true c12
            clear c12
            by_cases c13 : x25_2 < (l1.length : Int)
            ·rw [if_pos c13] at H
             have c13b0 : decide (x25_2 < (l1.length : Int)) = true := decide_eq_true c13
             clear c13
             obtain ⟨ji14, hji14⟩ : ∃ j_ : Int, (wrap64 (x18_1 + x25_2)) = j_ := ⟨_, rfl⟩
             replace H : (if 0 ≤ (ji14) then (if (ji14) < (x5_2.length : Int) then (nat_Mul.l1 k2 l1 (x5_2.set ((ji14) : Int).toNat ((IntKind.u64.wrap (x8_2 + (IntKind.u64.wrap ((IntKind.u64.wrap ((IntKind.u64.wrap ((rd l0 x18_1))) * (IntKind.u64.wrap (rd l1 x25_2)))) + (IntKind.u64.wrap (rd x5_2 (ji14))))))) % 4294967296)) x18_1 (rd l0 x18_1) ((IntKind.u64.wrap (x8_2 + (IntKind.u64.wrap ((IntKind.u64.wrap ((IntKind.u64.wrap ((rd l0 x18_1))) * (IntKind.u64.wrap (rd l1 x25_2)))) + (IntKind.u64.wrap (rd x5_2 (ji14))))))) / 4294967296) l0 (l0.length : Int) x18_1 (l1.length : Int) (wrap64 (x25_2 + 1))) else (none)) else (none)) = some r := by first | (rw [hji14] at H; exact H) | (simp only [hji14] at H ⊢; exact H)
             have hji14w : (IntKind.i64.wrap (x18_1 + x25_2)) = ji14 := (i64_w _).trans hji14
             by_cases c15 : 0 ≤ (ji14)
             ·rw [if_pos c15] at H
              have c15b0 : decide (0 ≤ (ji14)) = true := decide_eq_true c15
              clear c15
              by_cases c16 : (ji14) < (x5_2.length : Int)
              ·rw [if_pos c16] at H
               have c16b0 : decide ((ji14) < (x5_2.length : Int)) = true := decide_eq_true c16
               clear c16
               obtain ⟨y438, hy438⟩ : ∃ y_ : List Int, y_ = (x5_2.set ((ji14) : Int).toNat ((IntKind.u64.wrap (x8_2 + (IntKind.u64.wrap ((IntKind.u64.wrap ((IntKind.u64.wrap ((rd l0 x18_1))) * (IntKind.u64.wrap (rd l1 x25_2)))) + (IntKind.u64.wrap (rd x5_2 (ji14))))))) % 4294967296)) := ⟨_, rfl⟩
               replace H : (nat_Mul.l1 k2 l1 y438 x18_1 (rd l0 x18_1) ((IntKind.u64.wrap (x8_2 + (IntKind.u64.wrap ((IntKind.u64.wrap ((IntKind.u64.wrap ((rd l0 x18_1))) * (IntKind.u64.wrap (rd l1 x25_2)))) + (IntKind.u64.wrap (rd x5_2 (ji14))))))) / 4294967296) l0 (l0.length : Int) x18_1 (l1.length : Int) (wrap64 (x25_2 + 1))) = some r := by first | (rw [hy438]; with_reducible exact H) | (have H2_ := (Option.bind_some _ _).symm.trans H; rw [hy438]; with_reducible exact H2_) | (have H2_ := (Option.bind_some _ _).symm.trans H; with_reducible exact H2_) | with_reducible exact H | (rw [hy438]; exact H) | exact H
               have Ny438 := Aside0.mk hy438
               clear hy438
               have H' := Aside0.mk H
               clear H
               have p436 : 0 ≤ (x25_2 : Int) := of_decide_eq_true (by first | (with_reducible assumption) | assumption)
               have q436 : x25_2 < (l1.length : Int) := of_decide_eq_true (by first | (with_reducible assumption) | assumption)
               obtain ⟨ad436, e436, hx436_0⟩ := Kd.at_int HR1.out x25_2 p436 q436
               cases e436
               replace hx436_0 := (HB.out.cell (World.block_lt_of_cell? w _ hx436_0)).trans hx436_0
               replace p436 := eq_true p436
               replace q436 := eq_true q436
               obtain ⟨Ao18, co18, eo18⟩ := Kd.R_slice HO_5.out
               subst eo18
               have p437 : 0 ≤ ((ji14) : Int) := of_decide_eq_true (by first | (with_reducible assumption) | assumption)
               have q437 : (ji14) < (x5_2.length : Int) := of_decide_eq_true (by first | (with_reducible assumption) | assumption)
               obtain ⟨ad437, e437, hx437_0⟩ := Kd.at_int (Kd.R_reads' HO_5.out).2.2 (ji14) p437 q437
               cases e437
               replace p437 := eq_true p437
               replace q437 := eq_true q437
               have p17 : 0 ≤ ((ji14) : Int) := of_decide_eq_true (by first | (with_reducible assumption) | assumption)
               have q17 : ((ji14) : Int) < ((x5_2.length : Int) : Int) := of_decide_eq_true (by first | (with_reducible assumption) | assumption)
               obtain ⟨go17, co17, eo17, gb17, gl17, cl17, HG17⟩ := Kd.R_form HO_5.out (by omega)
               (first | cases eo17 | (injection eo17 with ea_ en_ ec_; (first | subst ea_ | (injection ea_ with ea_; subst ea_)); subst ec_; clear en_))
               have GB17 := Aside0.mk gb17
               have GG17 := Aside0.mk HG17
               clear gb17 gl17 HG17
               (first | simp only [add_plain] at hx437_0 | skip)
               obtain ⟨hx17_0, hf17_0⟩ := Kd.R_celln 0 HO_5.out ((ji14) : Int) p17 q17
               replace p17 := eq_true p17
               replace q17 := eq_true q17
               have HP19 := Kd.R_putg HO_5.out ((ji14) : Int) ((IntKind.u64.wrap (x8_2 + (IntKind.u64.wrap ((IntKind.u64.wrap ((IntKind.u64.wrap ((rd l0 x18_1))) * (IntKind.u64.wrap (rd l1 x25_2)))) + (IntKind.u64.wrap (rd x5_2 (ji14))))))) % 4294967296)
               go_wp2_with (first | ((with_reducible refine gate_store (t := 51) (p := 52) rfl ?_); (try (rw [drewN_self wr]; generalize hq_ : World.drewN wr _ = wr; have n0_ := Aside0.mk (Kd.R_at hq_ HO_5.out); have n1_ := Aside0.mk (below_at hq_ HB.out); clear hq_ HO_5 HB; have HO_5 := n0_; have HB := n1_; clear n0_ n1_; (try (obtain ⟨hx17_0, hf17_0⟩ := Kd.R_celln 0 HO_5.out ((ji14) : Int) (of_eq_true p17) (of_eq_true q17))); (try (have HP19 := Kd.R_putg HO_5.out ((ji14) : Int) ((IntKind.u64.wrap (x8_2 + (IntKind.u64.wrap ((IntKind.u64.wrap ((IntKind.u64.wrap ((rd l0 x18_1))) * (IntKind.u64.wrap (rd l1 x25_2)))) + (IntKind.u64.wrap (rd x5_2 (ji14))))))) % 4294967296))))); refine store_event (t := 51) (p := 52) (v := ?vo_w20) (w1 := (wr.setCell ⟨go17, ((ji14) : Int).toNat, none⟩ (.int .u32 ((IntKind.u64.wrap (x8_2 + (IntKind.u64.wrap ((IntKind.u64.wrap ((IntKind.u64.wrap ((rd l0 x18_1))) * (IntKind.u64.wrap (rd l1 x25_2)))) + (IntKind.u64.wrap (rd x5_2 (ji14))))))) % 4294967296)))) ?hg ?ho ?hn ?hr ?_; (case ho => rfl); (case hg => rfl); (case hn => rfl); (case hr => first | (go_simp; done) | (go_simp; rfl)); intro w20 hw; have hg : wr.grownBy w20 (some go17) := (by rw [hw]; exact HP19.2); have hp_ : Kd.R (Kd.int .u32) 51 w20 w.heap.size (fun _ => True) (.slice (some ⟨go17, 0, none⟩) x5_2.length co18) y438 := (by rw [hw, Ny438.out]; exact HP19.1); clear HP19; replace HO_5 := Aside0.mk (hp_); replace HB := Aside0.mk ((by rw [hw]; exact below_set (HB.out) GB17.out : Below w.heap.size w w20)); clear hg hw hp_))
               repeat (go_quiet (first | ((with_reducible refine gate_store (t := 51) (p := 52) rfl ?_); (try (rw [drewN_self wr]; generalize hq_ : World.drewN wr _ = wr; have n0_ := Aside0.mk (Kd.R_at hq_ HO_5.out); have n1_ := Aside0.mk (below_at hq_ HB.out); clear hq_ HO_5 HB; have HO_5 := n0_; have HB := n1_; clear n0_ n1_; (try (obtain ⟨hx17_0, hf17_0⟩ := Kd.R_celln 0 HO_5.out ((ji14) : Int) (of_eq_true p17) (of_eq_true q17))); (try (have HP19 := Kd.R_putg HO_5.out ((ji14) : Int) ((IntKind.u64.wrap (x8_2 + (IntKind.u64.wrap ((IntKind.u64.wrap ((IntKind.u64.wrap ((rd l0 x18_1))) * (IntKind.u64.wrap (rd l1 x25_2)))) + (IntKind.u64.wrap (rd x5_2 (ji14))))))) % 4294967296))))); refine store_event (t := 51) (p := 52) (v := ?vo_w20) (w1 := (wr.setCell ⟨go17, ((ji14) : Int).toNat, none⟩ (.int .u32 ((IntKind.u64.wrap (x8_2 + (IntKind.u64.wrap ((IntKind.u64.wrap ((IntKind.u64.wrap ((rd l0 x18_1))) * (IntKind.u64.wrap (rd l1 x25_2)))) + (IntKind.u64.wrap (rd x5_2 (ji14))))))) % 4294967296)))) ?hg ?ho ?hn ?hr ?_; (case ho => rfl); (case hg => rfl); (case hn => rfl); (case hr => first | (go_simp; done) | (go_simp; rfl)); intro w20 hw; have hg : wr.grownBy w20 (some go17) := (by rw [hw]; exact HP19.2); have hp_ : Kd.R (Kd.int .u32) 51 w20 w.heap.size (fun _ => True) (.slice (some ⟨go17, 0, none⟩) x5_2.length co18) y438 := (by rw [hw, Ny438.out]; exact HP19.1); clear HP19; replace HO_5 := Aside0.mk (hp_); replace HB := Aside0.mk ((by rw [hw]; exact below_set (HB.out) GB17.out : Below w.heap.size w w20)); clear hg hw hp_)); try go_wp2_with (first | ((with_reducible refine gate_store (t := 51) (p := 52) rfl ?_); (try (rw [drewN_self wr]; generalize hq_ : World.drewN wr _ = wr; have n0_ := Aside0.mk (Kd.R_at hq_ HO_5.out); have n1_ := Aside0.mk (below_at hq_ HB.out); clear hq_ HO_5 HB; have HO_5 := n0_; have HB := n1_; clear n0_ n1_; (try (obtain ⟨hx17_0, hf17_0⟩ := Kd.R_celln 0 HO_5.out ((ji14) : Int) (of_eq_true p17) (of_eq_true q17))); (try (have HP19 := Kd.R_putg HO_5.out ((ji14) : Int) ((IntKind.u64.wrap (x8_2 + (IntKind.u64.wrap ((IntKind.u64.wrap ((IntKind.u64.wrap ((rd l0 x18_1))) * (IntKind.u64.wrap (rd l1 x25_2)))) + (IntKind.u64.wrap (rd x5_2 (ji14))))))) % 4294967296))))); refine store_event (t := 51) (p := 52) (v := ?vo_w20) (w1 := (wr.setCell ⟨go17, ((ji14) : Int).toNat, none⟩ (.int .u32 ((IntKind.u64.wrap (x8_2 + (IntKind.u64.wrap ((IntKind.u64.wrap ((IntKind.u64.wrap ((rd l0 x18_1))) * (IntKind.u64.wrap (rd l1 x25_2)))) + (IntKind.u64.wrap (rd x5_2 (ji14))))))) % 4294967296)))) ?hg ?ho ?hn ?hr ?_; (case ho => rfl); (case hg => rfl); (case hn => rfl); (case hr => first | (go_simp; done) | (go_simp; rfl)); intro w20 hw; have hg : wr.grownBy w20 (some go17) := (by rw [hw]; exact HP19.2); have hp_ : Kd.R (Kd.int .u32) 51 w20 w.heap.size (fun _ => True) (.slice (some ⟨go17, 0, none⟩) x5_2.length co18) y438 := (by rw [hw, Ny438.out]; exact HP19.1); clear HP19; replace HO_5 := Aside0.mk (hp_); replace HB := Aside0.mk ((by rw [hw]; exact below_set (HB.out) GB17.out : Below w.heap.size w w20)); clear hg hw hp_)))
               go_roundg k2
               case measure => have := HK1.out; have := HK2.out; omega
               case rel => exact ⟨(y438), ((IntKind.u64.wrap (x8_2 + (IntKind.u64.wrap ((IntKind.u64.wrap ((IntKind.u64.wrap ((rd l0 x18_1))) * (IntKind.u64.wrap (rd l1 x25_2)))) + (IntKind.u64.wrap (rd x5_2 (ji14))))))) / 4294967296), (wrap64 (x25_2 + 1)), (by first | rfl | (simp; done) | (simp only [← hji14] <;> (first | rfl | simp)) | (simp [*]; done)), (by first | rfl | (simp; done) | (simp [*]; done) | (refine congrArg (Value.int _) ?_; omega) | (refine congrArg Value.bool ?_; generalize ByteArray.toList _ = z_; cases z_ <;> rfl)), H', ⟨by have := HK1.out; have := HK2.out; omega⟩, ⟨by (with_reducible repeat (first | apply Kd.R_alloc | apply Kd.R_drewN | apply Kd.R_drew)); exact HO_5.out⟩, ⟨by repeat (first | (with_reducible first | exact HB.out | apply below_alloc | apply pw_below_drewN | apply below_drew1) | exact HB.out)⟩⟩
              ·rw [if_neg c16] at H
               exact absurd H (by simp)
             ·rw [if_neg c15] at H
              exact absurd H (by simp)
            ·rw [if_neg c13] at H
             exact absurd H (by simp)
           ·rw [if_neg c12] at H
            exact absurd H (by simp)
          ·rw [if_neg c11] at H
           have c11b0 : decide (x25_2 < (l1.length : Int)) = false := decide_eq_false c11
           clear c11
           obtain ⟨ji21, hji21⟩ : ∃ j_ : Int, (wrap64 (x18_1 + (l1.length : Int))) = j_ := ⟨_, rfl⟩
           replace H : (if 0 ≤ (ji21) then (if (ji21) < (x5_2.length : Int) then (nat_Mul.l0 k2 l1 (x5_2.set ((ji21) : Int).toNat ((x8_2) % 4294967296)) l0 (l0.length : Int) (wrap64 (x18_1 + 1))) else (none)) else (none)) = some r := by first | (rw [hji21] at H; exact H) | (simp only [hji21] at H ⊢; exact H)
           have hji21w : (IntKind.i64.wrap (x18_1 + (l1.length : Int))) = ji21 := (i64_w _).trans hji21
           by_cases c22 : 0 ≤ (ji21)
           ·rw [if_pos c22] at H
            have c22b0 : decide (0 ≤ (ji21)) = true := decide_eq_true c22
            clear c22
            by_cases c23 : (ji21) < (x5_2.length : Int)
            ·rw [if_pos c23] at H
             have c23b0 : decide ((ji21) < (x5_2.length : Int)) = true := decide_eq_true c23
             clear c23
             obtain ⟨y439, hy439⟩ : ∃ y_ : List Int, y_ = (x5_2.set ((ji21) : Int).toNat ((x8_2) % 4294967296)) := ⟨_, rfl⟩
             replace H : (nat_Mul.l0 k2 l1 y439 l0 (l0.length : Int) (wrap64 (x18_1 + 1))) = some r := by first | (rw [hy439]; with_reducible exact H) | (have H2_ := (Option.bind_some _ _).symm.trans H; rw [hy439]; with_reducible exact H2_) | (have H2_ := (Option.bind_some _ _).symm.trans H; with_reducible exact H2_) | with_reducible exact H | (rw [hy439]; exact H) | exact H
             have Ny439 := Aside0.mk hy439
             clear hy439
             have H' := Aside0.mk H
             clear H
             have p24 : 0 ≤ ((ji21) : Int) := of_decide_eq_true (by first | (with_reducible assumption) | assumption)
             have q24 : ((ji21) : Int) < ((x5_2.length : Int) : Int) := of_decide_eq_true (by first | (with_reducible assumption) | assumption)
             obtain ⟨go24, co24, eo24, gb24, gl24, cl24, HG24⟩ := Kd.R_form HO_5.out (by omega)
             (first | cases eo24 | (injection eo24 with ea_ en_ ec_; (first | subst ea_ | (injection ea_ with ea_; subst ea_)); subst ec_; clear en_))
             have GB24 := Aside0.mk gb24
             have GG24 := Aside0.mk HG24
             clear gb24 gl24 HG24
             obtain ⟨hx24_0, hf24_0⟩ := Kd.R_celln 0 HO_5.out ((ji21) : Int) p24 q24
             replace p24 := eq_true p24
             replace q24 := eq_true q24
             have HP25 := Kd.R_putg HO_5.out ((ji21) : Int) ((x8_2) % 4294967296)
             go_wp2_with (first | ((with_reducible refine gate_store (t := 51) (p := 63) rfl ?_); (try (rw [drewN_self wr]; generalize hq_ : World.drewN wr _ = wr; have n0_ := Aside0.mk (Kd.R_at hq_ HO_5.out); have n1_ := Aside0.mk (below_at hq_ HB.out); clear hq_ HO_5 HB; have HO_5 := n0_; have HB := n1_; clear n0_ n1_; (try (obtain ⟨hx24_0, hf24_0⟩ := Kd.R_celln 0 HO_5.out ((ji21) : Int) (of_eq_true p24) (of_eq_true q24))); (try (have HP25 := Kd.R_putg HO_5.out ((ji21) : Int) ((x8_2) % 4294967296))))); refine store_event (t := 51) (p := 63) (v := ?vo_w26) (w1 := (wr.setCell ⟨go24, ((ji21) : Int).toNat, none⟩ (.int .u32 ((x8_2) % 4294967296)))) ?hg ?ho ?hn ?hr ?_; (case ho => rfl); (case hg => rfl); (case hn => rfl); (case hr => first | (go_simp; done) | (go_simp; rfl)); intro w26 hw; have hg : wr.grownBy w26 (some go24) := (by rw [hw]; exact HP25.2); have hp_ : Kd.R (Kd.int .u32) 51 w26 w.heap.size (fun _ => True) (.slice (some ⟨go24, 0, none⟩) x5_2.length co24) y439 := (by rw [hw, Ny439.out]; exact HP25.1); clear HP25; replace HO_5 := Aside0.mk (hp_); replace HB := Aside0.mk ((by rw [hw]; exact below_set (HB.out) GB24.out : Below w.heap.size w w26)); clear hg hw hp_))
             repeat (go_quiet (first | ((with_reducible refine gate_store (t := 51) (p := 63) rfl ?_); (try (rw [drewN_self wr]; generalize hq_ : World.drewN wr _ = wr; have n0_ := Aside0.mk (Kd.R_at hq_ HO_5.out); have n1_ := Aside0.mk (below_at hq_ HB.out); clear hq_ HO_5 HB; have HO_5 := n0_; have HB := n1_; clear n0_ n1_; (try (obtain ⟨hx24_0, hf24_0⟩ := Kd.R_celln 0 HO_5.out ((ji21) : Int) (of_eq_true p24) (of_eq_true q24))); (try (have HP25 := Kd.R_putg HO_5.out ((ji21) : Int) ((x8_2) % 4294967296))))); refine store_event (t := 51) (p := 63) (v := ?vo_w26) (w1 := (wr.setCell ⟨go24, ((ji21) : Int).toNat, none⟩ (.int .u32 ((x8_2) % 4294967296)))) ?hg ?ho ?hn ?hr ?_; (case ho => rfl); (case hg => rfl); (case hn => rfl); (case hr => first | (go_simp; done) | (go_simp; rfl)); intro w26 hw; have hg : wr.grownBy w26 (some go24) := (by rw [hw]; exact HP25.2); have hp_ : Kd.R (Kd.int .u32) 51 w26 w.heap.size (fun _ => True) (.slice (some ⟨go24, 0, none⟩) x5_2.length co24) y439 := (by rw [hw, Ny439.out]; exact HP25.1); clear HP25; replace HO_5 := Aside0.mk (hp_); replace HB := Aside0.mk ((by rw [hw]; exact below_set (HB.out) GB24.out : Below w.heap.size w w26)); clear hg hw hp_)); try go_wp2_with (first | ((with_reducible refine gate_store (t := 51) (p := 63) rfl ?_); (try (rw [drewN_self wr]; generalize hq_ : World.drewN wr _ = wr; have n0_ := Aside0.mk (Kd.R_at hq_ HO_5.out); have n1_ := Aside0.mk (below_at hq_ HB.out); clear hq_ HO_5 HB; have HO_5 := n0_; have HB := n1_; clear n0_ n1_; (try (obtain ⟨hx24_0, hf24_0⟩ := Kd.R_celln 0 HO_5.out ((ji21) : Int) (of_eq_true p24) (of_eq_true q24))); (try (have HP25 := Kd.R_putg HO_5.out ((ji21) : Int) ((x8_2) % 4294967296))))); refine store_event (t := 51) (p := 63) (v := ?vo_w26) (w1 := (wr.setCell ⟨go24, ((ji21) : Int).toNat, none⟩ (.int .u32 ((x8_2) % 4294967296)))) ?hg ?ho ?hn ?hr ?_; (case ho => rfl); (case hg => rfl); (case hn => rfl); (case hr => first | (go_simp; done) | (go_simp; rfl)); intro w26 hw; have hg : wr.grownBy w26 (some go24) := (by rw [hw]; exact HP25.2); have hp_ : Kd.R (Kd.int .u32) 51 w26 w.heap.size (fun _ => True) (.slice (some ⟨go24, 0, none⟩) x5_2.length co24) y439 := (by rw [hw, Ny439.out]; exact HP25.1); clear HP25; replace HO_5 := Aside0.mk (hp_); replace HB := Aside0.mk ((by rw [hw]; exact below_set (HB.out) GB24.out : Below w.heap.size w w26)); clear hg hw hp_)))
             go_roundg k2
             case measure => have := HK1.out; have := HK2.out; omega
             case rel => exact ⟨(y439), (wrap64 (x18_1 + 1)), (by first | rfl | (simp; done) | (simp [*]; done) | (refine congrArg (Value.int _) ?_; omega) | (refine congrArg Value.bool ?_; generalize ByteArray.toList _ = z_; cases z_ <;> rfl)), H', ⟨by have := HK1.out; have := HK2.out; omega⟩, ⟨by (with_reducible repeat (first | apply Kd.R_alloc | apply Kd.R_drewN | apply Kd.R_drew)); exact HO_5.out⟩, ⟨by repeat (first | (with_reducible first | exact HB.out | apply below_alloc | apply pw_below_drewN | apply below_drew1) | exact HB.out)⟩⟩
            ·rw [if_neg c23] at H
             exact absurd H (by simp)
           ·rw [if_neg c22] at H
            exact absurd H (by simp)
       ·rw [if_neg c10] at H
        exact absurd H (by simp)
      ·rw [if_neg c9] at H
       exact absurd H (by simp)
     ·rw [if_neg c8] at H
      have c8b0 : decide (x18_1 < (l0.length : Int)) = false := decide_eq_false c8
      clear c8
      replace H := Option.bind_eq_some_iff.mp H
      obtain ⟨t432, A270, H⟩ := H
      replace H : (some t432) = some r := H
      have A27 := Aside0.mk A270
      clear A270
      obtain rfl := Option.some.inj H
      obtain ⟨Ao28, co28, eo28⟩ := Kd.R_slice HO_5.out
      subst eo28
      go_wp2_with (first | (go_at_call 60; (with_reducible refine (nat_Norm.calls _ _ x5_1 t432 _ ?side1 ?side2 A27.out).mono ?_); (case side1 => exact (Kd.R_reads' HO_5.out).2.2); (case side2 => exact (Kd.R_reads' HO_5.out).2.1); rintro e w29 ⟨v433, rfl, ho0, hb⟩; have n0_ := Aside0.mk (Kd.R_elder' HO_5.out (Kd.R_base ho0) hb); have n1_ := Aside0.mk (Kd.R_lower (Kd.R_new' ho0 (Kd.R_lt HO_5.out)) (below_size HB.out)); have n2_ := Aside0.mk (below_step HB.out hb); clear HO_5; clear HB; have HO_5 := n0_; have HO434 := n1_; have HB := n2_; clear n0_ n1_ n2_))
      repeat (go_quiet (first | (go_at_call 60; (with_reducible refine (nat_Norm.calls _ _ x5_1 t432 _ ?side1 ?side2 A27.out).mono ?_); (case side1 => exact (Kd.R_reads' HO_5.out).2.2); (case side2 => exact (Kd.R_reads' HO_5.out).2.1); rintro e w29 ⟨v433, rfl, ho0, hb⟩; have n0_ := Aside0.mk (Kd.R_elder' HO_5.out (Kd.R_base ho0) hb); have n1_ := Aside0.mk (Kd.R_lower (Kd.R_new' ho0 (Kd.R_lt HO_5.out)) (below_size HB.out)); have n2_ := Aside0.mk (below_step HB.out hb); clear HO_5; clear HB; have HO_5 := n0_; have HO434 := n1_; have HB := n2_; clear n0_ n1_ n2_)); try go_wp2_with (first | (go_at_call 60; (with_reducible refine (nat_Norm.calls _ _ x5_1 t432 _ ?side1 ?side2 A27.out).mono ?_); (case side1 => exact (Kd.R_reads' HO_5.out).2.2); (case side2 => exact (Kd.R_reads' HO_5.out).2.1); rintro e w29 ⟨v433, rfl, ho0, hb⟩; have n0_ := Aside0.mk (Kd.R_elder' HO_5.out (Kd.R_base ho0) hb); have n1_ := Aside0.mk (Kd.R_lower (Kd.R_new' ho0 (Kd.R_lt HO_5.out)) (below_size HB.out)); have n2_ := Aside0.mk (below_step HB.out hb); clear HO_5; clear HB; have HO_5 := n0_; have HO434 := n1_; have HB := n2_; clear n0_ n1_ n2_)))
      go_ret
      exact ⟨_, by first | rfl | (simp [errW_none, errW_some] <;> rfl) | (simp only [← hji3]; first | rfl | (simp [errW_none, errW_some] <;> rfl)) | (simp [*, errW_none, errW_some] <;> rfl), by (with_reducible repeat (first | apply Kd.R_alloc | apply Kd.R_drewN | apply Kd.R_drew)); exact Kd.R_mono HO434.out (fun _ hk => trivial), by repeat (first | (with_reducible first | exact HB.out | apply below_alloc | apply pw_below_drewN | apply below_drew1) | exact HB.out)⟩
  ·rw [if_neg c5] at H
   exact absurd H (by simp)
 ·rw [if_neg c4] at H
  exact absurd H (by simp)

end Go.Proofs.YthnfmmaolkenkaaDoor.PA
/- Written by a program of this session, wip/tools/patch_print.py, over the kit's print of the loaded functions. -/
namespace Go.Proofs.YthnfmmaolkenkaaDoor.H
end Go.Proofs.YthnfmmaolkenkaaDoor.H
namespace Go.Proofs.YthnfmmaolkenkaaDoor.PA
open Go.RowKit Go.Proofs.YthnfmmaolkenkaaDoorW.PrintWords Go.Proofs.YthnfmmaolkenkaaDoorW.PrintLast Go.Proofs.YthnfmmaolkenkaaDoorW.PrintMore Go.Proofs.YthnfmmaolkenkaaDoor.H
attribute [local go_sem] max2_int min2_int max_two min_two max_three min_three max_four min_four   -- for this text's walks alone
attribute [local go_sem] box_twice
set_option linter.unusedVariables false
set_option linter.unusedSimpArgs false

/-! ### gudgeonref02_Add: function 21 -/
/-! ### whole_Sub: function 22 -/
def whole_Sub.f (k : Nat) (a0_0 : Bool) (l0_1 : List Int) (a1_0 : Bool) (l1_1 : List Int) : Option (Bool × List Int) := (whole_Neg.f a1_0 l1_1).bind fun bt661 => ((whole_Add.f k a0_0 l0_1 bt661.1 bt661.2).bind fun bt665 => (some (bt665.1, bt665.2)))
set_option maxHeartbeats 8000000 in
set_option maxRecDepth 100000 in
theorem whole_Sub.calls (k : Nat) (a0_0 : Bool) (A0_1 : Option Addr) (c0_1 : Nat) (l0_1 : List Int) (a1_0 : Bool) (A1_1 : Option Addr) (c1_1 : Nat) (l1_1 : List Int) (r1 : Bool) (r2 : List Int) (w : World) (hr0_1 : Kd.C (Kd.int .u32) w A0_1 l0_1.length l0_1) (hc0_1 : l0_1.length ≤ c0_1) (hr1_1 : Kd.C (Kd.int .u32) w A1_1 l1_1.length l1_1) (hc1_1 : l1_1.length ≤ c1_1) (h : whole_Sub.f k a0_0 l0_1 a1_0 l1_1 = some (r1, r2)) :
  Calls Tryd.prog 22 #[.agg #[.bool a0_0, .slice A0_1 l0_1.length c0_1], .agg #[.bool a1_0, .slice A1_1 l1_1.length c1_1]] w fun e w' => ∃ v1_ : Value, e = .returned (.agg #[.bool r1, v1_]) ∧ Kd.R (Kd.int .u32) 51 w' w.heap.size (fun _ => True) v1_ r2 ∧ Below w.heap.size w w' := by
 have hu24 := Tryd.underlying24
 have HR0_1 := Aside0.mk hr0_1
 have HC0_1 := Aside0.mk hc0_1
 clear hr0_1 hc0_1
 have HR1_1 := Aside0.mk hr1_1
 have HC1_1 := Aside0.mk hc1_1
 clear hr1_1 hc1_1
 have HB := Aside0.mk (Below.refl w.heap.size w)
 have H : ((whole_Neg.f a1_0 l1_1).bind fun bt661 => ((whole_Add.f k a0_0 l0_1 bt661.1 bt661.2).bind fun bt665 => (some (bt665.1, bt665.2)))) = some (r1, r2) := h
 clear h
 obtain ⟨⟨t661, t662⟩, A30, H⟩ := Option.bind_eq_some_iff.mp H
 try dsimp only at H
 have A3 := Aside0.mk A30
 clear A30
 obtain ⟨⟨t665, t666⟩, A40, H⟩ := Option.bind_eq_some_iff.mp H
 try dsimp only at H
 have A4 := Aside0.mk A40
 clear A40
 simp only [Option.some.injEq, Prod.mk.injEq] at H
 obtain ⟨rfl, rfl⟩ := H
 go_enter Tryd.func22, Tryd.ntmps22
 try go_wp2_with (first | ((with_reducible refine gate_dst (N := 2) rfl ?_); refine box_event ?hg (N := 2) ?hd (cs := #[.bool a0_0, .slice A0_1 l0_1.length c0_1]) (t := 24) ?hr ?_; (case hd => rfl); (case hg => rfl); (case hr => first | (go_simp; done) | (go_simp; rfl)); intro gb658 hg w5 hbox hb; have BK658 := Aside0.mk (hbox); have GW658 := Aside0.mk (bxLe HB.out hg); have GE658 := GW658; replace HB := Aside0.mk (below_step HB.out hb); clear hb hbox hg) | ((with_reducible refine gate_dst (N := 3) rfl ?_); refine box_event ?hg (N := 3) ?hd (cs := #[.bool a1_0, .slice A1_1 l1_1.length c1_1]) (t := 24) ?hr ?_; (case hd => rfl); (case hg => rfl); (case hr => first | (go_simp; done) | (go_simp; rfl)); intro gb659 hg w6 hbox hb; have BK659 := Aside0.mk (hbox); have GW659 := Aside0.mk (bxLe HB.out hg); have GE659 := GW659; replace HB := Aside0.mk (below_step HB.out hb); have NB658_659 := Aside0.mk (neL BK658.out hg); have NB659_658 := Aside0.mk (neR BK658.out hg); replace BK658 := Aside0.mk (blk_below BK658.out hb); clear hb hbox hg) | ((with_reducible refine gate_dst (N := 4) rfl ?_); refine box_event ?hg (N := 4) ?hd (cs := #[.bool false, .slice none 0 0]) (t := 24) ?hr ?_; (case hd => rfl); (case hg => rfl); (case hr => first | (go_simp; done) | (go_simp; rfl)); intro gb660 hg w7 hbox hb; have BK660 := Aside0.mk (hbox); have GW660 := Aside0.mk (bxLe HB.out hg); have GE660 := GW660; replace HB := Aside0.mk (below_step HB.out hb); have NB658_660 := Aside0.mk (neL BK658.out hg); have NB660_658 := Aside0.mk (neR BK658.out hg); replace BK658 := Aside0.mk (blk_below BK658.out hb); have NB659_660 := Aside0.mk (neL BK659.out hg); have NB660_659 := Aside0.mk (neR BK659.out hg); replace BK659 := Aside0.mk (blk_below BK659.out hb); clear hb hbox hg))
 replace BK658 := Aside0.mk (blk_drew BK658.out)
 replace BK659 := Aside0.mk (blk_drew BK659.out)
 replace BK660 := Aside0.mk (blk_drew BK660.out)
 replace HB := Aside0.mk (below_drew1 HB.out)
 refine start_ (n := 5) (S := fun w' => w'.cell? ⟨gb658, 0, none⟩ = some (.bool a0_0) ∧ w'.cell? ⟨gb658, 1, none⟩ = some (.slice A0_1 l0_1.length c0_1) ∧ w'.cell? ⟨gb659, 0, none⟩ = some (.bool a1_0) ∧ w'.cell? ⟨gb659, 1, none⟩ = some (.slice A1_1 l1_1.length c1_1)) (ds := []) #[false, false, false, false, false] (by kernel_rfl) rfl rfl ⟨bc0 BK658.out, bc1 BK658.out, bc0 BK659.out, bc1 BK659.out⟩ (fun hHeld => ?_)
 generalize w7.drew = w8 at BK658 BK659 BK660 HB hHeld ⊢
 refine take_ (i := 0) (N := some 5) (v := ?_) (a' := ?_) #[true, false, false, false, false] rfl rfl (by kernel_rfl) (fun _ _ _ h => h) (Or.inl ⟨by rfl, ?_⟩) hHeld ?_ ?_
 rotate_left
 ·rintro w' ⟨s0, s1, s2, s3⟩
  go_simp
  with_reducible rfl
 rotate_left
 ·simp only [Act.put, List.setIfInBounds_toArray, List.set_cons_zero, List.set_cons_succ, i64_w, i32_w]
  rfl
 refine take_ (i := 1) (N := some 6) (v := ?_) (a' := ?_) #[true, true, false, false, false] rfl rfl (by kernel_rfl) (fun _ _ _ h => h) (Or.inl ⟨by rfl, ?_⟩) hHeld ?_ ?_
 rotate_left
 ·rintro w' ⟨s0, s1, s2, s3⟩
  go_simp
  with_reducible rfl
 rotate_left
 ·simp only [Act.put, List.setIfInBounds_toArray, List.set_cons_zero, List.set_cons_succ, i64_w, i32_w]
  rfl
 refine one_ (i := 2) (N := some 7) #[true, true, true, false, false] rfl rfl (by kernel_rfl) (by decide) (fun K hK => ?_)
 refine goR Tryd.func18 [.agg #[.bool a1_0, .slice A1_1 l1_1.length c1_1]] ?_
 with_reducible refine (whole_Neg.calls a1_0 _ _ l1_1 t661 t662 _ ?side1 ?side2 A3.out).mono ?_
 (case side1 => exact (Kd.C_below HR1_1.out HB.out))
 (case side2 => exact HC1_1.out)
 rintro e w9 ⟨v663, rfl, ho0, hb⟩
 refine ⟨_, rfl, ?_⟩
 have HO664 := Aside0.mk (Kd.R_lower ho0 (below_size HB.out))
 replace BK658 := Aside0.mk (blk_below BK658.out hb)
 replace BK659 := Aside0.mk (blk_below BK659.out hb)
 replace BK660 := Aside0.mk (blk_below BK660.out hb)
 replace HB := Aside0.mk (below_step HB.out hb)
 (try clear hb)
 (try clear hb2)
 (try clear hk)
 (try clear hi)
 (try clear ho0)
 obtain ⟨Ao10, co10, eo10⟩ := Kd.R_slice HO664.out
 subst eo10
 refine hK.out _ _ ⟨bc0 BK658.out, bc1 BK658.out, bc0 BK659.out, bc1 BK659.out⟩ (fun hHeld => ?_)
 clear hK K
 refine norm_ (a' := ?_) ?_ ?_
 rotate_left
 ·show Act.put _ (some 7) _ = _
  simp only [Act.put, List.setIfInBounds_toArray, List.set_cons_zero, List.set_cons_succ, i64_w, i32_w]
  rfl
 refine one_ (i := 3) (N := some 8) #[true, true, true, true, false] rfl rfl (by kernel_rfl) (by decide) (fun K hK => ?_)
 refine goR Tryd.func20 [.agg #[.bool a0_0, .slice A0_1 l0_1.length c0_1], .agg #[.bool t661, .slice Ao10 t662.length co10]] ?_
 with_reducible refine (whole_Add.calls k a0_0 _ _ l0_1 t661 _ _ t662 t665 t666 _ ?side1 ?side2 ?side3 ?side4 A4.out).mono ?_
 (case side1 => exact (Kd.C_below HR0_1.out HB.out))
 (case side2 => exact HC0_1.out)
 (case side3 => exact (Kd.R_reads' HO664.out).2.2)
 (case side4 => exact (Kd.R_reads' HO664.out).2.1)
 rintro e w11 ⟨v667, rfl, ho0, hb⟩
 refine ⟨_, rfl, ?_⟩
 have HO668 := Aside0.mk (Kd.R_lower (Kd.R_new' ho0 (Kd.R_lt HO664.out)) (below_size HB.out))
 replace BK658 := Aside0.mk (blk_below BK658.out hb)
 replace BK659 := Aside0.mk (blk_below BK659.out hb)
 replace BK660 := Aside0.mk (blk_below BK660.out hb)
 replace HB := Aside0.mk (below_step HB.out hb)
 (try clear hb)
 (try clear hb2)
 (try clear hk)
 (try clear hi)
 (try clear ho0)
 obtain ⟨Ao13, co13, eo13⟩ := Kd.R_slice HO668.out
 subst eo13
 refine hK.out _ _ ⟨bc0 BK658.out, bc1 BK658.out, bc0 BK659.out, bc1 BK659.out⟩ (fun hHeld => ?_)
 clear hK K
 refine norm_ (a' := ?_) ?_ ?_
 rotate_left
 ·show Act.put _ (some 8) _ = _
  simp only [Act.put, List.setIfInBounds_toArray, List.set_cons_zero, List.set_cons_succ, i64_w, i32_w]
  rfl
 refine one_ (i := 4) (N := none) #[true, true, true, true, true] rfl rfl (by kernel_rfl) (by decide) (fun K hK => ?_)
 have hs12 : w11.cell? ⟨gb660, 0, none⟩ = some (.bool false) := bc0 BK660.out
 have hfs12 := blk_frozen BK660.out 0
 have hns12_0 := NB658_660.out
 have hns12_1 := NB659_660.out
 have hms12_0 := NB660_658.out
 have hms12_1 := NB660_659.out
 have hs14 : w11.cell? ⟨gb660, 1, none⟩ = some (.slice none 0 0) := bc1 BK660.out
 have hfs14 := blk_frozen BK660.out 1
 have hns14_0 := NB658_660.out
 have hns14_1 := NB659_660.out
 have hms14_0 := NB660_658.out
 have hms14_1 := NB660_659.out
 refine skip_ (w1 := ?_) (by rfl) rfl ?_ ?_
 rotate_left
 ·go_simp
  rfl
 refine hK.out _ _ ⟨((cell_far (p := ⟨gb660, _, none⟩) NB658_660.out _).trans (((cell_far (p := ⟨gb660, _, none⟩) NB658_660.out _).trans (hHeld.1)))), ((cell_far (p := ⟨gb660, _, none⟩) NB658_660.out _).trans (((cell_far (p := ⟨gb660, _, none⟩) NB658_660.out _).trans (hHeld.2.1)))), ((cell_far (p := ⟨gb660, _, none⟩) NB659_660.out _).trans (((cell_far (p := ⟨gb660, _, none⟩) NB659_660.out _).trans (hHeld.2.2.1)))), ((cell_far (p := ⟨gb660, _, none⟩) NB659_660.out _).trans (((cell_far (p := ⟨gb660, _, none⟩) NB659_660.out _).trans (hHeld.2.2.2))))⟩ (fun hHeld => ?_)
 clear hK K
 refine done_ (by kernel_rfl) ?_
 try go_wp2
 refine bodyPost_ret (results_cell_row rfl _ _ gb660 24 #[.bool t665, .slice Ao13 t666.length co13] (0, 0) _ rfl (by refine blk_put (cs := #[.bool t665, .slice none 0 0]) ?_ 1 _ rfl; refine blk_put (cs := #[.bool false, .slice none 0 0]) ?_ 0 _ rfl; exact BK660.out) Tryd.underlying24 rfl (by kernel_rfl)) rfl ?_
 exact ⟨_, rfl, Kd.R_mono (Kd.R_far (p := ⟨gb660, 1, none⟩) (Kd.R_far (p := ⟨gb660, 0, none⟩) (Kd.R_types HO668.out BK660.out (by decide)) (fun _ hk => hk.2) (.bool t665)) (fun _ hk => hk.2) (.slice Ao13 t666.length co13)) (fun _ hk => trivial), by repeat first | exact HB.out | refine bxSet ?_ (by assumption) | apply below_alloc | apply pw_below_drewN⟩

/-! ### gudgeonref02_Sub: function 23 -/
/-! ### whole_Mul: function 24 -/
def whole_Mul.f (k : Nat) (a0_0 : Bool) (l0_1 : List Int) (a1_0 : Bool) (l1_1 : List Int) : Option (Bool × List Int) := (nat_Mul.f k l0_1 l1_1).bind fun t683 => ((whole_made.f (a0_0 != a1_0) t683).bind fun bt686 => (some (bt686.1, bt686.2)))
def whole_Mul.T1 : Bool × List (List Nat × List Nat) := (true, [([], []), ([0], [0]), ([], []), ([2], [2]), ([1, 3], [1, 3]), ([], []), ([5], [5]), ([], []), ([7], [7]), ([6, 8], [6, 8]), ([4, 9, 9], [4, 9]), ([10, 10, 0, 1, 2, 3, 4, 5, 6, 7, 8, 9, 10], [10])])
def whole_Mul.B1 : List Nat := [0, 1, 0, 4, 15, 0, 32, 0, 128, 480, 1023, 2047]
theorem whole_Mul.tab1 : rtab .any (opsOf Tryd.f24 1) = whole_Mul.T1 := by kernel_rfl
theorem whole_Mul.bits1 : waitsOk whole_Mul.T1.2 whole_Mul.B1 = true := by kernel_rfl
set_option maxHeartbeats 8000000 in
set_option maxRecDepth 100000 in
theorem whole_Mul.calls (k : Nat) (a0_0 : Bool) (A0_1 : Option Addr) (c0_1 : Nat) (l0_1 : List Int) (a1_0 : Bool) (A1_1 : Option Addr) (c1_1 : Nat) (l1_1 : List Int) (r1 : Bool) (r2 : List Int) (w : World) (hr0_1 : Kd.C (Kd.int .u32) w A0_1 l0_1.length l0_1) (hc0_1 : l0_1.length ≤ c0_1) (hr1_1 : Kd.C (Kd.int .u32) w A1_1 l1_1.length l1_1) (hc1_1 : l1_1.length ≤ c1_1) (h : whole_Mul.f k a0_0 l0_1 a1_0 l1_1 = some (r1, r2)) :
  Calls Tryd.prog 24 #[.agg #[.bool a0_0, .slice A0_1 l0_1.length c0_1], .agg #[.bool a1_0, .slice A1_1 l1_1.length c1_1]] w fun e w' => ∃ v1_ : Value, e = .returned (.agg #[.bool r1, v1_]) ∧ Kd.R (Kd.int .u32) 51 w' w.heap.size (fun _ => True) v1_ r2 ∧ Below w.heap.size w w' := by
 have hu24 := Tryd.underlying24
 have HR0_1 := Aside0.mk hr0_1
 have HC0_1 := Aside0.mk hc0_1
 clear hr0_1 hc0_1
 have HR1_1 := Aside0.mk hr1_1
 have HC1_1 := Aside0.mk hc1_1
 clear hr1_1 hc1_1
 have HB := Aside0.mk (Below.refl w.heap.size w)
 have H : ((nat_Mul.f k l0_1 l1_1).bind fun t683 => ((whole_made.f (a0_0 != a1_0) t683).bind fun bt686 => (some (bt686.1, bt686.2)))) = some (r1, r2) := h
 clear h
 obtain ⟨t683, A30, H⟩ := Option.bind_eq_some_iff.mp H
 try dsimp only at H
 have A3 := Aside0.mk A30
 clear A30
 obtain ⟨⟨t686, t687⟩, A40, H⟩ := Option.bind_eq_some_iff.mp H
 try dsimp only at H
 have A4 := Aside0.mk A40
 clear A40
 simp only [Option.some.injEq, Prod.mk.injEq] at H
 obtain ⟨rfl, rfl⟩ := H
 go_enter Tryd.func24, Tryd.ntmps24
 try go_wp2_with (first | ((with_reducible refine gate_dst (N := 2) rfl ?_); refine box_event ?hg (N := 2) ?hd (cs := #[.bool a0_0, .slice A0_1 l0_1.length c0_1]) (t := 24) ?hr ?_; (case hd => rfl); (case hg => rfl); (case hr => first | (go_simp; done) | (go_simp; rfl)); intro gb680 hg w5 hbox hb; have BK680 := Aside0.mk (hbox); have GW680 := Aside0.mk (bxLe HB.out hg); have GE680 := GW680; replace HB := Aside0.mk (below_step HB.out hb); clear hb hbox hg) | ((with_reducible refine gate_dst (N := 3) rfl ?_); refine box_event ?hg (N := 3) ?hd (cs := #[.bool a1_0, .slice A1_1 l1_1.length c1_1]) (t := 24) ?hr ?_; (case hd => rfl); (case hg => rfl); (case hr => first | (go_simp; done) | (go_simp; rfl)); intro gb681 hg w6 hbox hb; have BK681 := Aside0.mk (hbox); have GW681 := Aside0.mk (bxLe HB.out hg); have GE681 := GW681; replace HB := Aside0.mk (below_step HB.out hb); have NB680_681 := Aside0.mk (neL BK680.out hg); have NB681_680 := Aside0.mk (neR BK680.out hg); replace BK680 := Aside0.mk (blk_below BK680.out hb); clear hb hbox hg) | ((with_reducible refine gate_dst (N := 4) rfl ?_); refine box_event ?hg (N := 4) ?hd (cs := #[.bool false, .slice none 0 0]) (t := 24) ?hr ?_; (case hd => rfl); (case hg => rfl); (case hr => first | (go_simp; done) | (go_simp; rfl)); intro gb682 hg w7 hbox hb; have BK682 := Aside0.mk (hbox); have GW682 := Aside0.mk (bxLe HB.out hg); have GE682 := GW682; replace HB := Aside0.mk (below_step HB.out hb); have NB680_682 := Aside0.mk (neL BK680.out hg); have NB682_680 := Aside0.mk (neR BK680.out hg); replace BK680 := Aside0.mk (blk_below BK680.out hb); have NB681_682 := Aside0.mk (neL BK681.out hg); have NB682_681 := Aside0.mk (neR BK681.out hg); replace BK681 := Aside0.mk (blk_below BK681.out hb); clear hb hbox hg))
 replace BK680 := Aside0.mk (blk_drew BK680.out)
 replace BK681 := Aside0.mk (blk_drew BK681.out)
 replace BK682 := Aside0.mk (blk_drew BK682.out)
 replace HB := Aside0.mk (below_drew1 HB.out)
 refine start_ (n := 12) (S := fun w' => w'.cell? ⟨gb680, 0, none⟩ = some (.bool a0_0) ∧ w'.cell? ⟨gb680, 1, none⟩ = some (.slice A0_1 l0_1.length c0_1) ∧ w'.cell? ⟨gb681, 0, none⟩ = some (.bool a1_0) ∧ w'.cell? ⟨gb681, 1, none⟩ = some (.slice A1_1 l1_1.length c1_1)) (ds := []) #[false, false, false, false, false, false, false, false, false, false, false, false] (by kernel_rfl) rfl rfl ⟨bc0 BK680.out, bc1 BK680.out, bc0 BK681.out, bc1 BK681.out⟩ (fun hHeld => ?_); refine with_tabW whole_Mul.tab1 whole_Mul.bits1 (fun HT_ HW_ => ?_)
 generalize w7.drew = w8 at BK680 BK681 BK682 HB hHeld ⊢
 refine pure_ (i := 0) (N := some 5) (v := ?_) (a' := ?_) #[true, false, false, false, false, false, false, false, false, false, false, false] rfl rfl (any_of HT_.out (by kernel_rfl)) (fun _ _ _ h => h) (Or.inl ⟨by rfl, ?_⟩) ?_ ?_
 rotate_left
 ·intro w'
  go_simp
  with_reducible rfl
 rotate_left
 ·simp only [Act.put, List.setIfInBounds_toArray, List.set_cons_zero, List.set_cons_succ, i64_w, i32_w]
  rfl
 refine pure_ (i := 2) (N := some 7) (v := ?_) (a' := ?_) #[true, false, true, false, false, false, false, false, false, false, false, false] rfl rfl (any_of HT_.out (by kernel_rfl)) (fun _ _ _ h => h) (Or.inl ⟨by rfl, ?_⟩) ?_ ?_
 rotate_left
 ·intro w'
  go_simp
  with_reducible rfl
 rotate_left
 ·simp only [Act.put, List.setIfInBounds_toArray, List.set_cons_zero, List.set_cons_succ, i64_w, i32_w]
  rfl
 refine pure_ (i := 5) (N := some 10) (v := ?_) (a' := ?_) #[true, false, true, false, false, true, false, false, false, false, false, false] rfl rfl (any_of HT_.out (by kernel_rfl)) (fun _ _ _ h => h) (Or.inl ⟨by rfl, ?_⟩) ?_ ?_
 rotate_left
 ·intro w'
  go_simp
  with_reducible rfl
 rotate_left
 ·simp only [Act.put, List.setIfInBounds_toArray, List.set_cons_zero, List.set_cons_succ, i64_w, i32_w]
  rfl
 refine pure_ (i := 7) (N := some 12) (v := ?_) (a' := ?_) #[true, false, true, false, false, true, false, true, false, false, false, false] rfl rfl (any_of HT_.out (by kernel_rfl)) (fun _ _ _ h => h) (Or.inl ⟨by rfl, ?_⟩) ?_ ?_
 rotate_left
 ·intro w'
  go_simp
  with_reducible rfl
 rotate_left
 ·simp only [Act.put, List.setIfInBounds_toArray, List.set_cons_zero, List.set_cons_succ, i64_w, i32_w]
  rfl
 refine take_ (i := 1) (N := some 6) (v := ?_) (a' := ?_) #[true, true, true, false, false, true, false, true, false, false, false, false] rfl rfl (take_ofW HT_.out HW_.out (by kernel_rfl)) (fun _ _ _ h => h) (Or.inl ⟨by rfl, ?_⟩) hHeld ?_ ?_
 rotate_left
 ·rintro w' ⟨s0, s1, s2, s3⟩
  go_simp
  with_reducible rfl
 rotate_left
 ·simp only [Act.put, List.setIfInBounds_toArray, List.set_cons_zero, List.set_cons_succ, i64_w, i32_w]
  rfl
 refine take_ (i := 3) (N := some 8) (v := ?_) (a' := ?_) #[true, true, true, true, false, true, false, true, false, false, false, false] rfl rfl (take_ofW HT_.out HW_.out (by kernel_rfl)) (fun _ _ _ h => h) (Or.inl ⟨by rfl, ?_⟩) hHeld ?_ ?_
 rotate_left
 ·rintro w' ⟨s0, s1, s2, s3⟩
  go_simp
  with_reducible rfl
 rotate_left
 ·simp only [Act.put, List.setIfInBounds_toArray, List.set_cons_zero, List.set_cons_succ, i64_w, i32_w]
  rfl
 refine pure_ (i := 4) (N := some 9) (v := ?_) (a' := ?_) #[true, true, true, true, true, true, false, true, false, false, false, false] rfl rfl (any_of HT_.out (by kernel_rfl)) (fun _ _ _ h => h) (Or.inl ⟨by rfl, ?_⟩) ?_ ?_
 rotate_left
 ·intro w'
  go_simp
  with_reducible rfl
 rotate_left
 ·simp only [Act.put, List.setIfInBounds_toArray, List.set_cons_zero, List.set_cons_succ, i64_w, i32_w]
  rfl
 refine take_ (i := 6) (N := some 11) (v := ?_) (a' := ?_) #[true, true, true, true, true, true, true, true, false, false, false, false] rfl rfl (take_ofW HT_.out HW_.out (by kernel_rfl)) (fun _ _ _ h => h) (Or.inl ⟨by rfl, ?_⟩) hHeld ?_ ?_
 rotate_left
 ·rintro w' ⟨s0, s1, s2, s3⟩
  go_simp
  with_reducible rfl
 rotate_left
 ·simp only [Act.put, List.setIfInBounds_toArray, List.set_cons_zero, List.set_cons_succ, i64_w, i32_w]
  rfl
 refine take_ (i := 8) (N := some 13) (v := ?_) (a' := ?_) #[true, true, true, true, true, true, true, true, true, false, false, false] rfl rfl (take_ofW HT_.out HW_.out (by kernel_rfl)) (fun _ _ _ h => h) (Or.inl ⟨by rfl, ?_⟩) hHeld ?_ ?_
 rotate_left
 ·rintro w' ⟨s0, s1, s2, s3⟩
  go_simp
  with_reducible rfl
 rotate_left
 ·simp only [Act.put, List.setIfInBounds_toArray, List.set_cons_zero, List.set_cons_succ, i64_w, i32_w]
  rfl
 refine one_ (i := 9) (N := some 14) #[true, true, true, true, true, true, true, true, true, true, false, false] rfl rfl (one_of HT_.out (by kernel_rfl)) (by decide) (fun K hK => ?_)
 refine goR Tryd.func49 [.slice A0_1 l0_1.length c0_1, .slice A1_1 l1_1.length c1_1] ?_
 with_reducible refine (nat_Mul.calls k _ _ l0_1 _ _ l1_1 t683 _ ?side1 ?side2 ?side3 ?side4 A3.out).mono ?_
 (case side1 => exact (Kd.C_below HR0_1.out HB.out))
 (case side2 => exact HC0_1.out)
 (case side3 => exact (Kd.C_below HR1_1.out HB.out))
 (case side4 => exact HC1_1.out)
 rintro e w9 ⟨v684, rfl, ho0, hb⟩
 refine ⟨_, rfl, ?_⟩
 have HO685 := Aside0.mk (Kd.R_lower ho0 (below_size HB.out))
 replace BK680 := Aside0.mk (blk_below BK680.out hb)
 replace BK681 := Aside0.mk (blk_below BK681.out hb)
 replace BK682 := Aside0.mk (blk_below BK682.out hb)
 replace HB := Aside0.mk (below_step HB.out hb)
 (try clear hb)
 (try clear hb2)
 (try clear hk)
 (try clear hi)
 (try clear ho0)
 obtain ⟨Ao10, co10, eo10⟩ := Kd.R_slice HO685.out
 subst eo10
 refine hK.out _ _ ⟨bc0 BK680.out, bc1 BK680.out, bc0 BK681.out, bc1 BK681.out⟩ (fun hHeld => ?_)
 clear hK K
 refine norm_ (a' := ?_) ?_ ?_
 rotate_left
 ·show Act.put _ (some 14) _ = _
  simp only [Act.put, List.setIfInBounds_toArray, List.set_cons_zero, List.set_cons_succ, i64_w, i32_w]
  rfl
 refine one_ (i := 10) (N := some 15) #[true, true, true, true, true, true, true, true, true, true, true, false] rfl rfl (one_of HT_.out (by kernel_rfl)) (by decide) (fun K hK => ?_)
 refine goR Tryd.func40 [.bool (a0_0 != a1_0), .slice Ao10 t683.length co10] ?_
 with_reducible refine (whole_made.calls (a0_0 != a1_0) _ _ t683 t686 t687 _ ?side1 ?side2 A4.out).mono ?_
 (case side1 => exact (Kd.R_reads' HO685.out).2.2)
 (case side2 => exact (Kd.R_reads' HO685.out).2.1)
 rintro e w11 ⟨v688, rfl, ho0, hb⟩
 refine ⟨_, rfl, ?_⟩
 have HO689 := Aside0.mk (Kd.R_lower (Kd.R_new' ho0 (Kd.R_lt HO685.out)) (below_size HB.out))
 replace BK680 := Aside0.mk (blk_below BK680.out hb)
 replace BK681 := Aside0.mk (blk_below BK681.out hb)
 replace BK682 := Aside0.mk (blk_below BK682.out hb)
 replace HB := Aside0.mk (below_step HB.out hb)
 (try clear hb)
 (try clear hb2)
 (try clear hk)
 (try clear hi)
 (try clear ho0)
 obtain ⟨Ao13, co13, eo13⟩ := Kd.R_slice HO689.out
 subst eo13
 refine hK.out _ _ ⟨bc0 BK680.out, bc1 BK680.out, bc0 BK681.out, bc1 BK681.out⟩ (fun hHeld => ?_)
 clear hK K
 refine norm_ (a' := ?_) ?_ ?_
 rotate_left
 ·show Act.put _ (some 15) _ = _
  simp only [Act.put, List.setIfInBounds_toArray, List.set_cons_zero, List.set_cons_succ, i64_w, i32_w]
  rfl
 refine one_ (i := 11) (N := none) #[true, true, true, true, true, true, true, true, true, true, true, true] rfl rfl (one_of HT_.out (by kernel_rfl)) (by decide) (fun K hK => ?_)
 have hs12 : w11.cell? ⟨gb682, 0, none⟩ = some (.bool false) := bc0 BK682.out
 have hfs12 := blk_frozen BK682.out 0
 have hns12_0 := NB680_682.out
 have hns12_1 := NB681_682.out
 have hms12_0 := NB682_680.out
 have hms12_1 := NB682_681.out
 have hs14 : w11.cell? ⟨gb682, 1, none⟩ = some (.slice none 0 0) := bc1 BK682.out
 have hfs14 := blk_frozen BK682.out 1
 have hns14_0 := NB680_682.out
 have hns14_1 := NB681_682.out
 have hms14_0 := NB682_680.out
 have hms14_1 := NB682_681.out
 refine skip_ (w1 := ?_) (by rfl) rfl ?_ ?_
 rotate_left
 ·go_simp
  rfl
 refine hK.out _ _ ⟨((cell_far (p := ⟨gb682, _, none⟩) NB680_682.out _).trans (((cell_far (p := ⟨gb682, _, none⟩) NB680_682.out _).trans (hHeld.1)))), ((cell_far (p := ⟨gb682, _, none⟩) NB680_682.out _).trans (((cell_far (p := ⟨gb682, _, none⟩) NB680_682.out _).trans (hHeld.2.1)))), ((cell_far (p := ⟨gb682, _, none⟩) NB681_682.out _).trans (((cell_far (p := ⟨gb682, _, none⟩) NB681_682.out _).trans (hHeld.2.2.1)))), ((cell_far (p := ⟨gb682, _, none⟩) NB681_682.out _).trans (((cell_far (p := ⟨gb682, _, none⟩) NB681_682.out _).trans (hHeld.2.2.2))))⟩ (fun hHeld => ?_)
 clear hK K
 refine done_ (done_of HT_.out (by kernel_rfl)) ?_
 try go_wp2
 refine bodyPost_ret (results_cell_row rfl _ _ gb682 24 #[.bool t686, .slice Ao13 t687.length co13] (0, 0) _ rfl (by refine blk_put (cs := #[.bool t686, .slice none 0 0]) ?_ 1 _ rfl; refine blk_put (cs := #[.bool false, .slice none 0 0]) ?_ 0 _ rfl; exact BK682.out) Tryd.underlying24 rfl (by kernel_rfl)) rfl ?_
 exact ⟨_, rfl, Kd.R_mono (Kd.R_far (p := ⟨gb682, 1, none⟩) (Kd.R_far (p := ⟨gb682, 0, none⟩) (Kd.R_types HO689.out BK682.out (by decide)) (fun _ hk => hk.2) (.bool t686)) (fun _ hk => hk.2) (.slice Ao13 t687.length co13)) (fun _ hk => trivial), by repeat first | exact HB.out | refine bxSet ?_ (by assumption) | apply below_alloc | apply pw_below_drewN⟩

end Go.Proofs.YthnfmmaolkenkaaDoor.PA
/- Written by a program of this session, wip/tools/patch_print.py, over the kit's print of the loaded functions. -/
namespace Go.Proofs.YthnfmmaolkenkaaDoor.H
end Go.Proofs.YthnfmmaolkenkaaDoor.H
namespace Go.Proofs.YthnfmmaolkenkaaDoor.PA
open Go.RowKit Go.Proofs.YthnfmmaolkenkaaDoorW.PrintWords Go.Proofs.YthnfmmaolkenkaaDoorW.PrintLast Go.Proofs.YthnfmmaolkenkaaDoorW.PrintMore Go.Proofs.YthnfmmaolkenkaaDoor.H
attribute [local go_sem] max2_int min2_int max_two min_two max_three min_three max_four min_four   -- for this text's walks alone
attribute [local go_sem] box_twice
set_option linter.unusedVariables false
set_option linter.unusedSimpArgs false

/-! ### gudgeonref01_mul: function 74 -/
/-! ### gudgeonref01_Mul: function 50 -/
/-! ### gudgeonref02_Mul: function 25 -/
/-! ### whole_Cmp: function 26 -/
def whole_Cmp.f (k : Nat) (a0_0 : Bool) (l0_1 : List Int) (a1_0 : Bool) (l1_1 : List Int) : Option (Int) := (whole_Sub.f k a0_0 l0_1 a1_0 l1_1).bind fun bt727 => ((whole_Sign.f bt727.1 bt727.2).bind fun t731 => (some t731))
set_option maxHeartbeats 8000000 in
set_option maxRecDepth 100000 in
theorem whole_Cmp.calls (k : Nat) (a0_0 : Bool) (A0_1 : Option Addr) (c0_1 : Nat) (l0_1 : List Int) (a1_0 : Bool) (A1_1 : Option Addr) (c1_1 : Nat) (l1_1 : List Int) (r : Int) (w : World) (hr0_1 : Kd.C (Kd.int .u32) w A0_1 l0_1.length l0_1) (hc0_1 : l0_1.length ≤ c0_1) (hr1_1 : Kd.C (Kd.int .u32) w A1_1 l1_1.length l1_1) (hc1_1 : l1_1.length ≤ c1_1) (h : whole_Cmp.f k a0_0 l0_1 a1_0 l1_1 = some r) :
  Calls Tryd.prog 26 #[.agg #[.bool a0_0, .slice A0_1 l0_1.length c0_1], .agg #[.bool a1_0, .slice A1_1 l1_1.length c1_1]] w fun e w' => e = .returned (.int .i64 r) ∧ Below w.heap.size w w' := by
 have hu24 := Tryd.underlying24
 have HR0_1 := Aside0.mk hr0_1
 have HC0_1 := Aside0.mk hc0_1
 clear hr0_1 hc0_1
 have HR1_1 := Aside0.mk hr1_1
 have HC1_1 := Aside0.mk hc1_1
 clear hr1_1 hc1_1
 have HB := Aside0.mk (Below.refl w.heap.size w)
 have H : ((whole_Sub.f k a0_0 l0_1 a1_0 l1_1).bind fun bt727 => ((whole_Sign.f bt727.1 bt727.2).bind fun t731 => (some t731))) = some r := h
 clear h
 replace H := Option.bind_eq_some_iff.mp H
 obtain ⟨⟨t727, t728⟩, A30, H⟩ := H
 replace H : ((whole_Sign.f t727 t728).bind fun t731 => (some t731)) = some r := H
 have A3 := Aside0.mk A30
 clear A30
 replace H := Option.bind_eq_some_iff.mp H
 obtain ⟨t731, A40, H⟩ := H
 replace H : (some t731) = some r := H
 have A4 := Aside0.mk A40
 clear A40
 obtain rfl := Option.some.inj H
 go_enter Tryd.func26, Tryd.ntmps26
 go_wp2_with (first | ((with_reducible refine gate_dst (N := 2) rfl ?_); refine box_event ?hg (N := 2) ?hd (cs := #[.bool a0_0, .slice A0_1 l0_1.length c0_1]) (t := 24) ?hr ?_; (case hd => rfl); (case hg => rfl); (case hr => first | (go_simp; done) | (go_simp; rfl)); intro gb725 hg w5 hbox hb; have BK725 := Aside0.mk (hbox); have GW725 := Aside0.mk (bxLe HB.out hg); have GE725 := GW725; replace HB := Aside0.mk (below_step HB.out hb); clear hb hbox hg) | ((with_reducible refine gate_dst (N := 3) rfl ?_); refine box_event ?hg (N := 3) ?hd (cs := #[.bool a1_0, .slice A1_1 l1_1.length c1_1]) (t := 24) ?hr ?_; (case hd => rfl); (case hg => rfl); (case hr => first | (go_simp; done) | (go_simp; rfl)); intro gb726 hg w6 hbox hb; have BK726 := Aside0.mk (hbox); have GW726 := Aside0.mk (bxLe HB.out hg); have GE726 := GW726; replace HB := Aside0.mk (below_step HB.out hb); have NB725_726 := Aside0.mk (neL BK725.out hg); have NB726_725 := Aside0.mk (neR BK725.out hg); replace BK725 := Aside0.mk (blk_below BK725.out hb); clear hb hbox hg; have hnb7 := NB725_726.out; have hnc7 := NB726_725.out; have hcz8_0 := bc0 BK725.out; have hcz8_1 := bc1 BK725.out; have hfz8_0 := blk_frozen BK725.out 0; have hfz8_1 := blk_frozen BK725.out 1; have hcz9_0 := bc0 BK726.out; have hcz9_1 := bc1 BK726.out; have hfz9_0 := blk_frozen BK726.out 0; have hfz9_1 := blk_frozen BK726.out 1) | ((with_reducible refine gate_callee (f := 22) rfl ?_); refine goL (some 7) Tryd.func22 [.agg #[.bool a0_0, .slice A0_1 l0_1.length c0_1], .agg #[.bool a1_0, .slice A1_1 l1_1.length c1_1]] ?_; (with_reducible refine (whole_Sub.calls k a0_0 _ _ l0_1 a1_0 _ _ l1_1 t727 t728 _ ?side1 ?side2 ?side3 ?side4 A3.out).mono ?_); (case side1 => exact (Kd.C_below HR0_1.out HB.out)); (case side2 => exact HC0_1.out); (case side3 => exact (Kd.C_below HR1_1.out HB.out)); (case side4 => exact HC1_1.out); rintro e w10 ⟨v729, rfl, ho0, hb⟩; refine ⟨_, rfl, ?_⟩; have HO730 := Aside0.mk (Kd.R_lower ho0 (below_size HB.out)); replace BK725 := Aside0.mk (blk_below BK725.out hb); replace BK726 := Aside0.mk (blk_below BK726.out hb); replace HB := Aside0.mk (below_step HB.out hb); obtain ⟨Ao11, co11, eo11⟩ := Kd.R_slice HO730.out; subst eo11) | ((with_reducible refine gate_callee (f := 28) rfl ?_); refine goL (some 8) Tryd.func28 [.agg #[.bool t727, .slice Ao11 t728.length co11]] ?_; (with_reducible refine (whole_Sign.calls t727 _ _ t728 t731 _ ?side1 ?side2 A4.out).mono ?_); (case side1 => exact (Kd.R_reads' HO730.out).2.2); (case side2 => exact (Kd.R_reads' HO730.out).2.1); rintro e w12 ⟨rfl, hb⟩; refine ⟨_, rfl, ?_⟩; replace HO730 := Aside0.mk (Kd.R_below HO730.out hb); replace BK725 := Aside0.mk (blk_below BK725.out hb); replace BK726 := Aside0.mk (blk_below BK726.out hb); replace HB := Aside0.mk (below_step HB.out hb); (try clear hb); (try clear hb2); (try clear hk); (try clear hi)))
 go_ret
 exact ⟨by first | rfl | (simp [errW_none, errW_some] <;> rfl) | (refine congrArg (fun z_ => Ending.returned (Value.bool z_)) (decide_eq_decide.mpr ?_); unfold wrap64; omega) | (simp [*, errW_none, errW_some] <;> rfl), by repeat (first | (with_reducible first | exact HB.out | apply below_alloc | apply pw_below_drewN | apply below_drew1 | refine below_set ?_ GE725.out | refine below_set ?_ GE726.out) | exact HB.out)⟩

/-! ### gudgeonref02_Sign: function 29 -/
/-! ### gudgeonref02_Cmp: function 27 -/
end Go.Proofs.YthnfmmaolkenkaaDoor.PA
