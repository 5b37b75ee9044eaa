/- Joined by wip/tools/shake.py for the claim of WholeOrder: PAx9, PAx15, PAx16, PAx26, NatV, NatB, NatC. -/
import Derived.Test.YthnfmmaolkenkaaDoorJWholeOrder2
import Derived.Test.YthnfmmaolkenkaaDoorJWholeOrder4
import Derived.Test.YthnfmmaolkenkaaDoorJWholeOrder5
import Derived.Laws.BitsLemmas
import Derived.Laws.Bits64
import Derived.Lib.BitFns
/- Written by a program of this session, wip/tools/patch_print.py, over the kit's print of the loaded functions. -/
namespace Go.Proofs.YthnfmmaolkenkaaDoor.H
end Go.Proofs.YthnfmmaolkenkaaDoor.H
namespace Go.Proofs.YthnfmmaolkenkaaDoor.PA
open Go.RowKit Go.Proofs.YthnfmmaolkenkaaDoorW.PrintWords Go.Proofs.YthnfmmaolkenkaaDoorW.PrintLast Go.Proofs.YthnfmmaolkenkaaDoorW.PrintMore Go.Proofs.YthnfmmaolkenkaaDoor.H
attribute [local go_sem] max2_int min2_int max_two min_two max_three min_three max_four min_four   -- for this text's walks alone
set_option linter.unusedVariables false
set_option linter.unusedSimpArgs false

/-! ### nat_Mul: function 49 -/
mutual
def nat_Mul.l0 : Nat → List Int → List Int → List Int → Int → Int → Option (List Int)
 | 0, _, _, _, _, _ => none
 | k + 1, x1, x5, x16, x17, x18 => if x18 < x17 then (if 0 ≤ x18 then (if x18 < (x16.length : Int) then (nat_Mul.l1 k x1 x5 x18 (rd x16 x18) 0 x16 x17 x18 (x1.length : Int) 0) else (none)) else (none)) else ((nat_Norm.f x5).bind fun t432 => (some t432))
def nat_Mul.l1 : Nat → List Int → List Int → Int → Int → Int → List Int → Int → Int → Int → Int → Option (List Int)
 | 0, _, _, _, _, _, _, _, _, _, _ => none
 | k + 1, x1, x5, x6, x7, x8, x16, x17, x18, x24, x25 => if x25 < x24 then (if 0 ≤ x25 then (if x25 < (x1.length : Int) then (if 0 ≤ (wrap64 (x6 + x25)) then (if (wrap64 (x6 + x25)) < (x5.length : Int) then (nat_Mul.l1 k x1 (x5.set ((wrap64 (x6 + x25)) : Int).toNat ((IntKind.u64.wrap (x8 + (IntKind.u64.wrap ((IntKind.u64.wrap ((IntKind.u64.wrap (x7)) * (IntKind.u64.wrap (rd x1 x25)))) + (IntKind.u64.wrap (rd x5 (wrap64 (x6 + x25)))))))) % 4294967296)) x6 x7 ((IntKind.u64.wrap (x8 + (IntKind.u64.wrap ((IntKind.u64.wrap ((IntKind.u64.wrap (x7)) * (IntKind.u64.wrap (rd x1 x25)))) + (IntKind.u64.wrap (rd x5 (wrap64 (x6 + x25)))))))) / 4294967296) x16 x17 x18 x24 (wrap64 (x25 + 1))) else (none)) else (none)) else (none)) else (none)) else (if 0 ≤ (wrap64 (x6 + (x1.length : Int))) then (if (wrap64 (x6 + (x1.length : Int))) < (x5.length : Int) then (nat_Mul.l0 k x1 (x5.set ((wrap64 (x6 + (x1.length : Int))) : Int).toNat ((x8) % 4294967296)) x16 x17 (wrap64 (x18 + 1))) else (none)) else (none))
end
def nat_Mul.f (k : Nat) (l0 : List Int) (l1 : List Int) : Option (List Int) := if 0 ≤ (wrap64 ((l0.length : Int) + (l1.length : Int))) then (if (wrap64 ((l0.length : Int) + (l1.length : Int)) : Int).toNat ≤ 70368744177664 then (nat_Mul.l0 k l1 (List.replicate (wrap64 ((l0.length : Int) + (l1.length : Int)) : Int).toNat 0) l0 (l0.length : Int) 0) else (none)) else (none)
set_option maxHeartbeats 8000000 in
set_option maxRecDepth 100000 in
theorem nat_Mul.calls (k : Nat) (A0 : Option Addr) (c0 : Nat) (l0 : List Int) (A1 : Option Addr) (c1 : Nat) (l1 : List Int) (r : List Int) (w : World) (hr0 : Kd.C (Kd.int .u32) w A0 l0.length l0) (hc0 : l0.length ≤ c0) (hr1 : Kd.C (Kd.int .u32) w A1 l1.length l1) (hc1 : l1.length ≤ c1) (h : nat_Mul.f k l0 l1 = some r) :
  Calls Tryd.prog 49 #[.slice A0 l0.length c0, .slice A1 l1.length c1] w fun e w' => ∃ v0_ : Value, e = .returned (v0_) ∧ Kd.R (Kd.int .u32) 51 w' w.heap.size (fun _ => True) v0_ r ∧ Below w.heap.size w w' := by
 have HR0 := Aside0.mk hr0
 have HC0 := Aside0.mk hc0
 clear hr0 hc0
 have HR1 := Aside0.mk hr1
 have HC1 := Aside0.mk hc1
 clear hr1 hc1
 have HB := Aside0.mk (Below.refl w.heap.size w)
 have H : (if 0 ≤ (wrap64 ((l0.length : Int) + (l1.length : Int))) then (if (wrap64 ((l0.length : Int) + (l1.length : Int)) : Int).toNat ≤ 70368744177664 then (nat_Mul.l0 k l1 (List.replicate (wrap64 ((l0.length : Int) + (l1.length : Int)) : Int).toNat 0) l0 (l0.length : Int) 0) else (none)) else (none)) = some r := h
 clear h
 obtain ⟨ji3, hji3⟩ : ∃ j_ : Int, (wrap64 ((l0.length : Int) + (l1.length : Int))) = j_ := ⟨_, rfl⟩
 replace H : (if 0 ≤ (ji3) then (if (ji3 : Int).toNat ≤ 70368744177664 then (nat_Mul.l0 k l1 (List.replicate (ji3 : Int).toNat 0) l0 (l0.length : Int) 0) else (none)) else (none)) = some r := by first | (rw [hji3] at H; exact H) | (simp only [hji3] at H ⊢; exact H)
 have hji3w : (IntKind.i64.wrap ((l0.length : Int) + (l1.length : Int))) = ji3 := (i64_w _).trans hji3
 by_cases c4 : 0 ≤ (ji3)
 ·rw [if_pos c4] at H
  have c4b0 := eq_true c4
  have c4b1 : decide (0 ≤ (ji3)) = true := decide_eq_true c4
  clear c4
  by_cases c5 : (ji3 : Int).toNat ≤ 70368744177664
  ·rw [if_pos c5] at H
   have c5b0 := eq_true c5
   have c5b1 : decide ((ji3 : Int).toNat ≤ 70368744177664) = true := decide_eq_true c5
   clear c5
   obtain ⟨y429, hy429⟩ : ∃ y_ : List Int, y_ = (List.replicate (ji3 : Int).toNat 0) := ⟨_, rfl⟩
   replace H : (nat_Mul.l0 k l1 y429 l0 (l0.length : Int) 0) = some r := by first | (rw [hy429]; with_reducible exact H) | (have H2_ := (Option.bind_some _ _).symm.trans H; rw [hy429]; with_reducible exact H2_) | (have H2_ := (Option.bind_some _ _).symm.trans H; with_reducible exact H2_) | with_reducible exact H | (rw [hy429]; exact H) | exact H
   have Ny429 := Aside0.mk hy429
   clear hy429
   have H' := Aside0.mk H
   clear H
   go_enter Tryd.func49, Tryd.ntmps49
   go_wp2_with (first | ((with_reducible refine gate_dst (N := 15) rfl ?_); refine Kd.R_make (Kd.int .u32) _ 51 rfl (N := 15) rfl 22 _ _ rfl ji3 rfl rfl Tryd.underlying22 (.int .u32 0) 4 info51 rfl (by decide) (by omega) 0 (ok := fun _ => True) (okp := fun _ => True) rfl (fun _ hk => hk) trivial (of_decide_eq_true (by first | (with_reducible assumption) | assumption)) (Nat.le_trans (Nat.mul_le_mul_right _ (of_decide_eq_true (by first | (with_reducible assumption) | assumption) : ji3.toNat ≤ 70368744177664)) (by omega)) (Below.refl _ _) (Nat.le_refl _) ?_; intro v430 w6 ho7 hb hg_ hnew_; clear hg_ hnew_; (first | rw [← Ny429.out] at ho7 | (simp only [Int.reduceToNat] at ho7; rw [← Ny429.out] at ho7)); have HO431 := Aside0.mk (Kd.R_lower ho7 (below_size HB.out)); replace HB := Aside0.mk (below_step HB.out hb); clear hb ho7))
   repeat (go_quiet (first | ((with_reducible refine gate_dst (N := 15) rfl ?_); refine Kd.R_make (Kd.int .u32) _ 51 rfl (N := 15) rfl 22 _ _ rfl ji3 rfl rfl Tryd.underlying22 (.int .u32 0) 4 info51 rfl (by decide) (by omega) 0 (ok := fun _ => True) (okp := fun _ => True) rfl (fun _ hk => hk) trivial (of_decide_eq_true (by first | (with_reducible assumption) | assumption)) (Nat.le_trans (Nat.mul_le_mul_right _ (of_decide_eq_true (by first | (with_reducible assumption) | assumption) : ji3.toNat ≤ 70368744177664)) (by omega)) (Below.refl _ _) (Nat.le_refl _) ?_; intro v430 w6 ho7 hb hg_ hnew_; clear hg_ hnew_; (first | rw [← Ny429.out] at ho7 | (simp only [Int.reduceToNat] at ho7; rw [← Ny429.out] at ho7)); have HO431 := Aside0.mk (Kd.R_lower ho7 (below_size HB.out)); replace HB := Aside0.mk (below_step HB.out hb); clear hb ho7)); try go_wp2_with (first | ((with_reducible refine gate_dst (N := 15) rfl ?_); refine Kd.R_make (Kd.int .u32) _ 51 rfl (N := 15) rfl 22 _ _ rfl ji3 rfl rfl Tryd.underlying22 (.int .u32 0) 4 info51 rfl (by decide) (by omega) 0 (ok := fun _ => True) (okp := fun _ => True) rfl (fun _ hk => hk) trivial (of_decide_eq_true (by first | (with_reducible assumption) | assumption)) (Nat.le_trans (Nat.mul_le_mul_right _ (of_decide_eq_true (by first | (with_reducible assumption) | assumption) : ji3.toNat ≤ 70368744177664)) (by omega)) (Below.refl _ _) (Nat.le_refl _) ?_; intro v430 w6 ho7 hb hg_ hnew_; clear hg_ hnew_; (first | rw [← Ny429.out] at ho7 | (simp only [Int.reduceToNat] at ho7; rw [← Ny429.out] at ho7)); have HO431 := Aside0.mk (Kd.R_lower ho7 (below_size HB.out)); replace HB := Aside0.mk (below_step HB.out hb); clear hb ho7)))
   go_loopg [18] k (fun kq v18 w' => ∃ (x5_1 : List Int) (x18_1 : Int), v18 = .int .i64 x18_1 ∧ Aside0 (nat_Mul.l0 kq l1 x5_1 l0 (l0.length : Int) x18_1 = some r) ∧ Aside0 (kq ≤ k) ∧ Aside0 (Kd.R (Kd.int .u32) 51 w' w.heap.size (fun _ => True) v430 x5_1) ∧ Aside0 (Below w.heap.size w w'))
   case atStart => exact ⟨(y429), (0), (by first | rfl | (simp; done) | (simp [*]; done) | (refine congrArg (Value.int _) ?_; omega) | (refine congrArg Value.bool ?_; generalize ByteArray.toList _ = z_; cases z_ <;> rfl)), H', ⟨Nat.le_refl _⟩, ⟨by (with_reducible repeat (first | apply Kd.R_alloc | apply Kd.R_drewN | apply Kd.R_drew)); exact HO431.out⟩, ⟨by repeat (first | (with_reducible first | exact HB.out | apply below_alloc | apply pw_below_drewN | apply below_drew1) | exact HB.out)⟩⟩
   case round =>
    clear H'
    try clear c1
    try clear p2
    try clear c4
    try clear c4b0
    try clear c4b1
    try clear c5
    try clear c5b0
    try clear c5b1
    try clear p6
    obtain ⟨x5_1, x18_1, rfl, HA, HK1, HO_5, HB⟩ := hrel
    cases gk with
    | zero => exact absurd HA.out (by simp [nat_Mul.l0])
    | succ k1 =>
     have H := HA.out
     clear HA
     simp only [nat_Mul.l0] at H
     by_cases c8 : x18_1 < (l0.length : Int)
     ·rw [if_pos c8] at H
      have c8b0 : decide (x18_1 < (l0.length : Int)) = true := decide_eq_true c8
      clear c8
      by_cases c9 : 0 ≤ x18_1
      ·rw [if_pos c9] at H
       have c9b0 : decide (0 ≤ x18_1) = true := decide_eq_true c9
       clear c9
       by_cases c10 : x18_1 < (l0.length : Int)
       ·rw [if_pos c10] at H
        have c10b0 : decide (x18_1 < (l0.length : Int)) = true := decide_eq_true c10
        clear c10
        have H' := Aside0.mk H
        clear H
        have p435 : 0 ≤ (x18_1 : Int) := of_decide_eq_true (by first | (with_reducible assumption) | assumption)
        have q435 : x18_1 < (l0.length : Int) := of_decide_eq_true (by first | (with_reducible assumption) | assumption)
        obtain ⟨ad435, e435, hx435_0⟩ := Kd.at_int HR0.out x18_1 p435 q435
        cases e435
        replace hx435_0 := (HB.out.cell (World.block_lt_of_cell? w _ hx435_0)).trans hx435_0
        replace p435 := eq_true p435
        replace q435 := eq_true q435
        go_wp2
        repeat (go_quiet (fail); try go_wp2)
        go_loopg [8, 25] k1 (fun kq v8 v25 w' => ∃ (x5_2 : List Int) (x8_2 : Int) (x25_2 : Int), v8 = .int .u64 x8_2 ∧ v25 = .int .i64 x25_2 ∧ Aside0 (nat_Mul.l1 kq l1 x5_2 x18_1 (rd l0 x18_1) x8_2 l0 (l0.length : Int) x18_1 (l1.length : Int) x25_2 = some r) ∧ Aside0 (kq ≤ k1) ∧ Aside0 (Kd.R (Kd.int .u32) 51 w' w.heap.size (fun _ => True) v430 x5_2) ∧ Aside0 (Below w.heap.size w w'))
        case atStart => exact ⟨(x5_1), (0), (0), (by first | rfl | (simp; done) | (simp [*]; done) | (refine congrArg (Value.int _) ?_; omega) | (refine congrArg Value.bool ?_; generalize ByteArray.toList _ = z_; cases z_ <;> rfl)), (by first | rfl | (simp; done) | (simp [*]; done) | (refine congrArg (Value.int _) ?_; omega) | (refine congrArg Value.bool ?_; generalize ByteArray.toList _ = z_; cases z_ <;> rfl)), H', ⟨Nat.le_refl _⟩, ⟨by (with_reducible repeat (first | apply Kd.R_alloc | apply Kd.R_drewN | apply Kd.R_drew)); exact HO_5.out⟩, ⟨by repeat (first | (with_reducible first | exact HB.out | apply below_alloc | apply pw_below_drewN | apply below_drew1) | exact HB.out)⟩⟩
        case round =>
         clear H'
         try clear c1
         try clear p2
         try clear c4
         try clear c4b0
         try clear c4b1
         try clear p4
         try clear q4
         try clear hx4
         try clear c5
         try clear c5b0
         try clear c5b1
         try clear p6
         try clear c8
         try clear c8b0
         try clear c9
         try clear c9b0
         try clear c10
         try clear c10b0
         try clear hx435_0
         try clear p2
         try clear p435
         try clear p6
         try clear q435
         obtain ⟨x5_2, x8_2, x25_2, rfl, rfl, HA, HK2, HO_5, HB⟩ := hrel
         cases gk with
         | zero => exact absurd HA.out (by simp [nat_Mul.l1])
         | succ k2 =>
          have H := HA.out
          clear HA
          simp only [nat_Mul.l1] at H
          by_cases c11 : x25_2 < (l1.length : Int)
          ·rw [if_pos c11] at H
           have c11b0 : decide (x25_2 < (l1.length : Int)) = true := decide_eq_true c11
           clear c11
           by_cases c12 : 0 ≤ x25_2
           ·rw [if_pos c12] at H
            have c12b0 : decide (0 ≤ x25_2) = true := decide_eq_true c12
            clear c12
            by_cases c13 : x25_2 < (l1.length : Int)
            ·rw [if_pos c13] at H
             have c13b0 : decide (x25_2 < (l1.length : Int)) = true := decide_eq_true c13
             clear c13
             obtain ⟨ji14, hji14⟩ : ∃ j_ : Int, (wrap64 (x18_1 + x25_2)) = j_ := ⟨_, rfl⟩
             replace H : (if 0 ≤ (ji14) then (if (ji14) < (x5_2.length : Int) then (nat_Mul.l1 k2 l1 (x5_2.set ((ji14) : Int).toNat ((IntKind.u64.wrap (x8_2 + (IntKind.u64.wrap ((IntKind.u64.wrap ((IntKind.u64.wrap ((rd l0 x18_1))) * (IntKind.u64.wrap (rd l1 x25_2)))) + (IntKind.u64.wrap (rd x5_2 (ji14))))))) % 4294967296)) x18_1 (rd l0 x18_1) ((IntKind.u64.wrap (x8_2 + (IntKind.u64.wrap ((IntKind.u64.wrap ((IntKind.u64.wrap ((rd l0 x18_1))) * (IntKind.u64.wrap (rd l1 x25_2)))) + (IntKind.u64.wrap (rd x5_2 (ji14))))))) / 4294967296) l0 (l0.length : Int) x18_1 (l1.length : Int) (wrap64 (x25_2 + 1))) else (none)) else (none)) = some r := by first | (rw [hji14] at H; exact H) | (simp only [hji14] at H ⊢; exact H)
             have hji14w : (IntKind.i64.wrap (x18_1 + x25_2)) = ji14 := (i64_w _).trans hji14
             by_cases c15 : 0 ≤ (ji14)
             ·rw [if_pos c15] at H
              have c15b0 : decide (0 ≤ (ji14)) = true := decide_eq_true c15
              clear c15
              by_cases c16 : (ji14) < (x5_2.length : Int)
              ·rw [if_pos c16] at H
               have c16b0 : decide ((ji14) < (x5_2.length : Int)) = true := decide_eq_true c16
               clear c16
               obtain ⟨y438, hy438⟩ : ∃ y_ : List Int, y_ = (x5_2.set ((ji14) : Int).toNat ((IntKind.u64.wrap (x8_2 + (IntKind.u64.wrap ((IntKind.u64.wrap ((IntKind.u64.wrap ((rd l0 x18_1))) * (IntKind.u64.wrap (rd l1 x25_2)))) + (IntKind.u64.wrap (rd x5_2 (ji14))))))) % 4294967296)) := ⟨_, rfl⟩
               replace H : (nat_Mul.l1 k2 l1 y438 x18_1 (rd l0 x18_1) ((IntKind.u64.wrap (x8_2 + (IntKind.u64.wrap ((IntKind.u64.wrap ((IntKind.u64.wrap ((rd l0 x18_1))) * (IntKind.u64.wrap (rd l1 x25_2)))) + (IntKind.u64.wrap (rd x5_2 (ji14))))))) / 4294967296) l0 (l0.length : Int) x18_1 (l1.length : Int) (wrap64 (x25_2 + 1))) = some r := by first | (rw [hy438]; with_reducible exact H) | (have H2_ := (Option.bind_some _ _).symm.trans H; rw [hy438]; with_reducible exact H2_) | (have H2_ := (Option.bind_some _ _).symm.trans H; with_reducible exact H2_) | with_reducible exact H | (rw [hy438]; exact H) | exact H
               have Ny438 := Aside0.mk hy438
               clear hy438
               have H' := Aside0.mk H
               clear H
               have p436 : 0 ≤ (x25_2 : Int) := of_decide_eq_true (by first | (with_reducible assumption) | assumption)
               have q436 : x25_2 < (l1.length : Int) := of_decide_eq_true (by first | (with_reducible assumption) | assumption)
               obtain ⟨ad436, e436, hx436_0⟩ := Kd.at_int HR1.out x25_2 p436 q436
               cases e436
               replace hx436_0 := (HB.out.cell (World.block_lt_of_cell? w _ hx436_0)).trans hx436_0
               replace p436 := eq_true p436
               replace q436 := eq_true q436
               obtain ⟨Ao18, co18, eo18⟩ := Kd.R_slice HO_5.out
               subst eo18
               have p437 : 0 ≤ ((ji14) : Int) := of_decide_eq_true (by first | (with_reducible assumption) | assumption)
               have q437 : (ji14) < (x5_2.length : Int) := of_decide_eq_true (by first | (with_reducible assumption) | assumption)
               obtain ⟨ad437, e437, hx437_0⟩ := Kd.at_int (Kd.R_reads' HO_5.out).2.2 (ji14) p437 q437
               cases e437
               replace p437 := eq_true p437
               replace q437 := eq_true q437
               have p17 : 0 ≤ ((ji14) : Int) := of_decide_eq_true (by first | (with_reducible assumption) | assumption)
               have q17 : ((ji14) : Int) < ((x5_2.length : Int) : Int) := of_decide_eq_true (by first | (with_reducible assumption) | assumption)
               obtain ⟨go17, co17, eo17, gb17, gl17, cl17, HG17⟩ := Kd.R_form HO_5.out (by omega)
               (first | cases eo17 | (injection eo17 with ea_ en_ ec_; (first | subst ea_ | (injection ea_ with ea_; subst ea_)); subst ec_; clear en_))
               have GB17 := Aside0.mk gb17
               have GG17 := Aside0.mk HG17
               clear gb17 gl17 HG17
               (first | simp only [add_plain] at hx437_0 | skip)
               obtain ⟨hx17_0, hf17_0⟩ := Kd.R_celln 0 HO_5.out ((ji14) : Int) p17 q17
               replace p17 := eq_true p17
               replace q17 := eq_true q17
               have HP19 := Kd.R_putg HO_5.out ((ji14) : Int) ((IntKind.u64.wrap (x8_2 + (IntKind.u64.wrap ((IntKind.u64.wrap ((IntKind.u64.wrap ((rd l0 x18_1))) * (IntKind.u64.wrap (rd l1 x25_2)))) + (IntKind.u64.wrap (rd x5_2 (ji14))))))) % 4294967296)
               go_wp2_with (first | ((with_reducible refine gate_store (t := 51) (p := 52) rfl ?_); (try (rw [drewN_self wr]; generalize hq_ : World.drewN wr _ = wr; have n0_ := Aside0.mk (Kd.R_at hq_ HO_5.out); have n1_ := Aside0.mk (below_at hq_ HB.out); clear hq_ HO_5 HB; have HO_5 := n0_; have HB := n1_; clear n0_ n1_; (try (obtain ⟨hx17_0, hf17_0⟩ := Kd.R_celln 0 HO_5.out ((ji14) : Int) (of_eq_true p17) (of_eq_true q17))); (try (have HP19 := Kd.R_putg HO_5.out ((ji14) : Int) ((IntKind.u64.wrap (x8_2 + (IntKind.u64.wrap ((IntKind.u64.wrap ((IntKind.u64.wrap ((rd l0 x18_1))) * (IntKind.u64.wrap (rd l1 x25_2)))) + (IntKind.u64.wrap (rd x5_2 (ji14))))))) % 4294967296))))); refine store_event (t := 51) (p := 52) (v := ?vo_w20) (w1 := (wr.setCell ⟨go17, ((ji14) : Int).toNat, none⟩ (.int .u32 ((IntKind.u64.wrap (x8_2 + (IntKind.u64.wrap ((IntKind.u64.wrap ((IntKind.u64.wrap ((rd l0 x18_1))) * (IntKind.u64.wrap (rd l1 x25_2)))) + (IntKind.u64.wrap (rd x5_2 (ji14))))))) % 4294967296)))) ?hg ?ho ?hn ?hr ?_; (case ho => rfl); (case hg => rfl); (case hn => rfl); (case hr => first | (go_simp; done) | (go_simp; rfl)); intro w20 hw; have hg : wr.grownBy w20 (some go17) := (by rw [hw]; exact HP19.2); have hp_ : Kd.R (Kd.int .u32) 51 w20 w.heap.size (fun _ => True) (.slice (some ⟨go17, 0, none⟩) x5_2.length co18) y438 := (by rw [hw, Ny438.out]; exact HP19.1); clear HP19; replace HO_5 := Aside0.mk (hp_); replace HB := Aside0.mk ((by rw [hw]; exact below_set (HB.out) GB17.out : Below w.heap.size w w20)); clear hg hw hp_))
               repeat (go_quiet (first | ((with_reducible refine gate_store (t := 51) (p := 52) rfl ?_); (try (rw [drewN_self wr]; generalize hq_ : World.drewN wr _ = wr; have n0_ := Aside0.mk (Kd.R_at hq_ HO_5.out); have n1_ := Aside0.mk (below_at hq_ HB.out); clear hq_ HO_5 HB; have HO_5 := n0_; have HB := n1_; clear n0_ n1_; (try (obtain ⟨hx17_0, hf17_0⟩ := Kd.R_celln 0 HO_5.out ((ji14) : Int) (of_eq_true p17) (of_eq_true q17))); (try (have HP19 := Kd.R_putg HO_5.out ((ji14) : Int) ((IntKind.u64.wrap (x8_2 + (IntKind.u64.wrap ((IntKind.u64.wrap ((IntKind.u64.wrap ((rd l0 x18_1))) * (IntKind.u64.wrap (rd l1 x25_2)))) + (IntKind.u64.wrap (rd x5_2 (ji14))))))) % 4294967296))))); refine store_event (t := 51) (p := 52) (v := ?vo_w20) (w1 := (wr.setCell ⟨go17, ((ji14) : Int).toNat, none⟩ (.int .u32 ((IntKind.u64.wrap (x8_2 + (IntKind.u64.wrap ((IntKind.u64.wrap ((IntKind.u64.wrap ((rd l0 x18_1))) * (IntKind.u64.wrap (rd l1 x25_2)))) + (IntKind.u64.wrap (rd x5_2 (ji14))))))) % 4294967296)))) ?hg ?ho ?hn ?hr ?_; (case ho => rfl); (case hg => rfl); (case hn => rfl); (case hr => first | (go_simp; done) | (go_simp; rfl)); intro w20 hw; have hg : wr.grownBy w20 (some go17) := (by rw [hw]; exact HP19.2); have hp_ : Kd.R (Kd.int .u32) 51 w20 w.heap.size (fun _ => True) (.slice (some ⟨go17, 0, none⟩) x5_2.length co18) y438 := (by rw [hw, Ny438.out]; exact HP19.1); clear HP19; replace HO_5 := Aside0.mk (hp_); replace HB := Aside0.mk ((by rw [hw]; exact below_set (HB.out) GB17.out : Below w.heap.size w w20)); clear hg hw hp_)); try go_wp2_with (first | ((with_reducible refine gate_store (t := 51) (p := 52) rfl ?_); (try (rw [drewN_self wr]; generalize hq_ : World.drewN wr _ = wr; have n0_ := Aside0.mk (Kd.R_at hq_ HO_5.out); have n1_ := Aside0.mk (below_at hq_ HB.out); clear hq_ HO_5 HB; have HO_5 := n0_; have HB := n1_; clear n0_ n1_; (try (obtain ⟨hx17_0, hf17_0⟩ := Kd.R_celln 0 HO_5.out ((ji14) : Int) (of_eq_true p17) (of_eq_true q17))); (try (have HP19 := Kd.R_putg HO_5.out ((ji14) : Int) ((IntKind.u64.wrap (x8_2 + (IntKind.u64.wrap ((IntKind.u64.wrap ((IntKind.u64.wrap ((rd l0 x18_1))) * (IntKind.u64.wrap (rd l1 x25_2)))) + (IntKind.u64.wrap (rd x5_2 (ji14))))))) % 4294967296))))); refine store_event (t := 51) (p := 52) (v := ?vo_w20) (w1 := (wr.setCell ⟨go17, ((ji14) : Int).toNat, none⟩ (.int .u32 ((IntKind.u64.wrap (x8_2 + (IntKind.u64.wrap ((IntKind.u64.wrap ((IntKind.u64.wrap ((rd l0 x18_1))) * (IntKind.u64.wrap (rd l1 x25_2)))) + (IntKind.u64.wrap (rd x5_2 (ji14))))))) % 4294967296)))) ?hg ?ho ?hn ?hr ?_; (case ho => rfl); (case hg => rfl); (case hn => rfl); (case hr => first | (go_simp; done) | (go_simp; rfl)); intro w20 hw; have hg : wr.grownBy w20 (some go17) := (by rw [hw]; exact HP19.2); have hp_ : Kd.R (Kd.int .u32) 51 w20 w.heap.size (fun _ => True) (.slice (some ⟨go17, 0, none⟩) x5_2.length co18) y438 := (by rw [hw, Ny438.out]; exact HP19.1); clear HP19; replace HO_5 := Aside0.mk (hp_); replace HB := Aside0.mk ((by rw [hw]; exact below_set (HB.out) GB17.out : Below w.heap.size w w20)); clear hg hw hp_)))
               go_roundg k2
               case measure => have := HK1.out; have := HK2.out; omega
               case rel => exact ⟨(y438), ((IntKind.u64.wrap (x8_2 + (IntKind.u64.wrap ((IntKind.u64.wrap ((IntKind.u64.wrap ((rd l0 x18_1))) * (IntKind.u64.wrap (rd l1 x25_2)))) + (IntKind.u64.wrap (rd x5_2 (ji14))))))) / 4294967296), (wrap64 (x25_2 + 1)), (by first | rfl | (simp; done) | (simp only [← hji14] <;> (first | rfl | simp)) | (simp [*]; done)), (by first | rfl | (simp; done) | (simp [*]; done) | (refine congrArg (Value.int _) ?_; omega) | (refine congrArg Value.bool ?_; generalize ByteArray.toList _ = z_; cases z_ <;> rfl)), H', ⟨by have := HK1.out; have := HK2.out; omega⟩, ⟨by (with_reducible repeat (first | apply Kd.R_alloc | apply Kd.R_drewN | apply Kd.R_drew)); exact HO_5.out⟩, ⟨by repeat (first | (with_reducible first | exact HB.out | apply below_alloc | apply pw_below_drewN | apply below_drew1) | exact HB.out)⟩⟩
              ·rw [if_neg c16] at H
               exact absurd H (by simp)
             ·rw [if_neg c15] at H
              exact absurd H (by simp)
            ·rw [if_neg c13] at H
             exact absurd H (by simp)
           ·rw [if_neg c12] at H
            exact absurd H (by simp)
          ·rw [if_neg c11] at H
           have c11b0 : decide (x25_2 < (l1.length : Int)) = false := decide_eq_false c11
           clear c11
           obtain ⟨ji21, hji21⟩ : ∃ j_ : Int, (wrap64 (x18_1 + (l1.length : Int))) = j_ := ⟨_, rfl⟩
           replace H : (if 0 ≤ (ji21) then (if (ji21) < (x5_2.length : Int) then (nat_Mul.l0 k2 l1 (x5_2.set ((ji21) : Int).toNat ((x8_2) % 4294967296)) l0 (l0.length : Int) (wrap64 (x18_1 + 1))) else (none)) else (none)) = some r := by first | (rw [hji21] at H; exact H) | (simp only [hji21] at H ⊢; exact H)
           have hji21w : (IntKind.i64.wrap (x18_1 + (l1.length : Int))) = ji21 := (i64_w _).trans hji21
           by_cases c22 : 0 ≤ (ji21)
           ·rw [if_pos c22] at H
            have c22b0 : decide (0 ≤ (ji21)) = true := decide_eq_true c22
            clear c22
            by_cases c23 : (ji21) < (x5_2.length : Int)
            ·rw [if_pos c23] at H
             have c23b0 : decide ((ji21) < (x5_2.length : Int)) = true := decide_eq_true c23
             clear c23
             obtain ⟨y439, hy439⟩ : ∃ y_ : List Int, y_ = (x5_2.set ((ji21) : Int).toNat ((x8_2) % 4294967296)) := ⟨_, rfl⟩
             replace H : (nat_Mul.l0 k2 l1 y439 l0 (l0.length : Int) (wrap64 (x18_1 + 1))) = some r := by first | (rw [hy439]; with_reducible exact H) | (have H2_ := (Option.bind_some _ _).symm.trans H; rw [hy439]; with_reducible exact H2_) | (have H2_ := (Option.bind_some _ _).symm.trans H; with_reducible exact H2_) | with_reducible exact H | (rw [hy439]; exact H) | exact H
             have Ny439 := Aside0.mk hy439
             clear hy439
             have H' := Aside0.mk H
             clear H
             have p24 : 0 ≤ ((ji21) : Int) := of_decide_eq_true (by first | (with_reducible assumption) | assumption)
             have q24 : ((ji21) : Int) < ((x5_2.length : Int) : Int) := of_decide_eq_true (by first | (with_reducible assumption) | assumption)
             obtain ⟨go24, co24, eo24, gb24, gl24, cl24, HG24⟩ := Kd.R_form HO_5.out (by omega)
             (first | cases eo24 | (injection eo24 with ea_ en_ ec_; (first | subst ea_ | (injection ea_ with ea_; subst ea_)); subst ec_; clear en_))
             have GB24 := Aside0.mk gb24
             have GG24 := Aside0.mk HG24
             clear gb24 gl24 HG24
             obtain ⟨hx24_0, hf24_0⟩ := Kd.R_celln 0 HO_5.out ((ji21) : Int) p24 q24
             replace p24 := eq_true p24
             replace q24 := eq_true q24
             have HP25 := Kd.R_putg HO_5.out ((ji21) : Int) ((x8_2) % 4294967296)
             go_wp2_with (first | ((with_reducible refine gate_store (t := 51) (p := 63) rfl ?_); (try (rw [drewN_self wr]; generalize hq_ : World.drewN wr _ = wr; have n0_ := Aside0.mk (Kd.R_at hq_ HO_5.out); have n1_ := Aside0.mk (below_at hq_ HB.out); clear hq_ HO_5 HB; have HO_5 := n0_; have HB := n1_; clear n0_ n1_; (try (obtain ⟨hx24_0, hf24_0⟩ := Kd.R_celln 0 HO_5.out ((ji21) : Int) (of_eq_true p24) (of_eq_true q24))); (try (have HP25 := Kd.R_putg HO_5.out ((ji21) : Int) ((x8_2) % 4294967296))))); refine store_event (t := 51) (p := 63) (v := ?vo_w26) (w1 := (wr.setCell ⟨go24, ((ji21) : Int).toNat, none⟩ (.int .u32 ((x8_2) % 4294967296)))) ?hg ?ho ?hn ?hr ?_; (case ho => rfl); (case hg => rfl); (case hn => rfl); (case hr => first | (go_simp; done) | (go_simp; rfl)); intro w26 hw; have hg : wr.grownBy w26 (some go24) := (by rw [hw]; exact HP25.2); have hp_ : Kd.R (Kd.int .u32) 51 w26 w.heap.size (fun _ => True) (.slice (some ⟨go24, 0, none⟩) x5_2.length co24) y439 := (by rw [hw, Ny439.out]; exact HP25.1); clear HP25; replace HO_5 := Aside0.mk (hp_); replace HB := Aside0.mk ((by rw [hw]; exact below_set (HB.out) GB24.out : Below w.heap.size w w26)); clear hg hw hp_))
             repeat (go_quiet (first | ((with_reducible refine gate_store (t := 51) (p := 63) rfl ?_); (try (rw [drewN_self wr]; generalize hq_ : World.drewN wr _ = wr; have n0_ := Aside0.mk (Kd.R_at hq_ HO_5.out); have n1_ := Aside0.mk (below_at hq_ HB.out); clear hq_ HO_5 HB; have HO_5 := n0_; have HB := n1_; clear n0_ n1_; (try (obtain ⟨hx24_0, hf24_0⟩ := Kd.R_celln 0 HO_5.out ((ji21) : Int) (of_eq_true p24) (of_eq_true q24))); (try (have HP25 := Kd.R_putg HO_5.out ((ji21) : Int) ((x8_2) % 4294967296))))); refine store_event (t := 51) (p := 63) (v := ?vo_w26) (w1 := (wr.setCell ⟨go24, ((ji21) : Int).toNat, none⟩ (.int .u32 ((x8_2) % 4294967296)))) ?hg ?ho ?hn ?hr ?_; (case ho => rfl); (case hg => rfl); (case hn => rfl); (case hr => first | (go_simp; done) | (go_simp; rfl)); intro w26 hw; have hg : wr.grownBy w26 (some go24) := (by rw [hw]; exact HP25.2); have hp_ : Kd.R (Kd.int .u32) 51 w26 w.heap.size (fun _ => True) (.slice (some ⟨go24, 0, none⟩) x5_2.length co24) y439 := (by rw [hw, Ny439.out]; exact HP25.1); clear HP25; replace HO_5 := Aside0.mk (hp_); replace HB := Aside0.mk ((by rw [hw]; exact below_set (HB.out) GB24.out : Below w.heap.size w w26)); clear hg hw hp_)); try go_wp2_with (first | ((with_reducible refine gate_store (t := 51) (p := 63) rfl ?_); (try (rw [drewN_self wr]; generalize hq_ : World.drewN wr _ = wr; have n0_ := Aside0.mk (Kd.R_at hq_ HO_5.out); have n1_ := Aside0.mk (below_at hq_ HB.out); clear hq_ HO_5 HB; have HO_5 := n0_; have HB := n1_; clear n0_ n1_; (try (obtain ⟨hx24_0, hf24_0⟩ := Kd.R_celln 0 HO_5.out ((ji21) : Int) (of_eq_true p24) (of_eq_true q24))); (try (have HP25 := Kd.R_putg HO_5.out ((ji21) : Int) ((x8_2) % 4294967296))))); refine store_event (t := 51) (p := 63) (v := ?vo_w26) (w1 := (wr.setCell ⟨go24, ((ji21) : Int).toNat, none⟩ (.int .u32 ((x8_2) % 4294967296)))) ?hg ?ho ?hn ?hr ?_; (case ho => rfl); (case hg => rfl); (case hn => rfl); (case hr => first | (go_simp; done) | (go_simp; rfl)); intro w26 hw; have hg : wr.grownBy w26 (some go24) := (by rw [hw]; exact HP25.2); have hp_ : Kd.R (Kd.int .u32) 51 w26 w.heap.size (fun _ => True) (.slice (some ⟨go24, 0, none⟩) x5_2.length co24) y439 := (by rw [hw, Ny439.out]; exact HP25.1); clear HP25; replace HO_5 := Aside0.mk (hp_); replace HB := Aside0.mk ((by rw [hw]; exact below_set (HB.out) GB24.out : Below w.heap.size w w26)); clear hg hw hp_)))
             go_roundg k2
             case measure => have := HK1.out; have := HK2.out; omega
             case rel => exact ⟨(y439), (wrap64 (x18_1 + 1)), (by first | rfl | (simp; done) | (simp [*]; done) | (refine congrArg (Value.int _) ?_; omega) | (refine congrArg Value.bool ?_; generalize ByteArray.toList _ = z_; cases z_ <;> rfl)), H', ⟨by have := HK1.out; have := HK2.out; omega⟩, ⟨by (with_reducible repeat (first | apply Kd.R_alloc | apply Kd.R_drewN | apply Kd.R_drew)); exact HO_5.out⟩, ⟨by repeat (first | (with_reducible first | exact HB.out | apply below_alloc | apply pw_below_drewN | apply below_drew1) | exact HB.out)⟩⟩
            ·rw [if_neg c23] at H
             exact absurd H (by simp)
           ·rw [if_neg c22] at H
            exact absurd H (by simp)
       ·rw [if_neg c10] at H
        exact absurd H (by simp)
      ·rw [if_neg c9] at H
       exact absurd H (by simp)
     ·rw [if_neg c8] at H
      have c8b0 : decide (x18_1 < (l0.length : Int)) = false := decide_eq_false c8
      clear c8
      replace H := Option.bind_eq_some_iff.mp H
      obtain ⟨t432, A270, H⟩ := H
      replace H : (some t432) = some r := H
      have A27 := Aside0.mk A270
      clear A270
      obtain rfl := Option.some.inj H
      obtain ⟨Ao28, co28, eo28⟩ := Kd.R_slice HO_5.out
      subst eo28
      go_wp2_with (first | (go_at_call 60; (with_reducible refine (nat_Norm.calls _ _ x5_1 t432 _ ?side1 ?side2 A27.out).mono ?_); (case side1 => exact (Kd.R_reads' HO_5.out).2.2); (case side2 => exact (Kd.R_reads' HO_5.out).2.1); rintro e w29 ⟨v433, rfl, ho0, hb⟩; have n0_ := Aside0.mk (Kd.R_elder' HO_5.out (Kd.R_base ho0) hb); have n1_ := Aside0.mk (Kd.R_lower (Kd.R_new' ho0 (Kd.R_lt HO_5.out)) (below_size HB.out)); have n2_ := Aside0.mk (below_step HB.out hb); clear HO_5; clear HB; have HO_5 := n0_; have HO434 := n1_; have HB := n2_; clear n0_ n1_ n2_))
      repeat (go_quiet (first | (go_at_call 60; (with_reducible refine (nat_Norm.calls _ _ x5_1 t432 _ ?side1 ?side2 A27.out).mono ?_); (case side1 => exact (Kd.R_reads' HO_5.out).2.2); (case side2 => exact (Kd.R_reads' HO_5.out).2.1); rintro e w29 ⟨v433, rfl, ho0, hb⟩; have n0_ := Aside0.mk (Kd.R_elder' HO_5.out (Kd.R_base ho0) hb); have n1_ := Aside0.mk (Kd.R_lower (Kd.R_new' ho0 (Kd.R_lt HO_5.out)) (below_size HB.out)); have n2_ := Aside0.mk (below_step HB.out hb); clear HO_5; clear HB; have HO_5 := n0_; have HO434 := n1_; have HB := n2_; clear n0_ n1_ n2_)); try go_wp2_with (first | (go_at_call 60; (with_reducible refine (nat_Norm.calls _ _ x5_1 t432 _ ?side1 ?side2 A27.out).mono ?_); (case side1 => exact (Kd.R_reads' HO_5.out).2.2); (case side2 => exact (Kd.R_reads' HO_5.out).2.1); rintro e w29 ⟨v433, rfl, ho0, hb⟩; have n0_ := Aside0.mk (Kd.R_elder' HO_5.out (Kd.R_base ho0) hb); have n1_ := Aside0.mk (Kd.R_lower (Kd.R_new' ho0 (Kd.R_lt HO_5.out)) (below_size HB.out)); have n2_ := Aside0.mk (below_step HB.out hb); clear HO_5; clear HB; have HO_5 := n0_; have HO434 := n1_; have HB := n2_; clear n0_ n1_ n2_)))
      go_ret
      exact ⟨_, by first | rfl | (simp [errW_none, errW_some] <;> rfl) | (simp only [← hji3]; first | rfl | (simp [errW_none, errW_some] <;> rfl)) | (simp [*, errW_none, errW_some] <;> rfl), by (with_reducible repeat (first | apply Kd.R_alloc | apply Kd.R_drewN | apply Kd.R_drew)); exact Kd.R_mono HO434.out (fun _ hk => trivial), by repeat (first | (with_reducible first | exact HB.out | apply below_alloc | apply pw_below_drewN | apply below_drew1) | exact HB.out)⟩
  ·rw [if_neg c5] at H
   exact absurd H (by simp)
 ·rw [if_neg c4] at H
  exact absurd H (by simp)

end Go.Proofs.YthnfmmaolkenkaaDoor.PA
/- Written by a program of this session, wip/tools/patch_print.py, over the kit's print of the loaded functions. -/
namespace Go.Proofs.YthnfmmaolkenkaaDoor.H
end Go.Proofs.YthnfmmaolkenkaaDoor.H
namespace Go.Proofs.YthnfmmaolkenkaaDoor.PA
open Go.RowKit Go.Proofs.YthnfmmaolkenkaaDoorW.PrintWords Go.Proofs.YthnfmmaolkenkaaDoorW.PrintLast Go.Proofs.YthnfmmaolkenkaaDoorW.PrintMore Go.Proofs.YthnfmmaolkenkaaDoor.H
attribute [local go_sem] max2_int min2_int max_two min_two max_three min_three max_four min_four   -- for this text's walks alone
attribute [local go_sem] box_twice
set_option linter.unusedVariables false
set_option linter.unusedSimpArgs false

/-! ### gudgeonref02_Add: function 21 -/
/-! ### whole_Sub: function 22 -/
def whole_Sub.f (k : Nat) (a0_0 : Bool) (l0_1 : List Int) (a1_0 : Bool) (l1_1 : List Int) : Option (Bool × List Int) := (whole_Neg.f a1_0 l1_1).bind fun bt661 => ((whole_Add.f k a0_0 l0_1 bt661.1 bt661.2).bind fun bt665 => (some (bt665.1, bt665.2)))
set_option maxHeartbeats 8000000 in
set_option maxRecDepth 100000 in
theorem whole_Sub.calls (k : Nat) (a0_0 : Bool) (A0_1 : Option Addr) (c0_1 : Nat) (l0_1 : List Int) (a1_0 : Bool) (A1_1 : Option Addr) (c1_1 : Nat) (l1_1 : List Int) (r1 : Bool) (r2 : List Int) (w : World) (hr0_1 : Kd.C (Kd.int .u32) w A0_1 l0_1.length l0_1) (hc0_1 : l0_1.length ≤ c0_1) (hr1_1 : Kd.C (Kd.int .u32) w A1_1 l1_1.length l1_1) (hc1_1 : l1_1.length ≤ c1_1) (h : whole_Sub.f k a0_0 l0_1 a1_0 l1_1 = some (r1, r2)) :
  Calls Tryd.prog 22 #[.agg #[.bool a0_0, .slice A0_1 l0_1.length c0_1], .agg #[.bool a1_0, .slice A1_1 l1_1.length c1_1]] w fun e w' => ∃ v1_ : Value, e = .returned (.agg #[.bool r1, v1_]) ∧ Kd.R (Kd.int .u32) 51 w' w.heap.size (fun _ => True) v1_ r2 ∧ Below w.heap.size w w' := by
 have hu24 := Tryd.underlying24
 have HR0_1 := Aside0.mk hr0_1
 have HC0_1 := Aside0.mk hc0_1
 clear hr0_1 hc0_1
 have HR1_1 := Aside0.mk hr1_1
 have HC1_1 := Aside0.mk hc1_1
 clear hr1_1 hc1_1
 have HB := Aside0.mk (Below.refl w.heap.size w)
 have H : ((whole_Neg.f a1_0 l1_1).bind fun bt661 => ((whole_Add.f k a0_0 l0_1 bt661.1 bt661.2).bind fun bt665 => (some (bt665.1, bt665.2)))) = some (r1, r2) := h
 clear h
 obtain ⟨⟨t661, t662⟩, A30, H⟩ := Option.bind_eq_some_iff.mp H
 try dsimp only at H
 have A3 := Aside0.mk A30
 clear A30
 obtain ⟨⟨t665, t666⟩, A40, H⟩ := Option.bind_eq_some_iff.mp H
 try dsimp only at H
 have A4 := Aside0.mk A40
 clear A40
 simp only [Option.some.injEq, Prod.mk.injEq] at H
 obtain ⟨rfl, rfl⟩ := H
 go_enter Tryd.func22, Tryd.ntmps22
 try go_wp2_with (first | ((with_reducible refine gate_dst (N := 2) rfl ?_); refine box_event ?hg (N := 2) ?hd (cs := #[.bool a0_0, .slice A0_1 l0_1.length c0_1]) (t := 24) ?hr ?_; (case hd => rfl); (case hg => rfl); (case hr => first | (go_simp; done) | (go_simp; rfl)); intro gb658 hg w5 hbox hb; have BK658 := Aside0.mk (hbox); have GW658 := Aside0.mk (bxLe HB.out hg); have GE658 := GW658; replace HB := Aside0.mk (below_step HB.out hb); clear hb hbox hg) | ((with_reducible refine gate_dst (N := 3) rfl ?_); refine box_event ?hg (N := 3) ?hd (cs := #[.bool a1_0, .slice A1_1 l1_1.length c1_1]) (t := 24) ?hr ?_; (case hd => rfl); (case hg => rfl); (case hr => first | (go_simp; done) | (go_simp; rfl)); intro gb659 hg w6 hbox hb; have BK659 := Aside0.mk (hbox); have GW659 := Aside0.mk (bxLe HB.out hg); have GE659 := GW659; replace HB := Aside0.mk (below_step HB.out hb); have NB658_659 := Aside0.mk (neL BK658.out hg); have NB659_658 := Aside0.mk (neR BK658.out hg); replace BK658 := Aside0.mk (blk_below BK658.out hb); clear hb hbox hg) | ((with_reducible refine gate_dst (N := 4) rfl ?_); refine box_event ?hg (N := 4) ?hd (cs := #[.bool false, .slice none 0 0]) (t := 24) ?hr ?_; (case hd => rfl); (case hg => rfl); (case hr => first | (go_simp; done) | (go_simp; rfl)); intro gb660 hg w7 hbox hb; have BK660 := Aside0.mk (hbox); have GW660 := Aside0.mk (bxLe HB.out hg); have GE660 := GW660; replace HB := Aside0.mk (below_step HB.out hb); have NB658_660 := Aside0.mk (neL BK658.out hg); have NB660_658 := Aside0.mk (neR BK658.out hg); replace BK658 := Aside0.mk (blk_below BK658.out hb); have NB659_660 := Aside0.mk (neL BK659.out hg); have NB660_659 := Aside0.mk (neR BK659.out hg); replace BK659 := Aside0.mk (blk_below BK659.out hb); clear hb hbox hg))
 replace BK658 := Aside0.mk (blk_drew BK658.out)
 replace BK659 := Aside0.mk (blk_drew BK659.out)
 replace BK660 := Aside0.mk (blk_drew BK660.out)
 replace HB := Aside0.mk (below_drew1 HB.out)
 refine start_ (n := 5) (S := fun w' => w'.cell? ⟨gb658, 0, none⟩ = some (.bool a0_0) ∧ w'.cell? ⟨gb658, 1, none⟩ = some (.slice A0_1 l0_1.length c0_1) ∧ w'.cell? ⟨gb659, 0, none⟩ = some (.bool a1_0) ∧ w'.cell? ⟨gb659, 1, none⟩ = some (.slice A1_1 l1_1.length c1_1)) (ds := []) #[false, false, false, false, false] (by kernel_rfl) rfl rfl ⟨bc0 BK658.out, bc1 BK658.out, bc0 BK659.out, bc1 BK659.out⟩ (fun hHeld => ?_)
 generalize w7.drew = w8 at BK658 BK659 BK660 HB hHeld ⊢
 refine take_ (i := 0) (N := some 5) (v := ?_) (a' := ?_) #[true, false, false, false, false] rfl rfl (by kernel_rfl) (fun _ _ _ h => h) (Or.inl ⟨by rfl, ?_⟩) hHeld ?_ ?_
 rotate_left
 ·rintro w' ⟨s0, s1, s2, s3⟩
  go_simp
  with_reducible rfl
 rotate_left
 ·simp only [Act.put, List.setIfInBounds_toArray, List.set_cons_zero, List.set_cons_succ, i64_w, i32_w]
  rfl
 refine take_ (i := 1) (N := some 6) (v := ?_) (a' := ?_) #[true, true, false, false, false] rfl rfl (by kernel_rfl) (fun _ _ _ h => h) (Or.inl ⟨by rfl, ?_⟩) hHeld ?_ ?_
 rotate_left
 ·rintro w' ⟨s0, s1, s2, s3⟩
  go_simp
  with_reducible rfl
 rotate_left
 ·simp only [Act.put, List.setIfInBounds_toArray, List.set_cons_zero, List.set_cons_succ, i64_w, i32_w]
  rfl
 refine one_ (i := 2) (N := some 7) #[true, true, true, false, false] rfl rfl (by kernel_rfl) (by decide) (fun K hK => ?_)
 refine goR Tryd.func18 [.agg #[.bool a1_0, .slice A1_1 l1_1.length c1_1]] ?_
 with_reducible refine (whole_Neg.calls a1_0 _ _ l1_1 t661 t662 _ ?side1 ?side2 A3.out).mono ?_
 (case side1 => exact (Kd.C_below HR1_1.out HB.out))
 (case side2 => exact HC1_1.out)
 rintro e w9 ⟨v663, rfl, ho0, hb⟩
 refine ⟨_, rfl, ?_⟩
 have HO664 := Aside0.mk (Kd.R_lower ho0 (below_size HB.out))
 replace BK658 := Aside0.mk (blk_below BK658.out hb)
 replace BK659 := Aside0.mk (blk_below BK659.out hb)
 replace BK660 := Aside0.mk (blk_below BK660.out hb)
 replace HB := Aside0.mk (below_step HB.out hb)
 (try clear hb)
 (try clear hb2)
 (try clear hk)
 (try clear hi)
 (try clear ho0)
 obtain ⟨Ao10, co10, eo10⟩ := Kd.R_slice HO664.out
 subst eo10
 refine hK.out _ _ ⟨bc0 BK658.out, bc1 BK658.out, bc0 BK659.out, bc1 BK659.out⟩ (fun hHeld => ?_)
 clear hK K
 refine norm_ (a' := ?_) ?_ ?_
 rotate_left
 ·show Act.put _ (some 7) _ = _
  simp only [Act.put, List.setIfInBounds_toArray, List.set_cons_zero, List.set_cons_succ, i64_w, i32_w]
  rfl
 refine one_ (i := 3) (N := some 8) #[true, true, true, true, false] rfl rfl (by kernel_rfl) (by decide) (fun K hK => ?_)
 refine goR Tryd.func20 [.agg #[.bool a0_0, .slice A0_1 l0_1.length c0_1], .agg #[.bool t661, .slice Ao10 t662.length co10]] ?_
 with_reducible refine (whole_Add.calls k a0_0 _ _ l0_1 t661 _ _ t662 t665 t666 _ ?side1 ?side2 ?side3 ?side4 A4.out).mono ?_
 (case side1 => exact (Kd.C_below HR0_1.out HB.out))
 (case side2 => exact HC0_1.out)
 (case side3 => exact (Kd.R_reads' HO664.out).2.2)
 (case side4 => exact (Kd.R_reads' HO664.out).2.1)
 rintro e w11 ⟨v667, rfl, ho0, hb⟩
 refine ⟨_, rfl, ?_⟩
 have HO668 := Aside0.mk (Kd.R_lower (Kd.R_new' ho0 (Kd.R_lt HO664.out)) (below_size HB.out))
 replace BK658 := Aside0.mk (blk_below BK658.out hb)
 replace BK659 := Aside0.mk (blk_below BK659.out hb)
 replace BK660 := Aside0.mk (blk_below BK660.out hb)
 replace HB := Aside0.mk (below_step HB.out hb)
 (try clear hb)
 (try clear hb2)
 (try clear hk)
 (try clear hi)
 (try clear ho0)
 obtain ⟨Ao13, co13, eo13⟩ := Kd.R_slice HO668.out
 subst eo13
 refine hK.out _ _ ⟨bc0 BK658.out, bc1 BK658.out, bc0 BK659.out, bc1 BK659.out⟩ (fun hHeld => ?_)
 clear hK K
 refine norm_ (a' := ?_) ?_ ?_
 rotate_left
 ·show Act.put _ (some 8) _ = _
  simp only [Act.put, List.setIfInBounds_toArray, List.set_cons_zero, List.set_cons_succ, i64_w, i32_w]
  rfl
 refine one_ (i := 4) (N := none) #[true, true, true, true, true] rfl rfl (by kernel_rfl) (by decide) (fun K hK => ?_)
 have hs12 : w11.cell? ⟨gb660, 0, none⟩ = some (.bool false) := bc0 BK660.out
 have hfs12 := blk_frozen BK660.out 0
 have hns12_0 := NB658_660.out
 have hns12_1 := NB659_660.out
 have hms12_0 := NB660_658.out
 have hms12_1 := NB660_659.out
 have hs14 : w11.cell? ⟨gb660, 1, none⟩ = some (.slice none 0 0) := bc1 BK660.out
 have hfs14 := blk_frozen BK660.out 1
 have hns14_0 := NB658_660.out
 have hns14_1 := NB659_660.out
 have hms14_0 := NB660_658.out
 have hms14_1 := NB660_659.out
 refine skip_ (w1 := ?_) (by rfl) rfl ?_ ?_
 rotate_left
 ·go_simp
  rfl
 refine hK.out _ _ ⟨((cell_far (p := ⟨gb660, _, none⟩) NB658_660.out _).trans (((cell_far (p := ⟨gb660, _, none⟩) NB658_660.out _).trans (hHeld.1)))), ((cell_far (p := ⟨gb660, _, none⟩) NB658_660.out _).trans (((cell_far (p := ⟨gb660, _, none⟩) NB658_660.out _).trans (hHeld.2.1)))), ((cell_far (p := ⟨gb660, _, none⟩) NB659_660.out _).trans (((cell_far (p := ⟨gb660, _, none⟩) NB659_660.out _).trans (hHeld.2.2.1)))), ((cell_far (p := ⟨gb660, _, none⟩) NB659_660.out _).trans (((cell_far (p := ⟨gb660, _, none⟩) NB659_660.out _).trans (hHeld.2.2.2))))⟩ (fun hHeld => ?_)
 clear hK K
 refine done_ (by kernel_rfl) ?_
 try go_wp2
 refine bodyPost_ret (results_cell_row rfl _ _ gb660 24 #[.bool t665, .slice Ao13 t666.length co13] (0, 0) _ rfl (by refine blk_put (cs := #[.bool t665, .slice none 0 0]) ?_ 1 _ rfl; refine blk_put (cs := #[.bool false, .slice none 0 0]) ?_ 0 _ rfl; exact BK660.out) Tryd.underlying24 rfl (by kernel_rfl)) rfl ?_
 exact ⟨_, rfl, Kd.R_mono (Kd.R_far (p := ⟨gb660, 1, none⟩) (Kd.R_far (p := ⟨gb660, 0, none⟩) (Kd.R_types HO668.out BK660.out (by decide)) (fun _ hk => hk.2) (.bool t665)) (fun _ hk => hk.2) (.slice Ao13 t666.length co13)) (fun _ hk => trivial), by repeat first | exact HB.out | refine bxSet ?_ (by assumption) | apply below_alloc | apply pw_below_drewN⟩

/-! ### gudgeonref02_Sub: function 23 -/
/-! ### whole_Mul: function 24 -/
def whole_Mul.f (k : Nat) (a0_0 : Bool) (l0_1 : List Int) (a1_0 : Bool) (l1_1 : List Int) : Option (Bool × List Int) := (nat_Mul.f k l0_1 l1_1).bind fun t683 => ((whole_made.f (a0_0 != a1_0) t683).bind fun bt686 => (some (bt686.1, bt686.2)))
def whole_Mul.T1 : Bool × List (List Nat × List Nat) := (true, [([], []), ([0], [0]), ([], []), ([2], [2]), ([1, 3], [1, 3]), ([], []), ([5], [5]), ([], []), ([7], [7]), ([6, 8], [6, 8]), ([4, 9, 9], [4, 9]), ([10, 10, 0, 1, 2, 3, 4, 5, 6, 7, 8, 9, 10], [10])])
def whole_Mul.B1 : List Nat := [0, 1, 0, 4, 15, 0, 32, 0, 128, 480, 1023, 2047]
theorem whole_Mul.tab1 : rtab .any (opsOf Tryd.f24 1) = whole_Mul.T1 := by kernel_rfl
theorem whole_Mul.bits1 : waitsOk whole_Mul.T1.2 whole_Mul.B1 = true := by kernel_rfl
set_option maxHeartbeats 8000000 in
set_option maxRecDepth 100000 in
theorem whole_Mul.calls (k : Nat) (a0_0 : Bool) (A0_1 : Option Addr) (c0_1 : Nat) (l0_1 : List Int) (a1_0 : Bool) (A1_1 : Option Addr) (c1_1 : Nat) (l1_1 : List Int) (r1 : Bool) (r2 : List Int) (w : World) (hr0_1 : Kd.C (Kd.int .u32) w A0_1 l0_1.length l0_1) (hc0_1 : l0_1.length ≤ c0_1) (hr1_1 : Kd.C (Kd.int .u32) w A1_1 l1_1.length l1_1) (hc1_1 : l1_1.length ≤ c1_1) (h : whole_Mul.f k a0_0 l0_1 a1_0 l1_1 = some (r1, r2)) :
  Calls Tryd.prog 24 #[.agg #[.bool a0_0, .slice A0_1 l0_1.length c0_1], .agg #[.bool a1_0, .slice A1_1 l1_1.length c1_1]] w fun e w' => ∃ v1_ : Value, e = .returned (.agg #[.bool r1, v1_]) ∧ Kd.R (Kd.int .u32) 51 w' w.heap.size (fun _ => True) v1_ r2 ∧ Below w.heap.size w w' := by
 have hu24 := Tryd.underlying24
 have HR0_1 := Aside0.mk hr0_1
 have HC0_1 := Aside0.mk hc0_1
 clear hr0_1 hc0_1
 have HR1_1 := Aside0.mk hr1_1
 have HC1_1 := Aside0.mk hc1_1
 clear hr1_1 hc1_1
 have HB := Aside0.mk (Below.refl w.heap.size w)
 have H : ((nat_Mul.f k l0_1 l1_1).bind fun t683 => ((whole_made.f (a0_0 != a1_0) t683).bind fun bt686 => (some (bt686.1, bt686.2)))) = some (r1, r2) := h
 clear h
 obtain ⟨t683, A30, H⟩ := Option.bind_eq_some_iff.mp H
 try dsimp only at H
 have A3 := Aside0.mk A30
 clear A30
 obtain ⟨⟨t686, t687⟩, A40, H⟩ := Option.bind_eq_some_iff.mp H
 try dsimp only at H
 have A4 := Aside0.mk A40
 clear A40
 simp only [Option.some.injEq, Prod.mk.injEq] at H
 obtain ⟨rfl, rfl⟩ := H
 go_enter Tryd.func24, Tryd.ntmps24
 try go_wp2_with (first | ((with_reducible refine gate_dst (N := 2) rfl ?_); refine box_event ?hg (N := 2) ?hd (cs := #[.bool a0_0, .slice A0_1 l0_1.length c0_1]) (t := 24) ?hr ?_; (case hd => rfl); (case hg => rfl); (case hr => first | (go_simp; done) | (go_simp; rfl)); intro gb680 hg w5 hbox hb; have BK680 := Aside0.mk (hbox); have GW680 := Aside0.mk (bxLe HB.out hg); have GE680 := GW680; replace HB := Aside0.mk (below_step HB.out hb); clear hb hbox hg) | ((with_reducible refine gate_dst (N := 3) rfl ?_); refine box_event ?hg (N := 3) ?hd (cs := #[.bool a1_0, .slice A1_1 l1_1.length c1_1]) (t := 24) ?hr ?_; (case hd => rfl); (case hg => rfl); (case hr => first | (go_simp; done) | (go_simp; rfl)); intro gb681 hg w6 hbox hb; have BK681 := Aside0.mk (hbox); have GW681 := Aside0.mk (bxLe HB.out hg); have GE681 := GW681; replace HB := Aside0.mk (below_step HB.out hb); have NB680_681 := Aside0.mk (neL BK680.out hg); have NB681_680 := Aside0.mk (neR BK680.out hg); replace BK680 := Aside0.mk (blk_below BK680.out hb); clear hb hbox hg) | ((with_reducible refine gate_dst (N := 4) rfl ?_); refine box_event ?hg (N := 4) ?hd (cs := #[.bool false, .slice none 0 0]) (t := 24) ?hr ?_; (case hd => rfl); (case hg => rfl); (case hr => first | (go_simp; done) | (go_simp; rfl)); intro gb682 hg w7 hbox hb; have BK682 := Aside0.mk (hbox); have GW682 := Aside0.mk (bxLe HB.out hg); have GE682 := GW682; replace HB := Aside0.mk (below_step HB.out hb); have NB680_682 := Aside0.mk (neL BK680.out hg); have NB682_680 := Aside0.mk (neR BK680.out hg); replace BK680 := Aside0.mk (blk_below BK680.out hb); have NB681_682 := Aside0.mk (neL BK681.out hg); have NB682_681 := Aside0.mk (neR BK681.out hg); replace BK681 := Aside0.mk (blk_below BK681.out hb); clear hb hbox hg))
 replace BK680 := Aside0.mk (blk_drew BK680.out)
 replace BK681 := Aside0.mk (blk_drew BK681.out)
 replace BK682 := Aside0.mk (blk_drew BK682.out)
 replace HB := Aside0.mk (below_drew1 HB.out)
 refine start_ (n := 12) (S := fun w' => w'.cell? ⟨gb680, 0, none⟩ = some (.bool a0_0) ∧ w'.cell? ⟨gb680, 1, none⟩ = some (.slice A0_1 l0_1.length c0_1) ∧ w'.cell? ⟨gb681, 0, none⟩ = some (.bool a1_0) ∧ w'.cell? ⟨gb681, 1, none⟩ = some (.slice A1_1 l1_1.length c1_1)) (ds := []) #[false, false, false, false, false, false, false, false, false, false, false, false] (by kernel_rfl) rfl rfl ⟨bc0 BK680.out, bc1 BK680.out, bc0 BK681.out, bc1 BK681.out⟩ (fun hHeld => ?_); refine with_tabW whole_Mul.tab1 whole_Mul.bits1 (fun HT_ HW_ => ?_)
 generalize w7.drew = w8 at BK680 BK681 BK682 HB hHeld ⊢
 refine pure_ (i := 0) (N := some 5) (v := ?_) (a' := ?_) #[true, false, false, false, false, false, false, false, false, false, false, false] rfl rfl (any_of HT_.out (by kernel_rfl)) (fun _ _ _ h => h) (Or.inl ⟨by rfl, ?_⟩) ?_ ?_
 rotate_left
 ·intro w'
  go_simp
  with_reducible rfl
 rotate_left
 ·simp only [Act.put, List.setIfInBounds_toArray, List.set_cons_zero, List.set_cons_succ, i64_w, i32_w]
  rfl
 refine pure_ (i := 2) (N := some 7) (v := ?_) (a' := ?_) #[true, false, true, false, false, false, false, false, false, false, false, false] rfl rfl (any_of HT_.out (by kernel_rfl)) (fun _ _ _ h => h) (Or.inl ⟨by rfl, ?_⟩) ?_ ?_
 rotate_left
 ·intro w'
  go_simp
  with_reducible rfl
 rotate_left
 ·simp only [Act.put, List.setIfInBounds_toArray, List.set_cons_zero, List.set_cons_succ, i64_w, i32_w]
  rfl
 refine pure_ (i := 5) (N := some 10) (v := ?_) (a' := ?_) #[true, false, true, false, false, true, false, false, false, false, false, false] rfl rfl (any_of HT_.out (by kernel_rfl)) (fun _ _ _ h => h) (Or.inl ⟨by rfl, ?_⟩) ?_ ?_
 rotate_left
 ·intro w'
  go_simp
  with_reducible rfl
 rotate_left
 ·simp only [Act.put, List.setIfInBounds_toArray, List.set_cons_zero, List.set_cons_succ, i64_w, i32_w]
  rfl
 refine pure_ (i := 7) (N := some 12) (v := ?_) (a' := ?_) #[true, false, true, false, false, true, false, true, false, false, false, false] rfl rfl (any_of HT_.out (by kernel_rfl)) (fun _ _ _ h => h) (Or.inl ⟨by rfl, ?_⟩) ?_ ?_
 rotate_left
 ·intro w'
  go_simp
  with_reducible rfl
 rotate_left
 ·simp only [Act.put, List.setIfInBounds_toArray, List.set_cons_zero, List.set_cons_succ, i64_w, i32_w]
  rfl
 refine take_ (i := 1) (N := some 6) (v := ?_) (a' := ?_) #[true, true, true, false, false, true, false, true, false, false, false, false] rfl rfl (take_ofW HT_.out HW_.out (by kernel_rfl)) (fun _ _ _ h => h) (Or.inl ⟨by rfl, ?_⟩) hHeld ?_ ?_
 rotate_left
 ·rintro w' ⟨s0, s1, s2, s3⟩
  go_simp
  with_reducible rfl
 rotate_left
 ·simp only [Act.put, List.setIfInBounds_toArray, List.set_cons_zero, List.set_cons_succ, i64_w, i32_w]
  rfl
 refine take_ (i := 3) (N := some 8) (v := ?_) (a' := ?_) #[true, true, true, true, false, true, false, true, false, false, false, false] rfl rfl (take_ofW HT_.out HW_.out (by kernel_rfl)) (fun _ _ _ h => h) (Or.inl ⟨by rfl, ?_⟩) hHeld ?_ ?_
 rotate_left
 ·rintro w' ⟨s0, s1, s2, s3⟩
  go_simp
  with_reducible rfl
 rotate_left
 ·simp only [Act.put, List.setIfInBounds_toArray, List.set_cons_zero, List.set_cons_succ, i64_w, i32_w]
  rfl
 refine pure_ (i := 4) (N := some 9) (v := ?_) (a' := ?_) #[true, true, true, true, true, true, false, true, false, false, false, false] rfl rfl (any_of HT_.out (by kernel_rfl)) (fun _ _ _ h => h) (Or.inl ⟨by rfl, ?_⟩) ?_ ?_
 rotate_left
 ·intro w'
  go_simp
  with_reducible rfl
 rotate_left
 ·simp only [Act.put, List.setIfInBounds_toArray, List.set_cons_zero, List.set_cons_succ, i64_w, i32_w]
  rfl
 refine take_ (i := 6) (N := some 11) (v := ?_) (a' := ?_) #[true, true, true, true, true, true, true, true, false, false, false, false] rfl rfl (take_ofW HT_.out HW_.out (by kernel_rfl)) (fun _ _ _ h => h) (Or.inl ⟨by rfl, ?_⟩) hHeld ?_ ?_
 rotate_left
 ·rintro w' ⟨s0, s1, s2, s3⟩
  go_simp
  with_reducible rfl
 rotate_left
 ·simp only [Act.put, List.setIfInBounds_toArray, List.set_cons_zero, List.set_cons_succ, i64_w, i32_w]
  rfl
 refine take_ (i := 8) (N := some 13) (v := ?_) (a' := ?_) #[true, true, true, true, true, true, true, true, true, false, false, false] rfl rfl (take_ofW HT_.out HW_.out (by kernel_rfl)) (fun _ _ _ h => h) (Or.inl ⟨by rfl, ?_⟩) hHeld ?_ ?_
 rotate_left
 ·rintro w' ⟨s0, s1, s2, s3⟩
  go_simp
  with_reducible rfl
 rotate_left
 ·simp only [Act.put, List.setIfInBounds_toArray, List.set_cons_zero, List.set_cons_succ, i64_w, i32_w]
  rfl
 refine one_ (i := 9) (N := some 14) #[true, true, true, true, true, true, true, true, true, true, false, false] rfl rfl (one_of HT_.out (by kernel_rfl)) (by decide) (fun K hK => ?_)
 refine goR Tryd.func49 [.slice A0_1 l0_1.length c0_1, .slice A1_1 l1_1.length c1_1] ?_
 with_reducible refine (nat_Mul.calls k _ _ l0_1 _ _ l1_1 t683 _ ?side1 ?side2 ?side3 ?side4 A3.out).mono ?_
 (case side1 => exact (Kd.C_below HR0_1.out HB.out))
 (case side2 => exact HC0_1.out)
 (case side3 => exact (Kd.C_below HR1_1.out HB.out))
 (case side4 => exact HC1_1.out)
 rintro e w9 ⟨v684, rfl, ho0, hb⟩
 refine ⟨_, rfl, ?_⟩
 have HO685 := Aside0.mk (Kd.R_lower ho0 (below_size HB.out))
 replace BK680 := Aside0.mk (blk_below BK680.out hb)
 replace BK681 := Aside0.mk (blk_below BK681.out hb)
 replace BK682 := Aside0.mk (blk_below BK682.out hb)
 replace HB := Aside0.mk (below_step HB.out hb)
 (try clear hb)
 (try clear hb2)
 (try clear hk)
 (try clear hi)
 (try clear ho0)
 obtain ⟨Ao10, co10, eo10⟩ := Kd.R_slice HO685.out
 subst eo10
 refine hK.out _ _ ⟨bc0 BK680.out, bc1 BK680.out, bc0 BK681.out, bc1 BK681.out⟩ (fun hHeld => ?_)
 clear hK K
 refine norm_ (a' := ?_) ?_ ?_
 rotate_left
 ·show Act.put _ (some 14) _ = _
  simp only [Act.put, List.setIfInBounds_toArray, List.set_cons_zero, List.set_cons_succ, i64_w, i32_w]
  rfl
 refine one_ (i := 10) (N := some 15) #[true, true, true, true, true, true, true, true, true, true, true, false] rfl rfl (one_of HT_.out (by kernel_rfl)) (by decide) (fun K hK => ?_)
 refine goR Tryd.func40 [.bool (a0_0 != a1_0), .slice Ao10 t683.length co10] ?_
 with_reducible refine (whole_made.calls (a0_0 != a1_0) _ _ t683 t686 t687 _ ?side1 ?side2 A4.out).mono ?_
 (case side1 => exact (Kd.R_reads' HO685.out).2.2)
 (case side2 => exact (Kd.R_reads' HO685.out).2.1)
 rintro e w11 ⟨v688, rfl, ho0, hb⟩
 refine ⟨_, rfl, ?_⟩
 have HO689 := Aside0.mk (Kd.R_lower (Kd.R_new' ho0 (Kd.R_lt HO685.out)) (below_size HB.out))
 replace BK680 := Aside0.mk (blk_below BK680.out hb)
 replace BK681 := Aside0.mk (blk_below BK681.out hb)
 replace BK682 := Aside0.mk (blk_below BK682.out hb)
 replace HB := Aside0.mk (below_step HB.out hb)
 (try clear hb)
 (try clear hb2)
 (try clear hk)
 (try clear hi)
 (try clear ho0)
 obtain ⟨Ao13, co13, eo13⟩ := Kd.R_slice HO689.out
 subst eo13
 refine hK.out _ _ ⟨bc0 BK680.out, bc1 BK680.out, bc0 BK681.out, bc1 BK681.out⟩ (fun hHeld => ?_)
 clear hK K
 refine norm_ (a' := ?_) ?_ ?_
 rotate_left
 ·show Act.put _ (some 15) _ = _
  simp only [Act.put, List.setIfInBounds_toArray, List.set_cons_zero, List.set_cons_succ, i64_w, i32_w]
  rfl
 refine one_ (i := 11) (N := none) #[true, true, true, true, true, true, true, true, true, true, true, true] rfl rfl (one_of HT_.out (by kernel_rfl)) (by decide) (fun K hK => ?_)
 have hs12 : w11.cell? ⟨gb682, 0, none⟩ = some (.bool false) := bc0 BK682.out
 have hfs12 := blk_frozen BK682.out 0
 have hns12_0 := NB680_682.out
 have hns12_1 := NB681_682.out
 have hms12_0 := NB682_680.out
 have hms12_1 := NB682_681.out
 have hs14 : w11.cell? ⟨gb682, 1, none⟩ = some (.slice none 0 0) := bc1 BK682.out
 have hfs14 := blk_frozen BK682.out 1
 have hns14_0 := NB680_682.out
 have hns14_1 := NB681_682.out
 have hms14_0 := NB682_680.out
 have hms14_1 := NB682_681.out
 refine skip_ (w1 := ?_) (by rfl) rfl ?_ ?_
 rotate_left
 ·go_simp
  rfl
 refine hK.out _ _ ⟨((cell_far (p := ⟨gb682, _, none⟩) NB680_682.out _).trans (((cell_far (p := ⟨gb682, _, none⟩) NB680_682.out _).trans (hHeld.1)))), ((cell_far (p := ⟨gb682, _, none⟩) NB680_682.out _).trans (((cell_far (p := ⟨gb682, _, none⟩) NB680_682.out _).trans (hHeld.2.1)))), ((cell_far (p := ⟨gb682, _, none⟩) NB681_682.out _).trans (((cell_far (p := ⟨gb682, _, none⟩) NB681_682.out _).trans (hHeld.2.2.1)))), ((cell_far (p := ⟨gb682, _, none⟩) NB681_682.out _).trans (((cell_far (p := ⟨gb682, _, none⟩) NB681_682.out _).trans (hHeld.2.2.2))))⟩ (fun hHeld => ?_)
 clear hK K
 refine done_ (done_of HT_.out (by kernel_rfl)) ?_
 try go_wp2
 refine bodyPost_ret (results_cell_row rfl _ _ gb682 24 #[.bool t686, .slice Ao13 t687.length co13] (0, 0) _ rfl (by refine blk_put (cs := #[.bool t686, .slice none 0 0]) ?_ 1 _ rfl; refine blk_put (cs := #[.bool false, .slice none 0 0]) ?_ 0 _ rfl; exact BK682.out) Tryd.underlying24 rfl (by kernel_rfl)) rfl ?_
 exact ⟨_, rfl, Kd.R_mono (Kd.R_far (p := ⟨gb682, 1, none⟩) (Kd.R_far (p := ⟨gb682, 0, none⟩) (Kd.R_types HO689.out BK682.out (by decide)) (fun _ hk => hk.2) (.bool t686)) (fun _ hk => hk.2) (.slice Ao13 t687.length co13)) (fun _ hk => trivial), by repeat first | exact HB.out | refine bxSet ?_ (by assumption) | apply below_alloc | apply pw_below_drewN⟩

end Go.Proofs.YthnfmmaolkenkaaDoor.PA
/- Written by a program of this session, wip/tools/patch_print.py, over the kit's print of the loaded functions. -/
namespace Go.Proofs.YthnfmmaolkenkaaDoor.H
end Go.Proofs.YthnfmmaolkenkaaDoor.H
namespace Go.Proofs.YthnfmmaolkenkaaDoor.PA
open Go.RowKit Go.Proofs.YthnfmmaolkenkaaDoorW.PrintWords Go.Proofs.YthnfmmaolkenkaaDoorW.PrintLast Go.Proofs.YthnfmmaolkenkaaDoorW.PrintMore Go.Proofs.YthnfmmaolkenkaaDoor.H
attribute [local go_sem] max2_int min2_int max_two min_two max_three min_three max_four min_four   -- for this text's walks alone
attribute [local go_sem] box_twice
set_option linter.unusedVariables false
set_option linter.unusedSimpArgs false

/-! ### gudgeonref01_mul: function 74 -/
/-! ### gudgeonref01_Mul: function 50 -/
/-! ### gudgeonref02_Mul: function 25 -/
/-! ### whole_Cmp: function 26 -/
def whole_Cmp.f (k : Nat) (a0_0 : Bool) (l0_1 : List Int) (a1_0 : Bool) (l1_1 : List Int) : Option (Int) := (whole_Sub.f k a0_0 l0_1 a1_0 l1_1).bind fun bt727 => ((whole_Sign.f bt727.1 bt727.2).bind fun t731 => (some t731))
set_option maxHeartbeats 8000000 in
set_option maxRecDepth 100000 in
theorem whole_Cmp.calls (k : Nat) (a0_0 : Bool) (A0_1 : Option Addr) (c0_1 : Nat) (l0_1 : List Int) (a1_0 : Bool) (A1_1 : Option Addr) (c1_1 : Nat) (l1_1 : List Int) (r : Int) (w : World) (hr0_1 : Kd.C (Kd.int .u32) w A0_1 l0_1.length l0_1) (hc0_1 : l0_1.length ≤ c0_1) (hr1_1 : Kd.C (Kd.int .u32) w A1_1 l1_1.length l1_1) (hc1_1 : l1_1.length ≤ c1_1) (h : whole_Cmp.f k a0_0 l0_1 a1_0 l1_1 = some r) :
  Calls Tryd.prog 26 #[.agg #[.bool a0_0, .slice A0_1 l0_1.length c0_1], .agg #[.bool a1_0, .slice A1_1 l1_1.length c1_1]] w fun e w' => e = .returned (.int .i64 r) ∧ Below w.heap.size w w' := by
 have hu24 := Tryd.underlying24
 have HR0_1 := Aside0.mk hr0_1
 have HC0_1 := Aside0.mk hc0_1
 clear hr0_1 hc0_1
 have HR1_1 := Aside0.mk hr1_1
 have HC1_1 := Aside0.mk hc1_1
 clear hr1_1 hc1_1
 have HB := Aside0.mk (Below.refl w.heap.size w)
 have H : ((whole_Sub.f k a0_0 l0_1 a1_0 l1_1).bind fun bt727 => ((whole_Sign.f bt727.1 bt727.2).bind fun t731 => (some t731))) = some r := h
 clear h
 replace H := Option.bind_eq_some_iff.mp H
 obtain ⟨⟨t727, t728⟩, A30, H⟩ := H
 replace H : ((whole_Sign.f t727 t728).bind fun t731 => (some t731)) = some r := H
 have A3 := Aside0.mk A30
 clear A30
 replace H := Option.bind_eq_some_iff.mp H
 obtain ⟨t731, A40, H⟩ := H
 replace H : (some t731) = some r := H
 have A4 := Aside0.mk A40
 clear A40
 obtain rfl := Option.some.inj H
 go_enter Tryd.func26, Tryd.ntmps26
 go_wp2_with (first | ((with_reducible refine gate_dst (N := 2) rfl ?_); refine box_event ?hg (N := 2) ?hd (cs := #[.bool a0_0, .slice A0_1 l0_1.length c0_1]) (t := 24) ?hr ?_; (case hd => rfl); (case hg => rfl); (case hr => first | (go_simp; done) | (go_simp; rfl)); intro gb725 hg w5 hbox hb; have BK725 := Aside0.mk (hbox); have GW725 := Aside0.mk (bxLe HB.out hg); have GE725 := GW725; replace HB := Aside0.mk (below_step HB.out hb); clear hb hbox hg) | ((with_reducible refine gate_dst (N := 3) rfl ?_); refine box_event ?hg (N := 3) ?hd (cs := #[.bool a1_0, .slice A1_1 l1_1.length c1_1]) (t := 24) ?hr ?_; (case hd => rfl); (case hg => rfl); (case hr => first | (go_simp; done) | (go_simp; rfl)); intro gb726 hg w6 hbox hb; have BK726 := Aside0.mk (hbox); have GW726 := Aside0.mk (bxLe HB.out hg); have GE726 := GW726; replace HB := Aside0.mk (below_step HB.out hb); have NB725_726 := Aside0.mk (neL BK725.out hg); have NB726_725 := Aside0.mk (neR BK725.out hg); replace BK725 := Aside0.mk (blk_below BK725.out hb); clear hb hbox hg; have hnb7 := NB725_726.out; have hnc7 := NB726_725.out; have hcz8_0 := bc0 BK725.out; have hcz8_1 := bc1 BK725.out; have hfz8_0 := blk_frozen BK725.out 0; have hfz8_1 := blk_frozen BK725.out 1; have hcz9_0 := bc0 BK726.out; have hcz9_1 := bc1 BK726.out; have hfz9_0 := blk_frozen BK726.out 0; have hfz9_1 := blk_frozen BK726.out 1) | ((with_reducible refine gate_callee (f := 22) rfl ?_); refine goL (some 7) Tryd.func22 [.agg #[.bool a0_0, .slice A0_1 l0_1.length c0_1], .agg #[.bool a1_0, .slice A1_1 l1_1.length c1_1]] ?_; (with_reducible refine (whole_Sub.calls k a0_0 _ _ l0_1 a1_0 _ _ l1_1 t727 t728 _ ?side1 ?side2 ?side3 ?side4 A3.out).mono ?_); (case side1 => exact (Kd.C_below HR0_1.out HB.out)); (case side2 => exact HC0_1.out); (case side3 => exact (Kd.C_below HR1_1.out HB.out)); (case side4 => exact HC1_1.out); rintro e w10 ⟨v729, rfl, ho0, hb⟩; refine ⟨_, rfl, ?_⟩; have HO730 := Aside0.mk (Kd.R_lower ho0 (below_size HB.out)); replace BK725 := Aside0.mk (blk_below BK725.out hb); replace BK726 := Aside0.mk (blk_below BK726.out hb); replace HB := Aside0.mk (below_step HB.out hb); obtain ⟨Ao11, co11, eo11⟩ := Kd.R_slice HO730.out; subst eo11) | ((with_reducible refine gate_callee (f := 28) rfl ?_); refine goL (some 8) Tryd.func28 [.agg #[.bool t727, .slice Ao11 t728.length co11]] ?_; (with_reducible refine (whole_Sign.calls t727 _ _ t728 t731 _ ?side1 ?side2 A4.out).mono ?_); (case side1 => exact (Kd.R_reads' HO730.out).2.2); (case side2 => exact (Kd.R_reads' HO730.out).2.1); rintro e w12 ⟨rfl, hb⟩; refine ⟨_, rfl, ?_⟩; replace HO730 := Aside0.mk (Kd.R_below HO730.out hb); replace BK725 := Aside0.mk (blk_below BK725.out hb); replace BK726 := Aside0.mk (blk_below BK726.out hb); replace HB := Aside0.mk (below_step HB.out hb); (try clear hb); (try clear hb2); (try clear hk); (try clear hi)))
 go_ret
 exact ⟨by first | rfl | (simp [errW_none, errW_some] <;> rfl) | (refine congrArg (fun z_ => Ending.returned (Value.bool z_)) (decide_eq_decide.mpr ?_); unfold wrap64; omega) | (simp [*, errW_none, errW_some] <;> rfl), by repeat (first | (with_reducible first | exact HB.out | apply below_alloc | apply pw_below_drewN | apply below_drew1 | refine below_set ?_ GE725.out | refine below_set ?_ GE726.out) | exact HB.out)⟩

/-! ### gudgeonref02_Sign: function 29 -/
/-! ### gudgeonref02_Cmp: function 27 -/
end Go.Proofs.YthnfmmaolkenkaaDoor.PA
/- Written by a program of this session, wip/tools/patch_print.py, over the kit's print of the loaded functions. -/
namespace Go.Proofs.YthnfmmaolkenkaaDoor.H
end Go.Proofs.YthnfmmaolkenkaaDoor.H
namespace Go.Proofs.YthnfmmaolkenkaaDoor.PA
open Go.RowKit Go.Proofs.YthnfmmaolkenkaaDoorW.PrintWords Go.Proofs.YthnfmmaolkenkaaDoorW.PrintLast Go.Proofs.YthnfmmaolkenkaaDoorW.PrintMore Go.Proofs.YthnfmmaolkenkaaDoor.H
attribute [local go_sem] max2_int min2_int max_two min_two max_three min_three max_four min_four   -- for this text's walks alone
attribute [local go_sem] box_twice
set_option linter.unusedVariables false
set_option linter.unusedSimpArgs false

/-! ### gudgeonlaw02_WholeOrder: function 6 -/
def gudgeonlaw02_WholeOrder.j0 : Nat → Bool → Bool → Bool → List Int → Bool → List Int → Bool → List Int → Option (Bool)
 | 0, _, _, _, _, _, _, _, _ => none
 | k + 1, x7, x29, x1062000, x1062001, x1063000, x1063001, x1064000, x1064001 => if x29 = true then (some x7) else ((whole_Add.f k x1062000 x1062001 x1063000 x1063001).bind fun bt1066 => ((whole_Add.f k bt1066.1 bt1066.2 x1064000 x1064001).bind fun bt1070 => ((whole_Add.f k x1064000 x1064001 x1062000 x1062001).bind fun bt1074 => ((whole_Add.f k x1063000 x1063001 bt1074.1 bt1074.2).bind fun bt1078 => ((gudgeonref02_Same.f k bt1070.1 bt1070.2 bt1078.1 bt1078.2).bind fun t1082 => ((whole_Mul.f k x1062000 x1062001 x1063000 x1063001).bind fun bt1083 => ((whole_Mul.f k bt1083.1 bt1083.2 x1064000 x1064001).bind fun bt1087 => ((whole_Mul.f k x1064000 x1064001 x1062000 x1062001).bind fun bt1091 => ((whole_Mul.f k x1063000 x1063001 bt1091.1 bt1091.2).bind fun bt1095 => ((gudgeonref02_Same.f k bt1087.1 bt1087.2 bt1095.1 bt1095.2).bind fun t1099 => ((whole_Sub.f k x1063000 x1063001 x1064000 x1064001).bind fun bt1100 => ((whole_Mul.f k x1062000 x1062001 bt1100.1 bt1100.2).bind fun bt1104 => ((whole_Mul.f k x1062000 x1062001 x1063000 x1063001).bind fun bt1108 => ((whole_Mul.f k x1062000 x1062001 x1064000 x1064001).bind fun bt1112 => ((whole_Sub.f k bt1108.1 bt1108.2 bt1112.1 bt1112.2).bind fun bt1116 => ((gudgeonref02_Same.f k bt1104.1 bt1104.2 bt1116.1 bt1116.2).bind fun t1120 => ((whole_Add.f k x1062000 x1062001 x1063000 x1063001).bind fun bt1121 => ((whole_Sub.f k bt1121.1 bt1121.2 x1063000 x1063001).bind fun bt1125 => ((whole_Norm.f x1062000 x1062001).bind fun bt1129 => ((gudgeonref02_Same.f k bt1125.1 bt1125.2 bt1129.1 bt1129.2).bind fun t1133 => ((whole_Sub.f k x1062000 x1062001 x1062000 x1062001).bind fun bt1134 => (if t1082 = true then (if t1099 = true then (if t1120 = true then (if t1133 = true then (if bt1134.1 = true then (some false) else (if (bt1134.2.length : Int) = 0 then ((whole_Cmp.f k x1062000 x1062001 x1063000 x1063001).bind fun t1139 => ((whole_Cmp.f k x1063000 x1063001 x1062000 x1062001).bind fun t1140 => (some (t1139 == (wrap64 (-t1140)))))) else (some false))) else (none)) else (none)) else (none)) else (none)))))))))))))))))))))))
def gudgeonlaw02_WholeOrder.f (k : Nat) (a0_0 : Bool) (l0_1 : List Int) (a1_0 : Bool) (l1_1 : List Int) (a2_0 : Bool) (l2_1 : List Int) : Option (Bool) := (gudgeonlaw02_awake.f k).bind fun t1064 => ((gudgeonlaw02_few.f a0_0 l0_1 a1_0 l1_1 40).bind fun t1065 => (if t1064 = true then (if t1065 = true then (gudgeonlaw02_WholeOrder.j0 k t1064 (decide ((l2_1.length : Int) > 40)) a0_0 l0_1 a1_0 l1_1 a2_0 l2_1) else (gudgeonlaw02_WholeOrder.j0 k t1064 true a0_0 l0_1 a1_0 l1_1 a2_0 l2_1)) else (gudgeonlaw02_WholeOrder.j0 k t1064 true a0_0 l0_1 a1_0 l1_1 a2_0 l2_1)))
def gudgeonlaw02_WholeOrder.T5 : Bool × List (List Nat × List Nat) := (true, [([], []), ([], []), ([0, 1], [0, 1]), ([], []), ([2, 3, 2], [2, 3]), ([], []), ([], []), ([], []), ([6, 7, 4], [6, 7]), ([5, 8, 8], [5, 8]), ([4, 9, 9], [4, 9]), ([10, 10, 0, 1, 2, 3, 4, 5, 6, 7, 8, 9, 10], [10])])
def gudgeonlaw02_WholeOrder.B5 : List Nat := [0, 0, 3, 0, 15, 0, 0, 0, 223, 511, 1023, 2047]
theorem gudgeonlaw02_WholeOrder.tab5 : rtab .any (opsOf Tryd.f6 5) = gudgeonlaw02_WholeOrder.T5 := by kernel_rfl
theorem gudgeonlaw02_WholeOrder.bits5 : waitsOk gudgeonlaw02_WholeOrder.T5.2 gudgeonlaw02_WholeOrder.B5 = true := by kernel_rfl
def gudgeonlaw02_WholeOrder.T6 : Bool × List (List Nat × List Nat) := (true, [([], []), ([], []), ([0, 1], [0, 1]), ([], []), ([2, 3, 2], [2, 3]), ([], []), ([], []), ([], []), ([6, 7, 4], [6, 7]), ([5, 8, 8], [5, 8]), ([4, 9, 9], [4, 9]), ([10, 10, 0, 1, 2, 3, 4, 5, 6, 7, 8, 9, 10], [10])])
def gudgeonlaw02_WholeOrder.B6 : List Nat := [0, 0, 3, 0, 15, 0, 0, 0, 223, 511, 1023, 2047]
theorem gudgeonlaw02_WholeOrder.tab6 : rtab .any (opsOf Tryd.f6 6) = gudgeonlaw02_WholeOrder.T6 := by kernel_rfl
theorem gudgeonlaw02_WholeOrder.bits6 : waitsOk gudgeonlaw02_WholeOrder.T6.2 gudgeonlaw02_WholeOrder.B6 = true := by kernel_rfl
def gudgeonlaw02_WholeOrder.T7 : Bool × List (List Nat × List Nat) := (true, [([], []), ([], []), ([], []), ([1, 2], [1, 2]), ([0, 3, 3], [0, 3]), ([], []), ([], []), ([5, 6, 4], [5, 6]), ([], []), ([], []), ([8, 9, 7], [8, 9]), ([7, 10, 10], [7, 10]), ([4, 11, 11], [4, 11]), ([12, 12, 0, 1, 2, 3, 4, 5, 6, 7, 8, 9, 10, 11, 12], [12])])
def gudgeonlaw02_WholeOrder.B7 : List Nat := [0, 0, 0, 6, 15, 0, 0, 127, 0, 0, 1023, 2047, 4095, 8191]
theorem gudgeonlaw02_WholeOrder.tab7 : rtab .any (opsOf Tryd.f6 7) = gudgeonlaw02_WholeOrder.T7 := by kernel_rfl
theorem gudgeonlaw02_WholeOrder.bits7 : waitsOk gudgeonlaw02_WholeOrder.T7.2 gudgeonlaw02_WholeOrder.B7 = true := by kernel_rfl
def gudgeonlaw02_WholeOrder.T8 : Bool × List (List Nat × List Nat) := (true, [([], []), ([], []), ([0, 1], [0, 1]), ([], []), ([2, 3, 2], [2, 3]), ([], []), ([5, 4], [5]), ([4, 6, 6], [4, 6]), ([7, 7, 0, 1, 2, 3, 4, 5, 6, 7], [7])])
def gudgeonlaw02_WholeOrder.B8 : List Nat := [0, 0, 3, 0, 15, 0, 63, 127, 255]
theorem gudgeonlaw02_WholeOrder.tab8 : rtab .any (opsOf Tryd.f6 8) = gudgeonlaw02_WholeOrder.T8 := by kernel_rfl
theorem gudgeonlaw02_WholeOrder.bits8 : waitsOk gudgeonlaw02_WholeOrder.T8.2 gudgeonlaw02_WholeOrder.B8 = true := by kernel_rfl
def gudgeonlaw02_WholeOrder.T10 : Bool × List (List Nat × List Nat) := (true, [([], []), ([0], [0]), ([1], [1]), ([1, 2], [1, 2]), ([3, 1], [3]), ([4], [4]), ([4, 5], [4, 5]), ([6, 4], [6]), ([7], [7]), ([7, 8], [7, 8]), ([9, 7], [9]), ([10], [10]), ([11, 10], [10, 11]), ([12, 10], [10, 12]), ([10, 13], [10, 13]), ([14, 10], [14]), ([15], [15]), ([16, 15], [15, 16]), ([17, 15], [15, 17]), ([18, 15], [15, 18]), ([15, 19], [15, 19]), ([20, 15], [20]), ([21], [21]), ([21], [21]), ([22, 23, 21, 21], [21, 22, 23]), ([21], [21]), ([21], [21]), ([25, 26, 24, 21], [21, 25, 26]), ([27, 21], [21, 27]), ([24, 28, 21], [21, 24, 28]), ([21, 29], [21, 29]), ([30, 27, 0, 1, 2, 3, 4, 5, 6, 7, 8, 9, 10, 11, 12, 13, 14, 15, 16, 17, 18, 19, 20, 21, 22, 23, 24, 25, 26, 27, 28, 29, 30], [30])])
def gudgeonlaw02_WholeOrder.B10 : List Nat := [0, 1, 3, 7, 15, 31, 63, 127, 255, 511, 1023, 2047, 4095, 8191, 16383, 32767, 65535, 131071, 262143, 524287, 1048575, 2097151, 4194303, 4194303, 16777215, 4194303, 4194303, 134217727, 268435455, 536870911, 1073741823, 2147483647]
theorem gudgeonlaw02_WholeOrder.tab10 : rtab .any (opsOf Tryd.f6 10) = gudgeonlaw02_WholeOrder.T10 := by kernel_rfl
theorem gudgeonlaw02_WholeOrder.bits10 : waitsOk gudgeonlaw02_WholeOrder.T10.2 gudgeonlaw02_WholeOrder.B10 = true := by kernel_rfl
set_option maxHeartbeats 8000000 in
set_option maxRecDepth 100000 in
theorem gudgeonlaw02_WholeOrder.calls (k : Nat) (a0_0 : Bool) (A0_1 : Option Addr) (c0_1 : Nat) (l0_1 : List Int) (a1_0 : Bool) (A1_1 : Option Addr) (c1_1 : Nat) (l1_1 : List Int) (a2_0 : Bool) (A2_1 : Option Addr) (c2_1 : Nat) (l2_1 : List Int) (r : Bool) (w : World) (hr0_1 : Kd.C (Kd.int .u32) w A0_1 l0_1.length l0_1) (hc0_1 : l0_1.length ≤ c0_1) (hr1_1 : Kd.C (Kd.int .u32) w A1_1 l1_1.length l1_1) (hc1_1 : l1_1.length ≤ c1_1) (hr2_1 : Kd.C (Kd.int .u32) w A2_1 l2_1.length l2_1) (hc2_1 : l2_1.length ≤ c2_1) (h : gudgeonlaw02_WholeOrder.f k a0_0 l0_1 a1_0 l1_1 a2_0 l2_1 = some r) :
  Calls Tryd.prog 6 #[.agg #[.bool a0_0, .slice A0_1 l0_1.length c0_1], .agg #[.bool a1_0, .slice A1_1 l1_1.length c1_1], .agg #[.bool a2_0, .slice A2_1 l2_1.length c2_1]] w fun e w' => e = .returned (.bool r) ∧ Below w.heap.size w w' := by
 have hu24 := Tryd.underlying24
 have HR0_1 := Aside0.mk hr0_1
 have HC0_1 := Aside0.mk hc0_1
 clear hr0_1 hc0_1
 have HR1_1 := Aside0.mk hr1_1
 have HC1_1 := Aside0.mk hc1_1
 clear hr1_1 hc1_1
 have HR2_1 := Aside0.mk hr2_1
 have HC2_1 := Aside0.mk hc2_1
 clear hr2_1 hc2_1
 have HB := Aside0.mk (Below.refl w.heap.size w)
 have H : ((gudgeonlaw02_awake.f k).bind fun t1064 => ((gudgeonlaw02_few.f a0_0 l0_1 a1_0 l1_1 40).bind fun t1065 => (if t1064 = true then (if t1065 = true then (gudgeonlaw02_WholeOrder.j0 k t1064 (decide ((l2_1.length : Int) > 40)) a0_0 l0_1 a1_0 l1_1 a2_0 l2_1) else (gudgeonlaw02_WholeOrder.j0 k t1064 true a0_0 l0_1 a1_0 l1_1 a2_0 l2_1)) else (gudgeonlaw02_WholeOrder.j0 k t1064 true a0_0 l0_1 a1_0 l1_1 a2_0 l2_1)))) = some r := h
 clear h
 obtain ⟨t1064, A40, H⟩ := Option.bind_eq_some_iff.mp H
 try dsimp only at H
 have A4 := Aside0.mk A40
 clear A40
 obtain ⟨t1065, A50, H⟩ := Option.bind_eq_some_iff.mp H
 try dsimp only at H
 have A5 := Aside0.mk A50
 clear A50
 have HC6 := Aside0.mk H
 clear H
 go_enter Tryd.func6, Tryd.ntmps6
 go_upto_region 3 with (first | ((with_reducible refine gate_dst (N := 3) rfl ?_); (try (refine gate_guard (by rfl) ?_; dsimp only)); refine box_event ?hg (N := 3) ?hd (cs := #[.bool a0_0, .slice A0_1 l0_1.length c0_1]) (t := 24) ?hr ?_; (case hd => rfl); (case hg => rfl); (case hr => first | (go_simp; done) | (go_simp; rfl)); intro gb1061 hg w7 hbox hb; have BK1061 := Aside0.mk (hbox); have GW1061 := Aside0.mk (bxLe HB.out hg); have GE1061 := GW1061; replace HB := Aside0.mk (below_step HB.out hb); clear hb hbox hg) | ((with_reducible refine gate_dst (N := 4) rfl ?_); (try (refine gate_guard (by rfl) ?_; dsimp only)); refine box_event ?hg (N := 4) ?hd (cs := #[.bool a1_0, .slice A1_1 l1_1.length c1_1]) (t := 24) ?hr ?_; (case hd => rfl); (case hg => rfl); (case hr => first | (go_simp; done) | (go_simp; rfl)); intro gb1062 hg w8 hbox hb; have BK1062 := Aside0.mk (hbox); have GW1062 := Aside0.mk (bxLe HB.out hg); have GE1062 := GW1062; replace HB := Aside0.mk (below_step HB.out hb); have NB1061_1062 := Aside0.mk (neL BK1061.out hg); have NB1062_1061 := Aside0.mk (neR BK1061.out hg); replace BK1061 := Aside0.mk (blk_below BK1061.out hb); clear hb hbox hg) | ((with_reducible refine gate_dst (N := 5) rfl ?_); (try (refine gate_guard (by rfl) ?_; dsimp only)); refine box_event ?hg (N := 5) ?hd (cs := #[.bool a2_0, .slice A2_1 l2_1.length c2_1]) (t := 24) ?hr ?_; (case hd => rfl); (case hg => rfl); (case hr => first | (go_simp; done) | (go_simp; rfl)); intro gb1063 hg w9 hbox hb; have BK1063 := Aside0.mk (hbox); have GW1063 := Aside0.mk (bxLe HB.out hg); have GE1063 := GW1063; replace HB := Aside0.mk (below_step HB.out hb); have NB1061_1063 := Aside0.mk (neL BK1061.out hg); have NB1063_1061 := Aside0.mk (neR BK1061.out hg); replace BK1061 := Aside0.mk (blk_below BK1061.out hb); have NB1062_1063 := Aside0.mk (neL BK1062.out hg); have NB1063_1062 := Aside0.mk (neR BK1062.out hg); replace BK1062 := Aside0.mk (blk_below BK1062.out hb); clear hb hbox hg) | ((with_reducible refine gate_callee (f := 9) rfl ?_); refine goL (some 14) Tryd.func9 [] ?_; (with_reducible refine (gudgeonlaw02_awake.calls k  t1064 _ A4.out).mono ?_); rintro e w10 ⟨rfl, hb⟩; refine ⟨_, rfl, ?_⟩; replace BK1061 := Aside0.mk (blk_below BK1061.out hb); replace BK1062 := Aside0.mk (blk_below BK1062.out hb); replace BK1063 := Aside0.mk (blk_below BK1063.out hb); replace HB := Aside0.mk (below_step HB.out hb); (try clear hb); (try clear hb2); (try clear hk); (try clear hi); have hnb11 := NB1061_1062.out; have hnc11 := NB1062_1061.out; have hnb12 := NB1061_1063.out; have hnc12 := NB1063_1061.out; have hcz13_0 : w10.cell? ⟨gb1061, 0, none⟩ = some (.bool a0_0) := bc0 BK1061.out; have hcz13_1 : w10.cell? ⟨gb1061, 1, none⟩ = some (.slice A0_1 l0_1.length c0_1) := bc1 BK1061.out; have hfz13_0 := blk_frozen BK1061.out 0; have hfz13_1 := blk_frozen BK1061.out 1; have hnb14 := NB1062_1063.out; have hnc14 := NB1063_1062.out; have hcz15_0 : w10.cell? ⟨gb1062, 0, none⟩ = some (.bool a1_0) := bc0 BK1062.out; have hcz15_1 : w10.cell? ⟨gb1062, 1, none⟩ = some (.slice A1_1 l1_1.length c1_1) := bc1 BK1062.out; have hfz15_0 := blk_frozen BK1062.out 0; have hfz15_1 := blk_frozen BK1062.out 1) | ((with_reducible refine gate_callee (f := 10) rfl ?_); refine goL (some 17) Tryd.func10 [.agg #[.bool a0_0, .slice A0_1 l0_1.length c0_1], .agg #[.bool a1_0, .slice A1_1 l1_1.length c1_1], .int .i64 40] ?_; (with_reducible refine (gudgeonlaw02_few.calls a0_0 _ _ l0_1 a1_0 _ _ l1_1 40 t1065 _ ?side1 ?side2 ?side3 ?side4 A5.out).mono ?_); (case side1 => exact (Kd.C_below HR0_1.out HB.out)); (case side2 => exact HC0_1.out); (case side3 => exact (Kd.C_below HR1_1.out HB.out)); (case side4 => exact HC1_1.out); rintro e w16 ⟨rfl, hb⟩; refine ⟨_, rfl, ?_⟩; replace BK1061 := Aside0.mk (blk_below BK1061.out hb); replace BK1062 := Aside0.mk (blk_below BK1062.out hb); replace BK1063 := Aside0.mk (blk_below BK1063.out hb); replace HB := Aside0.mk (below_step HB.out hb); (try clear hb); (try clear hb2); (try clear hk); (try clear hi)))
 (try simp only [Act.put, List.setIfInBounds_toArray, List.set_cons_zero, List.set_cons_succ])
 go_cut [29] (fun v29 wc => ∃ (kq : Nat) (x29_5 : Bool), v29 = .bool x29_5 ∧ Aside0 (gudgeonlaw02_WholeOrder.j0 kq t1064 x29_5 a0_0 l0_1 a1_0 l1_1 a2_0 l2_1 = some r) ∧ Aside0 (kq ≤ k) ∧ Aside0 (wc.heap[gb1061]? = some (.cells #[.bool a0_0, (.slice A0_1 l0_1.length c0_1)] 24 (0, 0))) ∧ Aside0 (wc.heap[gb1062]? = some (.cells #[.bool a1_0, (.slice A1_1 l1_1.length c1_1)] 24 (0, 0))) ∧ Aside0 (wc.heap[gb1063]? = some (.cells #[.bool a2_0, (.slice A2_1 l2_1.length c2_1)] 24 (0, 0))) ∧ Aside0 (Below w.heap.size w wc))
 case first =>
  have H := HC6.out
  clear HC6
  by_cases c17 : t1064 = true
  ·subst c17
   rw [if_pos rfl] at H
   by_cases c18 : t1065 = true
   ·subst c18
    rw [if_pos rfl] at H
    have H' := Aside0.mk H
    clear H
    have hnb19 := NB1063_1061.out
    have hnc19 := NB1061_1063.out
    have hnb20 := NB1063_1062.out
    have hnc20 := NB1062_1063.out
    have hcz21_0 : w16.cell? ⟨gb1063, 0, none⟩ = some (.bool a2_0) := bc0 BK1063.out
    have hcz21_1 : w16.cell? ⟨gb1063, 1, none⟩ = some (.slice A2_1 l2_1.length c2_1) := bc1 BK1063.out
    have hfz21_0 := blk_frozen BK1063.out 0
    have hfz21_1 := blk_frozen BK1063.out 1
    go_wp2
    go_meet
    case rel => exact ⟨_, (decide ((l2_1.length : Int) > 40)), (by first | rfl | (simp; done)), H', ⟨by first | omega | exact Nat.le_refl _⟩, ⟨BK1061.out⟩, ⟨BK1062.out⟩, ⟨BK1063.out⟩, ⟨HB.out⟩⟩
   ·replace c18 := Bool.eq_false_iff.mpr c18
    subst c18
    rw [if_neg (show ¬ (false = true) by decide)] at H
    have H' := Aside0.mk H
    clear H
    go_wp2
    go_meet
    case rel => exact ⟨_, (true), (by first | rfl | (simp; done)), H', ⟨by first | omega | exact Nat.le_refl _⟩, ⟨BK1061.out⟩, ⟨BK1062.out⟩, ⟨BK1063.out⟩, ⟨HB.out⟩⟩
  ·replace c17 := Bool.eq_false_iff.mpr c17
   subst c17
   rw [if_neg (show ¬ (false = true) by decide)] at H
   have H' := Aside0.mk H
   clear H
   go_wp2
   go_meet
   case rel => exact ⟨_, (true), (by first | rfl | (simp; done)), H', ⟨by first | omega | exact Nat.le_refl _⟩, ⟨BK1061.out⟩, ⟨BK1062.out⟩, ⟨BK1063.out⟩, ⟨HB.out⟩⟩
 case rest =>
  clear HC6
  try clear c1
  try clear c2
  try clear p2
  try clear c6
  try clear c9
  try clear c10
  try clear c11
  try clear c12
  try clear c14
  try clear c17
  try clear c18
  try clear c19
  try clear c20
  try clear hcz13_0
  try clear hcz13_1
  try clear hcz15_0
  try clear hcz15_1
  try clear hcz21_0
  try clear hcz21_1
  try clear hfz13_0
  try clear hfz13_1
  try clear hfz15_0
  try clear hfz15_1
  try clear hfz21_0
  try clear hfz21_1
  obtain ⟨kq, x29_5, rfl, HA, HJ5, BK1061, BK1062, BK1063, HB⟩ := hcut
  cases kq with
  | zero => exact absurd HA.out (by simp [gudgeonlaw02_WholeOrder.j0])
  | succ kj5 =>
   have H := HA.out
   clear HA
   simp only [gudgeonlaw02_WholeOrder.j0] at H
   by_cases c22 : x29_5 = true
   ·subst c22
    rw [if_pos rfl] at H
    obtain rfl := Option.some.inj H
    go_wp2
    go_ret
    exact ⟨by first | rfl | (simp [errW_none, errW_some] <;> rfl) | (refine congrArg (fun z_ => Ending.returned (Value.bool z_)) (decide_eq_decide.mpr ?_); unfold wrap64; omega) | (simp [*, errW_none, errW_some] <;> rfl), HB.out⟩
   ·replace c22 := Bool.eq_false_iff.mpr c22
    subst c22
    rw [if_neg (show ¬ (false = true) by decide)] at H
    obtain ⟨⟨t1066, t1067⟩, A230, H⟩ := Option.bind_eq_some_iff.mp H
    try dsimp only at H
    have A23 := Aside0.mk A230
    clear A230
    obtain ⟨⟨t1070, t1071⟩, A240, H⟩ := Option.bind_eq_some_iff.mp H
    try dsimp only at H
    have A24 := Aside0.mk A240
    clear A240
    obtain ⟨⟨t1074, t1075⟩, A250, H⟩ := Option.bind_eq_some_iff.mp H
    try dsimp only at H
    have A25 := Aside0.mk A250
    clear A250
    obtain ⟨⟨t1078, t1079⟩, A260, H⟩ := Option.bind_eq_some_iff.mp H
    try dsimp only at H
    have A26 := Aside0.mk A260
    clear A260
    obtain ⟨t1082, A270, H⟩ := Option.bind_eq_some_iff.mp H
    try dsimp only at H
    have A27 := Aside0.mk A270
    clear A270
    obtain ⟨⟨t1083, t1084⟩, A280, H⟩ := Option.bind_eq_some_iff.mp H
    try dsimp only at H
    have A28 := Aside0.mk A280
    clear A280
    obtain ⟨⟨t1087, t1088⟩, A290, H⟩ := Option.bind_eq_some_iff.mp H
    try dsimp only at H
    have A29 := Aside0.mk A290
    clear A290
    obtain ⟨⟨t1091, t1092⟩, A300, H⟩ := Option.bind_eq_some_iff.mp H
    try dsimp only at H
    have A30 := Aside0.mk A300
    clear A300
    obtain ⟨⟨t1095, t1096⟩, A310, H⟩ := Option.bind_eq_some_iff.mp H
    try dsimp only at H
    have A31 := Aside0.mk A310
    clear A310
    obtain ⟨t1099, A320, H⟩ := Option.bind_eq_some_iff.mp H
    try dsimp only at H
    have A32 := Aside0.mk A320
    clear A320
    obtain ⟨⟨t1100, t1101⟩, A330, H⟩ := Option.bind_eq_some_iff.mp H
    try dsimp only at H
    have A33 := Aside0.mk A330
    clear A330
    obtain ⟨⟨t1104, t1105⟩, A340, H⟩ := Option.bind_eq_some_iff.mp H
    try dsimp only at H
    have A34 := Aside0.mk A340
    clear A340
    obtain ⟨⟨t1108, t1109⟩, A350, H⟩ := Option.bind_eq_some_iff.mp H
    try dsimp only at H
    have A35 := Aside0.mk A350
    clear A350
    obtain ⟨⟨t1112, t1113⟩, A360, H⟩ := Option.bind_eq_some_iff.mp H
    try dsimp only at H
    have A36 := Aside0.mk A360
    clear A360
    obtain ⟨⟨t1116, t1117⟩, A370, H⟩ := Option.bind_eq_some_iff.mp H
    try dsimp only at H
    have A37 := Aside0.mk A370
    clear A370
    obtain ⟨t1120, A380, H⟩ := Option.bind_eq_some_iff.mp H
    try dsimp only at H
    have A38 := Aside0.mk A380
    clear A380
    obtain ⟨⟨t1121, t1122⟩, A390, H⟩ := Option.bind_eq_some_iff.mp H
    try dsimp only at H
    have A39 := Aside0.mk A390
    clear A390
    obtain ⟨⟨t1125, t1126⟩, A400, H⟩ := Option.bind_eq_some_iff.mp H
    try dsimp only at H
    have A40 := Aside0.mk A400
    clear A400
    obtain ⟨⟨t1129, t1130⟩, A410, H⟩ := Option.bind_eq_some_iff.mp H
    try dsimp only at H
    have A41 := Aside0.mk A410
    clear A410
    obtain ⟨t1133, A420, H⟩ := Option.bind_eq_some_iff.mp H
    try dsimp only at H
    have A42 := Aside0.mk A420
    clear A420
    obtain ⟨⟨t1134, t1135⟩, A430, H⟩ := Option.bind_eq_some_iff.mp H
    try dsimp only at H
    have A43 := Aside0.mk A430
    clear A430
    by_cases c44 : t1082 = true
    ·subst c44
     rw [if_pos rfl] at H
     by_cases c45 : t1099 = true
     ·subst c45
      rw [if_pos rfl] at H
      by_cases c46 : t1120 = true
      ·subst c46
       rw [if_pos rfl] at H
       by_cases c47 : t1133 = true
       ·subst c47
        rw [if_pos rfl] at H
        try go_wp2
        replace BK1061 := Aside0.mk (blk_drew BK1061.out)
        replace BK1062 := Aside0.mk (blk_drew BK1062.out)
        replace BK1063 := Aside0.mk (blk_drew BK1063.out)
        replace HB := Aside0.mk (below_drew1 HB.out)
        refine start_ (n := 12) (S := fun w' => w'.cell? ⟨gb1061, 0, none⟩ = some (.bool a0_0) ∧ w'.cell? ⟨gb1061, 1, none⟩ = some (.slice A0_1 l0_1.length c0_1) ∧ w'.cell? ⟨gb1062, 0, none⟩ = some (.bool a1_0) ∧ w'.cell? ⟨gb1062, 1, none⟩ = some (.slice A1_1 l1_1.length c1_1) ∧ w'.cell? ⟨gb1063, 0, none⟩ = some (.bool a2_0) ∧ w'.cell? ⟨gb1063, 1, none⟩ = some (.slice A2_1 l2_1.length c2_1)) (ds := []) #[false, false, false, false, false, false, false, false, false, false, false, false] (by kernel_rfl) rfl rfl ⟨bc0 BK1061.out, bc1 BK1061.out, bc0 BK1062.out, bc1 BK1062.out, bc0 BK1063.out, bc1 BK1063.out⟩ (fun hHeld => ?_); refine with_tabW gudgeonlaw02_WholeOrder.tab5 gudgeonlaw02_WholeOrder.bits5 (fun HT_ HW_ => ?_)
        generalize wc.drew = w49 at BK1061 BK1062 BK1063 HB hHeld ⊢
        refine take_ (i := 0) (N := some 31) (v := ?_) (a' := ?_) #[true, false, false, false, false, false, false, false, false, false, false, false] rfl rfl (take_ofW HT_.out HW_.out (by kernel_rfl)) (fun _ _ _ h => h) (Or.inl ⟨by rfl, ?_⟩) hHeld ?_ ?_
        rotate_left
        ·rintro w' ⟨s0, s1, s2, s3, s4, s5⟩
         go_simp
         with_reducible rfl
        rotate_left
        ·simp only [Act.put, List.setIfInBounds_toArray, List.set_cons_zero, List.set_cons_succ, i64_w, i32_w]
         rfl
        refine take_ (i := 1) (N := some 32) (v := ?_) (a' := ?_) #[true, true, false, false, false, false, false, false, false, false, false, false] rfl rfl (take_ofW HT_.out HW_.out (by kernel_rfl)) (fun _ _ _ h => h) (Or.inl ⟨by rfl, ?_⟩) hHeld ?_ ?_
        rotate_left
        ·rintro w' ⟨s0, s1, s2, s3, s4, s5⟩
         go_simp
         with_reducible rfl
        rotate_left
        ·simp only [Act.put, List.setIfInBounds_toArray, List.set_cons_zero, List.set_cons_succ, i64_w, i32_w]
         rfl
        refine take_ (i := 3) (N := some 34) (v := ?_) (a' := ?_) #[true, true, false, true, false, false, false, false, false, false, false, false] rfl rfl (take_ofW HT_.out HW_.out (by kernel_rfl)) (fun _ _ _ h => h) (Or.inl ⟨by rfl, ?_⟩) hHeld ?_ ?_
        rotate_left
        ·rintro w' ⟨s0, s1, s2, s3, s4, s5⟩
         go_simp
         with_reducible rfl
        rotate_left
        ·simp only [Act.put, List.setIfInBounds_toArray, List.set_cons_zero, List.set_cons_succ, i64_w, i32_w]
         rfl
        refine take_ (i := 5) (N := some 36) (v := ?_) (a' := ?_) #[true, true, false, true, false, true, false, false, false, false, false, false] rfl rfl (take_ofW HT_.out HW_.out (by kernel_rfl)) (fun _ _ _ h => h) (Or.inl ⟨by rfl, ?_⟩) hHeld ?_ ?_
        rotate_left
        ·rintro w' ⟨s0, s1, s2, s3, s4, s5⟩
         go_simp
         with_reducible rfl
        rotate_left
        ·simp only [Act.put, List.setIfInBounds_toArray, List.set_cons_zero, List.set_cons_succ, i64_w, i32_w]
         rfl
        refine take_ (i := 6) (N := some 37) (v := ?_) (a' := ?_) #[true, true, false, true, false, true, true, false, false, false, false, false] rfl rfl (take_ofW HT_.out HW_.out (by kernel_rfl)) (fun _ _ _ h => h) (Or.inl ⟨by rfl, ?_⟩) hHeld ?_ ?_
        rotate_left
        ·rintro w' ⟨s0, s1, s2, s3, s4, s5⟩
         go_simp
         with_reducible rfl
        rotate_left
        ·simp only [Act.put, List.setIfInBounds_toArray, List.set_cons_zero, List.set_cons_succ, i64_w, i32_w]
         rfl
        refine take_ (i := 7) (N := some 38) (v := ?_) (a' := ?_) #[true, true, false, true, false, true, true, true, false, false, false, false] rfl rfl (take_ofW HT_.out HW_.out (by kernel_rfl)) (fun _ _ _ h => h) (Or.inl ⟨by rfl, ?_⟩) hHeld ?_ ?_
        rotate_left
        ·rintro w' ⟨s0, s1, s2, s3, s4, s5⟩
         go_simp
         with_reducible rfl
        rotate_left
        ·simp only [Act.put, List.setIfInBounds_toArray, List.set_cons_zero, List.set_cons_succ, i64_w, i32_w]
         rfl
        refine one_ (i := 2) (N := some 33) #[true, true, true, true, false, true, true, true, false, false, false, false] rfl rfl (one_of HT_.out (by kernel_rfl)) (by decide) (fun K hK => ?_)
        refine goR Tryd.func20 [.agg #[.bool a0_0, .slice A0_1 l0_1.length c0_1], .agg #[.bool a1_0, .slice A1_1 l1_1.length c1_1]] ?_
        with_reducible refine (whole_Add.calls kj5 a0_0 _ _ l0_1 a1_0 _ _ l1_1 t1066 t1067 _ ?side1 ?side2 ?side3 ?side4 A23.out).mono ?_
        (case side1 => exact (Kd.C_below HR0_1.out HB.out))
        (case side2 => exact HC0_1.out)
        (case side3 => exact (Kd.C_below HR1_1.out HB.out))
        (case side4 => exact HC1_1.out)
        rintro e w50 ⟨v1068, rfl, ho0, hb⟩
        refine ⟨_, rfl, ?_⟩
        have HO1069 := Aside0.mk (Kd.R_lower ho0 (below_size HB.out))
        replace BK1061 := Aside0.mk (blk_below BK1061.out hb)
        replace BK1062 := Aside0.mk (blk_below BK1062.out hb)
        replace BK1063 := Aside0.mk (blk_below BK1063.out hb)
        replace HB := Aside0.mk (below_step HB.out hb)
        (try clear hb)
        (try clear hb2)
        (try clear hk)
        (try clear hi)
        (try clear ho0)
        obtain ⟨Ao51, co51, eo51⟩ := Kd.R_slice HO1069.out
        subst eo51
        refine hK.out _ _ ⟨bc0 BK1061.out, bc1 BK1061.out, bc0 BK1062.out, bc1 BK1062.out, bc0 BK1063.out, bc1 BK1063.out⟩ (fun hHeld => ?_)
        clear hK K
        refine norm_ (a' := ?_) ?_ ?_
        rotate_left
        ·show Act.put _ (some 33) _ = _
         simp only [Act.put, List.setIfInBounds_toArray, List.set_cons_zero, List.set_cons_succ, i64_w, i32_w]
         rfl
        refine one_ (i := 4) (N := some 35) #[true, true, true, true, true, true, true, true, false, false, false, false] rfl rfl (one_of HT_.out (by kernel_rfl)) (by decide) (fun K hK => ?_)
        refine goR Tryd.func20 [.agg #[.bool t1066, .slice Ao51 t1067.length co51], .agg #[.bool a2_0, .slice A2_1 l2_1.length c2_1]] ?_
        with_reducible refine (whole_Add.calls kj5 t1066 _ _ t1067 a2_0 _ _ l2_1 t1070 t1071 _ ?side1 ?side2 ?side3 ?side4 A24.out).mono ?_
        (case side1 => exact (Kd.R_reads' HO1069.out).2.2)
        (case side2 => exact (Kd.R_reads' HO1069.out).2.1)
        (case side3 => exact (Kd.C_below HR2_1.out HB.out))
        (case side4 => exact HC2_1.out)
        rintro e w52 ⟨v1072, rfl, ho0, hb⟩
        refine ⟨_, rfl, ?_⟩
        have HO1073 := Aside0.mk (Kd.R_lower (Kd.R_new' ho0 (Kd.R_lt HO1069.out)) (below_size HB.out))
        replace HO1069 := Aside0.mk (Kd.R_elder' HO1069.out (Kd.R_base ho0) hb)
        replace BK1061 := Aside0.mk (blk_below BK1061.out hb)
        replace BK1062 := Aside0.mk (blk_below BK1062.out hb)
        replace BK1063 := Aside0.mk (blk_below BK1063.out hb)
        replace HB := Aside0.mk (below_step HB.out hb)
        (try clear hb)
        (try clear hb2)
        (try clear hk)
        (try clear hi)
        (try clear ho0)
        refine hK.out _ _ ⟨bc0 BK1061.out, bc1 BK1061.out, bc0 BK1062.out, bc1 BK1062.out, bc0 BK1063.out, bc1 BK1063.out⟩ (fun hHeld => ?_)
        clear hK K
        refine norm_ (a' := ?_) ?_ ?_
        rotate_left
        ·show Act.put _ (some 35) _ = _
         simp only [Act.put, List.setIfInBounds_toArray, List.set_cons_zero, List.set_cons_succ, i64_w, i32_w]
         rfl
        refine one_ (i := 8) (N := some 39) #[true, true, true, true, true, true, true, true, true, false, false, false] rfl rfl (one_of HT_.out (by kernel_rfl)) (by decide) (fun K hK => ?_)
        refine goR Tryd.func20 [.agg #[.bool a2_0, .slice A2_1 l2_1.length c2_1], .agg #[.bool a0_0, .slice A0_1 l0_1.length c0_1]] ?_
        with_reducible refine (whole_Add.calls kj5 a2_0 _ _ l2_1 a0_0 _ _ l0_1 t1074 t1075 _ ?side1 ?side2 ?side3 ?side4 A25.out).mono ?_
        (case side1 => exact (Kd.C_below HR2_1.out HB.out))
        (case side2 => exact HC2_1.out)
        (case side3 => exact (Kd.C_below HR0_1.out HB.out))
        (case side4 => exact HC0_1.out)
        rintro e w53 ⟨v1076, rfl, ho0, hb⟩
        refine ⟨_, rfl, ?_⟩
        have HO1077 := Aside0.mk (Kd.R_lower (Kd.R_new' (Kd.R_new' ho0 (Kd.R_lt HO1069.out)) (Kd.R_lt HO1073.out)) (below_size HB.out))
        replace HO1069 := Aside0.mk (Kd.R_elder' HO1069.out (Kd.R_base ho0) hb)
        replace HO1073 := Aside0.mk (Kd.R_elder' HO1073.out (Kd.R_base ho0) hb)
        replace BK1061 := Aside0.mk (blk_below BK1061.out hb)
        replace BK1062 := Aside0.mk (blk_below BK1062.out hb)
        replace BK1063 := Aside0.mk (blk_below BK1063.out hb)
        replace HB := Aside0.mk (below_step HB.out hb)
        (try clear hb)
        (try clear hb2)
        (try clear hk)
        (try clear hi)
        (try clear ho0)
        obtain ⟨Ao54, co54, eo54⟩ := Kd.R_slice HO1077.out
        subst eo54
        refine hK.out _ _ ⟨bc0 BK1061.out, bc1 BK1061.out, bc0 BK1062.out, bc1 BK1062.out, bc0 BK1063.out, bc1 BK1063.out⟩ (fun hHeld => ?_)
        clear hK K
        refine norm_ (a' := ?_) ?_ ?_
        rotate_left
        ·show Act.put _ (some 39) _ = _
         simp only [Act.put, List.setIfInBounds_toArray, List.set_cons_zero, List.set_cons_succ, i64_w, i32_w]
         rfl
        refine one_ (i := 9) (N := some 40) #[true, true, true, true, true, true, true, true, true, true, false, false] rfl rfl (one_of HT_.out (by kernel_rfl)) (by decide) (fun K hK => ?_)
        refine goR Tryd.func20 [.agg #[.bool a1_0, .slice A1_1 l1_1.length c1_1], .agg #[.bool t1074, .slice Ao54 t1075.length co54]] ?_
        with_reducible refine (whole_Add.calls kj5 a1_0 _ _ l1_1 t1074 _ _ t1075 t1078 t1079 _ ?side1 ?side2 ?side3 ?side4 A26.out).mono ?_
        (case side1 => exact (Kd.C_below HR1_1.out HB.out))
        (case side2 => exact HC1_1.out)
        (case side3 => exact (Kd.R_reads' HO1077.out).2.2)
        (case side4 => exact (Kd.R_reads' HO1077.out).2.1)
        rintro e w55 ⟨v1080, rfl, ho0, hb⟩
        refine ⟨_, rfl, ?_⟩
        have HO1081 := Aside0.mk (Kd.R_lower (Kd.R_new' (Kd.R_new' (Kd.R_new' ho0 (Kd.R_lt HO1069.out)) (Kd.R_lt HO1073.out)) (Kd.R_lt HO1077.out)) (below_size HB.out))
        replace HO1069 := Aside0.mk (Kd.R_elder' HO1069.out (Kd.R_base ho0) hb)
        replace HO1073 := Aside0.mk (Kd.R_elder' HO1073.out (Kd.R_base ho0) hb)
        replace HO1077 := Aside0.mk (Kd.R_elder' HO1077.out (Kd.R_base ho0) hb)
        replace BK1061 := Aside0.mk (blk_below BK1061.out hb)
        replace BK1062 := Aside0.mk (blk_below BK1062.out hb)
        replace BK1063 := Aside0.mk (blk_below BK1063.out hb)
        replace HB := Aside0.mk (below_step HB.out hb)
        (try clear hb)
        (try clear hb2)
        (try clear hk)
        (try clear hi)
        (try clear ho0)
        obtain ⟨Ao56, co56, eo56⟩ := Kd.R_slice HO1073.out
        subst eo56
        obtain ⟨Ao57, co57, eo57⟩ := Kd.R_slice HO1081.out
        subst eo57
        refine hK.out _ _ ⟨bc0 BK1061.out, bc1 BK1061.out, bc0 BK1062.out, bc1 BK1062.out, bc0 BK1063.out, bc1 BK1063.out⟩ (fun hHeld => ?_)
        clear hK K
        refine norm_ (a' := ?_) ?_ ?_
        rotate_left
        ·show Act.put _ (some 40) _ = _
         simp only [Act.put, List.setIfInBounds_toArray, List.set_cons_zero, List.set_cons_succ, i64_w, i32_w]
         rfl
        refine one_ (i := 10) (N := some 41) #[true, true, true, true, true, true, true, true, true, true, true, false] rfl rfl (one_of HT_.out (by kernel_rfl)) (by decide) (fun K hK => ?_)
        refine goR Tryd.func15 [.agg #[.bool t1070, .slice Ao56 t1071.length co56], .agg #[.bool t1078, .slice Ao57 t1079.length co57]] ?_
        with_reducible refine (gudgeonref02_Same.calls kj5 t1070 _ _ t1071 t1078 _ _ t1079 true _ ?side1 ?side2 ?side3 ?side4 A27.out).mono ?_
        (case side1 => exact (Kd.R_reads' HO1073.out).2.2)
        (case side2 => exact (Kd.R_reads' HO1073.out).2.1)
        (case side3 => exact (Kd.R_reads' HO1081.out).2.2)
        (case side4 => exact (Kd.R_reads' HO1081.out).2.1)
        rintro e w58 ⟨rfl, hb⟩
        refine ⟨_, rfl, ?_⟩
        replace HO1069 := Aside0.mk (Kd.R_below HO1069.out hb)
        replace HO1073 := Aside0.mk (Kd.R_below HO1073.out hb)
        replace HO1077 := Aside0.mk (Kd.R_below HO1077.out hb)
        replace HO1081 := Aside0.mk (Kd.R_below HO1081.out hb)
        replace BK1061 := Aside0.mk (blk_below BK1061.out hb)
        replace BK1062 := Aside0.mk (blk_below BK1062.out hb)
        replace BK1063 := Aside0.mk (blk_below BK1063.out hb)
        replace HB := Aside0.mk (below_step HB.out hb)
        (try clear hb)
        (try clear hb2)
        (try clear hk)
        (try clear hi)
        refine hK.out _ _ ⟨bc0 BK1061.out, bc1 BK1061.out, bc0 BK1062.out, bc1 BK1062.out, bc0 BK1063.out, bc1 BK1063.out⟩ (fun hHeld => ?_)
        clear hK K
        refine norm_ (a' := ?_) ?_ ?_
        rotate_left
        ·show Act.put _ (some 41) _ = _
         simp only [Act.put, List.setIfInBounds_toArray, List.set_cons_zero, List.set_cons_succ, i64_w, i32_w]
         rfl
        refine pure_ (i := 11) (N := some 9) (v := ?_) (a' := ?_) #[true, true, true, true, true, true, true, true, true, true, true, true] rfl rfl (any_of HT_.out (by kernel_rfl)) (fun _ _ _ h => h) (Or.inl ⟨by rfl, ?_⟩) ?_ ?_
        rotate_left
        ·intro w'
         go_simp
         with_reducible rfl
        rotate_left
        ·simp only [Act.put, List.setIfInBounds_toArray, List.set_cons_zero, List.set_cons_succ, i64_w, i32_w]
         rfl
        refine done_ (done_of HT_.out (by kernel_rfl)) ?_
        try go_wp2
        replace HO1069 := Aside0.mk (Kd.R_drew HO1069.out)
        replace HO1073 := Aside0.mk (Kd.R_drew HO1073.out)
        replace HO1077 := Aside0.mk (Kd.R_drew HO1077.out)
        replace HO1081 := Aside0.mk (Kd.R_drew HO1081.out)
        replace BK1061 := Aside0.mk (blk_drew BK1061.out)
        replace BK1062 := Aside0.mk (blk_drew BK1062.out)
        replace BK1063 := Aside0.mk (blk_drew BK1063.out)
        replace HB := Aside0.mk (below_drew1 HB.out)
        refine start_ (n := 12) (S := fun w' => w'.cell? ⟨gb1061, 0, none⟩ = some (.bool a0_0) ∧ w'.cell? ⟨gb1061, 1, none⟩ = some (.slice A0_1 l0_1.length c0_1) ∧ w'.cell? ⟨gb1062, 0, none⟩ = some (.bool a1_0) ∧ w'.cell? ⟨gb1062, 1, none⟩ = some (.slice A1_1 l1_1.length c1_1) ∧ w'.cell? ⟨gb1063, 0, none⟩ = some (.bool a2_0) ∧ w'.cell? ⟨gb1063, 1, none⟩ = some (.slice A2_1 l2_1.length c2_1)) (ds := []) #[false, false, false, false, false, false, false, false, false, false, false, false] (by kernel_rfl) rfl rfl ⟨bc0 BK1061.out, bc1 BK1061.out, bc0 BK1062.out, bc1 BK1062.out, bc0 BK1063.out, bc1 BK1063.out⟩ (fun hHeld => ?_); refine with_tabW gudgeonlaw02_WholeOrder.tab6 gudgeonlaw02_WholeOrder.bits6 (fun HT_ HW_ => ?_)
        generalize w58.drew = w59 at HO1069 HO1073 HO1077 HO1081 BK1061 BK1062 BK1063 HB hHeld ⊢
        refine take_ (i := 0) (N := some 42) (v := ?_) (a' := ?_) #[true, false, false, false, false, false, false, false, false, false, false, false] rfl rfl (take_ofW HT_.out HW_.out (by kernel_rfl)) (fun _ _ _ h => h) (Or.inl ⟨by rfl, ?_⟩) hHeld ?_ ?_
        rotate_left
        ·rintro w' ⟨s0, s1, s2, s3, s4, s5⟩
         go_simp
         with_reducible rfl
        rotate_left
        ·simp only [Act.put, List.setIfInBounds_toArray, List.set_cons_zero, List.set_cons_succ, i64_w, i32_w]
         rfl
        refine take_ (i := 1) (N := some 43) (v := ?_) (a' := ?_) #[true, true, false, false, false, false, false, false, false, false, false, false] rfl rfl (take_ofW HT_.out HW_.out (by kernel_rfl)) (fun _ _ _ h => h) (Or.inl ⟨by rfl, ?_⟩) hHeld ?_ ?_
        rotate_left
        ·rintro w' ⟨s0, s1, s2, s3, s4, s5⟩
         go_simp
         with_reducible rfl
        rotate_left
        ·simp only [Act.put, List.setIfInBounds_toArray, List.set_cons_zero, List.set_cons_succ, i64_w, i32_w]
         rfl
        refine take_ (i := 3) (N := some 45) (v := ?_) (a' := ?_) #[true, true, false, true, false, false, false, false, false, false, false, false] rfl rfl (take_ofW HT_.out HW_.out (by kernel_rfl)) (fun _ _ _ h => h) (Or.inl ⟨by rfl, ?_⟩) hHeld ?_ ?_
        rotate_left
        ·rintro w' ⟨s0, s1, s2, s3, s4, s5⟩
         go_simp
         with_reducible rfl
        rotate_left
        ·simp only [Act.put, List.setIfInBounds_toArray, List.set_cons_zero, List.set_cons_succ, i64_w, i32_w]
         rfl
        refine take_ (i := 5) (N := some 47) (v := ?_) (a' := ?_) #[true, true, false, true, false, true, false, false, false, false, false, false] rfl rfl (take_ofW HT_.out HW_.out (by kernel_rfl)) (fun _ _ _ h => h) (Or.inl ⟨by rfl, ?_⟩) hHeld ?_ ?_
        rotate_left
        ·rintro w' ⟨s0, s1, s2, s3, s4, s5⟩
         go_simp
         with_reducible rfl
        rotate_left
        ·simp only [Act.put, List.setIfInBounds_toArray, List.set_cons_zero, List.set_cons_succ, i64_w, i32_w]
         rfl
        refine take_ (i := 6) (N := some 48) (v := ?_) (a' := ?_) #[true, true, false, true, false, true, true, false, false, false, false, false] rfl rfl (take_ofW HT_.out HW_.out (by kernel_rfl)) (fun _ _ _ h => h) (Or.inl ⟨by rfl, ?_⟩) hHeld ?_ ?_
        rotate_left
        ·rintro w' ⟨s0, s1, s2, s3, s4, s5⟩
         go_simp
         with_reducible rfl
        rotate_left
        ·simp only [Act.put, List.setIfInBounds_toArray, List.set_cons_zero, List.set_cons_succ, i64_w, i32_w]
         rfl
        refine take_ (i := 7) (N := some 49) (v := ?_) (a' := ?_) #[true, true, false, true, false, true, true, true, false, false, false, false] rfl rfl (take_ofW HT_.out HW_.out (by kernel_rfl)) (fun _ _ _ h => h) (Or.inl ⟨by rfl, ?_⟩) hHeld ?_ ?_
        rotate_left
        ·rintro w' ⟨s0, s1, s2, s3, s4, s5⟩
         go_simp
         with_reducible rfl
        rotate_left
        ·simp only [Act.put, List.setIfInBounds_toArray, List.set_cons_zero, List.set_cons_succ, i64_w, i32_w]
         rfl
        refine one_ (i := 2) (N := some 44) #[true, true, true, true, false, true, true, true, false, false, false, false] rfl rfl (one_of HT_.out (by kernel_rfl)) (by decide) (fun K hK => ?_)
        refine goR Tryd.func24 [.agg #[.bool a0_0, .slice A0_1 l0_1.length c0_1], .agg #[.bool a1_0, .slice A1_1 l1_1.length c1_1]] ?_
        with_reducible refine (whole_Mul.calls kj5 a0_0 _ _ l0_1 a1_0 _ _ l1_1 t1083 t1084 _ ?side1 ?side2 ?side3 ?side4 A28.out).mono ?_
        (case side1 => exact (Kd.C_below HR0_1.out HB.out))
        (case side2 => exact HC0_1.out)
        (case side3 => exact (Kd.C_below HR1_1.out HB.out))
        (case side4 => exact HC1_1.out)
        rintro e w60 ⟨v1085, rfl, ho0, hb⟩
        refine ⟨_, rfl, ?_⟩
        have HO1086 := Aside0.mk (Kd.R_lower (Kd.R_new' (Kd.R_new' (Kd.R_new' (Kd.R_new' ho0 (Kd.R_lt HO1069.out)) (Kd.R_lt HO1073.out)) (Kd.R_lt HO1077.out)) (Kd.R_lt HO1081.out)) (below_size HB.out))
        replace HO1069 := Aside0.mk (Kd.R_elder' HO1069.out (Kd.R_base ho0) hb)
        replace HO1073 := Aside0.mk (Kd.R_elder' HO1073.out (Kd.R_base ho0) hb)
        replace HO1077 := Aside0.mk (Kd.R_elder' HO1077.out (Kd.R_base ho0) hb)
        replace HO1081 := Aside0.mk (Kd.R_elder' HO1081.out (Kd.R_base ho0) hb)
        replace BK1061 := Aside0.mk (blk_below BK1061.out hb)
        replace BK1062 := Aside0.mk (blk_below BK1062.out hb)
        replace BK1063 := Aside0.mk (blk_below BK1063.out hb)
        replace HB := Aside0.mk (below_step HB.out hb)
        (try clear hb)
        (try clear hb2)
        (try clear hk)
        (try clear hi)
        (try clear ho0)
        obtain ⟨Ao61, co61, eo61⟩ := Kd.R_slice HO1086.out
        subst eo61
        refine hK.out _ _ ⟨bc0 BK1061.out, bc1 BK1061.out, bc0 BK1062.out, bc1 BK1062.out, bc0 BK1063.out, bc1 BK1063.out⟩ (fun hHeld => ?_)
        clear hK K
        refine norm_ (a' := ?_) ?_ ?_
        rotate_left
        ·show Act.put _ (some 44) _ = _
         simp only [Act.put, List.setIfInBounds_toArray, List.set_cons_zero, List.set_cons_succ, i64_w, i32_w]
         rfl
        refine one_ (i := 4) (N := some 46) #[true, true, true, true, true, true, true, true, false, false, false, false] rfl rfl (one_of HT_.out (by kernel_rfl)) (by decide) (fun K hK => ?_)
        refine goR Tryd.func24 [.agg #[.bool t1083, .slice Ao61 t1084.length co61], .agg #[.bool a2_0, .slice A2_1 l2_1.length c2_1]] ?_
        with_reducible refine (whole_Mul.calls kj5 t1083 _ _ t1084 a2_0 _ _ l2_1 t1087 t1088 _ ?side1 ?side2 ?side3 ?side4 A29.out).mono ?_
        (case side1 => exact (Kd.R_reads' HO1086.out).2.2)
        (case side2 => exact (Kd.R_reads' HO1086.out).2.1)
        (case side3 => exact (Kd.C_below HR2_1.out HB.out))
        (case side4 => exact HC2_1.out)
        rintro e w62 ⟨v1089, rfl, ho0, hb⟩
        refine ⟨_, rfl, ?_⟩
        have HO1090 := Aside0.mk (Kd.R_lower (Kd.R_new' (Kd.R_new' (Kd.R_new' (Kd.R_new' (Kd.R_new' ho0 (Kd.R_lt HO1069.out)) (Kd.R_lt HO1073.out)) (Kd.R_lt HO1077.out)) (Kd.R_lt HO1081.out)) (Kd.R_lt HO1086.out)) (below_size HB.out))
        replace HO1069 := Aside0.mk (Kd.R_elder' HO1069.out (Kd.R_base ho0) hb)
        replace HO1073 := Aside0.mk (Kd.R_elder' HO1073.out (Kd.R_base ho0) hb)
        replace HO1077 := Aside0.mk (Kd.R_elder' HO1077.out (Kd.R_base ho0) hb)
        replace HO1081 := Aside0.mk (Kd.R_elder' HO1081.out (Kd.R_base ho0) hb)
        replace HO1086 := Aside0.mk (Kd.R_elder' HO1086.out (Kd.R_base ho0) hb)
        replace BK1061 := Aside0.mk (blk_below BK1061.out hb)
        replace BK1062 := Aside0.mk (blk_below BK1062.out hb)
        replace BK1063 := Aside0.mk (blk_below BK1063.out hb)
        replace HB := Aside0.mk (below_step HB.out hb)
        (try clear hb)
        (try clear hb2)
        (try clear hk)
        (try clear hi)
        (try clear ho0)
        refine hK.out _ _ ⟨bc0 BK1061.out, bc1 BK1061.out, bc0 BK1062.out, bc1 BK1062.out, bc0 BK1063.out, bc1 BK1063.out⟩ (fun hHeld => ?_)
        clear hK K
        refine norm_ (a' := ?_) ?_ ?_
        rotate_left
        ·show Act.put _ (some 46) _ = _
         simp only [Act.put, List.setIfInBounds_toArray, List.set_cons_zero, List.set_cons_succ, i64_w, i32_w]
         rfl
        refine one_ (i := 8) (N := some 50) #[true, true, true, true, true, true, true, true, true, false, false, false] rfl rfl (one_of HT_.out (by kernel_rfl)) (by decide) (fun K hK => ?_)
        refine goR Tryd.func24 [.agg #[.bool a2_0, .slice A2_1 l2_1.length c2_1], .agg #[.bool a0_0, .slice A0_1 l0_1.length c0_1]] ?_
        with_reducible refine (whole_Mul.calls kj5 a2_0 _ _ l2_1 a0_0 _ _ l0_1 t1091 t1092 _ ?side1 ?side2 ?side3 ?side4 A30.out).mono ?_
        (case side1 => exact (Kd.C_below HR2_1.out HB.out))
        (case side2 => exact HC2_1.out)
        (case side3 => exact (Kd.C_below HR0_1.out HB.out))
        (case side4 => exact HC0_1.out)
        rintro e w63 ⟨v1093, rfl, ho0, hb⟩
        refine ⟨_, rfl, ?_⟩
        have HO1094 := Aside0.mk (Kd.R_lower (Kd.R_new' (Kd.R_new' (Kd.R_new' (Kd.R_new' (Kd.R_new' (Kd.R_new' ho0 (Kd.R_lt HO1069.out)) (Kd.R_lt HO1073.out)) (Kd.R_lt HO1077.out)) (Kd.R_lt HO1081.out)) (Kd.R_lt HO1086.out)) (Kd.R_lt HO1090.out)) (below_size HB.out))
        replace HO1069 := Aside0.mk (Kd.R_elder' HO1069.out (Kd.R_base ho0) hb)
        replace HO1073 := Aside0.mk (Kd.R_elder' HO1073.out (Kd.R_base ho0) hb)
        replace HO1077 := Aside0.mk (Kd.R_elder' HO1077.out (Kd.R_base ho0) hb)
        replace HO1081 := Aside0.mk (Kd.R_elder' HO1081.out (Kd.R_base ho0) hb)
        replace HO1086 := Aside0.mk (Kd.R_elder' HO1086.out (Kd.R_base ho0) hb)
        replace HO1090 := Aside0.mk (Kd.R_elder' HO1090.out (Kd.R_base ho0) hb)
        replace BK1061 := Aside0.mk (blk_below BK1061.out hb)
        replace BK1062 := Aside0.mk (blk_below BK1062.out hb)
        replace BK1063 := Aside0.mk (blk_below BK1063.out hb)
        replace HB := Aside0.mk (below_step HB.out hb)
        (try clear hb)
        (try clear hb2)
        (try clear hk)
        (try clear hi)
        (try clear ho0)
        obtain ⟨Ao64, co64, eo64⟩ := Kd.R_slice HO1094.out
        subst eo64
        refine hK.out _ _ ⟨bc0 BK1061.out, bc1 BK1061.out, bc0 BK1062.out, bc1 BK1062.out, bc0 BK1063.out, bc1 BK1063.out⟩ (fun hHeld => ?_)
        clear hK K
        refine norm_ (a' := ?_) ?_ ?_
        rotate_left
        ·show Act.put _ (some 50) _ = _
         simp only [Act.put, List.setIfInBounds_toArray, List.set_cons_zero, List.set_cons_succ, i64_w, i32_w]
         rfl
        refine one_ (i := 9) (N := some 51) #[true, true, true, true, true, true, true, true, true, true, false, false] rfl rfl (one_of HT_.out (by kernel_rfl)) (by decide) (fun K hK => ?_)
        refine goR Tryd.func24 [.agg #[.bool a1_0, .slice A1_1 l1_1.length c1_1], .agg #[.bool t1091, .slice Ao64 t1092.length co64]] ?_
        with_reducible refine (whole_Mul.calls kj5 a1_0 _ _ l1_1 t1091 _ _ t1092 t1095 t1096 _ ?side1 ?side2 ?side3 ?side4 A31.out).mono ?_
        (case side1 => exact (Kd.C_below HR1_1.out HB.out))
        (case side2 => exact HC1_1.out)
        (case side3 => exact (Kd.R_reads' HO1094.out).2.2)
        (case side4 => exact (Kd.R_reads' HO1094.out).2.1)
        rintro e w65 ⟨v1097, rfl, ho0, hb⟩
        refine ⟨_, rfl, ?_⟩
        have HO1098 := Aside0.mk (Kd.R_lower (Kd.R_new' (Kd.R_new' (Kd.R_new' (Kd.R_new' (Kd.R_new' (Kd.R_new' (Kd.R_new' ho0 (Kd.R_lt HO1069.out)) (Kd.R_lt HO1073.out)) (Kd.R_lt HO1077.out)) (Kd.R_lt HO1081.out)) (Kd.R_lt HO1086.out)) (Kd.R_lt HO1090.out)) (Kd.R_lt HO1094.out)) (below_size HB.out))
        replace HO1069 := Aside0.mk (Kd.R_elder' HO1069.out (Kd.R_base ho0) hb)
        replace HO1073 := Aside0.mk (Kd.R_elder' HO1073.out (Kd.R_base ho0) hb)
        replace HO1077 := Aside0.mk (Kd.R_elder' HO1077.out (Kd.R_base ho0) hb)
        replace HO1081 := Aside0.mk (Kd.R_elder' HO1081.out (Kd.R_base ho0) hb)
        replace HO1086 := Aside0.mk (Kd.R_elder' HO1086.out (Kd.R_base ho0) hb)
        replace HO1090 := Aside0.mk (Kd.R_elder' HO1090.out (Kd.R_base ho0) hb)
        replace HO1094 := Aside0.mk (Kd.R_elder' HO1094.out (Kd.R_base ho0) hb)
        replace BK1061 := Aside0.mk (blk_below BK1061.out hb)
        replace BK1062 := Aside0.mk (blk_below BK1062.out hb)
        replace BK1063 := Aside0.mk (blk_below BK1063.out hb)
        replace HB := Aside0.mk (below_step HB.out hb)
        (try clear hb)
        (try clear hb2)
        (try clear hk)
        (try clear hi)
        (try clear ho0)
        obtain ⟨Ao66, co66, eo66⟩ := Kd.R_slice HO1090.out
        subst eo66
        obtain ⟨Ao67, co67, eo67⟩ := Kd.R_slice HO1098.out
        subst eo67
        refine hK.out _ _ ⟨bc0 BK1061.out, bc1 BK1061.out, bc0 BK1062.out, bc1 BK1062.out, bc0 BK1063.out, bc1 BK1063.out⟩ (fun hHeld => ?_)
        clear hK K
        refine norm_ (a' := ?_) ?_ ?_
        rotate_left
        ·show Act.put _ (some 51) _ = _
         simp only [Act.put, List.setIfInBounds_toArray, List.set_cons_zero, List.set_cons_succ, i64_w, i32_w]
         rfl
        refine one_ (i := 10) (N := some 52) #[true, true, true, true, true, true, true, true, true, true, true, false] rfl rfl (one_of HT_.out (by kernel_rfl)) (by decide) (fun K hK => ?_)
        refine goR Tryd.func15 [.agg #[.bool t1087, .slice Ao66 t1088.length co66], .agg #[.bool t1095, .slice Ao67 t1096.length co67]] ?_
        with_reducible refine (gudgeonref02_Same.calls kj5 t1087 _ _ t1088 t1095 _ _ t1096 true _ ?side1 ?side2 ?side3 ?side4 A32.out).mono ?_
        (case side1 => exact (Kd.R_reads' HO1090.out).2.2)
        (case side2 => exact (Kd.R_reads' HO1090.out).2.1)
        (case side3 => exact (Kd.R_reads' HO1098.out).2.2)
        (case side4 => exact (Kd.R_reads' HO1098.out).2.1)
        rintro e w68 ⟨rfl, hb⟩
        refine ⟨_, rfl, ?_⟩
        replace HO1069 := Aside0.mk (Kd.R_below HO1069.out hb)
        replace HO1073 := Aside0.mk (Kd.R_below HO1073.out hb)
        replace HO1077 := Aside0.mk (Kd.R_below HO1077.out hb)
        replace HO1081 := Aside0.mk (Kd.R_below HO1081.out hb)
        replace HO1086 := Aside0.mk (Kd.R_below HO1086.out hb)
        replace HO1090 := Aside0.mk (Kd.R_below HO1090.out hb)
        replace HO1094 := Aside0.mk (Kd.R_below HO1094.out hb)
        replace HO1098 := Aside0.mk (Kd.R_below HO1098.out hb)
        replace BK1061 := Aside0.mk (blk_below BK1061.out hb)
        replace BK1062 := Aside0.mk (blk_below BK1062.out hb)
        replace BK1063 := Aside0.mk (blk_below BK1063.out hb)
        replace HB := Aside0.mk (below_step HB.out hb)
        (try clear hb)
        (try clear hb2)
        (try clear hk)
        (try clear hi)
        refine hK.out _ _ ⟨bc0 BK1061.out, bc1 BK1061.out, bc0 BK1062.out, bc1 BK1062.out, bc0 BK1063.out, bc1 BK1063.out⟩ (fun hHeld => ?_)
        clear hK K
        refine norm_ (a' := ?_) ?_ ?_
        rotate_left
        ·show Act.put _ (some 52) _ = _
         simp only [Act.put, List.setIfInBounds_toArray, List.set_cons_zero, List.set_cons_succ, i64_w, i32_w]
         rfl
        refine pure_ (i := 11) (N := some 10) (v := ?_) (a' := ?_) #[true, true, true, true, true, true, true, true, true, true, true, true] rfl rfl (any_of HT_.out (by kernel_rfl)) (fun _ _ _ h => h) (Or.inl ⟨by rfl, ?_⟩) ?_ ?_
        rotate_left
        ·intro w'
         go_simp
         with_reducible rfl
        rotate_left
        ·simp only [Act.put, List.setIfInBounds_toArray, List.set_cons_zero, List.set_cons_succ, i64_w, i32_w]
         rfl
        refine done_ (done_of HT_.out (by kernel_rfl)) ?_
        try go_wp2
        replace HO1069 := Aside0.mk (Kd.R_drew HO1069.out)
        replace HO1073 := Aside0.mk (Kd.R_drew HO1073.out)
        replace HO1077 := Aside0.mk (Kd.R_drew HO1077.out)
        replace HO1081 := Aside0.mk (Kd.R_drew HO1081.out)
        replace HO1086 := Aside0.mk (Kd.R_drew HO1086.out)
        replace HO1090 := Aside0.mk (Kd.R_drew HO1090.out)
        replace HO1094 := Aside0.mk (Kd.R_drew HO1094.out)
        replace HO1098 := Aside0.mk (Kd.R_drew HO1098.out)
        replace BK1061 := Aside0.mk (blk_drew BK1061.out)
        replace BK1062 := Aside0.mk (blk_drew BK1062.out)
        replace BK1063 := Aside0.mk (blk_drew BK1063.out)
        replace HB := Aside0.mk (below_drew1 HB.out)
        refine start_ (n := 14) (S := fun w' => w'.cell? ⟨gb1061, 0, none⟩ = some (.bool a0_0) ∧ w'.cell? ⟨gb1061, 1, none⟩ = some (.slice A0_1 l0_1.length c0_1) ∧ w'.cell? ⟨gb1062, 0, none⟩ = some (.bool a1_0) ∧ w'.cell? ⟨gb1062, 1, none⟩ = some (.slice A1_1 l1_1.length c1_1) ∧ w'.cell? ⟨gb1063, 0, none⟩ = some (.bool a2_0) ∧ w'.cell? ⟨gb1063, 1, none⟩ = some (.slice A2_1 l2_1.length c2_1)) (ds := []) #[false, false, false, false, false, false, false, false, false, false, false, false, false, false] (by kernel_rfl) rfl rfl ⟨bc0 BK1061.out, bc1 BK1061.out, bc0 BK1062.out, bc1 BK1062.out, bc0 BK1063.out, bc1 BK1063.out⟩ (fun hHeld => ?_); refine with_tabW gudgeonlaw02_WholeOrder.tab7 gudgeonlaw02_WholeOrder.bits7 (fun HT_ HW_ => ?_)
        generalize w68.drew = w69 at HO1069 HO1073 HO1077 HO1081 HO1086 HO1090 HO1094 HO1098 BK1061 BK1062 BK1063 HB hHeld ⊢
        refine take_ (i := 0) (N := some 53) (v := ?_) (a' := ?_) #[true, false, false, false, false, false, false, false, false, false, false, false, false, false] rfl rfl (take_ofW HT_.out HW_.out (by kernel_rfl)) (fun _ _ _ h => h) (Or.inl ⟨by rfl, ?_⟩) hHeld ?_ ?_
        rotate_left
        ·rintro w' ⟨s0, s1, s2, s3, s4, s5⟩
         go_simp
         with_reducible rfl
        rotate_left
        ·simp only [Act.put, List.setIfInBounds_toArray, List.set_cons_zero, List.set_cons_succ, i64_w, i32_w]
         rfl
        refine take_ (i := 1) (N := some 54) (v := ?_) (a' := ?_) #[true, true, false, false, false, false, false, false, false, false, false, false, false, false] rfl rfl (take_ofW HT_.out HW_.out (by kernel_rfl)) (fun _ _ _ h => h) (Or.inl ⟨by rfl, ?_⟩) hHeld ?_ ?_
        rotate_left
        ·rintro w' ⟨s0, s1, s2, s3, s4, s5⟩
         go_simp
         with_reducible rfl
        rotate_left
        ·simp only [Act.put, List.setIfInBounds_toArray, List.set_cons_zero, List.set_cons_succ, i64_w, i32_w]
         rfl
        refine take_ (i := 2) (N := some 55) (v := ?_) (a' := ?_) #[true, true, true, false, false, false, false, false, false, false, false, false, false, false] rfl rfl (take_ofW HT_.out HW_.out (by kernel_rfl)) (fun _ _ _ h => h) (Or.inl ⟨by rfl, ?_⟩) hHeld ?_ ?_
        rotate_left
        ·rintro w' ⟨s0, s1, s2, s3, s4, s5⟩
         go_simp
         with_reducible rfl
        rotate_left
        ·simp only [Act.put, List.setIfInBounds_toArray, List.set_cons_zero, List.set_cons_succ, i64_w, i32_w]
         rfl
        refine take_ (i := 5) (N := some 58) (v := ?_) (a' := ?_) #[true, true, true, false, false, true, false, false, false, false, false, false, false, false] rfl rfl (take_ofW HT_.out HW_.out (by kernel_rfl)) (fun _ _ _ h => h) (Or.inl ⟨by rfl, ?_⟩) hHeld ?_ ?_
        rotate_left
        ·rintro w' ⟨s0, s1, s2, s3, s4, s5⟩
         go_simp
         with_reducible rfl
        rotate_left
        ·simp only [Act.put, List.setIfInBounds_toArray, List.set_cons_zero, List.set_cons_succ, i64_w, i32_w]
         rfl
        refine take_ (i := 6) (N := some 59) (v := ?_) (a' := ?_) #[true, true, true, false, false, true, true, false, false, false, false, false, false, false] rfl rfl (take_ofW HT_.out HW_.out (by kernel_rfl)) (fun _ _ _ h => h) (Or.inl ⟨by rfl, ?_⟩) hHeld ?_ ?_
        rotate_left
        ·rintro w' ⟨s0, s1, s2, s3, s4, s5⟩
         go_simp
         with_reducible rfl
        rotate_left
        ·simp only [Act.put, List.setIfInBounds_toArray, List.set_cons_zero, List.set_cons_succ, i64_w, i32_w]
         rfl
        refine take_ (i := 8) (N := some 61) (v := ?_) (a' := ?_) #[true, true, true, false, false, true, true, false, true, false, false, false, false, false] rfl rfl (take_ofW HT_.out HW_.out (by kernel_rfl)) (fun _ _ _ h => h) (Or.inl ⟨by rfl, ?_⟩) hHeld ?_ ?_
        rotate_left
        ·rintro w' ⟨s0, s1, s2, s3, s4, s5⟩
         go_simp
         with_reducible rfl
        rotate_left
        ·simp only [Act.put, List.setIfInBounds_toArray, List.set_cons_zero, List.set_cons_succ, i64_w, i32_w]
         rfl
        refine take_ (i := 9) (N := some 62) (v := ?_) (a' := ?_) #[true, true, true, false, false, true, true, false, true, true, false, false, false, false] rfl rfl (take_ofW HT_.out HW_.out (by kernel_rfl)) (fun _ _ _ h => h) (Or.inl ⟨by rfl, ?_⟩) hHeld ?_ ?_
        rotate_left
        ·rintro w' ⟨s0, s1, s2, s3, s4, s5⟩
         go_simp
         with_reducible rfl
        rotate_left
        ·simp only [Act.put, List.setIfInBounds_toArray, List.set_cons_zero, List.set_cons_succ, i64_w, i32_w]
         rfl
        refine one_ (i := 3) (N := some 56) #[true, true, true, true, false, true, true, false, true, true, false, false, false, false] rfl rfl (one_of HT_.out (by kernel_rfl)) (by decide) (fun K hK => ?_)
        refine goR Tryd.func22 [.agg #[.bool a1_0, .slice A1_1 l1_1.length c1_1], .agg #[.bool a2_0, .slice A2_1 l2_1.length c2_1]] ?_
        with_reducible refine (whole_Sub.calls kj5 a1_0 _ _ l1_1 a2_0 _ _ l2_1 t1100 t1101 _ ?side1 ?side2 ?side3 ?side4 A33.out).mono ?_
        (case side1 => exact (Kd.C_below HR1_1.out HB.out))
        (case side2 => exact HC1_1.out)
        (case side3 => exact (Kd.C_below HR2_1.out HB.out))
        (case side4 => exact HC2_1.out)
        rintro e w70 ⟨v1102, rfl, ho0, hb⟩
        refine ⟨_, rfl, ?_⟩
        have HO1103 := Aside0.mk (Kd.R_lower (Kd.R_new' (Kd.R_new' (Kd.R_new' (Kd.R_new' (Kd.R_new' (Kd.R_new' (Kd.R_new' (Kd.R_new' ho0 (Kd.R_lt HO1069.out)) (Kd.R_lt HO1073.out)) (Kd.R_lt HO1077.out)) (Kd.R_lt HO1081.out)) (Kd.R_lt HO1086.out)) (Kd.R_lt HO1090.out)) (Kd.R_lt HO1094.out)) (Kd.R_lt HO1098.out)) (below_size HB.out))
        replace HO1069 := Aside0.mk (Kd.R_elder' HO1069.out (Kd.R_base ho0) hb)
        replace HO1073 := Aside0.mk (Kd.R_elder' HO1073.out (Kd.R_base ho0) hb)
        replace HO1077 := Aside0.mk (Kd.R_elder' HO1077.out (Kd.R_base ho0) hb)
        replace HO1081 := Aside0.mk (Kd.R_elder' HO1081.out (Kd.R_base ho0) hb)
        replace HO1086 := Aside0.mk (Kd.R_elder' HO1086.out (Kd.R_base ho0) hb)
        replace HO1090 := Aside0.mk (Kd.R_elder' HO1090.out (Kd.R_base ho0) hb)
        replace HO1094 := Aside0.mk (Kd.R_elder' HO1094.out (Kd.R_base ho0) hb)
        replace HO1098 := Aside0.mk (Kd.R_elder' HO1098.out (Kd.R_base ho0) hb)
        replace BK1061 := Aside0.mk (blk_below BK1061.out hb)
        replace BK1062 := Aside0.mk (blk_below BK1062.out hb)
        replace BK1063 := Aside0.mk (blk_below BK1063.out hb)
        replace HB := Aside0.mk (below_step HB.out hb)
        (try clear hb)
        (try clear hb2)
        (try clear hk)
        (try clear hi)
        (try clear ho0)
        obtain ⟨Ao71, co71, eo71⟩ := Kd.R_slice HO1103.out
        subst eo71
        refine hK.out _ _ ⟨bc0 BK1061.out, bc1 BK1061.out, bc0 BK1062.out, bc1 BK1062.out, bc0 BK1063.out, bc1 BK1063.out⟩ (fun hHeld => ?_)
        clear hK K
        refine norm_ (a' := ?_) ?_ ?_
        rotate_left
        ·show Act.put _ (some 56) _ = _
         simp only [Act.put, List.setIfInBounds_toArray, List.set_cons_zero, List.set_cons_succ, i64_w, i32_w]
         rfl
        refine one_ (i := 4) (N := some 57) #[true, true, true, true, true, true, true, false, true, true, false, false, false, false] rfl rfl (one_of HT_.out (by kernel_rfl)) (by decide) (fun K hK => ?_)
        refine goR Tryd.func24 [.agg #[.bool a0_0, .slice A0_1 l0_1.length c0_1], .agg #[.bool t1100, .slice Ao71 t1101.length co71]] ?_
        with_reducible refine (whole_Mul.calls kj5 a0_0 _ _ l0_1 t1100 _ _ t1101 t1104 t1105 _ ?side1 ?side2 ?side3 ?side4 A34.out).mono ?_
        (case side1 => exact (Kd.C_below HR0_1.out HB.out))
        (case side2 => exact HC0_1.out)
        (case side3 => exact (Kd.R_reads' HO1103.out).2.2)
        (case side4 => exact (Kd.R_reads' HO1103.out).2.1)
        rintro e w72 ⟨v1106, rfl, ho0, hb⟩
        refine ⟨_, rfl, ?_⟩
        have HO1107 := Aside0.mk (Kd.R_lower (Kd.R_new' (Kd.R_new' (Kd.R_new' (Kd.R_new' (Kd.R_new' (Kd.R_new' (Kd.R_new' (Kd.R_new' (Kd.R_new' ho0 (Kd.R_lt HO1069.out)) (Kd.R_lt HO1073.out)) (Kd.R_lt HO1077.out)) (Kd.R_lt HO1081.out)) (Kd.R_lt HO1086.out)) (Kd.R_lt HO1090.out)) (Kd.R_lt HO1094.out)) (Kd.R_lt HO1098.out)) (Kd.R_lt HO1103.out)) (below_size HB.out))
        replace HO1069 := Aside0.mk (Kd.R_elder' HO1069.out (Kd.R_base ho0) hb)
        replace HO1073 := Aside0.mk (Kd.R_elder' HO1073.out (Kd.R_base ho0) hb)
        replace HO1077 := Aside0.mk (Kd.R_elder' HO1077.out (Kd.R_base ho0) hb)
        replace HO1081 := Aside0.mk (Kd.R_elder' HO1081.out (Kd.R_base ho0) hb)
        replace HO1086 := Aside0.mk (Kd.R_elder' HO1086.out (Kd.R_base ho0) hb)
        replace HO1090 := Aside0.mk (Kd.R_elder' HO1090.out (Kd.R_base ho0) hb)
        replace HO1094 := Aside0.mk (Kd.R_elder' HO1094.out (Kd.R_base ho0) hb)
        replace HO1098 := Aside0.mk (Kd.R_elder' HO1098.out (Kd.R_base ho0) hb)
        replace HO1103 := Aside0.mk (Kd.R_elder' HO1103.out (Kd.R_base ho0) hb)
        replace BK1061 := Aside0.mk (blk_below BK1061.out hb)
        replace BK1062 := Aside0.mk (blk_below BK1062.out hb)
        replace BK1063 := Aside0.mk (blk_below BK1063.out hb)
        replace HB := Aside0.mk (below_step HB.out hb)
        (try clear hb)
        (try clear hb2)
        (try clear hk)
        (try clear hi)
        (try clear ho0)
        refine hK.out _ _ ⟨bc0 BK1061.out, bc1 BK1061.out, bc0 BK1062.out, bc1 BK1062.out, bc0 BK1063.out, bc1 BK1063.out⟩ (fun hHeld => ?_)
        clear hK K
        refine norm_ (a' := ?_) ?_ ?_
        rotate_left
        ·show Act.put _ (some 57) _ = _
         simp only [Act.put, List.setIfInBounds_toArray, List.set_cons_zero, List.set_cons_succ, i64_w, i32_w]
         rfl
        refine one_ (i := 7) (N := some 60) #[true, true, true, true, true, true, true, true, true, true, false, false, false, false] rfl rfl (one_of HT_.out (by kernel_rfl)) (by decide) (fun K hK => ?_)
        refine goR Tryd.func24 [.agg #[.bool a0_0, .slice A0_1 l0_1.length c0_1], .agg #[.bool a1_0, .slice A1_1 l1_1.length c1_1]] ?_
        with_reducible refine (whole_Mul.calls kj5 a0_0 _ _ l0_1 a1_0 _ _ l1_1 t1108 t1109 _ ?side1 ?side2 ?side3 ?side4 A35.out).mono ?_
        (case side1 => exact (Kd.C_below HR0_1.out HB.out))
        (case side2 => exact HC0_1.out)
        (case side3 => exact (Kd.C_below HR1_1.out HB.out))
        (case side4 => exact HC1_1.out)
        rintro e w73 ⟨v1110, rfl, ho0, hb⟩
        refine ⟨_, rfl, ?_⟩
        have HO1111 := Aside0.mk (Kd.R_lower (Kd.R_new' (Kd.R_new' (Kd.R_new' (Kd.R_new' (Kd.R_new' (Kd.R_new' (Kd.R_new' (Kd.R_new' (Kd.R_new' (Kd.R_new' ho0 (Kd.R_lt HO1069.out)) (Kd.R_lt HO1073.out)) (Kd.R_lt HO1077.out)) (Kd.R_lt HO1081.out)) (Kd.R_lt HO1086.out)) (Kd.R_lt HO1090.out)) (Kd.R_lt HO1094.out)) (Kd.R_lt HO1098.out)) (Kd.R_lt HO1103.out)) (Kd.R_lt HO1107.out)) (below_size HB.out))
        replace HO1069 := Aside0.mk (Kd.R_elder' HO1069.out (Kd.R_base ho0) hb)
        replace HO1073 := Aside0.mk (Kd.R_elder' HO1073.out (Kd.R_base ho0) hb)
        replace HO1077 := Aside0.mk (Kd.R_elder' HO1077.out (Kd.R_base ho0) hb)
        replace HO1081 := Aside0.mk (Kd.R_elder' HO1081.out (Kd.R_base ho0) hb)
        replace HO1086 := Aside0.mk (Kd.R_elder' HO1086.out (Kd.R_base ho0) hb)
        replace HO1090 := Aside0.mk (Kd.R_elder' HO1090.out (Kd.R_base ho0) hb)
        replace HO1094 := Aside0.mk (Kd.R_elder' HO1094.out (Kd.R_base ho0) hb)
        replace HO1098 := Aside0.mk (Kd.R_elder' HO1098.out (Kd.R_base ho0) hb)
        replace HO1103 := Aside0.mk (Kd.R_elder' HO1103.out (Kd.R_base ho0) hb)
        replace HO1107 := Aside0.mk (Kd.R_elder' HO1107.out (Kd.R_base ho0) hb)
        replace BK1061 := Aside0.mk (blk_below BK1061.out hb)
        replace BK1062 := Aside0.mk (blk_below BK1062.out hb)
        replace BK1063 := Aside0.mk (blk_below BK1063.out hb)
        replace HB := Aside0.mk (below_step HB.out hb)
        (try clear hb)
        (try clear hb2)
        (try clear hk)
        (try clear hi)
        (try clear ho0)
        refine hK.out _ _ ⟨bc0 BK1061.out, bc1 BK1061.out, bc0 BK1062.out, bc1 BK1062.out, bc0 BK1063.out, bc1 BK1063.out⟩ (fun hHeld => ?_)
        clear hK K
        refine norm_ (a' := ?_) ?_ ?_
        rotate_left
        ·show Act.put _ (some 60) _ = _
         simp only [Act.put, List.setIfInBounds_toArray, List.set_cons_zero, List.set_cons_succ, i64_w, i32_w]
         rfl
        refine one_ (i := 10) (N := some 63) #[true, true, true, true, true, true, true, true, true, true, true, false, false, false] rfl rfl (one_of HT_.out (by kernel_rfl)) (by decide) (fun K hK => ?_)
        refine goR Tryd.func24 [.agg #[.bool a0_0, .slice A0_1 l0_1.length c0_1], .agg #[.bool a2_0, .slice A2_1 l2_1.length c2_1]] ?_
        with_reducible refine (whole_Mul.calls kj5 a0_0 _ _ l0_1 a2_0 _ _ l2_1 t1112 t1113 _ ?side1 ?side2 ?side3 ?side4 A36.out).mono ?_
        (case side1 => exact (Kd.C_below HR0_1.out HB.out))
        (case side2 => exact HC0_1.out)
        (case side3 => exact (Kd.C_below HR2_1.out HB.out))
        (case side4 => exact HC2_1.out)
        rintro e w74 ⟨v1114, rfl, ho0, hb⟩
        refine ⟨_, rfl, ?_⟩
        have HO1115 := Aside0.mk (Kd.R_lower (Kd.R_new' (Kd.R_new' (Kd.R_new' (Kd.R_new' (Kd.R_new' (Kd.R_new' (Kd.R_new' (Kd.R_new' (Kd.R_new' (Kd.R_new' (Kd.R_new' ho0 (Kd.R_lt HO1069.out)) (Kd.R_lt HO1073.out)) (Kd.R_lt HO1077.out)) (Kd.R_lt HO1081.out)) (Kd.R_lt HO1086.out)) (Kd.R_lt HO1090.out)) (Kd.R_lt HO1094.out)) (Kd.R_lt HO1098.out)) (Kd.R_lt HO1103.out)) (Kd.R_lt HO1107.out)) (Kd.R_lt HO1111.out)) (below_size HB.out))
        replace HO1069 := Aside0.mk (Kd.R_elder' HO1069.out (Kd.R_base ho0) hb)
        replace HO1073 := Aside0.mk (Kd.R_elder' HO1073.out (Kd.R_base ho0) hb)
        replace HO1077 := Aside0.mk (Kd.R_elder' HO1077.out (Kd.R_base ho0) hb)
        replace HO1081 := Aside0.mk (Kd.R_elder' HO1081.out (Kd.R_base ho0) hb)
        replace HO1086 := Aside0.mk (Kd.R_elder' HO1086.out (Kd.R_base ho0) hb)
        replace HO1090 := Aside0.mk (Kd.R_elder' HO1090.out (Kd.R_base ho0) hb)
        replace HO1094 := Aside0.mk (Kd.R_elder' HO1094.out (Kd.R_base ho0) hb)
        replace HO1098 := Aside0.mk (Kd.R_elder' HO1098.out (Kd.R_base ho0) hb)
        replace HO1103 := Aside0.mk (Kd.R_elder' HO1103.out (Kd.R_base ho0) hb)
        replace HO1107 := Aside0.mk (Kd.R_elder' HO1107.out (Kd.R_base ho0) hb)
        replace HO1111 := Aside0.mk (Kd.R_elder' HO1111.out (Kd.R_base ho0) hb)
        replace BK1061 := Aside0.mk (blk_below BK1061.out hb)
        replace BK1062 := Aside0.mk (blk_below BK1062.out hb)
        replace BK1063 := Aside0.mk (blk_below BK1063.out hb)
        replace HB := Aside0.mk (below_step HB.out hb)
        (try clear hb)
        (try clear hb2)
        (try clear hk)
        (try clear hi)
        (try clear ho0)
        obtain ⟨Ao75, co75, eo75⟩ := Kd.R_slice HO1111.out
        subst eo75
        obtain ⟨Ao76, co76, eo76⟩ := Kd.R_slice HO1115.out
        subst eo76
        refine hK.out _ _ ⟨bc0 BK1061.out, bc1 BK1061.out, bc0 BK1062.out, bc1 BK1062.out, bc0 BK1063.out, bc1 BK1063.out⟩ (fun hHeld => ?_)
        clear hK K
        refine norm_ (a' := ?_) ?_ ?_
        rotate_left
        ·show Act.put _ (some 63) _ = _
         simp only [Act.put, List.setIfInBounds_toArray, List.set_cons_zero, List.set_cons_succ, i64_w, i32_w]
         rfl
        refine one_ (i := 11) (N := some 64) #[true, true, true, true, true, true, true, true, true, true, true, true, false, false] rfl rfl (one_of HT_.out (by kernel_rfl)) (by decide) (fun K hK => ?_)
        refine goR Tryd.func22 [.agg #[.bool t1108, .slice Ao75 t1109.length co75], .agg #[.bool t1112, .slice Ao76 t1113.length co76]] ?_
        with_reducible refine (whole_Sub.calls kj5 t1108 _ _ t1109 t1112 _ _ t1113 t1116 t1117 _ ?side1 ?side2 ?side3 ?side4 A37.out).mono ?_
        (case side1 => exact (Kd.R_reads' HO1111.out).2.2)
        (case side2 => exact (Kd.R_reads' HO1111.out).2.1)
        (case side3 => exact (Kd.R_reads' HO1115.out).2.2)
        (case side4 => exact (Kd.R_reads' HO1115.out).2.1)
        rintro e w77 ⟨v1118, rfl, ho0, hb⟩
        refine ⟨_, rfl, ?_⟩
        have HO1119 := Aside0.mk (Kd.R_lower (Kd.R_new' (Kd.R_new' (Kd.R_new' (Kd.R_new' (Kd.R_new' (Kd.R_new' (Kd.R_new' (Kd.R_new' (Kd.R_new' (Kd.R_new' (Kd.R_new' (Kd.R_new' ho0 (Kd.R_lt HO1069.out)) (Kd.R_lt HO1073.out)) (Kd.R_lt HO1077.out)) (Kd.R_lt HO1081.out)) (Kd.R_lt HO1086.out)) (Kd.R_lt HO1090.out)) (Kd.R_lt HO1094.out)) (Kd.R_lt HO1098.out)) (Kd.R_lt HO1103.out)) (Kd.R_lt HO1107.out)) (Kd.R_lt HO1111.out)) (Kd.R_lt HO1115.out)) (below_size HB.out))
        replace HO1069 := Aside0.mk (Kd.R_elder' HO1069.out (Kd.R_base ho0) hb)
        replace HO1073 := Aside0.mk (Kd.R_elder' HO1073.out (Kd.R_base ho0) hb)
        replace HO1077 := Aside0.mk (Kd.R_elder' HO1077.out (Kd.R_base ho0) hb)
        replace HO1081 := Aside0.mk (Kd.R_elder' HO1081.out (Kd.R_base ho0) hb)
        replace HO1086 := Aside0.mk (Kd.R_elder' HO1086.out (Kd.R_base ho0) hb)
        replace HO1090 := Aside0.mk (Kd.R_elder' HO1090.out (Kd.R_base ho0) hb)
        replace HO1094 := Aside0.mk (Kd.R_elder' HO1094.out (Kd.R_base ho0) hb)
        replace HO1098 := Aside0.mk (Kd.R_elder' HO1098.out (Kd.R_base ho0) hb)
        replace HO1103 := Aside0.mk (Kd.R_elder' HO1103.out (Kd.R_base ho0) hb)
        replace HO1107 := Aside0.mk (Kd.R_elder' HO1107.out (Kd.R_base ho0) hb)
        replace HO1111 := Aside0.mk (Kd.R_elder' HO1111.out (Kd.R_base ho0) hb)
        replace HO1115 := Aside0.mk (Kd.R_elder' HO1115.out (Kd.R_base ho0) hb)
        replace BK1061 := Aside0.mk (blk_below BK1061.out hb)
        replace BK1062 := Aside0.mk (blk_below BK1062.out hb)
        replace BK1063 := Aside0.mk (blk_below BK1063.out hb)
        replace HB := Aside0.mk (below_step HB.out hb)
        (try clear hb)
        (try clear hb2)
        (try clear hk)
        (try clear hi)
        (try clear ho0)
        obtain ⟨Ao78, co78, eo78⟩ := Kd.R_slice HO1107.out
        subst eo78
        obtain ⟨Ao79, co79, eo79⟩ := Kd.R_slice HO1119.out
        subst eo79
        refine hK.out _ _ ⟨bc0 BK1061.out, bc1 BK1061.out, bc0 BK1062.out, bc1 BK1062.out, bc0 BK1063.out, bc1 BK1063.out⟩ (fun hHeld => ?_)
        clear hK K
        refine norm_ (a' := ?_) ?_ ?_
        rotate_left
        ·show Act.put _ (some 64) _ = _
         simp only [Act.put, List.setIfInBounds_toArray, List.set_cons_zero, List.set_cons_succ, i64_w, i32_w]
         rfl
        refine one_ (i := 12) (N := some 65) #[true, true, true, true, true, true, true, true, true, true, true, true, true, false] rfl rfl (one_of HT_.out (by kernel_rfl)) (by decide) (fun K hK => ?_)
        refine goR Tryd.func15 [.agg #[.bool t1104, .slice Ao78 t1105.length co78], .agg #[.bool t1116, .slice Ao79 t1117.length co79]] ?_
        with_reducible refine (gudgeonref02_Same.calls kj5 t1104 _ _ t1105 t1116 _ _ t1117 true _ ?side1 ?side2 ?side3 ?side4 A38.out).mono ?_
        (case side1 => exact (Kd.R_reads' HO1107.out).2.2)
        (case side2 => exact (Kd.R_reads' HO1107.out).2.1)
        (case side3 => exact (Kd.R_reads' HO1119.out).2.2)
        (case side4 => exact (Kd.R_reads' HO1119.out).2.1)
        rintro e w80 ⟨rfl, hb⟩
        refine ⟨_, rfl, ?_⟩
        replace HO1069 := Aside0.mk (Kd.R_below HO1069.out hb)
        replace HO1073 := Aside0.mk (Kd.R_below HO1073.out hb)
        replace HO1077 := Aside0.mk (Kd.R_below HO1077.out hb)
        replace HO1081 := Aside0.mk (Kd.R_below HO1081.out hb)
        replace HO1086 := Aside0.mk (Kd.R_below HO1086.out hb)
        replace HO1090 := Aside0.mk (Kd.R_below HO1090.out hb)
        replace HO1094 := Aside0.mk (Kd.R_below HO1094.out hb)
        replace HO1098 := Aside0.mk (Kd.R_below HO1098.out hb)
        replace HO1103 := Aside0.mk (Kd.R_below HO1103.out hb)
        replace HO1107 := Aside0.mk (Kd.R_below HO1107.out hb)
        replace HO1111 := Aside0.mk (Kd.R_below HO1111.out hb)
        replace HO1115 := Aside0.mk (Kd.R_below HO1115.out hb)
        replace HO1119 := Aside0.mk (Kd.R_below HO1119.out hb)
        replace BK1061 := Aside0.mk (blk_below BK1061.out hb)
        replace BK1062 := Aside0.mk (blk_below BK1062.out hb)
        replace BK1063 := Aside0.mk (blk_below BK1063.out hb)
        replace HB := Aside0.mk (below_step HB.out hb)
        (try clear hb)
        (try clear hb2)
        (try clear hk)
        (try clear hi)
        refine hK.out _ _ ⟨bc0 BK1061.out, bc1 BK1061.out, bc0 BK1062.out, bc1 BK1062.out, bc0 BK1063.out, bc1 BK1063.out⟩ (fun hHeld => ?_)
        clear hK K
        refine norm_ (a' := ?_) ?_ ?_
        rotate_left
        ·show Act.put _ (some 65) _ = _
         simp only [Act.put, List.setIfInBounds_toArray, List.set_cons_zero, List.set_cons_succ, i64_w, i32_w]
         rfl
        refine pure_ (i := 13) (N := some 11) (v := ?_) (a' := ?_) #[true, true, true, true, true, true, true, true, true, true, true, true, true, true] rfl rfl (any_of HT_.out (by kernel_rfl)) (fun _ _ _ h => h) (Or.inl ⟨by rfl, ?_⟩) ?_ ?_
        rotate_left
        ·intro w'
         go_simp
         with_reducible rfl
        rotate_left
        ·simp only [Act.put, List.setIfInBounds_toArray, List.set_cons_zero, List.set_cons_succ, i64_w, i32_w]
         rfl
        refine done_ (done_of HT_.out (by kernel_rfl)) ?_
        try go_wp2
        replace HO1069 := Aside0.mk (Kd.R_drew HO1069.out)
        replace HO1073 := Aside0.mk (Kd.R_drew HO1073.out)
        replace HO1077 := Aside0.mk (Kd.R_drew HO1077.out)
        replace HO1081 := Aside0.mk (Kd.R_drew HO1081.out)
        replace HO1086 := Aside0.mk (Kd.R_drew HO1086.out)
        replace HO1090 := Aside0.mk (Kd.R_drew HO1090.out)
        replace HO1094 := Aside0.mk (Kd.R_drew HO1094.out)
        replace HO1098 := Aside0.mk (Kd.R_drew HO1098.out)
        replace HO1103 := Aside0.mk (Kd.R_drew HO1103.out)
        replace HO1107 := Aside0.mk (Kd.R_drew HO1107.out)
        replace HO1111 := Aside0.mk (Kd.R_drew HO1111.out)
        replace HO1115 := Aside0.mk (Kd.R_drew HO1115.out)
        replace HO1119 := Aside0.mk (Kd.R_drew HO1119.out)
        replace BK1061 := Aside0.mk (blk_drew BK1061.out)
        replace BK1062 := Aside0.mk (blk_drew BK1062.out)
        replace BK1063 := Aside0.mk (blk_drew BK1063.out)
        replace HB := Aside0.mk (below_drew1 HB.out)
        refine start_ (n := 9) (S := fun w' => w'.cell? ⟨gb1061, 0, none⟩ = some (.bool a0_0) ∧ w'.cell? ⟨gb1061, 1, none⟩ = some (.slice A0_1 l0_1.length c0_1) ∧ w'.cell? ⟨gb1062, 0, none⟩ = some (.bool a1_0) ∧ w'.cell? ⟨gb1062, 1, none⟩ = some (.slice A1_1 l1_1.length c1_1)) (ds := []) #[false, false, false, false, false, false, false, false, false] (by kernel_rfl) rfl rfl ⟨bc0 BK1061.out, bc1 BK1061.out, bc0 BK1062.out, bc1 BK1062.out⟩ (fun hHeld => ?_); refine with_tabW gudgeonlaw02_WholeOrder.tab8 gudgeonlaw02_WholeOrder.bits8 (fun HT_ HW_ => ?_)
        generalize w80.drew = w81 at HO1069 HO1073 HO1077 HO1081 HO1086 HO1090 HO1094 HO1098 HO1103 HO1107 HO1111 HO1115 HO1119 BK1061 BK1062 BK1063 HB hHeld ⊢
        refine take_ (i := 0) (N := some 66) (v := ?_) (a' := ?_) #[true, false, false, false, false, false, false, false, false] rfl rfl (take_ofW HT_.out HW_.out (by kernel_rfl)) (fun _ _ _ h => h) (Or.inl ⟨by rfl, ?_⟩) hHeld ?_ ?_
        rotate_left
        ·rintro w' ⟨s0, s1, s2, s3⟩
         go_simp
         with_reducible rfl
        rotate_left
        ·simp only [Act.put, List.setIfInBounds_toArray, List.set_cons_zero, List.set_cons_succ, i64_w, i32_w]
         rfl
        refine take_ (i := 1) (N := some 67) (v := ?_) (a' := ?_) #[true, true, false, false, false, false, false, false, false] rfl rfl (take_ofW HT_.out HW_.out (by kernel_rfl)) (fun _ _ _ h => h) (Or.inl ⟨by rfl, ?_⟩) hHeld ?_ ?_
        rotate_left
        ·rintro w' ⟨s0, s1, s2, s3⟩
         go_simp
         with_reducible rfl
        rotate_left
        ·simp only [Act.put, List.setIfInBounds_toArray, List.set_cons_zero, List.set_cons_succ, i64_w, i32_w]
         rfl
        refine take_ (i := 3) (N := some 69) (v := ?_) (a' := ?_) #[true, true, false, true, false, false, false, false, false] rfl rfl (take_ofW HT_.out HW_.out (by kernel_rfl)) (fun _ _ _ h => h) (Or.inl ⟨by rfl, ?_⟩) hHeld ?_ ?_
        rotate_left
        ·rintro w' ⟨s0, s1, s2, s3⟩
         go_simp
         with_reducible rfl
        rotate_left
        ·simp only [Act.put, List.setIfInBounds_toArray, List.set_cons_zero, List.set_cons_succ, i64_w, i32_w]
         rfl
        refine take_ (i := 5) (N := some 71) (v := ?_) (a' := ?_) #[true, true, false, true, false, true, false, false, false] rfl rfl (take_ofW HT_.out HW_.out (by kernel_rfl)) (fun _ _ _ h => h) (Or.inl ⟨by rfl, ?_⟩) hHeld ?_ ?_
        rotate_left
        ·rintro w' ⟨s0, s1, s2, s3⟩
         go_simp
         with_reducible rfl
        rotate_left
        ·simp only [Act.put, List.setIfInBounds_toArray, List.set_cons_zero, List.set_cons_succ, i64_w, i32_w]
         rfl
        refine one_ (i := 2) (N := some 68) #[true, true, true, true, false, true, false, false, false] rfl rfl (one_of HT_.out (by kernel_rfl)) (by decide) (fun K hK => ?_)
        refine goR Tryd.func20 [.agg #[.bool a0_0, .slice A0_1 l0_1.length c0_1], .agg #[.bool a1_0, .slice A1_1 l1_1.length c1_1]] ?_
        with_reducible refine (whole_Add.calls kj5 a0_0 _ _ l0_1 a1_0 _ _ l1_1 t1121 t1122 _ ?side1 ?side2 ?side3 ?side4 A39.out).mono ?_
        (case side1 => exact (Kd.C_below HR0_1.out HB.out))
        (case side2 => exact HC0_1.out)
        (case side3 => exact (Kd.C_below HR1_1.out HB.out))
        (case side4 => exact HC1_1.out)
        rintro e w82 ⟨v1123, rfl, ho0, hb⟩
        refine ⟨_, rfl, ?_⟩
        have HO1124 := Aside0.mk (Kd.R_lower (Kd.R_new' (Kd.R_new' (Kd.R_new' (Kd.R_new' (Kd.R_new' (Kd.R_new' (Kd.R_new' (Kd.R_new' (Kd.R_new' (Kd.R_new' (Kd.R_new' (Kd.R_new' (Kd.R_new' ho0 (Kd.R_lt HO1069.out)) (Kd.R_lt HO1073.out)) (Kd.R_lt HO1077.out)) (Kd.R_lt HO1081.out)) (Kd.R_lt HO1086.out)) (Kd.R_lt HO1090.out)) (Kd.R_lt HO1094.out)) (Kd.R_lt HO1098.out)) (Kd.R_lt HO1103.out)) (Kd.R_lt HO1107.out)) (Kd.R_lt HO1111.out)) (Kd.R_lt HO1115.out)) (Kd.R_lt HO1119.out)) (below_size HB.out))
        replace HO1069 := Aside0.mk (Kd.R_elder' HO1069.out (Kd.R_base ho0) hb)
        replace HO1073 := Aside0.mk (Kd.R_elder' HO1073.out (Kd.R_base ho0) hb)
        replace HO1077 := Aside0.mk (Kd.R_elder' HO1077.out (Kd.R_base ho0) hb)
        replace HO1081 := Aside0.mk (Kd.R_elder' HO1081.out (Kd.R_base ho0) hb)
        replace HO1086 := Aside0.mk (Kd.R_elder' HO1086.out (Kd.R_base ho0) hb)
        replace HO1090 := Aside0.mk (Kd.R_elder' HO1090.out (Kd.R_base ho0) hb)
        replace HO1094 := Aside0.mk (Kd.R_elder' HO1094.out (Kd.R_base ho0) hb)
        replace HO1098 := Aside0.mk (Kd.R_elder' HO1098.out (Kd.R_base ho0) hb)
        replace HO1103 := Aside0.mk (Kd.R_elder' HO1103.out (Kd.R_base ho0) hb)
        replace HO1107 := Aside0.mk (Kd.R_elder' HO1107.out (Kd.R_base ho0) hb)
        replace HO1111 := Aside0.mk (Kd.R_elder' HO1111.out (Kd.R_base ho0) hb)
        replace HO1115 := Aside0.mk (Kd.R_elder' HO1115.out (Kd.R_base ho0) hb)
        replace HO1119 := Aside0.mk (Kd.R_elder' HO1119.out (Kd.R_base ho0) hb)
        replace BK1061 := Aside0.mk (blk_below BK1061.out hb)
        replace BK1062 := Aside0.mk (blk_below BK1062.out hb)
        replace BK1063 := Aside0.mk (blk_below BK1063.out hb)
        replace HB := Aside0.mk (below_step HB.out hb)
        (try clear hb)
        (try clear hb2)
        (try clear hk)
        (try clear hi)
        (try clear ho0)
        obtain ⟨Ao83, co83, eo83⟩ := Kd.R_slice HO1124.out
        subst eo83
        refine hK.out _ _ ⟨bc0 BK1061.out, bc1 BK1061.out, bc0 BK1062.out, bc1 BK1062.out⟩ (fun hHeld => ?_)
        clear hK K
        refine norm_ (a' := ?_) ?_ ?_
        rotate_left
        ·show Act.put _ (some 68) _ = _
         simp only [Act.put, List.setIfInBounds_toArray, List.set_cons_zero, List.set_cons_succ, i64_w, i32_w]
         rfl
        refine one_ (i := 4) (N := some 70) #[true, true, true, true, true, true, false, false, false] rfl rfl (one_of HT_.out (by kernel_rfl)) (by decide) (fun K hK => ?_)
        refine goR Tryd.func22 [.agg #[.bool t1121, .slice Ao83 t1122.length co83], .agg #[.bool a1_0, .slice A1_1 l1_1.length c1_1]] ?_
        with_reducible refine (whole_Sub.calls kj5 t1121 _ _ t1122 a1_0 _ _ l1_1 t1125 t1126 _ ?side1 ?side2 ?side3 ?side4 A40.out).mono ?_
        (case side1 => exact (Kd.R_reads' HO1124.out).2.2)
        (case side2 => exact (Kd.R_reads' HO1124.out).2.1)
        (case side3 => exact (Kd.C_below HR1_1.out HB.out))
        (case side4 => exact HC1_1.out)
        rintro e w84 ⟨v1127, rfl, ho0, hb⟩
        refine ⟨_, rfl, ?_⟩
        have HO1128 := Aside0.mk (Kd.R_lower (Kd.R_new' (Kd.R_new' (Kd.R_new' (Kd.R_new' (Kd.R_new' (Kd.R_new' (Kd.R_new' (Kd.R_new' (Kd.R_new' (Kd.R_new' (Kd.R_new' (Kd.R_new' (Kd.R_new' (Kd.R_new' ho0 (Kd.R_lt HO1069.out)) (Kd.R_lt HO1073.out)) (Kd.R_lt HO1077.out)) (Kd.R_lt HO1081.out)) (Kd.R_lt HO1086.out)) (Kd.R_lt HO1090.out)) (Kd.R_lt HO1094.out)) (Kd.R_lt HO1098.out)) (Kd.R_lt HO1103.out)) (Kd.R_lt HO1107.out)) (Kd.R_lt HO1111.out)) (Kd.R_lt HO1115.out)) (Kd.R_lt HO1119.out)) (Kd.R_lt HO1124.out)) (below_size HB.out))
        replace HO1069 := Aside0.mk (Kd.R_elder' HO1069.out (Kd.R_base ho0) hb)
        replace HO1073 := Aside0.mk (Kd.R_elder' HO1073.out (Kd.R_base ho0) hb)
        replace HO1077 := Aside0.mk (Kd.R_elder' HO1077.out (Kd.R_base ho0) hb)
        replace HO1081 := Aside0.mk (Kd.R_elder' HO1081.out (Kd.R_base ho0) hb)
        replace HO1086 := Aside0.mk (Kd.R_elder' HO1086.out (Kd.R_base ho0) hb)
        replace HO1090 := Aside0.mk (Kd.R_elder' HO1090.out (Kd.R_base ho0) hb)
        replace HO1094 := Aside0.mk (Kd.R_elder' HO1094.out (Kd.R_base ho0) hb)
        replace HO1098 := Aside0.mk (Kd.R_elder' HO1098.out (Kd.R_base ho0) hb)
        replace HO1103 := Aside0.mk (Kd.R_elder' HO1103.out (Kd.R_base ho0) hb)
        replace HO1107 := Aside0.mk (Kd.R_elder' HO1107.out (Kd.R_base ho0) hb)
        replace HO1111 := Aside0.mk (Kd.R_elder' HO1111.out (Kd.R_base ho0) hb)
        replace HO1115 := Aside0.mk (Kd.R_elder' HO1115.out (Kd.R_base ho0) hb)
        replace HO1119 := Aside0.mk (Kd.R_elder' HO1119.out (Kd.R_base ho0) hb)
        replace HO1124 := Aside0.mk (Kd.R_elder' HO1124.out (Kd.R_base ho0) hb)
        replace BK1061 := Aside0.mk (blk_below BK1061.out hb)
        replace BK1062 := Aside0.mk (blk_below BK1062.out hb)
        replace BK1063 := Aside0.mk (blk_below BK1063.out hb)
        replace HB := Aside0.mk (below_step HB.out hb)
        (try clear hb)
        (try clear hb2)
        (try clear hk)
        (try clear hi)
        (try clear ho0)
        refine hK.out _ _ ⟨bc0 BK1061.out, bc1 BK1061.out, bc0 BK1062.out, bc1 BK1062.out⟩ (fun hHeld => ?_)
        clear hK K
        refine norm_ (a' := ?_) ?_ ?_
        rotate_left
        ·show Act.put _ (some 70) _ = _
         simp only [Act.put, List.setIfInBounds_toArray, List.set_cons_zero, List.set_cons_succ, i64_w, i32_w]
         rfl
        refine one_ (i := 6) (N := some 72) #[true, true, true, true, true, true, true, false, false] rfl rfl (one_of HT_.out (by kernel_rfl)) (by decide) (fun K hK => ?_)
        refine goR Tryd.func16 [.agg #[.bool a0_0, .slice A0_1 l0_1.length c0_1]] ?_
        with_reducible refine (whole_Norm.calls a0_0 _ _ l0_1 t1129 t1130 _ ?side1 ?side2 A41.out).mono ?_
        (case side1 => exact (Kd.C_below HR0_1.out HB.out))
        (case side2 => exact HC0_1.out)
        rintro e w85 ⟨v1131, rfl, ho0, hb⟩
        refine ⟨_, rfl, ?_⟩
        have HO1132 := Aside0.mk (Kd.R_lower (Kd.R_new' (Kd.R_new' (Kd.R_new' (Kd.R_new' (Kd.R_new' (Kd.R_new' (Kd.R_new' (Kd.R_new' (Kd.R_new' (Kd.R_new' (Kd.R_new' (Kd.R_new' (Kd.R_new' (Kd.R_new' (Kd.R_new' ho0 (Kd.R_lt HO1069.out)) (Kd.R_lt HO1073.out)) (Kd.R_lt HO1077.out)) (Kd.R_lt HO1081.out)) (Kd.R_lt HO1086.out)) (Kd.R_lt HO1090.out)) (Kd.R_lt HO1094.out)) (Kd.R_lt HO1098.out)) (Kd.R_lt HO1103.out)) (Kd.R_lt HO1107.out)) (Kd.R_lt HO1111.out)) (Kd.R_lt HO1115.out)) (Kd.R_lt HO1119.out)) (Kd.R_lt HO1124.out)) (Kd.R_lt HO1128.out)) (below_size HB.out))
        replace HO1069 := Aside0.mk (Kd.R_elder' HO1069.out (Kd.R_base ho0) hb)
        replace HO1073 := Aside0.mk (Kd.R_elder' HO1073.out (Kd.R_base ho0) hb)
        replace HO1077 := Aside0.mk (Kd.R_elder' HO1077.out (Kd.R_base ho0) hb)
        replace HO1081 := Aside0.mk (Kd.R_elder' HO1081.out (Kd.R_base ho0) hb)
        replace HO1086 := Aside0.mk (Kd.R_elder' HO1086.out (Kd.R_base ho0) hb)
        replace HO1090 := Aside0.mk (Kd.R_elder' HO1090.out (Kd.R_base ho0) hb)
        replace HO1094 := Aside0.mk (Kd.R_elder' HO1094.out (Kd.R_base ho0) hb)
        replace HO1098 := Aside0.mk (Kd.R_elder' HO1098.out (Kd.R_base ho0) hb)
        replace HO1103 := Aside0.mk (Kd.R_elder' HO1103.out (Kd.R_base ho0) hb)
        replace HO1107 := Aside0.mk (Kd.R_elder' HO1107.out (Kd.R_base ho0) hb)
        replace HO1111 := Aside0.mk (Kd.R_elder' HO1111.out (Kd.R_base ho0) hb)
        replace HO1115 := Aside0.mk (Kd.R_elder' HO1115.out (Kd.R_base ho0) hb)
        replace HO1119 := Aside0.mk (Kd.R_elder' HO1119.out (Kd.R_base ho0) hb)
        replace HO1124 := Aside0.mk (Kd.R_elder' HO1124.out (Kd.R_base ho0) hb)
        replace HO1128 := Aside0.mk (Kd.R_elder' HO1128.out (Kd.R_base ho0) hb)
        replace BK1061 := Aside0.mk (blk_below BK1061.out hb)
        replace BK1062 := Aside0.mk (blk_below BK1062.out hb)
        replace BK1063 := Aside0.mk (blk_below BK1063.out hb)
        replace HB := Aside0.mk (below_step HB.out hb)
        (try clear hb)
        (try clear hb2)
        (try clear hk)
        (try clear hi)
        (try clear ho0)
        obtain ⟨Ao86, co86, eo86⟩ := Kd.R_slice HO1128.out
        subst eo86
        obtain ⟨Ao87, co87, eo87⟩ := Kd.R_slice HO1132.out
        subst eo87
        refine hK.out _ _ ⟨bc0 BK1061.out, bc1 BK1061.out, bc0 BK1062.out, bc1 BK1062.out⟩ (fun hHeld => ?_)
        clear hK K
        refine norm_ (a' := ?_) ?_ ?_
        rotate_left
        ·show Act.put _ (some 72) _ = _
         simp only [Act.put, List.setIfInBounds_toArray, List.set_cons_zero, List.set_cons_succ, i64_w, i32_w]
         rfl
        refine one_ (i := 7) (N := some 73) #[true, true, true, true, true, true, true, true, false] rfl rfl (one_of HT_.out (by kernel_rfl)) (by decide) (fun K hK => ?_)
        refine goR Tryd.func15 [.agg #[.bool t1125, .slice Ao86 t1126.length co86], .agg #[.bool t1129, .slice Ao87 t1130.length co87]] ?_
        with_reducible refine (gudgeonref02_Same.calls kj5 t1125 _ _ t1126 t1129 _ _ t1130 true _ ?side1 ?side2 ?side3 ?side4 A42.out).mono ?_
        (case side1 => exact (Kd.R_reads' HO1128.out).2.2)
        (case side2 => exact (Kd.R_reads' HO1128.out).2.1)
        (case side3 => exact (Kd.R_reads' HO1132.out).2.2)
        (case side4 => exact (Kd.R_reads' HO1132.out).2.1)
        rintro e w88 ⟨rfl, hb⟩
        refine ⟨_, rfl, ?_⟩
        replace HO1069 := Aside0.mk (Kd.R_below HO1069.out hb)
        replace HO1073 := Aside0.mk (Kd.R_below HO1073.out hb)
        replace HO1077 := Aside0.mk (Kd.R_below HO1077.out hb)
        replace HO1081 := Aside0.mk (Kd.R_below HO1081.out hb)
        replace HO1086 := Aside0.mk (Kd.R_below HO1086.out hb)
        replace HO1090 := Aside0.mk (Kd.R_below HO1090.out hb)
        replace HO1094 := Aside0.mk (Kd.R_below HO1094.out hb)
        replace HO1098 := Aside0.mk (Kd.R_below HO1098.out hb)
        replace HO1103 := Aside0.mk (Kd.R_below HO1103.out hb)
        replace HO1107 := Aside0.mk (Kd.R_below HO1107.out hb)
        replace HO1111 := Aside0.mk (Kd.R_below HO1111.out hb)
        replace HO1115 := Aside0.mk (Kd.R_below HO1115.out hb)
        replace HO1119 := Aside0.mk (Kd.R_below HO1119.out hb)
        replace HO1124 := Aside0.mk (Kd.R_below HO1124.out hb)
        replace HO1128 := Aside0.mk (Kd.R_below HO1128.out hb)
        replace HO1132 := Aside0.mk (Kd.R_below HO1132.out hb)
        replace BK1061 := Aside0.mk (blk_below BK1061.out hb)
        replace BK1062 := Aside0.mk (blk_below BK1062.out hb)
        replace BK1063 := Aside0.mk (blk_below BK1063.out hb)
        replace HB := Aside0.mk (below_step HB.out hb)
        (try clear hb)
        (try clear hb2)
        (try clear hk)
        (try clear hi)
        refine hK.out _ _ ⟨bc0 BK1061.out, bc1 BK1061.out, bc0 BK1062.out, bc1 BK1062.out⟩ (fun hHeld => ?_)
        clear hK K
        refine norm_ (a' := ?_) ?_ ?_
        rotate_left
        ·show Act.put _ (some 73) _ = _
         simp only [Act.put, List.setIfInBounds_toArray, List.set_cons_zero, List.set_cons_succ, i64_w, i32_w]
         rfl
        refine pure_ (i := 8) (N := some 12) (v := ?_) (a' := ?_) #[true, true, true, true, true, true, true, true, true] rfl rfl (any_of HT_.out (by kernel_rfl)) (fun _ _ _ h => h) (Or.inl ⟨by rfl, ?_⟩) ?_ ?_
        rotate_left
        ·intro w'
         go_simp
         with_reducible rfl
        rotate_left
        ·simp only [Act.put, List.setIfInBounds_toArray, List.set_cons_zero, List.set_cons_succ, i64_w, i32_w]
         rfl
        refine done_ (done_of HT_.out (by kernel_rfl)) ?_
        have hnb89 := NB1061_1062.out
        have hnc89 := NB1062_1061.out
        have hnb90 := NB1061_1063.out
        have hnc90 := NB1063_1061.out
        have hcz91_0 : w88.cell? ⟨gb1061, 0, none⟩ = some (.bool a0_0) := bc0 BK1061.out
        have hcz91_1 : w88.cell? ⟨gb1061, 1, none⟩ = some (.slice A0_1 l0_1.length c0_1) := bc1 BK1061.out
        have hfz91_0 := blk_frozen BK1061.out 0
        have hfz91_1 := blk_frozen BK1061.out 1
        by_cases c48 : t1134 = true
        ·subst c48
         rw [if_pos rfl] at H
         obtain rfl := Option.some.inj H
         try go_wp2_with (first | ((with_reducible refine gate_callee (f := 22) rfl ?_); refine goL (some 76) Tryd.func22 [.agg #[.bool a0_0, .slice A0_1 l0_1.length c0_1], .agg #[.bool a0_0, .slice A0_1 l0_1.length c0_1]] ?_; (with_reducible refine (whole_Sub.calls kj5 a0_0 _ _ l0_1 a0_0 _ _ l0_1 true t1135 _ ?side1 ?side2 ?side3 ?side4 A43.out).mono ?_); (case side1 => exact (Kd.C_below HR0_1.out HB.out)); (case side2 => exact HC0_1.out); (case side3 => exact (Kd.C_below HR0_1.out HB.out)); (case side4 => exact HC0_1.out); rintro e w92 ⟨v1136, rfl, ho0, hb⟩; refine ⟨_, rfl, ?_⟩; have HO1137 := Aside0.mk (Kd.R_lower (Kd.R_new' (Kd.R_new' (Kd.R_new' (Kd.R_new' (Kd.R_new' (Kd.R_new' (Kd.R_new' (Kd.R_new' (Kd.R_new' (Kd.R_new' (Kd.R_new' (Kd.R_new' (Kd.R_new' (Kd.R_new' (Kd.R_new' (Kd.R_new' ho0 (Kd.R_lt HO1069.out)) (Kd.R_lt HO1073.out)) (Kd.R_lt HO1077.out)) (Kd.R_lt HO1081.out)) (Kd.R_lt HO1086.out)) (Kd.R_lt HO1090.out)) (Kd.R_lt HO1094.out)) (Kd.R_lt HO1098.out)) (Kd.R_lt HO1103.out)) (Kd.R_lt HO1107.out)) (Kd.R_lt HO1111.out)) (Kd.R_lt HO1115.out)) (Kd.R_lt HO1119.out)) (Kd.R_lt HO1124.out)) (Kd.R_lt HO1128.out)) (Kd.R_lt HO1132.out)) (below_size HB.out)); replace BK1061 := Aside0.mk (blk_below BK1061.out hb); replace BK1062 := Aside0.mk (blk_below BK1062.out hb); replace BK1063 := Aside0.mk (blk_below BK1063.out hb); replace HB := Aside0.mk (below_step HB.out hb)) | ((with_reducible refine gate_dst (N := 13) rfl ?_); (try (refine gate_guard (by rfl) ?_; dsimp only)); refine box_event ?hg (N := 13) ?hd (cs := #[.bool false, .slice none 0 0]) (t := 24) ?hr ?_; (case hd => rfl); (case hg => rfl); (case hr => first | (go_simp; done) | (go_simp; rfl)); intro gb1138 hg w93 hbox hb; replace HO1137 := Aside0.mk (Kd.R_below HO1137.out hb); have BK1138 := Aside0.mk (hbox); have GW1138 := Aside0.mk (bxLe HB.out hg); have GE1138 := GW1138; replace HB := Aside0.mk (below_step HB.out hb); have NB1061_1138 := Aside0.mk (neL BK1061.out hg); have NB1138_1061 := Aside0.mk (neR BK1061.out hg); have NB1062_1138 := Aside0.mk (neL BK1062.out hg); have NB1138_1062 := Aside0.mk (neR BK1062.out hg); have NB1063_1138 := Aside0.mk (neL BK1063.out hg); have NB1138_1063 := Aside0.mk (neR BK1063.out hg); clear hb hbox hg; have hnb94 := NB1138_1061.out; have hnc94 := NB1061_1138.out; have hnb95 := NB1138_1062.out; have hnc95 := NB1062_1138.out; have hnb96 := NB1138_1063.out; have hnc96 := NB1063_1138.out; have hcz97_0 : w93.cell? ⟨gb1138, 0, none⟩ = some (.bool false) := bc0 BK1138.out; have hcz97_1 : w93.cell? ⟨gb1138, 1, none⟩ = some (.slice none 0 0) := bc1 BK1138.out; have hfz97_0 := blk_frozen BK1138.out 0; have hfz97_1 := blk_frozen BK1138.out 1; obtain ⟨Ao98, co98, eo98⟩ := Kd.R_slice HO1137.out; subst eo98))
         have n20_ : Aside0 (((w93.setCell ⟨gb1138, 0, none⟩ (.bool true)).setCell ⟨gb1138, 1, none⟩ (.slice Ao98 t1135.length co98)).heap[gb1138]? = some (.cells #[.bool true, .slice Ao98 t1135.length co98] 24 (0, 0))) := ⟨by refine blk_put (cs := #[.bool true, .slice none 0 0]) ?_ 1 _ rfl; refine blk_put (cs := #[.bool false, .slice none 0 0]) ?_ 0 _ rfl; exact BK1138.out⟩
         have n21_ : Aside0 (Below w.heap.size w ((w93.setCell ⟨gb1138, 0, none⟩ (.bool true)).setCell ⟨gb1138, 1, none⟩ (.slice Ao98 t1135.length co98))) := ⟨by repeat first | exact HB.out | refine bxSet ?_ (by assumption) | apply below_alloc | apply pw_below_drewN⟩
         (try clear BK1138)
         (try clear HB)
         generalize ((w93.setCell ⟨gb1138, 0, none⟩ (.bool true)).setCell ⟨gb1138, 1, none⟩ (.slice Ao98 t1135.length co98)) = w99 at n20_ n21_ ⊢
         have BK1138 := n20_
         have HB := n21_
         clear n20_ n21_
         replace BK1138 := Aside0.mk (blk_drew BK1138.out)
         replace HB := Aside0.mk (below_drew1 HB.out)
         refine start_ (n := 32) (S := fun w' => w'.cell? ⟨gb1138, 0, none⟩ = some (.bool true) ∧ w'.cell? ⟨gb1138, 1, none⟩ = some (.slice Ao98 t1135.length co98)) (ds := []) #[false, false, false, false, false, false, false, false, false, false, false, false, false, false, false, false, false, false, false, false, false, false, false, false, false, false, false, false, false, false, false, false] (by kernel_rfl) rfl rfl ⟨bc0 BK1138.out, bc1 BK1138.out⟩ (fun hHeld => ?_); refine with_tabW gudgeonlaw02_WholeOrder.tab10 gudgeonlaw02_WholeOrder.bits10 (fun HT_ HW_ => ?_)
         generalize w99.drew = w100 at HO1069 HO1073 HO1077 HO1081 HO1086 HO1090 HO1094 HO1098 HO1103 HO1107 HO1111 HO1115 HO1119 HO1124 HO1128 HO1132 HO1137 BK1061 BK1062 BK1063 BK1138 HB hHeld ⊢
         refine pure_ (i := 0) (N := some 77) (v := ?_) (a' := ?_) #[true, false, false, false, false, false, false, false, false, false, false, false, false, false, false, false, false, false, false, false, false, false, false, false, false, false, false, false, false, false, false, false] rfl rfl (any_of HT_.out (by kernel_rfl)) (fun _ _ _ h => h) (Or.inl ⟨by rfl, ?_⟩) ?_ ?_
         rotate_left
         ·intro w'
          go_simp
          with_reducible rfl
         rotate_left
         ·simp only [Act.put, List.setIfInBounds_toArray, List.set_cons_zero, List.set_cons_succ, i64_w, i32_w]
          rfl
         refine pure_ (i := 1) (N := some 78) (v := ?_) (a' := ?_) #[true, true, false, false, false, false, false, false, false, false, false, false, false, false, false, false, false, false, false, false, false, false, false, false, false, false, false, false, false, false, false, false] rfl rfl (any_of HT_.out (by kernel_rfl)) (fun _ _ _ h => h) (Or.inl ⟨by rfl, ?_⟩) ?_ ?_
         rotate_left
         ·intro w'
          go_simp
          with_reducible rfl
         rotate_left
         ·simp only [Act.put, List.setIfInBounds_toArray, List.set_cons_zero, List.set_cons_succ, i64_w, i32_w]
          rfl
         refine pure_ (i := 2) (N := some 79) (v := ?_) (a' := ?_) #[true, true, true, false, false, false, false, false, false, false, false, false, false, false, false, false, false, false, false, false, false, false, false, false, false, false, false, false, false, false, false, false] rfl rfl (any_of HT_.out (by kernel_rfl)) (fun _ _ _ h => h) (Or.inl ⟨by rfl, ?_⟩) ?_ ?_
         rotate_left
         ·intro w'
          go_simp
          with_reducible rfl
         rotate_left
         ·simp only [Act.put, List.setIfInBounds_toArray, List.set_cons_zero, List.set_cons_succ, i64_w, i32_w]
          rfl
         refine pure_ (i := 3) (N := some 80) (v := ?_) (a' := ?_) #[true, true, true, true, false, false, false, false, false, false, false, false, false, false, false, false, false, false, false, false, false, false, false, false, false, false, false, false, false, false, false, false] rfl rfl (any_of HT_.out (by kernel_rfl)) (fun _ _ _ h => h) (Or.inl ⟨by rfl, ?_⟩) ?_ ?_
         rotate_left
         ·intro w'
          go_simp
          with_reducible rfl
         rotate_left
         ·simp only [Act.put, List.setIfInBounds_toArray, List.set_cons_zero, List.set_cons_succ, i64_w, i32_w]
          rfl
         refine pure_ (i := 4) (N := some 81) (v := ?_) (a' := ?_) #[true, true, true, true, true, false, false, false, false, false, false, false, false, false, false, false, false, false, false, false, false, false, false, false, false, false, false, false, false, false, false, false] rfl rfl (any_of HT_.out (by kernel_rfl)) (fun _ _ _ h => h) (Or.inl ⟨by rfl, ?_⟩) ?_ ?_
         rotate_left
         ·intro w'
          go_simp
          with_reducible rfl
         rotate_left
         ·simp only [Act.put, List.setIfInBounds_toArray, List.set_cons_zero, List.set_cons_succ, i64_w, i32_w]
          rfl
         refine pure_ (i := 5) (N := some 82) (v := ?_) (a' := ?_) #[true, true, true, true, true, true, false, false, false, false, false, false, false, false, false, false, false, false, false, false, false, false, false, false, false, false, false, false, false, false, false, false] rfl rfl (any_of HT_.out (by kernel_rfl)) (fun _ _ _ h => h) (Or.inl ⟨by rfl, ?_⟩) ?_ ?_
         rotate_left
         ·intro w'
          go_simp
          with_reducible rfl
         rotate_left
         ·simp only [Act.put, List.setIfInBounds_toArray, List.set_cons_zero, List.set_cons_succ, i64_w, i32_w]
          rfl
         refine pure_ (i := 6) (N := some 83) (v := ?_) (a' := ?_) #[true, true, true, true, true, true, true, false, false, false, false, false, false, false, false, false, false, false, false, false, false, false, false, false, false, false, false, false, false, false, false, false] rfl rfl (any_of HT_.out (by kernel_rfl)) (fun _ _ _ h => h) (Or.inl ⟨by rfl, ?_⟩) ?_ ?_
         rotate_left
         ·intro w'
          go_simp
          with_reducible rfl
         rotate_left
         ·simp only [Act.put, List.setIfInBounds_toArray, List.set_cons_zero, List.set_cons_succ, i64_w, i32_w]
          rfl
         refine pure_ (i := 7) (N := some 84) (v := ?_) (a' := ?_) #[true, true, true, true, true, true, true, true, false, false, false, false, false, false, false, false, false, false, false, false, false, false, false, false, false, false, false, false, false, false, false, false] rfl rfl (any_of HT_.out (by kernel_rfl)) (fun _ _ _ h => h) (Or.inl ⟨by rfl, ?_⟩) ?_ ?_
         rotate_left
         ·intro w'
          go_simp
          with_reducible rfl
         rotate_left
         ·simp only [Act.put, List.setIfInBounds_toArray, List.set_cons_zero, List.set_cons_succ, i64_w, i32_w]
          rfl
         refine pure_ (i := 8) (N := some 85) (v := ?_) (a' := ?_) #[true, true, true, true, true, true, true, true, true, false, false, false, false, false, false, false, false, false, false, false, false, false, false, false, false, false, false, false, false, false, false, false] rfl rfl (any_of HT_.out (by kernel_rfl)) (fun _ _ _ h => h) (Or.inl ⟨by rfl, ?_⟩) ?_ ?_
         rotate_left
         ·intro w'
          go_simp
          with_reducible rfl
         rotate_left
         ·simp only [Act.put, List.setIfInBounds_toArray, List.set_cons_zero, List.set_cons_succ, i64_w, i32_w]
          rfl
         refine pure_ (i := 9) (N := some 86) (v := ?_) (a' := ?_) #[true, true, true, true, true, true, true, true, true, true, false, false, false, false, false, false, false, false, false, false, false, false, false, false, false, false, false, false, false, false, false, false] rfl rfl (any_of HT_.out (by kernel_rfl)) (fun _ _ _ h => h) (Or.inl ⟨by rfl, ?_⟩) ?_ ?_
         rotate_left
         ·intro w'
          go_simp
          with_reducible rfl
         rotate_left
         ·simp only [Act.put, List.setIfInBounds_toArray, List.set_cons_zero, List.set_cons_succ, i64_w, i32_w]
          rfl
         refine pure_ (i := 10) (N := some 87) (v := ?_) (a' := ?_) #[true, true, true, true, true, true, true, true, true, true, true, false, false, false, false, false, false, false, false, false, false, false, false, false, false, false, false, false, false, false, false, false] rfl rfl (any_of HT_.out (by kernel_rfl)) (fun _ _ _ h => h) (Or.inl ⟨by rfl, ?_⟩) ?_ ?_
         rotate_left
         ·intro w'
          go_simp
          with_reducible rfl
         rotate_left
         ·simp only [Act.put, List.setIfInBounds_toArray, List.set_cons_zero, List.set_cons_succ, i64_w, i32_w]
          rfl
         refine pure_ (i := 11) (N := some 88) (v := ?_) (a' := ?_) #[true, true, true, true, true, true, true, true, true, true, true, true, false, false, false, false, false, false, false, false, false, false, false, false, false, false, false, false, false, false, false, false] rfl rfl (any_of HT_.out (by kernel_rfl)) (fun _ _ _ h => h) (Or.inl ⟨by rfl, ?_⟩) ?_ ?_
         rotate_left
         ·intro w'
          go_simp
          with_reducible rfl
         rotate_left
         ·simp only [Act.put, List.setIfInBounds_toArray, List.set_cons_zero, List.set_cons_succ, i64_w, i32_w]
          rfl
         refine take_ (i := 12) (N := some 89) (v := ?_) (a' := ?_) #[true, true, true, true, true, true, true, true, true, true, true, true, true, false, false, false, false, false, false, false, false, false, false, false, false, false, false, false, false, false, false, false] rfl rfl (take_ofW HT_.out HW_.out (by kernel_rfl)) (fun _ _ _ h => h) (Or.inl ⟨by rfl, ?_⟩) hHeld ?_ ?_
         rotate_left
         ·rintro w' ⟨s0, s1⟩
          go_simp
          with_reducible rfl
         rotate_left
         ·simp only [Act.put, List.setIfInBounds_toArray, List.set_cons_zero, List.set_cons_succ, i64_w, i32_w]
          rfl
         refine pure_ (i := 13) (N := some 90) (v := ?_) (a' := ?_) #[true, true, true, true, true, true, true, true, true, true, true, true, true, true, false, false, false, false, false, false, false, false, false, false, false, false, false, false, false, false, false, false] rfl rfl (any_of HT_.out (by kernel_rfl)) (fun _ _ _ h => h) (Or.inl ⟨by rfl, ?_⟩) ?_ ?_
         rotate_left
         ·intro w'
          go_simp
          with_reducible rfl
         rotate_left
         ·simp only [Act.put, List.setIfInBounds_toArray, List.set_cons_zero, List.set_cons_succ, i64_w, i32_w]
          rfl
         refine pure_ (i := 14) (N := some 91) (v := ?_) (a' := ?_) #[true, true, true, true, true, true, true, true, true, true, true, true, true, true, true, false, false, false, false, false, false, false, false, false, false, false, false, false, false, false, false, false] rfl rfl (any_of HT_.out (by kernel_rfl)) (fun _ _ _ h => h) (Or.inl ⟨by rfl, ?_⟩) ?_ ?_
         rotate_left
         ·intro w'
          go_simp
          with_reducible rfl
         rotate_left
         ·simp only [Act.put, List.setIfInBounds_toArray, List.set_cons_zero, List.set_cons_succ, i64_w, i32_w]
          rfl
         refine pure_ (i := 15) (N := some 92) (v := ?_) (a' := ?_) #[true, true, true, true, true, true, true, true, true, true, true, true, true, true, true, true, false, false, false, false, false, false, false, false, false, false, false, false, false, false, false, false] rfl rfl (any_of HT_.out (by kernel_rfl)) (fun _ _ _ h => h) (Or.inl ⟨by rfl, ?_⟩) ?_ ?_
         rotate_left
         ·intro w'
          go_simp
          with_reducible rfl
         rotate_left
         ·simp only [Act.put, List.setIfInBounds_toArray, List.set_cons_zero, List.set_cons_succ, i64_w, i32_w]
          rfl
         refine pure_ (i := 16) (N := some 93) (v := undef) (a' := ?_) #[true, true, true, true, true, true, true, true, true, true, true, true, true, true, true, true, true, false, false, false, false, false, false, false, false, false, false, false, false, false, false, false] rfl rfl (any_of HT_.out (by kernel_rfl)) (fun _ _ _ h => h) (Or.inr ⟨by rfl, rfl⟩) ?_ ?_
         rotate_left
         ·simp only [Act.put, List.setIfInBounds_toArray, List.set_cons_zero, List.set_cons_succ, i64_w, i32_w]
          rfl
         refine pure_ (i := 17) (N := some 94) (v := undef) (a' := ?_) #[true, true, true, true, true, true, true, true, true, true, true, true, true, true, true, true, true, true, false, false, false, false, false, false, false, false, false, false, false, false, false, false] rfl rfl (any_of HT_.out (by kernel_rfl)) (fun _ _ _ h => h) (Or.inr ⟨by rfl, rfl⟩) ?_ ?_
         rotate_left
         ·simp only [Act.put, List.setIfInBounds_toArray, List.set_cons_zero, List.set_cons_succ, i64_w, i32_w]
          rfl
         refine pure_ (i := 18) (N := some 95) (v := undef) (a' := ?_) #[true, true, true, true, true, true, true, true, true, true, true, true, true, true, true, true, true, true, true, false, false, false, false, false, false, false, false, false, false, false, false, false] rfl rfl (any_of HT_.out (by kernel_rfl)) (fun _ _ _ h => h) (Or.inr ⟨by rfl, rfl⟩) ?_ ?_
         rotate_left
         ·simp only [Act.put, List.setIfInBounds_toArray, List.set_cons_zero, List.set_cons_succ, i64_w, i32_w]
          rfl
         refine pure_ (i := 19) (N := some 96) (v := undef) (a' := ?_) #[true, true, true, true, true, true, true, true, true, true, true, true, true, true, true, true, true, true, true, true, false, false, false, false, false, false, false, false, false, false, false, false] rfl rfl (any_of HT_.out (by kernel_rfl)) (fun _ _ _ h => h) (Or.inr ⟨by rfl, rfl⟩) ?_ ?_
         rotate_left
         ·simp only [Act.put, List.setIfInBounds_toArray, List.set_cons_zero, List.set_cons_succ, i64_w, i32_w]
          rfl
         refine pure_ (i := 20) (N := some 97) (v := ?_) (a' := ?_) #[true, true, true, true, true, true, true, true, true, true, true, true, true, true, true, true, true, true, true, true, true, false, false, false, false, false, false, false, false, false, false, false] rfl rfl (any_of HT_.out (by kernel_rfl)) (fun _ _ _ h => h) (Or.inl ⟨by rfl, ?_⟩) ?_ ?_
         rotate_left
         ·intro w'
          go_simp
          with_reducible rfl
         rotate_left
         ·simp only [Act.put, List.setIfInBounds_toArray, List.set_cons_zero, List.set_cons_succ, i64_w, i32_w]
          rfl
         refine pure_ (i := 21) (N := some 98) (v := ?_) (a' := ?_) #[true, true, true, true, true, true, true, true, true, true, true, true, true, true, true, true, true, true, true, true, true, true, false, false, false, false, false, false, false, false, false, false] rfl rfl (any_of HT_.out (by kernel_rfl)) (fun _ _ _ h => h) (Or.inl ⟨by rfl, ?_⟩) ?_ ?_
         rotate_left
         ·intro w'
          go_simp
          with_reducible rfl
         rotate_left
         ·simp only [Act.put, List.setIfInBounds_toArray, List.set_cons_zero, List.set_cons_succ, i64_w, i32_w]
          rfl
         refine pure_ (i := 22) (N := some 99) (v := undef) (a' := ?_) #[true, true, true, true, true, true, true, true, true, true, true, true, true, true, true, true, true, true, true, true, true, true, true, false, false, false, false, false, false, false, false, false] rfl rfl (any_of HT_.out (by kernel_rfl)) (fun _ _ _ h => h) (Or.inr ⟨by rfl, rfl⟩) ?_ ?_
         rotate_left
         ·simp only [Act.put, List.setIfInBounds_toArray, List.set_cons_zero, List.set_cons_succ, i64_w, i32_w]
          rfl
         refine pure_ (i := 23) (N := some 100) (v := undef) (a' := ?_) #[true, true, true, true, true, true, true, true, true, true, true, true, true, true, true, true, true, true, true, true, true, true, true, true, false, false, false, false, false, false, false, false] rfl rfl (any_of HT_.out (by kernel_rfl)) (fun _ _ _ h => h) (Or.inr ⟨by rfl, rfl⟩) ?_ ?_
         rotate_left
         ·simp only [Act.put, List.setIfInBounds_toArray, List.set_cons_zero, List.set_cons_succ, i64_w, i32_w]
          rfl
         refine pure_ (i := 24) (N := some 101) (v := undef) (a' := ?_) #[true, true, true, true, true, true, true, true, true, true, true, true, true, true, true, true, true, true, true, true, true, true, true, true, true, false, false, false, false, false, false, false] rfl rfl (any_of HT_.out (by kernel_rfl)) (fun _ _ _ h => h) (Or.inr ⟨by rfl, rfl⟩) ?_ ?_
         rotate_left
         ·simp only [Act.put, List.setIfInBounds_toArray, List.set_cons_zero, List.set_cons_succ, i64_w, i32_w]
          rfl
         refine pure_ (i := 25) (N := some 102) (v := undef) (a' := ?_) #[true, true, true, true, true, true, true, true, true, true, true, true, true, true, true, true, true, true, true, true, true, true, true, true, true, true, false, false, false, false, false, false] rfl rfl (any_of HT_.out (by kernel_rfl)) (fun _ _ _ h => h) (Or.inr ⟨by rfl, rfl⟩) ?_ ?_
         rotate_left
         ·simp only [Act.put, List.setIfInBounds_toArray, List.set_cons_zero, List.set_cons_succ, i64_w, i32_w]
          rfl
         refine pure_ (i := 26) (N := some 103) (v := undef) (a' := ?_) #[true, true, true, true, true, true, true, true, true, true, true, true, true, true, true, true, true, true, true, true, true, true, true, true, true, true, true, false, false, false, false, false] rfl rfl (any_of HT_.out (by kernel_rfl)) (fun _ _ _ h => h) (Or.inr ⟨by rfl, rfl⟩) ?_ ?_
         rotate_left
         ·simp only [Act.put, List.setIfInBounds_toArray, List.set_cons_zero, List.set_cons_succ, i64_w, i32_w]
          rfl
         refine pure_ (i := 27) (N := some 104) (v := undef) (a' := ?_) #[true, true, true, true, true, true, true, true, true, true, true, true, true, true, true, true, true, true, true, true, true, true, true, true, true, true, true, true, false, false, false, false] rfl rfl (any_of HT_.out (by kernel_rfl)) (fun _ _ _ h => h) (Or.inr ⟨by rfl, rfl⟩) ?_ ?_
         rotate_left
         ·simp only [Act.put, List.setIfInBounds_toArray, List.set_cons_zero, List.set_cons_succ, i64_w, i32_w]
          rfl
         refine pure_ (i := 28) (N := some 105) (v := undef) (a' := ?_) #[true, true, true, true, true, true, true, true, true, true, true, true, true, true, true, true, true, true, true, true, true, true, true, true, true, true, true, true, true, false, false, false] rfl rfl (any_of HT_.out (by kernel_rfl)) (fun _ _ _ h => h) (Or.inr ⟨by rfl, rfl⟩) ?_ ?_
         rotate_left
         ·simp only [Act.put, List.setIfInBounds_toArray, List.set_cons_zero, List.set_cons_succ, i64_w, i32_w]
          rfl
         refine pure_ (i := 29) (N := some 106) (v := undef) (a' := ?_) #[true, true, true, true, true, true, true, true, true, true, true, true, true, true, true, true, true, true, true, true, true, true, true, true, true, true, true, true, true, true, false, false] rfl rfl (any_of HT_.out (by kernel_rfl)) (fun _ _ _ h => h) (Or.inr ⟨by rfl, rfl⟩) ?_ ?_
         rotate_left
         ·simp only [Act.put, List.setIfInBounds_toArray, List.set_cons_zero, List.set_cons_succ, i64_w, i32_w]
          rfl
         refine pure_ (i := 30) (N := some 107) (v := ?_) (a' := ?_) #[true, true, true, true, true, true, true, true, true, true, true, true, true, true, true, true, true, true, true, true, true, true, true, true, true, true, true, true, true, true, true, false] rfl rfl (any_of HT_.out (by kernel_rfl)) (fun _ _ _ h => h) (Or.inl ⟨by rfl, ?_⟩) ?_ ?_
         rotate_left
         ·intro w'
          go_simp
          with_reducible rfl
         rotate_left
         ·simp only [Act.put, List.setIfInBounds_toArray, List.set_cons_zero, List.set_cons_succ, i64_w, i32_w]
          rfl
         refine pure_ (i := 31) (N := some 6) (v := ?_) (a' := ?_) #[true, true, true, true, true, true, true, true, true, true, true, true, true, true, true, true, true, true, true, true, true, true, true, true, true, true, true, true, true, true, true, true] rfl rfl (any_of HT_.out (by kernel_rfl)) (fun _ _ _ h => h) (Or.inl ⟨by rfl, ?_⟩) ?_ ?_
         rotate_left
         ·intro w'
          go_simp
          with_reducible rfl
         rotate_left
         ·simp only [Act.put, List.setIfInBounds_toArray, List.set_cons_zero, List.set_cons_succ, i64_w, i32_w]
          rfl
         refine done_ (done_of HT_.out (by kernel_rfl)) ?_
         try go_wp2
         go_ret
         exact ⟨by first | rfl | (simp [errW_none, errW_some] <;> rfl) | (refine congrArg (fun z_ => Ending.returned (Value.bool z_)) (decide_eq_decide.mpr ?_); unfold wrap64; omega) | (simp [*, errW_none, errW_some] <;> rfl), HB.out⟩
        ·replace c48 := Bool.eq_false_iff.mpr c48
         subst c48
         rw [if_neg (show ¬ (false = true) by decide)] at H
         by_cases c101 : (t1135.length : Int) = 0
         ·rw [if_pos c101] at H
          have c101b0 : ((t1135.length : Int) == 0) = true := beq_iff_eq.mpr c101
          have c101b1 : ((t1135.length : Int) != 0) = false := bne_eq_false_iff_eq.mpr c101
          clear c101
          obtain ⟨t1139, A1020, H⟩ := Option.bind_eq_some_iff.mp H
          try dsimp only at H
          have A102 := Aside0.mk A1020
          clear A1020
          obtain ⟨t1140, A1030, H⟩ := Option.bind_eq_some_iff.mp H
          try dsimp only at H
          have A103 := Aside0.mk A1030
          clear A1030
          obtain rfl := Option.some.inj H
          try go_wp2_with (first | ((with_reducible refine gate_callee (f := 22) rfl ?_); refine goL (some 76) Tryd.func22 [.agg #[.bool a0_0, .slice A0_1 l0_1.length c0_1], .agg #[.bool a0_0, .slice A0_1 l0_1.length c0_1]] ?_; (with_reducible refine (whole_Sub.calls kj5 a0_0 _ _ l0_1 a0_0 _ _ l0_1 false t1135 _ ?side1 ?side2 ?side3 ?side4 A43.out).mono ?_); (case side1 => exact (Kd.C_below HR0_1.out HB.out)); (case side2 => exact HC0_1.out); (case side3 => exact (Kd.C_below HR0_1.out HB.out)); (case side4 => exact HC0_1.out); rintro e w147 ⟨v1136, rfl, ho0, hb⟩; refine ⟨_, rfl, ?_⟩; have HO1137 := Aside0.mk (Kd.R_lower (Kd.R_new' (Kd.R_new' (Kd.R_new' (Kd.R_new' (Kd.R_new' (Kd.R_new' (Kd.R_new' (Kd.R_new' (Kd.R_new' (Kd.R_new' (Kd.R_new' (Kd.R_new' (Kd.R_new' (Kd.R_new' (Kd.R_new' (Kd.R_new' ho0 (Kd.R_lt HO1069.out)) (Kd.R_lt HO1073.out)) (Kd.R_lt HO1077.out)) (Kd.R_lt HO1081.out)) (Kd.R_lt HO1086.out)) (Kd.R_lt HO1090.out)) (Kd.R_lt HO1094.out)) (Kd.R_lt HO1098.out)) (Kd.R_lt HO1103.out)) (Kd.R_lt HO1107.out)) (Kd.R_lt HO1111.out)) (Kd.R_lt HO1115.out)) (Kd.R_lt HO1119.out)) (Kd.R_lt HO1124.out)) (Kd.R_lt HO1128.out)) (Kd.R_lt HO1132.out)) (below_size HB.out)); replace BK1061 := Aside0.mk (blk_below BK1061.out hb); replace BK1062 := Aside0.mk (blk_below BK1062.out hb); replace BK1063 := Aside0.mk (blk_below BK1063.out hb); replace HB := Aside0.mk (below_step HB.out hb)) | ((with_reducible refine gate_dst (N := 13) rfl ?_); (try (refine gate_guard (by rfl) ?_; dsimp only)); refine box_event ?hg (N := 13) ?hd (cs := #[.bool false, .slice none 0 0]) (t := 24) ?hr ?_; (case hd => rfl); (case hg => rfl); (case hr => first | (go_simp; done) | (go_simp; rfl)); intro gb1138 hg w148 hbox hb; replace HO1137 := Aside0.mk (Kd.R_below HO1137.out hb); have BK1138 := Aside0.mk (hbox); have GW1138 := Aside0.mk (bxLe HB.out hg); have GE1138 := GW1138; replace HB := Aside0.mk (below_step HB.out hb); have NB1061_1138 := Aside0.mk (neL BK1061.out hg); have NB1138_1061 := Aside0.mk (neR BK1061.out hg); replace BK1061 := Aside0.mk (blk_below BK1061.out hb); have NB1062_1138 := Aside0.mk (neL BK1062.out hg); have NB1138_1062 := Aside0.mk (neR BK1062.out hg); replace BK1062 := Aside0.mk (blk_below BK1062.out hb); have NB1063_1138 := Aside0.mk (neL BK1063.out hg); have NB1138_1063 := Aside0.mk (neR BK1063.out hg); clear hb hbox hg; have hnb149 := NB1138_1061.out; have hnc149 := NB1061_1138.out; have hnb150 := NB1138_1062.out; have hnc150 := NB1062_1138.out; have hnb151 := NB1138_1063.out; have hnc151 := NB1063_1138.out; have hcz152_0 : w148.cell? ⟨gb1138, 0, none⟩ = some (.bool false) := bc0 BK1138.out; have hcz152_1 : w148.cell? ⟨gb1138, 1, none⟩ = some (.slice none 0 0) := bc1 BK1138.out; have hfz152_0 := blk_frozen BK1138.out 0; have hfz152_1 := blk_frozen BK1138.out 1; obtain ⟨Ao153, co153, eo153⟩ := Kd.R_slice HO1137.out; subst eo153))
          have n17_ : Aside0 (((w148.setCell ⟨gb1138, 0, none⟩ (.bool false)).setCell ⟨gb1138, 1, none⟩ (.slice Ao153 t1135.length co153)).heap[gb1061]? = some (.cells #[.bool a0_0, .slice A0_1 l0_1.length c0_1] 24 (0, 0))) := ⟨by refine blk_far ?_ NB1061_1138.out _; refine blk_far ?_ NB1061_1138.out _; exact BK1061.out⟩
          have n18_ : Aside0 (((w148.setCell ⟨gb1138, 0, none⟩ (.bool false)).setCell ⟨gb1138, 1, none⟩ (.slice Ao153 t1135.length co153)).heap[gb1062]? = some (.cells #[.bool a1_0, .slice A1_1 l1_1.length c1_1] 24 (0, 0))) := ⟨by refine blk_far ?_ NB1062_1138.out _; refine blk_far ?_ NB1062_1138.out _; exact BK1062.out⟩
          have n20_ : Aside0 (((w148.setCell ⟨gb1138, 0, none⟩ (.bool false)).setCell ⟨gb1138, 1, none⟩ (.slice Ao153 t1135.length co153)).heap[gb1138]? = some (.cells #[.bool false, .slice Ao153 t1135.length co153] 24 (0, 0))) := ⟨by refine blk_put (cs := #[.bool false, .slice none 0 0]) ?_ 1 _ rfl; refine blk_put (cs := #[.bool false, .slice none 0 0]) ?_ 0 _ rfl; exact BK1138.out⟩
          have n21_ : Aside0 (Below w.heap.size w ((w148.setCell ⟨gb1138, 0, none⟩ (.bool false)).setCell ⟨gb1138, 1, none⟩ (.slice Ao153 t1135.length co153))) := ⟨by repeat first | exact HB.out | refine bxSet ?_ (by assumption) | apply below_alloc | apply pw_below_drewN⟩
          (try clear BK1061)
          (try clear BK1062)
          (try clear BK1138)
          (try clear HB)
          generalize ((w148.setCell ⟨gb1138, 0, none⟩ (.bool false)).setCell ⟨gb1138, 1, none⟩ (.slice Ao153 t1135.length co153)) = w154 at n17_ n18_ n20_ n21_ ⊢
          have BK1061 := n17_
          have BK1062 := n18_
          have BK1138 := n20_
          have HB := n21_
          clear n17_ n18_ n20_ n21_
          replace BK1061 := Aside0.mk (blk_drew BK1061.out)
          replace BK1062 := Aside0.mk (blk_drew BK1062.out)
          replace BK1138 := Aside0.mk (blk_drew BK1138.out)
          replace HB := Aside0.mk (below_drew1 HB.out)
          refine start_ (n := 32) (S := fun w' => w'.cell? ⟨gb1138, 0, none⟩ = some (.bool false) ∧ w'.cell? ⟨gb1138, 1, none⟩ = some (.slice Ao153 t1135.length co153) ∧ w'.cell? ⟨gb1061, 0, none⟩ = some (.bool a0_0) ∧ w'.cell? ⟨gb1061, 1, none⟩ = some (.slice A0_1 l0_1.length c0_1) ∧ w'.cell? ⟨gb1062, 0, none⟩ = some (.bool a1_0) ∧ w'.cell? ⟨gb1062, 1, none⟩ = some (.slice A1_1 l1_1.length c1_1)) (ds := []) #[false, false, false, false, false, false, false, false, false, false, false, false, false, false, false, false, false, false, false, false, false, false, false, false, false, false, false, false, false, false, false, false] (by kernel_rfl) rfl rfl ⟨bc0 BK1138.out, bc1 BK1138.out, bc0 BK1061.out, bc1 BK1061.out, bc0 BK1062.out, bc1 BK1062.out⟩ (fun hHeld => ?_); refine with_tabW gudgeonlaw02_WholeOrder.tab10 gudgeonlaw02_WholeOrder.bits10 (fun HT_ HW_ => ?_)
          generalize w154.drew = w155 at HO1069 HO1073 HO1077 HO1081 HO1086 HO1090 HO1094 HO1098 HO1103 HO1107 HO1111 HO1115 HO1119 HO1124 HO1128 HO1132 HO1137 BK1061 BK1062 BK1063 BK1138 HB hHeld ⊢
          refine pure_ (i := 0) (N := some 77) (v := ?_) (a' := ?_) #[true, false, false, false, false, false, false, false, false, false, false, false, false, false, false, false, false, false, false, false, false, false, false, false, false, false, false, false, false, false, false, false] rfl rfl (any_of HT_.out (by kernel_rfl)) (fun _ _ _ h => h) (Or.inl ⟨by rfl, ?_⟩) ?_ ?_
          rotate_left
          ·intro w'
           go_simp
           with_reducible rfl
          rotate_left
          ·simp only [Act.put, List.setIfInBounds_toArray, List.set_cons_zero, List.set_cons_succ, i64_w, i32_w]
           rfl
          refine pure_ (i := 1) (N := some 78) (v := ?_) (a' := ?_) #[true, true, false, false, false, false, false, false, false, false, false, false, false, false, false, false, false, false, false, false, false, false, false, false, false, false, false, false, false, false, false, false] rfl rfl (any_of HT_.out (by kernel_rfl)) (fun _ _ _ h => h) (Or.inl ⟨by rfl, ?_⟩) ?_ ?_
          rotate_left
          ·intro w'
           go_simp
           with_reducible rfl
          rotate_left
          ·simp only [Act.put, List.setIfInBounds_toArray, List.set_cons_zero, List.set_cons_succ, i64_w, i32_w]
           rfl
          refine pure_ (i := 2) (N := some 79) (v := ?_) (a' := ?_) #[true, true, true, false, false, false, false, false, false, false, false, false, false, false, false, false, false, false, false, false, false, false, false, false, false, false, false, false, false, false, false, false] rfl rfl (any_of HT_.out (by kernel_rfl)) (fun _ _ _ h => h) (Or.inl ⟨by rfl, ?_⟩) ?_ ?_
          rotate_left
          ·intro w'
           go_simp
           with_reducible rfl
          rotate_left
          ·simp only [Act.put, List.setIfInBounds_toArray, List.set_cons_zero, List.set_cons_succ, i64_w, i32_w]
           rfl
          refine pure_ (i := 3) (N := some 80) (v := ?_) (a' := ?_) #[true, true, true, true, false, false, false, false, false, false, false, false, false, false, false, false, false, false, false, false, false, false, false, false, false, false, false, false, false, false, false, false] rfl rfl (any_of HT_.out (by kernel_rfl)) (fun _ _ _ h => h) (Or.inl ⟨by rfl, ?_⟩) ?_ ?_
          rotate_left
          ·intro w'
           go_simp
           with_reducible rfl
          rotate_left
          ·simp only [Act.put, List.setIfInBounds_toArray, List.set_cons_zero, List.set_cons_succ, i64_w, i32_w]
           rfl
          refine pure_ (i := 4) (N := some 81) (v := ?_) (a' := ?_) #[true, true, true, true, true, false, false, false, false, false, false, false, false, false, false, false, false, false, false, false, false, false, false, false, false, false, false, false, false, false, false, false] rfl rfl (any_of HT_.out (by kernel_rfl)) (fun _ _ _ h => h) (Or.inl ⟨by rfl, ?_⟩) ?_ ?_
          rotate_left
          ·intro w'
           go_simp
           with_reducible rfl
          rotate_left
          ·simp only [Act.put, List.setIfInBounds_toArray, List.set_cons_zero, List.set_cons_succ, i64_w, i32_w]
           rfl
          refine pure_ (i := 5) (N := some 82) (v := ?_) (a' := ?_) #[true, true, true, true, true, true, false, false, false, false, false, false, false, false, false, false, false, false, false, false, false, false, false, false, false, false, false, false, false, false, false, false] rfl rfl (any_of HT_.out (by kernel_rfl)) (fun _ _ _ h => h) (Or.inl ⟨by rfl, ?_⟩) ?_ ?_
          rotate_left
          ·intro w'
           go_simp
           with_reducible rfl
          rotate_left
          ·simp only [Act.put, List.setIfInBounds_toArray, List.set_cons_zero, List.set_cons_succ, i64_w, i32_w]
           rfl
          refine pure_ (i := 6) (N := some 83) (v := ?_) (a' := ?_) #[true, true, true, true, true, true, true, false, false, false, false, false, false, false, false, false, false, false, false, false, false, false, false, false, false, false, false, false, false, false, false, false] rfl rfl (any_of HT_.out (by kernel_rfl)) (fun _ _ _ h => h) (Or.inl ⟨by rfl, ?_⟩) ?_ ?_
          rotate_left
          ·intro w'
           go_simp
           with_reducible rfl
          rotate_left
          ·simp only [Act.put, List.setIfInBounds_toArray, List.set_cons_zero, List.set_cons_succ, i64_w, i32_w]
           rfl
          refine pure_ (i := 7) (N := some 84) (v := ?_) (a' := ?_) #[true, true, true, true, true, true, true, true, false, false, false, false, false, false, false, false, false, false, false, false, false, false, false, false, false, false, false, false, false, false, false, false] rfl rfl (any_of HT_.out (by kernel_rfl)) (fun _ _ _ h => h) (Or.inl ⟨by rfl, ?_⟩) ?_ ?_
          rotate_left
          ·intro w'
           go_simp
           with_reducible rfl
          rotate_left
          ·simp only [Act.put, List.setIfInBounds_toArray, List.set_cons_zero, List.set_cons_succ, i64_w, i32_w]
           rfl
          refine pure_ (i := 8) (N := some 85) (v := ?_) (a' := ?_) #[true, true, true, true, true, true, true, true, true, false, false, false, false, false, false, false, false, false, false, false, false, false, false, false, false, false, false, false, false, false, false, false] rfl rfl (any_of HT_.out (by kernel_rfl)) (fun _ _ _ h => h) (Or.inl ⟨by rfl, ?_⟩) ?_ ?_
          rotate_left
          ·intro w'
           go_simp
           with_reducible rfl
          rotate_left
          ·simp only [Act.put, List.setIfInBounds_toArray, List.set_cons_zero, List.set_cons_succ, i64_w, i32_w]
           rfl
          refine pure_ (i := 9) (N := some 86) (v := ?_) (a' := ?_) #[true, true, true, true, true, true, true, true, true, true, false, false, false, false, false, false, false, false, false, false, false, false, false, false, false, false, false, false, false, false, false, false] rfl rfl (any_of HT_.out (by kernel_rfl)) (fun _ _ _ h => h) (Or.inl ⟨by rfl, ?_⟩) ?_ ?_
          rotate_left
          ·intro w'
           go_simp
           with_reducible rfl
          rotate_left
          ·simp only [Act.put, List.setIfInBounds_toArray, List.set_cons_zero, List.set_cons_succ, i64_w, i32_w]
           rfl
          refine pure_ (i := 10) (N := some 87) (v := ?_) (a' := ?_) #[true, true, true, true, true, true, true, true, true, true, true, false, false, false, false, false, false, false, false, false, false, false, false, false, false, false, false, false, false, false, false, false] rfl rfl (any_of HT_.out (by kernel_rfl)) (fun _ _ _ h => h) (Or.inl ⟨by rfl, ?_⟩) ?_ ?_
          rotate_left
          ·intro w'
           go_simp
           with_reducible rfl
          rotate_left
          ·simp only [Act.put, List.setIfInBounds_toArray, List.set_cons_zero, List.set_cons_succ, i64_w, i32_w]
           rfl
          refine pure_ (i := 11) (N := some 88) (v := ?_) (a' := ?_) #[true, true, true, true, true, true, true, true, true, true, true, true, false, false, false, false, false, false, false, false, false, false, false, false, false, false, false, false, false, false, false, false] rfl rfl (any_of HT_.out (by kernel_rfl)) (fun _ _ _ h => h) (Or.inl ⟨by rfl, ?_⟩) ?_ ?_
          rotate_left
          ·intro w'
           go_simp
           with_reducible rfl
          rotate_left
          ·simp only [Act.put, List.setIfInBounds_toArray, List.set_cons_zero, List.set_cons_succ, i64_w, i32_w]
           rfl
          refine take_ (i := 12) (N := some 89) (v := ?_) (a' := ?_) #[true, true, true, true, true, true, true, true, true, true, true, true, true, false, false, false, false, false, false, false, false, false, false, false, false, false, false, false, false, false, false, false] rfl rfl (take_ofW HT_.out HW_.out (by kernel_rfl)) (fun _ _ _ h => h) (Or.inl ⟨by rfl, ?_⟩) hHeld ?_ ?_
          rotate_left
          ·rintro w' ⟨s0, s1, s2, s3, s4, s5⟩
           go_simp
           with_reducible rfl
          rotate_left
          ·simp only [Act.put, List.setIfInBounds_toArray, List.set_cons_zero, List.set_cons_succ, i64_w, i32_w]
           rfl
          refine pure_ (i := 13) (N := some 90) (v := ?_) (a' := ?_) #[true, true, true, true, true, true, true, true, true, true, true, true, true, true, false, false, false, false, false, false, false, false, false, false, false, false, false, false, false, false, false, false] rfl rfl (any_of HT_.out (by kernel_rfl)) (fun _ _ _ h => h) (Or.inl ⟨by rfl, ?_⟩) ?_ ?_
          rotate_left
          ·intro w'
           go_simp
           with_reducible rfl
          rotate_left
          ·simp only [Act.put, List.setIfInBounds_toArray, List.set_cons_zero, List.set_cons_succ, i64_w, i32_w]
           rfl
          refine pure_ (i := 14) (N := some 91) (v := ?_) (a' := ?_) #[true, true, true, true, true, true, true, true, true, true, true, true, true, true, true, false, false, false, false, false, false, false, false, false, false, false, false, false, false, false, false, false] rfl rfl (any_of HT_.out (by kernel_rfl)) (fun _ _ _ h => h) (Or.inl ⟨by rfl, ?_⟩) ?_ ?_
          rotate_left
          ·intro w'
           go_simp
           with_reducible rfl
          rotate_left
          ·simp only [Act.put, List.setIfInBounds_toArray, List.set_cons_zero, List.set_cons_succ, i64_w, i32_w]
           rfl
          refine pure_ (i := 15) (N := some 92) (v := ?_) (a' := ?_) #[true, true, true, true, true, true, true, true, true, true, true, true, true, true, true, true, false, false, false, false, false, false, false, false, false, false, false, false, false, false, false, false] rfl rfl (any_of HT_.out (by kernel_rfl)) (fun _ _ _ h => h) (Or.inl ⟨by rfl, ?_⟩) ?_ ?_
          rotate_left
          ·intro w'
           go_simp
           with_reducible rfl
          rotate_left
          ·simp only [Act.put, List.setIfInBounds_toArray, List.set_cons_zero, List.set_cons_succ, i64_w, i32_w]
           rfl
          refine pure_ (i := 16) (N := some 93) (v := ?_) (a' := ?_) #[true, true, true, true, true, true, true, true, true, true, true, true, true, true, true, true, true, false, false, false, false, false, false, false, false, false, false, false, false, false, false, false] rfl rfl (any_of HT_.out (by kernel_rfl)) (fun _ _ _ h => h) (Or.inl ⟨by rfl, ?_⟩) ?_ ?_
          rotate_left
          ·intro w'
           go_simp
           with_reducible rfl
          rotate_left
          ·simp only [Act.put, List.setIfInBounds_toArray, List.set_cons_zero, List.set_cons_succ, i64_w, i32_w]
           rfl
          refine take_ (i := 17) (N := some 94) (v := ?_) (a' := ?_) #[true, true, true, true, true, true, true, true, true, true, true, true, true, true, true, true, true, true, false, false, false, false, false, false, false, false, false, false, false, false, false, false] rfl rfl (take_ofW HT_.out HW_.out (by kernel_rfl)) (fun _ _ _ h => h) (Or.inl ⟨by rfl, ?_⟩) hHeld ?_ ?_
          rotate_left
          ·rintro w' ⟨s0, s1, s2, s3, s4, s5⟩
           go_simp
           with_reducible rfl
          rotate_left
          ·simp only [Act.put, List.setIfInBounds_toArray, List.set_cons_zero, List.set_cons_succ, i64_w, i32_w]
           rfl
          refine pure_ (i := 18) (N := some 95) (v := ?_) (a' := ?_) #[true, true, true, true, true, true, true, true, true, true, true, true, true, true, true, true, true, true, true, false, false, false, false, false, false, false, false, false, false, false, false, false] rfl rfl (any_of HT_.out (by kernel_rfl)) (fun _ _ _ h => h) (Or.inl ⟨by rfl, ?_⟩) ?_ ?_
          rotate_left
          ·intro w'
           go_simp
           with_reducible rfl
          rotate_left
          ·simp only [Act.put, List.setIfInBounds_toArray, List.set_cons_zero, List.set_cons_succ, i64_w, i32_w]
           rfl
          refine pure_ (i := 19) (N := some 96) (v := ?_) (a' := ?_) #[true, true, true, true, true, true, true, true, true, true, true, true, true, true, true, true, true, true, true, true, false, false, false, false, false, false, false, false, false, false, false, false] rfl rfl (any_of HT_.out (by kernel_rfl)) (fun _ _ _ h => h) (Or.inl ⟨by rfl, ?_⟩) ?_ ?_
          rotate_left
          ·intro w'
           go_simp
           with_reducible rfl
          rotate_left
          ·simp only [Act.put, List.setIfInBounds_toArray, List.set_cons_zero, List.set_cons_succ, i64_w, i32_w]
           rfl
          refine pure_ (i := 20) (N := some 97) (v := ?_) (a' := ?_) #[true, true, true, true, true, true, true, true, true, true, true, true, true, true, true, true, true, true, true, true, true, false, false, false, false, false, false, false, false, false, false, false] rfl rfl (any_of HT_.out (by kernel_rfl)) (fun _ _ _ h => h) (Or.inl ⟨by rfl, ?_⟩) ?_ ?_
          rotate_left
          ·intro w'
           go_simp
           with_reducible rfl
          rotate_left
          ·simp only [Act.put, List.setIfInBounds_toArray, List.set_cons_zero, List.set_cons_succ, i64_w, i32_w]
           rfl
          refine pure_ (i := 21) (N := some 98) (v := ?_) (a' := ?_) #[true, true, true, true, true, true, true, true, true, true, true, true, true, true, true, true, true, true, true, true, true, true, false, false, false, false, false, false, false, false, false, false] rfl rfl (any_of HT_.out (by kernel_rfl)) (fun _ _ _ h => h) (Or.inl ⟨by rfl, ?_⟩) ?_ ?_
          rotate_left
          ·intro w'
           go_simp
           with_reducible rfl
          rotate_left
          ·simp only [Act.put, List.setIfInBounds_toArray, List.set_cons_zero, List.set_cons_succ, i64_w, i32_w]
           rfl
          refine take_ (i := 22) (N := some 99) (v := ?_) (a' := ?_) #[true, true, true, true, true, true, true, true, true, true, true, true, true, true, true, true, true, true, true, true, true, true, true, false, false, false, false, false, false, false, false, false] rfl rfl (take_ofW HT_.out HW_.out (by kernel_rfl)) (fun _ _ _ h => h) (Or.inl ⟨by rfl, ?_⟩) hHeld ?_ ?_
          rotate_left
          ·rintro w' ⟨s0, s1, s2, s3, s4, s5⟩
           go_simp
           with_reducible rfl
          rotate_left
          ·simp only [Act.put, List.setIfInBounds_toArray, List.set_cons_zero, List.set_cons_succ, i64_w, i32_w]
           rfl
          refine take_ (i := 23) (N := some 100) (v := ?_) (a' := ?_) #[true, true, true, true, true, true, true, true, true, true, true, true, true, true, true, true, true, true, true, true, true, true, true, true, false, false, false, false, false, false, false, false] rfl rfl (take_ofW HT_.out HW_.out (by kernel_rfl)) (fun _ _ _ h => h) (Or.inl ⟨by rfl, ?_⟩) hHeld ?_ ?_
          rotate_left
          ·rintro w' ⟨s0, s1, s2, s3, s4, s5⟩
           go_simp
           with_reducible rfl
          rotate_left
          ·simp only [Act.put, List.setIfInBounds_toArray, List.set_cons_zero, List.set_cons_succ, i64_w, i32_w]
           rfl
          refine take_ (i := 25) (N := some 102) (v := ?_) (a' := ?_) #[true, true, true, true, true, true, true, true, true, true, true, true, true, true, true, true, true, true, true, true, true, true, true, true, false, true, false, false, false, false, false, false] rfl rfl (take_ofW HT_.out HW_.out (by kernel_rfl)) (fun _ _ _ h => h) (Or.inl ⟨by rfl, ?_⟩) hHeld ?_ ?_
          rotate_left
          ·rintro w' ⟨s0, s1, s2, s3, s4, s5⟩
           go_simp
           with_reducible rfl
          rotate_left
          ·simp only [Act.put, List.setIfInBounds_toArray, List.set_cons_zero, List.set_cons_succ, i64_w, i32_w]
           rfl
          refine take_ (i := 26) (N := some 103) (v := ?_) (a' := ?_) #[true, true, true, true, true, true, true, true, true, true, true, true, true, true, true, true, true, true, true, true, true, true, true, true, false, true, true, false, false, false, false, false] rfl rfl (take_ofW HT_.out HW_.out (by kernel_rfl)) (fun _ _ _ h => h) (Or.inl ⟨by rfl, ?_⟩) hHeld ?_ ?_
          rotate_left
          ·rintro w' ⟨s0, s1, s2, s3, s4, s5⟩
           go_simp
           with_reducible rfl
          rotate_left
          ·simp only [Act.put, List.setIfInBounds_toArray, List.set_cons_zero, List.set_cons_succ, i64_w, i32_w]
           rfl
          refine one_ (i := 24) (N := some 101) #[true, true, true, true, true, true, true, true, true, true, true, true, true, true, true, true, true, true, true, true, true, true, true, true, true, true, true, false, false, false, false, false] rfl rfl (one_of HT_.out (by kernel_rfl)) (by decide) (fun K hK => ?_)
          refine goR Tryd.func26 [.agg #[.bool a0_0, .slice A0_1 l0_1.length c0_1], .agg #[.bool a1_0, .slice A1_1 l1_1.length c1_1]] ?_
          with_reducible refine (whole_Cmp.calls kj5 a0_0 _ _ l0_1 a1_0 _ _ l1_1 t1139 _ ?side1 ?side2 ?side3 ?side4 A102.out).mono ?_
          (case side1 => exact (Kd.C_below HR0_1.out HB.out))
          (case side2 => exact HC0_1.out)
          (case side3 => exact (Kd.C_below HR1_1.out HB.out))
          (case side4 => exact HC1_1.out)
          rintro e w156 ⟨rfl, hb⟩
          refine ⟨_, rfl, ?_⟩
          replace BK1061 := Aside0.mk (blk_below BK1061.out hb)
          replace BK1062 := Aside0.mk (blk_below BK1062.out hb)
          replace BK1138 := Aside0.mk (blk_below BK1138.out hb)
          replace HB := Aside0.mk (below_step HB.out hb)
          (try clear hb)
          (try clear hb2)
          (try clear hk)
          (try clear hi)
          refine hK.out _ _ ⟨bc0 BK1138.out, bc1 BK1138.out, bc0 BK1061.out, bc1 BK1061.out, bc0 BK1062.out, bc1 BK1062.out⟩ (fun hHeld => ?_)
          clear hK K
          refine norm_ (a' := ?_) ?_ ?_
          rotate_left
          ·show Act.put _ (some 101) _ = _
           simp only [Act.put, List.setIfInBounds_toArray, List.set_cons_zero, List.set_cons_succ, i64_w, i32_w]
           rfl
          refine one_ (i := 27) (N := some 104) #[true, true, true, true, true, true, true, true, true, true, true, true, true, true, true, true, true, true, true, true, true, true, true, true, true, true, true, true, false, false, false, false] rfl rfl (one_of HT_.out (by kernel_rfl)) (by decide) (fun K hK => ?_)
          refine goR Tryd.func26 [.agg #[.bool a1_0, .slice A1_1 l1_1.length c1_1], .agg #[.bool a0_0, .slice A0_1 l0_1.length c0_1]] ?_
          with_reducible refine (whole_Cmp.calls kj5 a1_0 _ _ l1_1 a0_0 _ _ l0_1 t1140 _ ?side1 ?side2 ?side3 ?side4 A103.out).mono ?_
          (case side1 => exact (Kd.C_below HR1_1.out HB.out))
          (case side2 => exact HC1_1.out)
          (case side3 => exact (Kd.C_below HR0_1.out HB.out))
          (case side4 => exact HC0_1.out)
          rintro e w157 ⟨rfl, hb⟩
          refine ⟨_, rfl, ?_⟩
          replace BK1061 := Aside0.mk (blk_below BK1061.out hb)
          replace BK1062 := Aside0.mk (blk_below BK1062.out hb)
          replace BK1138 := Aside0.mk (blk_below BK1138.out hb)
          replace HB := Aside0.mk (below_step HB.out hb)
          (try clear hb)
          (try clear hb2)
          (try clear hk)
          (try clear hi)
          refine hK.out _ _ ⟨bc0 BK1138.out, bc1 BK1138.out, bc0 BK1061.out, bc1 BK1061.out, bc0 BK1062.out, bc1 BK1062.out⟩ (fun hHeld => ?_)
          clear hK K
          refine norm_ (a' := ?_) ?_ ?_
          rotate_left
          ·show Act.put _ (some 104) _ = _
           simp only [Act.put, List.setIfInBounds_toArray, List.set_cons_zero, List.set_cons_succ, i64_w, i32_w]
           rfl
          refine pure_ (i := 28) (N := some 105) (v := ?_) (a' := ?_) #[true, true, true, true, true, true, true, true, true, true, true, true, true, true, true, true, true, true, true, true, true, true, true, true, true, true, true, true, true, false, false, false] rfl rfl (any_of HT_.out (by kernel_rfl)) (fun _ _ _ h => h) (Or.inl ⟨by rfl, ?_⟩) ?_ ?_
          rotate_left
          ·intro w'
           go_simp
           with_reducible rfl
          rotate_left
          ·simp only [Act.put, List.setIfInBounds_toArray, List.set_cons_zero, List.set_cons_succ, i64_w, i32_w]
           rfl
          refine pure_ (i := 29) (N := some 106) (v := ?_) (a' := ?_) #[true, true, true, true, true, true, true, true, true, true, true, true, true, true, true, true, true, true, true, true, true, true, true, true, true, true, true, true, true, true, false, false] rfl rfl (any_of HT_.out (by kernel_rfl)) (fun _ _ _ h => h) (Or.inl ⟨by rfl, ?_⟩) ?_ ?_
          rotate_left
          ·intro w'
           go_simp
           with_reducible rfl
          rotate_left
          ·simp only [Act.put, List.setIfInBounds_toArray, List.set_cons_zero, List.set_cons_succ, i64_w, i32_w]
           rfl
          refine pure_ (i := 30) (N := some 107) (v := ?_) (a' := ?_) #[true, true, true, true, true, true, true, true, true, true, true, true, true, true, true, true, true, true, true, true, true, true, true, true, true, true, true, true, true, true, true, false] rfl rfl (any_of HT_.out (by kernel_rfl)) (fun _ _ _ h => h) (Or.inl ⟨by rfl, ?_⟩) ?_ ?_
          rotate_left
          ·intro w'
           go_simp
           with_reducible rfl
          rotate_left
          ·simp only [Act.put, List.setIfInBounds_toArray, List.set_cons_zero, List.set_cons_succ, i64_w, i32_w]
           rfl
          refine pure_ (i := 31) (N := some 6) (v := ?_) (a' := ?_) #[true, true, true, true, true, true, true, true, true, true, true, true, true, true, true, true, true, true, true, true, true, true, true, true, true, true, true, true, true, true, true, true] rfl rfl (any_of HT_.out (by kernel_rfl)) (fun _ _ _ h => h) (Or.inl ⟨by rfl, ?_⟩) ?_ ?_
          rotate_left
          ·intro w'
           go_simp
           with_reducible rfl
          rotate_left
          ·simp only [Act.put, List.setIfInBounds_toArray, List.set_cons_zero, List.set_cons_succ, i64_w, i32_w]
           rfl
          refine done_ (done_of HT_.out (by kernel_rfl)) ?_
          try go_wp2
          go_ret
          exact ⟨by first | rfl | (simp [errW_none, errW_some] <;> rfl) | (refine congrArg (fun z_ => Ending.returned (Value.bool z_)) (decide_eq_decide.mpr ?_); unfold wrap64; omega) | (simp [*, errW_none, errW_some] <;> rfl), HB.out⟩
         ·rw [if_neg c101] at H
          have c101b0 : ((t1135.length : Int) == 0) = false := beq_eq_false_iff_ne.mpr c101
          have c101b1 : ((t1135.length : Int) != 0) = true := bne_iff_ne.mpr c101
          have c101b2 : ¬ (t1135 = []) := fun h_ => c101 (by rw [h_]; rfl)
          obtain rfl := Option.some.inj H
          try go_wp2_with (first | ((with_reducible refine gate_callee (f := 22) rfl ?_); refine goL (some 76) Tryd.func22 [.agg #[.bool a0_0, .slice A0_1 l0_1.length c0_1], .agg #[.bool a0_0, .slice A0_1 l0_1.length c0_1]] ?_; (with_reducible refine (whole_Sub.calls kj5 a0_0 _ _ l0_1 a0_0 _ _ l0_1 false t1135 _ ?side1 ?side2 ?side3 ?side4 A43.out).mono ?_); (case side1 => exact (Kd.C_below HR0_1.out HB.out)); (case side2 => exact HC0_1.out); (case side3 => exact (Kd.C_below HR0_1.out HB.out)); (case side4 => exact HC0_1.out); rintro e w201 ⟨v1136, rfl, ho0, hb⟩; refine ⟨_, rfl, ?_⟩; have HO1137 := Aside0.mk (Kd.R_lower (Kd.R_new' (Kd.R_new' (Kd.R_new' (Kd.R_new' (Kd.R_new' (Kd.R_new' (Kd.R_new' (Kd.R_new' (Kd.R_new' (Kd.R_new' (Kd.R_new' (Kd.R_new' (Kd.R_new' (Kd.R_new' (Kd.R_new' (Kd.R_new' ho0 (Kd.R_lt HO1069.out)) (Kd.R_lt HO1073.out)) (Kd.R_lt HO1077.out)) (Kd.R_lt HO1081.out)) (Kd.R_lt HO1086.out)) (Kd.R_lt HO1090.out)) (Kd.R_lt HO1094.out)) (Kd.R_lt HO1098.out)) (Kd.R_lt HO1103.out)) (Kd.R_lt HO1107.out)) (Kd.R_lt HO1111.out)) (Kd.R_lt HO1115.out)) (Kd.R_lt HO1119.out)) (Kd.R_lt HO1124.out)) (Kd.R_lt HO1128.out)) (Kd.R_lt HO1132.out)) (below_size HB.out)); replace BK1061 := Aside0.mk (blk_below BK1061.out hb); replace BK1062 := Aside0.mk (blk_below BK1062.out hb); replace BK1063 := Aside0.mk (blk_below BK1063.out hb); replace HB := Aside0.mk (below_step HB.out hb)) | ((with_reducible refine gate_dst (N := 13) rfl ?_); (try (refine gate_guard (by rfl) ?_; dsimp only)); refine box_event ?hg (N := 13) ?hd (cs := #[.bool false, .slice none 0 0]) (t := 24) ?hr ?_; (case hd => rfl); (case hg => rfl); (case hr => first | (go_simp; done) | (go_simp; rfl)); intro gb1138 hg w202 hbox hb; replace HO1137 := Aside0.mk (Kd.R_below HO1137.out hb); have BK1138 := Aside0.mk (hbox); have GW1138 := Aside0.mk (bxLe HB.out hg); have GE1138 := GW1138; replace HB := Aside0.mk (below_step HB.out hb); have NB1061_1138 := Aside0.mk (neL BK1061.out hg); have NB1138_1061 := Aside0.mk (neR BK1061.out hg); have NB1062_1138 := Aside0.mk (neL BK1062.out hg); have NB1138_1062 := Aside0.mk (neR BK1062.out hg); have NB1063_1138 := Aside0.mk (neL BK1063.out hg); have NB1138_1063 := Aside0.mk (neR BK1063.out hg); clear hb hbox hg; have hnb203 := NB1138_1061.out; have hnc203 := NB1061_1138.out; have hnb204 := NB1138_1062.out; have hnc204 := NB1062_1138.out; have hnb205 := NB1138_1063.out; have hnc205 := NB1063_1138.out; have hcz206_0 : w202.cell? ⟨gb1138, 0, none⟩ = some (.bool false) := bc0 BK1138.out; have hcz206_1 : w202.cell? ⟨gb1138, 1, none⟩ = some (.slice none 0 0) := bc1 BK1138.out; have hfz206_0 := blk_frozen BK1138.out 0; have hfz206_1 := blk_frozen BK1138.out 1; obtain ⟨Ao207, co207, eo207⟩ := Kd.R_slice HO1137.out; subst eo207))
          have n20_ : Aside0 (((w202.setCell ⟨gb1138, 0, none⟩ (.bool false)).setCell ⟨gb1138, 1, none⟩ (.slice Ao207 t1135.length co207)).heap[gb1138]? = some (.cells #[.bool false, .slice Ao207 t1135.length co207] 24 (0, 0))) := ⟨by refine blk_put (cs := #[.bool false, .slice none 0 0]) ?_ 1 _ rfl; refine blk_put (cs := #[.bool false, .slice none 0 0]) ?_ 0 _ rfl; exact BK1138.out⟩
          have n21_ : Aside0 (Below w.heap.size w ((w202.setCell ⟨gb1138, 0, none⟩ (.bool false)).setCell ⟨gb1138, 1, none⟩ (.slice Ao207 t1135.length co207))) := ⟨by repeat first | exact HB.out | refine bxSet ?_ (by assumption) | apply below_alloc | apply pw_below_drewN⟩
          (try clear BK1138)
          (try clear HB)
          generalize ((w202.setCell ⟨gb1138, 0, none⟩ (.bool false)).setCell ⟨gb1138, 1, none⟩ (.slice Ao207 t1135.length co207)) = w208 at n20_ n21_ ⊢
          have BK1138 := n20_
          have HB := n21_
          clear n20_ n21_
          replace BK1138 := Aside0.mk (blk_drew BK1138.out)
          replace HB := Aside0.mk (below_drew1 HB.out)
          refine start_ (n := 32) (S := fun w' => w'.cell? ⟨gb1138, 0, none⟩ = some (.bool false) ∧ w'.cell? ⟨gb1138, 1, none⟩ = some (.slice Ao207 t1135.length co207)) (ds := []) #[false, false, false, false, false, false, false, false, false, false, false, false, false, false, false, false, false, false, false, false, false, false, false, false, false, false, false, false, false, false, false, false] (by kernel_rfl) rfl rfl ⟨bc0 BK1138.out, bc1 BK1138.out⟩ (fun hHeld => ?_); refine with_tabW gudgeonlaw02_WholeOrder.tab10 gudgeonlaw02_WholeOrder.bits10 (fun HT_ HW_ => ?_)
          generalize w208.drew = w209 at HO1069 HO1073 HO1077 HO1081 HO1086 HO1090 HO1094 HO1098 HO1103 HO1107 HO1111 HO1115 HO1119 HO1124 HO1128 HO1132 HO1137 BK1061 BK1062 BK1063 BK1138 HB hHeld ⊢
          refine pure_ (i := 0) (N := some 77) (v := ?_) (a' := ?_) #[true, false, false, false, false, false, false, false, false, false, false, false, false, false, false, false, false, false, false, false, false, false, false, false, false, false, false, false, false, false, false, false] rfl rfl (any_of HT_.out (by kernel_rfl)) (fun _ _ _ h => h) (Or.inl ⟨by rfl, ?_⟩) ?_ ?_
          rotate_left
          ·intro w'
           go_simp
           with_reducible rfl
          rotate_left
          ·simp only [Act.put, List.setIfInBounds_toArray, List.set_cons_zero, List.set_cons_succ, i64_w, i32_w]
           rfl
          refine pure_ (i := 1) (N := some 78) (v := ?_) (a' := ?_) #[true, true, false, false, false, false, false, false, false, false, false, false, false, false, false, false, false, false, false, false, false, false, false, false, false, false, false, false, false, false, false, false] rfl rfl (any_of HT_.out (by kernel_rfl)) (fun _ _ _ h => h) (Or.inl ⟨by rfl, ?_⟩) ?_ ?_
          rotate_left
          ·intro w'
           go_simp
           with_reducible rfl
          rotate_left
          ·simp only [Act.put, List.setIfInBounds_toArray, List.set_cons_zero, List.set_cons_succ, i64_w, i32_w]
           rfl
          refine pure_ (i := 2) (N := some 79) (v := ?_) (a' := ?_) #[true, true, true, false, false, false, false, false, false, false, false, false, false, false, false, false, false, false, false, false, false, false, false, false, false, false, false, false, false, false, false, false] rfl rfl (any_of HT_.out (by kernel_rfl)) (fun _ _ _ h => h) (Or.inl ⟨by rfl, ?_⟩) ?_ ?_
          rotate_left
          ·intro w'
           go_simp
           with_reducible rfl
          rotate_left
          ·simp only [Act.put, List.setIfInBounds_toArray, List.set_cons_zero, List.set_cons_succ, i64_w, i32_w]
           rfl
          refine pure_ (i := 3) (N := some 80) (v := ?_) (a' := ?_) #[true, true, true, true, false, false, false, false, false, false, false, false, false, false, false, false, false, false, false, false, false, false, false, false, false, false, false, false, false, false, false, false] rfl rfl (any_of HT_.out (by kernel_rfl)) (fun _ _ _ h => h) (Or.inl ⟨by rfl, ?_⟩) ?_ ?_
          rotate_left
          ·intro w'
           go_simp
           with_reducible rfl
          rotate_left
          ·simp only [Act.put, List.setIfInBounds_toArray, List.set_cons_zero, List.set_cons_succ, i64_w, i32_w]
           rfl
          refine pure_ (i := 4) (N := some 81) (v := ?_) (a' := ?_) #[true, true, true, true, true, false, false, false, false, false, false, false, false, false, false, false, false, false, false, false, false, false, false, false, false, false, false, false, false, false, false, false] rfl rfl (any_of HT_.out (by kernel_rfl)) (fun _ _ _ h => h) (Or.inl ⟨by rfl, ?_⟩) ?_ ?_
          rotate_left
          ·intro w'
           go_simp
           with_reducible rfl
          rotate_left
          ·simp only [Act.put, List.setIfInBounds_toArray, List.set_cons_zero, List.set_cons_succ, i64_w, i32_w]
           rfl
          refine pure_ (i := 5) (N := some 82) (v := ?_) (a' := ?_) #[true, true, true, true, true, true, false, false, false, false, false, false, false, false, false, false, false, false, false, false, false, false, false, false, false, false, false, false, false, false, false, false] rfl rfl (any_of HT_.out (by kernel_rfl)) (fun _ _ _ h => h) (Or.inl ⟨by rfl, ?_⟩) ?_ ?_
          rotate_left
          ·intro w'
           go_simp
           with_reducible rfl
          rotate_left
          ·simp only [Act.put, List.setIfInBounds_toArray, List.set_cons_zero, List.set_cons_succ, i64_w, i32_w]
           rfl
          refine pure_ (i := 6) (N := some 83) (v := ?_) (a' := ?_) #[true, true, true, true, true, true, true, false, false, false, false, false, false, false, false, false, false, false, false, false, false, false, false, false, false, false, false, false, false, false, false, false] rfl rfl (any_of HT_.out (by kernel_rfl)) (fun _ _ _ h => h) (Or.inl ⟨by rfl, ?_⟩) ?_ ?_
          rotate_left
          ·intro w'
           go_simp
           with_reducible rfl
          rotate_left
          ·simp only [Act.put, List.setIfInBounds_toArray, List.set_cons_zero, List.set_cons_succ, i64_w, i32_w]
           rfl
          refine pure_ (i := 7) (N := some 84) (v := ?_) (a' := ?_) #[true, true, true, true, true, true, true, true, false, false, false, false, false, false, false, false, false, false, false, false, false, false, false, false, false, false, false, false, false, false, false, false] rfl rfl (any_of HT_.out (by kernel_rfl)) (fun _ _ _ h => h) (Or.inl ⟨by rfl, ?_⟩) ?_ ?_
          rotate_left
          ·intro w'
           go_simp
           with_reducible rfl
          rotate_left
          ·simp only [Act.put, List.setIfInBounds_toArray, List.set_cons_zero, List.set_cons_succ, i64_w, i32_w]
           rfl
          refine pure_ (i := 8) (N := some 85) (v := ?_) (a' := ?_) #[true, true, true, true, true, true, true, true, true, false, false, false, false, false, false, false, false, false, false, false, false, false, false, false, false, false, false, false, false, false, false, false] rfl rfl (any_of HT_.out (by kernel_rfl)) (fun _ _ _ h => h) (Or.inl ⟨by rfl, ?_⟩) ?_ ?_
          rotate_left
          ·intro w'
           go_simp
           with_reducible rfl
          rotate_left
          ·simp only [Act.put, List.setIfInBounds_toArray, List.set_cons_zero, List.set_cons_succ, i64_w, i32_w]
           rfl
          refine pure_ (i := 9) (N := some 86) (v := ?_) (a' := ?_) #[true, true, true, true, true, true, true, true, true, true, false, false, false, false, false, false, false, false, false, false, false, false, false, false, false, false, false, false, false, false, false, false] rfl rfl (any_of HT_.out (by kernel_rfl)) (fun _ _ _ h => h) (Or.inl ⟨by rfl, ?_⟩) ?_ ?_
          rotate_left
          ·intro w'
           go_simp
           with_reducible rfl
          rotate_left
          ·simp only [Act.put, List.setIfInBounds_toArray, List.set_cons_zero, List.set_cons_succ, i64_w, i32_w]
           rfl
          refine pure_ (i := 10) (N := some 87) (v := ?_) (a' := ?_) #[true, true, true, true, true, true, true, true, true, true, true, false, false, false, false, false, false, false, false, false, false, false, false, false, false, false, false, false, false, false, false, false] rfl rfl (any_of HT_.out (by kernel_rfl)) (fun _ _ _ h => h) (Or.inl ⟨by rfl, ?_⟩) ?_ ?_
          rotate_left
          ·intro w'
           go_simp
           with_reducible rfl
          rotate_left
          ·simp only [Act.put, List.setIfInBounds_toArray, List.set_cons_zero, List.set_cons_succ, i64_w, i32_w]
           rfl
          refine pure_ (i := 11) (N := some 88) (v := ?_) (a' := ?_) #[true, true, true, true, true, true, true, true, true, true, true, true, false, false, false, false, false, false, false, false, false, false, false, false, false, false, false, false, false, false, false, false] rfl rfl (any_of HT_.out (by kernel_rfl)) (fun _ _ _ h => h) (Or.inl ⟨by rfl, ?_⟩) ?_ ?_
          rotate_left
          ·intro w'
           go_simp
           with_reducible rfl
          rotate_left
          ·simp only [Act.put, List.setIfInBounds_toArray, List.set_cons_zero, List.set_cons_succ, i64_w, i32_w]
           rfl
          refine take_ (i := 12) (N := some 89) (v := ?_) (a' := ?_) #[true, true, true, true, true, true, true, true, true, true, true, true, true, false, false, false, false, false, false, false, false, false, false, false, false, false, false, false, false, false, false, false] rfl rfl (take_ofW HT_.out HW_.out (by kernel_rfl)) (fun _ _ _ h => h) (Or.inl ⟨by rfl, ?_⟩) hHeld ?_ ?_
          rotate_left
          ·rintro w' ⟨s0, s1⟩
           go_simp
           with_reducible rfl
          rotate_left
          ·simp only [Act.put, List.setIfInBounds_toArray, List.set_cons_zero, List.set_cons_succ, i64_w, i32_w]
           rfl
          refine pure_ (i := 13) (N := some 90) (v := ?_) (a' := ?_) #[true, true, true, true, true, true, true, true, true, true, true, true, true, true, false, false, false, false, false, false, false, false, false, false, false, false, false, false, false, false, false, false] rfl rfl (any_of HT_.out (by kernel_rfl)) (fun _ _ _ h => h) (Or.inl ⟨by rfl, ?_⟩) ?_ ?_
          rotate_left
          ·intro w'
           go_simp
           with_reducible rfl
          rotate_left
          ·simp only [Act.put, List.setIfInBounds_toArray, List.set_cons_zero, List.set_cons_succ, i64_w, i32_w]
           rfl
          refine pure_ (i := 14) (N := some 91) (v := ?_) (a' := ?_) #[true, true, true, true, true, true, true, true, true, true, true, true, true, true, true, false, false, false, false, false, false, false, false, false, false, false, false, false, false, false, false, false] rfl rfl (any_of HT_.out (by kernel_rfl)) (fun _ _ _ h => h) (Or.inl ⟨by rfl, ?_⟩) ?_ ?_
          rotate_left
          ·intro w'
           go_simp
           with_reducible rfl
          rotate_left
          ·simp only [Act.put, List.setIfInBounds_toArray, List.set_cons_zero, List.set_cons_succ, i64_w, i32_w]
           rfl
          refine pure_ (i := 15) (N := some 92) (v := ?_) (a' := ?_) #[true, true, true, true, true, true, true, true, true, true, true, true, true, true, true, true, false, false, false, false, false, false, false, false, false, false, false, false, false, false, false, false] rfl rfl (any_of HT_.out (by kernel_rfl)) (fun _ _ _ h => h) (Or.inl ⟨by rfl, ?_⟩) ?_ ?_
          rotate_left
          ·intro w'
           go_simp
           with_reducible rfl
          rotate_left
          ·simp only [Act.put, List.setIfInBounds_toArray, List.set_cons_zero, List.set_cons_succ, i64_w, i32_w]
           rfl
          refine pure_ (i := 16) (N := some 93) (v := ?_) (a' := ?_) #[true, true, true, true, true, true, true, true, true, true, true, true, true, true, true, true, true, false, false, false, false, false, false, false, false, false, false, false, false, false, false, false] rfl rfl (any_of HT_.out (by kernel_rfl)) (fun _ _ _ h => h) (Or.inl ⟨by rfl, ?_⟩) ?_ ?_
          rotate_left
          ·intro w'
           go_simp
           with_reducible rfl
          rotate_left
          ·simp only [Act.put, List.setIfInBounds_toArray, List.set_cons_zero, List.set_cons_succ, i64_w, i32_w]
           rfl
          refine take_ (i := 17) (N := some 94) (v := ?_) (a' := ?_) #[true, true, true, true, true, true, true, true, true, true, true, true, true, true, true, true, true, true, false, false, false, false, false, false, false, false, false, false, false, false, false, false] rfl rfl (take_ofW HT_.out HW_.out (by kernel_rfl)) (fun _ _ _ h => h) (Or.inl ⟨by rfl, ?_⟩) hHeld ?_ ?_
          rotate_left
          ·rintro w' ⟨s0, s1⟩
           go_simp
           with_reducible rfl
          rotate_left
          ·simp only [Act.put, List.setIfInBounds_toArray, List.set_cons_zero, List.set_cons_succ, i64_w, i32_w]
           rfl
          refine pure_ (i := 18) (N := some 95) (v := ?_) (a' := ?_) #[true, true, true, true, true, true, true, true, true, true, true, true, true, true, true, true, true, true, true, false, false, false, false, false, false, false, false, false, false, false, false, false] rfl rfl (any_of HT_.out (by kernel_rfl)) (fun _ _ _ h => h) (Or.inl ⟨by rfl, ?_⟩) ?_ ?_
          rotate_left
          ·intro w'
           go_simp
           with_reducible rfl
          rotate_left
          ·simp only [Act.put, List.setIfInBounds_toArray, List.set_cons_zero, List.set_cons_succ, i64_w, i32_w]
           rfl
          refine pure_ (i := 19) (N := some 96) (v := ?_) (a' := ?_) #[true, true, true, true, true, true, true, true, true, true, true, true, true, true, true, true, true, true, true, true, false, false, false, false, false, false, false, false, false, false, false, false] rfl rfl (any_of HT_.out (by kernel_rfl)) (fun _ _ _ h => h) (Or.inl ⟨by rfl, ?_⟩) ?_ ?_
          rotate_left
          ·intro w'
           go_simp
           with_reducible rfl
          rotate_left
          ·simp only [Act.put, List.setIfInBounds_toArray, List.set_cons_zero, List.set_cons_succ, i64_w, i32_w]
           rfl
          refine pure_ (i := 20) (N := some 97) (v := ?_) (a' := ?_) #[true, true, true, true, true, true, true, true, true, true, true, true, true, true, true, true, true, true, true, true, true, false, false, false, false, false, false, false, false, false, false, false] rfl rfl (any_of HT_.out (by kernel_rfl)) (fun _ _ _ h => h) (Or.inl ⟨by rfl, ?_⟩) ?_ ?_
          rotate_left
          ·intro w'
           go_simp
           with_reducible rfl
          rotate_left
          ·simp only [Act.put, List.setIfInBounds_toArray, List.set_cons_zero, List.set_cons_succ, i64_w, i32_w]
           rfl
          refine pure_ (i := 21) (N := some 98) (v := ?_) (a' := ?_) #[true, true, true, true, true, true, true, true, true, true, true, true, true, true, true, true, true, true, true, true, true, true, false, false, false, false, false, false, false, false, false, false] rfl rfl (any_of HT_.out (by kernel_rfl)) (fun _ _ _ h => h) (Or.inl ⟨by rfl, ?_⟩) ?_ ?_
          rotate_left
          ·intro w'
           go_simp
           with_reducible rfl
          rotate_left
          ·simp only [Act.put, List.setIfInBounds_toArray, List.set_cons_zero, List.set_cons_succ, i64_w, i32_w]
           rfl
          refine pure_ (i := 22) (N := some 99) (v := undef) (a' := ?_) #[true, true, true, true, true, true, true, true, true, true, true, true, true, true, true, true, true, true, true, true, true, true, true, false, false, false, false, false, false, false, false, false] rfl rfl (any_of HT_.out (by kernel_rfl)) (fun _ _ _ h => h) (Or.inr ⟨by rfl, rfl⟩) ?_ ?_
          rotate_left
          ·simp only [Act.put, List.setIfInBounds_toArray, List.set_cons_zero, List.set_cons_succ, i64_w, i32_w]
           rfl
          refine pure_ (i := 23) (N := some 100) (v := undef) (a' := ?_) #[true, true, true, true, true, true, true, true, true, true, true, true, true, true, true, true, true, true, true, true, true, true, true, true, false, false, false, false, false, false, false, false] rfl rfl (any_of HT_.out (by kernel_rfl)) (fun _ _ _ h => h) (Or.inr ⟨by rfl, rfl⟩) ?_ ?_
          rotate_left
          ·simp only [Act.put, List.setIfInBounds_toArray, List.set_cons_zero, List.set_cons_succ, i64_w, i32_w]
           rfl
          refine pure_ (i := 24) (N := some 101) (v := undef) (a' := ?_) #[true, true, true, true, true, true, true, true, true, true, true, true, true, true, true, true, true, true, true, true, true, true, true, true, true, false, false, false, false, false, false, false] rfl rfl (any_of HT_.out (by kernel_rfl)) (fun _ _ _ h => h) (Or.inr ⟨by rfl, rfl⟩) ?_ ?_
          rotate_left
          ·simp only [Act.put, List.setIfInBounds_toArray, List.set_cons_zero, List.set_cons_succ, i64_w, i32_w]
           rfl
          refine pure_ (i := 25) (N := some 102) (v := undef) (a' := ?_) #[true, true, true, true, true, true, true, true, true, true, true, true, true, true, true, true, true, true, true, true, true, true, true, true, true, true, false, false, false, false, false, false] rfl rfl (any_of HT_.out (by kernel_rfl)) (fun _ _ _ h => h) (Or.inr ⟨by rfl, rfl⟩) ?_ ?_
          rotate_left
          ·simp only [Act.put, List.setIfInBounds_toArray, List.set_cons_zero, List.set_cons_succ, i64_w, i32_w]
           rfl
          refine pure_ (i := 26) (N := some 103) (v := undef) (a' := ?_) #[true, true, true, true, true, true, true, true, true, true, true, true, true, true, true, true, true, true, true, true, true, true, true, true, true, true, true, false, false, false, false, false] rfl rfl (any_of HT_.out (by kernel_rfl)) (fun _ _ _ h => h) (Or.inr ⟨by rfl, rfl⟩) ?_ ?_
          rotate_left
          ·simp only [Act.put, List.setIfInBounds_toArray, List.set_cons_zero, List.set_cons_succ, i64_w, i32_w]
           rfl
          refine pure_ (i := 27) (N := some 104) (v := undef) (a' := ?_) #[true, true, true, true, true, true, true, true, true, true, true, true, true, true, true, true, true, true, true, true, true, true, true, true, true, true, true, true, false, false, false, false] rfl rfl (any_of HT_.out (by kernel_rfl)) (fun _ _ _ h => h) (Or.inr ⟨by rfl, rfl⟩) ?_ ?_
          rotate_left
          ·simp only [Act.put, List.setIfInBounds_toArray, List.set_cons_zero, List.set_cons_succ, i64_w, i32_w]
           rfl
          refine pure_ (i := 28) (N := some 105) (v := undef) (a' := ?_) #[true, true, true, true, true, true, true, true, true, true, true, true, true, true, true, true, true, true, true, true, true, true, true, true, true, true, true, true, true, false, false, false] rfl rfl (any_of HT_.out (by kernel_rfl)) (fun _ _ _ h => h) (Or.inr ⟨by rfl, rfl⟩) ?_ ?_
          rotate_left
          ·simp only [Act.put, List.setIfInBounds_toArray, List.set_cons_zero, List.set_cons_succ, i64_w, i32_w]
           rfl
          refine pure_ (i := 29) (N := some 106) (v := undef) (a' := ?_) #[true, true, true, true, true, true, true, true, true, true, true, true, true, true, true, true, true, true, true, true, true, true, true, true, true, true, true, true, true, true, false, false] rfl rfl (any_of HT_.out (by kernel_rfl)) (fun _ _ _ h => h) (Or.inr ⟨by rfl, rfl⟩) ?_ ?_
          rotate_left
          ·simp only [Act.put, List.setIfInBounds_toArray, List.set_cons_zero, List.set_cons_succ, i64_w, i32_w]
           rfl
          refine pure_ (i := 30) (N := some 107) (v := ?_) (a' := ?_) #[true, true, true, true, true, true, true, true, true, true, true, true, true, true, true, true, true, true, true, true, true, true, true, true, true, true, true, true, true, true, true, false] rfl rfl (any_of HT_.out (by kernel_rfl)) (fun _ _ _ h => h) (Or.inl ⟨by rfl, ?_⟩) ?_ ?_
          rotate_left
          ·intro w'
           go_simp
           with_reducible rfl
          rotate_left
          ·simp only [Act.put, List.setIfInBounds_toArray, List.set_cons_zero, List.set_cons_succ, i64_w, i32_w]
           rfl
          refine pure_ (i := 31) (N := some 6) (v := ?_) (a' := ?_) #[true, true, true, true, true, true, true, true, true, true, true, true, true, true, true, true, true, true, true, true, true, true, true, true, true, true, true, true, true, true, true, true] rfl rfl (any_of HT_.out (by kernel_rfl)) (fun _ _ _ h => h) (Or.inl ⟨by rfl, ?_⟩) ?_ ?_
          rotate_left
          ·intro w'
           go_simp
           with_reducible rfl
          rotate_left
          ·simp only [Act.put, List.setIfInBounds_toArray, List.set_cons_zero, List.set_cons_succ, i64_w, i32_w]
           rfl
          refine done_ (done_of HT_.out (by kernel_rfl)) ?_
          try go_wp2
          go_ret
          exact ⟨by first | rfl | (simp [errW_none, errW_some] <;> rfl) | (refine congrArg (fun z_ => Ending.returned (Value.bool z_)) (decide_eq_decide.mpr ?_); unfold wrap64; omega) | (simp [*, errW_none, errW_some] <;> rfl), HB.out⟩
       ·replace c47 := Bool.eq_false_iff.mpr c47
        subst c47
        rw [if_neg (show ¬ (false = true) by decide)] at H
        exact absurd H (by simp)
      ·replace c46 := Bool.eq_false_iff.mpr c46
       subst c46
       rw [if_neg (show ¬ (false = true) by decide)] at H
       exact absurd H (by simp)
     ·replace c45 := Bool.eq_false_iff.mpr c45
      subst c45
      rw [if_neg (show ¬ (false = true) by decide)] at H
      exact absurd H (by simp)
    ·replace c44 := Bool.eq_false_iff.mpr c44
     subst c44
     rw [if_neg (show ¬ (false = true) by decide)] at H
     exact absurd H (by simp)

end Go.Proofs.YthnfmmaolkenkaaDoor.PA
/- Numbers by limbs: what a list of limbs is worth, and its own form. -/
namespace Go.Proofs.YthnfmmaolkenkaaDoor.V
set_option linter.unusedVariables false
set_option linter.unusedSimpArgs false

/-- What limbs are worth. -/
def val : List Int → Int
  | [] => 0
  | x :: r => x + 4294967296 * val r
/-- Limbs of 32 bits. -/
def Lim (l : List Int) : Prop := ∀ x ∈ l, 0 ≤ x ∧ x < 4294967296
theorem Lim.nil : Lim [] := fun _ h => by cases h
theorem Lim.cons {x : Int} {l : List Int} (h0 : 0 ≤ x) (h1 : x < 4294967296) (h : Lim l) : Lim (x :: l) := fun y hy => by
  rcases List.mem_cons.1 hy with rfl | hy
  · exact ⟨h0, h1⟩
  · exact h y hy
theorem Lim.head {x : Int} {l : List Int} (h : Lim (x :: l)) : 0 ≤ x ∧ x < 4294967296 := h x List.mem_cons_self
theorem Lim.tail {x : Int} {l : List Int} (h : Lim (x :: l)) : Lim l := fun y hy => h y (List.mem_cons_of_mem _ hy)
theorem Lim.append {a b : List Int} (ha : Lim a) (hb : Lim b) : Lim (a ++ b) := fun y hy => by
  rcases List.mem_append.1 hy with hy | hy
  · exact ha y hy
  · exact hb y hy
theorem Lim.left {a b : List Int} (h : Lim (a ++ b)) : Lim a := fun y hy => h y (List.mem_append_left _ hy)
theorem Lim.take {a : List Int} (n : Nat) (h : Lim a) : Lim (a.take n) := fun y hy => h y (List.mem_of_mem_take hy)
theorem Lim.drop {a : List Int} (n : Nat) (h : Lim a) : Lim (a.drop n) := fun y hy => h y (List.mem_of_mem_drop hy)
theorem Lim.get {l : List Int} (h : Lim l) (i : Nat) (hi : i < l.length) : 0 ≤ l[i] ∧ l[i] < 4294967296 := h _ (List.getElem_mem hi)
theorem Lim.set {l : List Int} (h : Lim l) (i : Nat) {x : Int} (h0 : 0 ≤ x) (h1 : x < 4294967296) : Lim (l.set i x) := fun y hy => by
  rcases List.mem_or_eq_of_mem_set hy with hy | rfl
  · exact h y hy
  · exact ⟨h0, h1⟩
theorem Lim.zeros (n : Nat) : Lim (List.replicate n 0) := fun y hy => by
  obtain rfl := List.eq_of_mem_replicate hy
  omega
theorem val_nonneg {l : List Int} (h : Lim l) : 0 ≤ val l := by
  induction l with
  | nil => simp [val]
  | cons x l ih =>
    have := ih h.tail
    have := h.head
    simp only [val]; omega
/-- The weight of the limb at a place. -/
def pw (n : Nat) : Int := 4294967296 ^ n
theorem pw_zero : pw 0 = 1 := rfl
theorem pw_succ (n : Nat) : pw (n + 1) = 4294967296 * pw n := by unfold pw; rw [Int.pow_succ]; omega
theorem pw_pos (n : Nat) : 0 < pw n := by
  induction n with
  | zero => decide
  | succ n ih => rw [pw_succ]; omega
theorem pw_add (m n : Nat) : pw (m + n) = pw m * pw n := by unfold pw; exact Int.pow_add ..
theorem val_lt {l : List Int} (h : Lim l) : val l < pw l.length := by
  induction l with
  | nil => simp [val, pw_zero]
  | cons x l ih =>
    have := ih h.tail
    have := h.head
    simp only [val, List.length_cons, pw_succ]; omega
theorem val_append (a b : List Int) : val (a ++ b) = val a + pw a.length * val b := by
  induction a with
  | nil => simp [val, pw_zero]
  | cons x a ih => simp only [List.cons_append, val, ih, List.length_cons, pw_succ]; grind
theorem val_zeros (n : Nat) : val (List.replicate n 0) = 0 := by
  induction n with
  | zero => rfl
  | succ n ih => simp only [List.replicate_succ, val, ih]; omega
/-- The limbs of a number, without noughts behind. -/
def digN (n : Nat) : List Int := if h : n = 0 then [] else ((n % 4294967296 : Nat) : Int) :: digN (n / 4294967296)
termination_by n
decreasing_by omega
def dig (n : Int) : List Int := digN n.toNat
theorem digN_lim (n : Nat) : Lim (digN n) := by
  induction n using Nat.strongRecOn with
  | _ n ih =>
    rw [digN]
    split
    · exact Lim.nil
    · exact Lim.cons (by omega) (by omega) (ih _ (by omega))
theorem val_digN (n : Nat) : val (digN n) = n := by
  induction n using Nat.strongRecOn with
  | _ n ih =>
    rw [digN]
    split
    · rename_i h; simp [val, h]
    · simp only [val]; rw [ih _ (by omega)]; omega
theorem dig_lim (n : Int) : Lim (dig n) := digN_lim _
theorem val_dig {n : Int} (h : 0 ≤ n) : val (dig n) = n := by unfold dig; rw [val_digN]; omega
theorem dig_zero : dig 0 = [] := by unfold dig; rw [digN]; rfl
theorem dig_eq_nil {n : Int} (h : 0 ≤ n) : dig n = [] ↔ n = 0 := by
  constructor
  · intro e
    have := val_dig h
    rw [e] at this
    exact this.symm
  · rintro rfl; exact dig_zero
theorem dig_cons {x n : Int} (h0 : 0 ≤ x) (h1 : x < 4294967296) (hn : 0 ≤ n) (h : x + 4294967296 * n ≠ 0) : dig (x + 4294967296 * n) = x :: dig n := by
  unfold dig
  rw [digN]
  rw [dif_neg (by omega)]
  have e1 : (((x + 4294967296 * n).toNat % 4294967296 : Nat) : Int) = x := by omega
  have e2 : (x + 4294967296 * n).toNat / 4294967296 = n.toNat := by omega
  rw [e1, e2]
theorem dig_length_le {n : Int} {k : Nat} (h0 : 0 ≤ n) (h : n < pw k) : (dig n).length ≤ k := by
  induction k generalizing n with
  | zero => rw [pw_zero] at h; rw [show n = 0 by omega, dig_zero]; simp
  | succ k ih =>
    rw [pw_succ] at h
    by_cases hn : n = 0
    · rw [hn, dig_zero]; simp
    · have e : n = n % 4294967296 + 4294967296 * (n / 4294967296) := by omega
      rw [e, dig_cons (by omega) (by omega) (by omega) (by omega)]
      have := ih (n := n / 4294967296) (by omega) (by omega)
      simp; omega
theorem lt_of_dig_length {n : Int} {k : Nat} (h0 : 0 ≤ n) (h : (dig n).length ≤ k) : n < pw k := by
  have := val_lt (dig_lim n)
  rw [val_dig h0] at this
  have hp : pw (dig n).length ≤ pw k := by
    obtain ⟨d, hd⟩ := Nat.exists_eq_add_of_le h
    rw [hd, pw_add]
    have := pw_pos (dig n).length
    have := pw_pos d
    calc pw (dig n).length = pw (dig n).length * 1 := by omega
      _ ≤ _ := Int.mul_le_mul_of_nonneg_left (by omega) (by omega)
  omega
/-- Without the noughts behind: as the machine's Norm. -/
theorem dropWhile_zeros (l : List Int) (h : Lim l) : (l.reverse.dropWhile (fun x => x == 0)).reverse = dig (val l) := by
  induction l with
  | nil => simp [val, dig_zero]
  | cons x l ih =>
    have ih := ih h.tail
    have hx := h.head
    have hv := val_nonneg h.tail
    simp only [val, List.reverse_cons]
    rw [List.dropWhile_append]
    by_cases hz : val l = 0
    · rw [hz, dig_zero] at ih
      have e : (List.dropWhile (fun x => x == 0) l.reverse) = [] := by simpa using ih
      rw [e, hz]
      by_cases h0 : x = 0
      · subst h0; simp [dig_zero]
      · have : dig (x + 4294967296 * 0) = x :: dig 0 := dig_cons (by omega) (by omega) (by omega) (by omega)
        rw [this, dig_zero]
        simp [h0]
    · have hne : dig (val l) ≠ [] := by rw [Ne, dig_eq_nil hv]; exact hz
      rw [dig_cons (by omega) (by omega) hv (by omega), ← ih]
      have e : (List.dropWhile (fun x => x == 0) l.reverse).isEmpty = false := by
        rw [← ih] at hne
        cases hd : List.dropWhile (fun x => x == 0) l.reverse with
        | nil => rw [hd] at hne; simp at hne
        | cons _ _ => rfl
      rw [e]; simp
theorem dig_last {n : Int} (hne : dig n ≠ []) : (dig n).getLast hne ≠ 0 := by
  have key : ∀ (m : Nat) (hne : digN m ≠ []), (digN m).getLast hne ≠ 0 := by
    intro m
    induction m using Nat.strongRecOn with
    | _ m ih =>
      rw [digN]
      split
      · intro h; exact absurd rfl h
      · intro _
        by_cases hd : digN (m / 4294967296) = []
        · have : m / 4294967296 = 0 := by
            have hv := val_digN (m / 4294967296)
            rw [hd] at hv
            simp only [val] at hv
            omega
          simp only [hd, List.getLast_singleton]
          omega
        · rw [List.getLast_cons hd]
          exact ih _ (by omega) hd
  exact key _ hne
theorem val_take_getD (l : List Int) (i : Nat) : val (l.take (i + 1)) = val (l.take i) + pw i * l.getD i 0 := by
  by_cases h : i < l.length
  · rw [List.take_succ_eq_append_getElem h, val_append, List.length_take, Nat.min_eq_left (Nat.le_of_lt h)]
    simp [val, h]
  · rw [List.take_of_length_le (by omega), List.take_of_length_le (by omega), List.getD_eq_getElem?_getD, List.getElem?_eq_none (by omega)]
    simp
theorem val_set_take (l : List Int) (i : Nat) (x : Int) (h : i < l.length) : val ((l.set i x).take (i + 1)) = val (l.take i) + pw i * x := by
  rw [val_take_getD, List.take_set_of_le (Nat.le_refl i)]
  simp [List.getD_eq_getElem?_getD, h]
theorem val_set (l : List Int) (i : Nat) (x : Int) (h : i < l.length) : val (l.set i x) = val l + pw i * (x - l[i]) := by
  induction l generalizing i with
  | nil => simp at h
  | cons y l ih =>
    cases i with
    | zero => simp [val, pw_zero]; omega
    | succ i =>
      have := ih i (by simpa using h)
      simp only [List.set_cons_succ, val, this, pw_succ, List.getElem_cons_succ]
      grind
theorem lim_one {x : Int} (h0 : 0 ≤ x) (h1 : x < 4294967296) : Lim [x] := Lim.cons h0 h1 Lim.nil
theorem val_one (x : Int) : val [x] = x := by simp [val]
theorem val_take_drop (l : List Int) (i : Nat) (h : i ≤ l.length) : val l = val (l.take i) + pw i * val (l.drop i) := by
  have := val_append (l.take i) (l.drop i)
  rwa [List.take_append_drop, List.length_take, Nat.min_eq_left h] at this
theorem val_take_succ (l : List Int) (i : Nat) (h : i < l.length) : val (l.take (i + 1)) = val (l.take i) + pw i * l[i] := by
  rw [List.take_succ_eq_append_getElem h, val_append, List.length_take, Nat.min_eq_left (Nat.le_of_lt h)]
  simp [val]
theorem val_drop_cons (l : List Int) (i : Nat) (h : i < l.length) : val (l.drop i) = l[i] + 4294967296 * val (l.drop (i + 1)) := by
  rw [List.drop_eq_getElem_cons h]; rfl
end Go.Proofs.YthnfmmaolkenkaaDoor.V
/- What nat's functions compute, as numbers: the order, sums, differences, products, a number by a small one, moved bits. -/
namespace Go.Proofs.YthnfmmaolkenkaaDoor.V
set_option linter.unusedVariables false
set_option linter.unusedSimpArgs false
open Go.RowKit Go.Proofs.YthnfmmaolkenkaaDoor.PA Go.Proofs.YthnfmmaolkenkaaDoor.H Go.Proofs.YthnfmmaolkenkaaDoorW.PrintWords Go.Proofs.YthnfmmaolkenkaaDoorW.PrintLast Go.Proofs.YthnfmmaolkenkaaDoorW.PrintMore

theorem w64 {x : Int} (h0 : -9223372036854775808 ≤ x) (h1 : x ≤ 9223372036854775807) : wrap64 x = x := by unfold wrap64; omega
theorem w11 : wrap64 2 = 2 := w64 (by omega) (by omega)
theorem w21 : wrap64 3 = 3 := w64 (by omega) (by omega)
theorem u64 {x : Int} (h0 : 0 ≤ x) (h1 : x < 18446744073709551616) : IntKind.u64.wrap x = x := by rw [IntKind.wrap_u64]; omega
theorem u64e (x : Int) : IntKind.u64.wrap x = x % 18446744073709551616 := IntKind.wrap_u64 x
theorem rd_get (l : List Int) (i : Nat) (h : i < l.length) : rd l (i : Int) = l[i] := by simp [rd, h]
theorem rd_D (l : List Int) (i : Nat) : rd l (i : Int) = l.getD i 0 := by simp [rd]
theorem Lim.getD {l : List Int} (h : Lim l) (i : Nat) : 0 ≤ l.getD i 0 ∧ l.getD i 0 < 4294967296 := by
  by_cases hi : i < l.length
  · have := h.get i hi
    simpa [List.getD_eq_getElem?_getD, hi] using this
  · rw [List.getD_eq_getElem?_getD, List.getElem?_eq_none (by omega)]
    simp
theorem norm_ev (l : List Int) (h : Lim l) (hn : l.length ≤ 1000000000000) : nat_Norm.f l = some (dig (val l)) := by
  unfold nat_Norm.f
  rw [if_pos hn]
  unfold normL
  rw [dropWhile_zeros l h]
theorem limb_ev (l : List Int) (i : Nat) (h : Lim l) : nat_limb.f l (i : Int) = some (l.getD i 0) := by
  have hg := h.getD i
  unfold nat_limb.f
  by_cases hi : i < l.length
  · rw [if_neg (by omega), if_pos (by omega), if_pos (by omega), rd_D, u64 hg.1 (by omega)]
  · rw [if_pos (by omega), List.getD_eq_getElem?_getD, List.getElem?_eq_none (by omega)]
    rfl
theorem sign_ev (n : Int) : nat_sign.f n = some (if n < 0 then -1 else if n > 0 then 1 else 0) := by
  unfold nat_sign.f
  split
  · rfl
  · split <;> rfl
/-- The order of two numbers. -/
def cmpI (a b : Int) : Int := if a < b then -1 else if b < a then 1 else 0
theorem val_lt_of_length {a b : List Int} (ha : Lim a) (hb : Lim b) (hl : a.length < b.length) (hne : ∀ h : b ≠ [], b.getLast h ≠ 0) : val a < val b := by
  have h1 := val_lt ha
  obtain ⟨b', x, rfl⟩ : ∃ b' x, b = b' ++ [x] := by
    have hb0 : b ≠ [] := by rintro rfl; simp at hl
    exact ⟨b.dropLast, b.getLast hb0, (List.dropLast_concat_getLast hb0).symm⟩
  have hx : x ≠ 0 := by simpa using hne (by simp)
  have hx0 := (hb x (by simp)).1
  rw [val_append]
  have h2 := val_nonneg hb.left
  have h3 : pw a.length ≤ pw b'.length := by
    simp at hl
    obtain ⟨d, hd⟩ := Nat.exists_eq_add_of_le (show a.length ≤ b'.length by omega)
    rw [hd, pw_add]
    have := pw_pos a.length
    have := pw_pos d
    calc pw a.length = pw a.length * 1 := by omega
      _ ≤ _ := Int.mul_le_mul_of_nonneg_left (by omega) (by omega)
  have h4 : pw b'.length * 1 ≤ pw b'.length * val [x] := Int.mul_le_mul_of_nonneg_left (by simp [val]; omega) (Int.le_of_lt (pw_pos _))
  omega
theorem cmp_l0 (a b : List Int) (ha : Lim a) (hb : Lim b) (hl : a.length = b.length) (hn : a.length ≤ 1000000000000) (d : Nat) (hd : d ≤ a.length) (he : a.drop d = b.drop d) :
    Ev (fun k => nat_Cmp.l0 k a b ((d : Int) - 1)) (cmpI (val a) (val b)) := by
  induction d with
  | zero =>
    simp only [List.drop_zero] at he
    refine Ev.step (f := fun _ => some _) (fun k => ?_) (Ev.now _)
    simp only [nat_Cmp.l0]
    rw [if_neg (by omega), he]
    unfold cmpI
    rw [if_neg (by omega), if_neg (by omega)]
  | succ d ih =>
    have hda : d < a.length := by omega
    have hdb : d < b.length := by omega
    have e0 : ((d + 1 : Nat) : Int) - 1 = (d : Int) := by omega
    rw [e0]
    have xa := ha.get d hda
    have xb := hb.get d hdb
    by_cases hx : a[d] = b[d]
    · refine Ev.step (fun k => ?_) (ih (by omega) (by rw [List.drop_eq_getElem_cons hda, List.drop_eq_getElem_cons hdb, he, hx]))
      simp only [nat_Cmp.l0]
      rw [if_pos (by omega), if_pos (by omega), if_pos (by omega), if_pos (by omega), rd_get _ _ hda, rd_get _ _ hdb, if_pos hx, w64 (by omega) (by omega)]
    · refine Ev.step (f := fun _ => some _) (fun k => ?_) (Ev.now _)
      simp only [nat_Cmp.l0]
      rw [if_pos (by omega), if_pos (by omega), if_pos (by omega), if_pos (by omega), rd_get _ _ hda, rd_get _ _ hdb, if_neg hx, w64 (x := a[d]) (by omega) (by omega), w64 (x := b[d]) (by omega) (by omega), w64 (by omega) (by omega), sign_ev]
      simp only [Option.bind_some]
      have e1 := val_take_drop a (d + 1) hd
      have e2 := val_take_drop b (d + 1) (by omega)
      rw [he] at e1
      rw [val_take_succ a d hda] at e1
      rw [val_take_succ b d hdb] at e2
      have b1 := val_nonneg (ha.take d)
      have b2 := val_nonneg (hb.take d)
      have b3 := val_lt (ha.take d)
      have b4 := val_lt (hb.take d)
      rw [List.length_take, Nat.min_eq_left (by omega)] at b3 b4
      unfold cmpI
      congr 1
      by_cases hlt : a[d] < b[d]
      · have h5 : pw d * (a[d] + 1) ≤ pw d * b[d] := Int.mul_le_mul_of_nonneg_left (by omega) (Int.le_of_lt (pw_pos _))
        rw [Int.mul_add, Int.mul_one] at h5
        rw [if_pos (by omega), if_pos (by omega)]
      · have h5 : pw d * (b[d] + 1) ≤ pw d * a[d] := Int.mul_le_mul_of_nonneg_left (by omega) (Int.le_of_lt (pw_pos _))
        rw [Int.mul_add, Int.mul_one] at h5
        rw [if_neg (by omega), if_pos (by omega), if_neg (by omega), if_pos (by omega)]
theorem dig_length (l : List Int) (h : Lim l) : (dig (val l)).length ≤ l.length := dig_length_le (val_nonneg h) (val_lt h)
theorem cmp_ev (a b : List Int) (ha : Lim a) (hb : Lim b) (hna : a.length ≤ 1000000000000) (hnb : b.length ≤ 1000000000000) : Ev (fun k => nat_Cmp.f k a b) (cmpI (val a) (val b)) := by
  have va := val_nonneg ha
  have vb := val_nonneg hb
  have la := dig_length a ha
  have lb := dig_length b hb
  by_cases hl : (dig (val a)).length = (dig (val b)).length
  · have := cmp_l0 (dig (val a)) (dig (val b)) (dig_lim _) (dig_lim _) hl (by omega) _ (Nat.le_refl _) (by rw [List.drop_eq_nil_of_le (by omega), List.drop_eq_nil_of_le (by omega)])
    rw [val_dig va, val_dig vb] at this
    refine Ev.congr (fun k => ?_) this
    unfold nat_Cmp.f
    rw [norm_ev a ha hna, norm_ev b hb hnb]
    simp only [Option.bind_some]
    rw [if_pos (by omega), w64 (by omega) (by omega)]
  · refine Ev.congr (f := fun _ => some _) (fun k => ?_) (Ev.now _)
    unfold nat_Cmp.f
    rw [norm_ev a ha hna, norm_ev b hb hnb]
    simp only [Option.bind_some]
    rw [if_neg (by omega), w64 (by omega) (by omega), sign_ev]
    simp only [Option.bind_some]
    congr 1
    unfold cmpI
    by_cases hlt : (dig (val a)).length < (dig (val b)).length
    · have := val_lt_of_length (dig_lim _) (dig_lim _) hlt (fun h => dig_last h)
      rw [val_dig va, val_dig vb] at this
      rw [if_pos (by omega), if_pos (by omega)]
    · have := val_lt_of_length (dig_lim _) (dig_lim _) (show (dig (val b)).length < (dig (val a)).length by omega) (fun h => dig_last h)
      rw [val_dig va, val_dig vb] at this
      rw [if_neg (by omega), if_pos (by omega), if_neg (by omega), if_pos (by omega)]
theorem of_ev (n : Int) (h0 : 0 ≤ n) (h1 : n < 18446744073709551616) : nat_Of.f n = some (dig n) := by
  unfold nat_Of.f
  rw [norm_ev _ (Lim.cons (by omega) (by omega) (Lim.cons (by omega) (by omega) Lim.nil)) (by simp)]
  simp only [Option.bind_some, val]
  congr 2
  omega
theorem pw_le_pw {a b : Nat} (h : a ≤ b) : pw a ≤ pw b := by
  obtain ⟨d, rfl⟩ := Nat.exists_eq_add_of_le h
  rw [pw_add]
  have := pw_pos a
  have := pw_pos d
  calc pw a = pw a * 1 := by omega
    _ ≤ _ := Int.mul_le_mul_of_nonneg_left (by omega) (by omega)

/-! ### sums -/
theorem step_add {P V A Bv c x y q r : Int} (h : V + P * c = A + Bv) (e : r + 4294967296 * q = c + (x + y)) : V + P * r + (4294967296 * P) * q = A + P * x + (Bv + P * y) := by grind
theorem add_l0 (a b : List Int) (ha : Lim a) (hb : Lim b) (n : Nat) (hna : a.length < n) (hnb : b.length < n) (hn : n ≤ 1000000000000) (d : Nat) : ∀ (i : Nat) (out : List Int) (c : Int), i + d = n → out.length = n → Lim out → 0 ≤ c → c ≤ 1 → val (out.take i) + pw i * c = val (a.take i) + val (b.take i) →
    Ev (fun k => nat_Add.l0 k a b out c (n : Int) (i : Int)) (dig (val a + val b)) := by
  induction d with
  | zero =>
    intro i out c hi ho hL c0 c1 hv
    obtain rfl : i = n := by omega
    refine Ev.step (f := fun _ => some _) (fun k => ?_) (Ev.now _)
    simp only [nat_Add.l0]
    rw [if_neg (by omega), norm_ev out hL (by omega)]
    simp only [Option.bind_some]
    rw [List.take_of_length_le (by omega), List.take_of_length_le (by omega), List.take_of_length_le (by omega)] at hv
    have h1 := val_lt ha
    have h2 := val_lt hb
    have h3 := val_nonneg hL
    obtain ⟨m, rfl⟩ : ∃ m, i = m + 1 := ⟨i - 1, by omega⟩
    have h4 := pw_le_pw (show a.length ≤ m by omega)
    have h5 := pw_le_pw (show b.length ≤ m by omega)
    have h6 := pw_succ m
    have h7 := pw_pos m
    have hc : c = 0 := by
      by_cases hc : c = 0
      · exact hc
      · have : c = 1 := by omega
        subst this
        omega
    subst hc
    congr 2
    omega
  | succ d ih =>
    intro i out c hi ho hL c0 c1 hv
    have ga := ha.getD i
    have gb := hb.getD i
    have hio : i < out.length := by omega
    refine Ev.step (fun k => ?_) (ih (i + 1) (out.set i ((c + (a.getD i 0 + b.getD i 0)) % 4294967296)) ((c + (a.getD i 0 + b.getD i 0)) / 4294967296) (by omega) (by simpa using ho) (hL.set i (by omega) (by omega)) (by omega) (by omega) ?_)
    · simp only [nat_Add.l0]
      rw [if_pos (by omega), limb_ev a i ha, limb_ev b i hb]
      simp only [Option.bind_some]
      rw [if_pos (by omega), if_pos (by omega), u64 (x := a.getD i 0 + b.getD i 0) (by omega) (by omega), u64 (by omega) (by omega), w64 (by omega) (by omega), Int.toNat_natCast]
      rfl
    · rw [val_set_take _ _ _ hio, val_take_getD a, val_take_getD b, pw_succ]
      exact step_add hv (by omega)
theorem mx_len (a b : List Int) : mx (a.length : Int) (b.length : Int) = ((max a.length b.length : Nat) : Int) := by unfold mx; split <;> omega
theorem add_ev (a b : List Int) (ha : Lim a) (hb : Lim b) (hna : a.length < 1000000000) (hnb : b.length < 1000000000) : Ev (fun k => nat_Add.f k a b) (dig (val a + val b)) := by
  have := add_l0 a b ha hb (max a.length b.length + 1) (by omega) (by omega) (by omega) (max a.length b.length + 1) 0 (List.replicate (max a.length b.length + 1) 0) 0 (by omega) (by simp) (Lim.zeros _) (by omega) (by omega) (by simp [val])
  refine Ev.congr (fun k => ?_) this
  unfold nat_Add.f
  rw [mx_len, w64 (by omega) (by omega), if_pos (by omega), if_pos (by omega)]
  congr 1 <;> omega

end Go.Proofs.YthnfmmaolkenkaaDoor.V
/- What nat's products, and a number by a small one, and moved bits are, as numbers. -/
namespace Go.Proofs.YthnfmmaolkenkaaDoor.V
set_option linter.unusedVariables false
set_option linter.unusedSimpArgs false
open Go.RowKit Go.Proofs.YthnfmmaolkenkaaDoor.PA Go.Proofs.YthnfmmaolkenkaaDoor.H Go.Proofs.YthnfmmaolkenkaaDoorW.PrintWords Go.Proofs.YthnfmmaolkenkaaDoorW.PrintLast Go.Proofs.YthnfmmaolkenkaaDoorW.PrintMore

theorem mul_bd {x y X Y : Int} (h0 : 0 ≤ x) (h1 : x ≤ X) (g0 : 0 ≤ y) (g1 : y ≤ Y) : 0 ≤ x * y ∧ x * y ≤ X * Y :=
  ⟨Int.mul_nonneg h0 g0, Int.mul_le_mul h1 g1 g0 (by omega)⟩
theorem mul_bd32 {x y : Int} (hx : 0 ≤ x ∧ x < 4294967296) (hy : 0 ≤ y ∧ y < 4294967296) : 0 ≤ x * y ∧ x * y ≤ 18446744065119617025 :=
  mul_bd hx.1 (show x ≤ 4294967295 by omega) hy.1 (show y ≤ 4294967295 by omega)
theorem getD_get (l : List Int) (i : Nat) (h : i < l.length) : l.getD i 0 = l[i] := by simp [List.getD_eq_getElem?_getD, h]
theorem getD_set_ne (l : List Int) (i p : Nat) (x : Int) (h : i ≠ p) : (l.set i x).getD p 0 = l.getD p 0 := by
  simp [List.getD_eq_getElem?_getD, h]
/-- Noughts from a place on. -/
def Zf (l : List Int) (n : Nat) : Prop := ∀ p, n ≤ p → l.getD p 0 = 0
theorem Zf.set {l : List Int} {n i : Nat} {x : Int} (h : Zf l n) (hi : i < n) : Zf (l.set i x) n := fun p hp => by
  rw [getD_set_ne _ _ _ _ (by omega)]; exact h p hp
theorem Zf.zeros (m n : Nat) : Zf (List.replicate m 0) n := fun p _ => by
  rw [List.getD_eq_getElem?_getD]
  by_cases h : p < m <;> simp [h]
theorem step_mul {W V0 Pi pj P x y c q r vb o : Int} (h : W + P * c = V0 + Pi * x * vb) (e : r + 4294967296 * q = c + (x * y + o)) (hP : P = Pi * pj) : W + P * (r - o) + (4294967296 * P) * q = V0 + Pi * x * (vb + pj * y) := by
  subst hP
  grind
theorem mul_l1 (a b : List Int) (ha : Lim a) (hb : Lim b) (hna : a.length < 1000000000) (hnb : b.length < 1000000000) (i : Nat) (hi : i < a.length) (x V0 : Int) (hx : 0 ≤ x ∧ x < 4294967296) (r : List Int)
    (hc : ∀ out, out.length = a.length + b.length → Lim out → val out = V0 + pw i * x * val b → Zf out (i + 1 + b.length) → Ev (fun k => nat_Mul.l0 k b out a (a.length : Int) ((i + 1 : Nat) : Int)) r) (d : Nat) : ∀ (j : Nat) (out : List Int) (c : Int), j + d = b.length → out.length = a.length + b.length → Lim out → 0 ≤ c → c < 4294967296 → val out + pw (i + j) * c = V0 + pw i * x * val (b.take j) → Zf out (i + b.length) →
    Ev (fun k => nat_Mul.l1 k b out (i : Int) x c a (a.length : Int) (i : Int) (b.length : Int) (j : Int)) r := by
  induction d with
  | zero =>
    intro j out c hj ho hL c0 c1 hv hz
    obtain rfl : j = b.length := by omega
    have hp : i + b.length < out.length := by omega
    refine Ev.step (fun k => ?_) (hc (out.set (i + b.length) c) (by simpa using ho) (hL.set _ c0 c1) ?_ ?_)
    · simp only [nat_Mul.l1]
      rw [if_neg (by omega), w64 (by omega) (by omega), if_pos (by omega), if_pos (by omega), w64 (by omega) (by omega), show ((i : Int) + (b.length : Int)).toNat = i + b.length by omega, show c % 4294967296 = c by omega]
      rfl
    · have h0 := hz (i + b.length) (Nat.le_refl _)
      rw [getD_get _ _ hp] at h0
      rw [val_set _ _ _ hp, h0]
      rw [List.take_of_length_le (by omega)] at hv
      rw [Int.sub_zero]; exact hv
    · intro p hpp
      rw [getD_set_ne _ _ _ _ (by omega)]
      exact hz p (by omega)
  | succ d ih =>
    intro j out c hj ho hL c0 c1 hv hz
    have hjb : j < b.length := by omega
    have hp : i + j < out.length := by omega
    have gb := hb.get j hjb
    have go := hL.get (i + j) hp
    have hm := mul_bd32 hx gb
    refine Ev.step (fun k => ?_) (ih (j + 1) (out.set (i + j) ((c + (x * b[j] + out[i + j])) % 4294967296)) ((c + (x * b[j] + out[i + j])) / 4294967296) (by omega) (by simpa using ho) (hL.set _ (by omega) (by omega)) (by omega) (by omega) ?_ (hz.set (by omega)))
    · simp only [nat_Mul.l1]
      rw [if_pos (by omega), if_pos (by omega), if_pos (by omega), w64 (x := (i : Int) + (j : Int)) (by omega) (by omega), if_pos (by omega), if_pos (by omega), show ((i : Int) + (j : Int)) = ((i + j : Nat) : Int) by omega, rd_get _ _ hp, rd_get _ _ hjb, u64 (x := x) (by omega) (by omega), u64 (x := b[j]) (by omega) (by omega), u64 (x := x * b[j]) (by omega) (by omega), u64 (x := out[i + j]) (by omega) (by omega), u64 (x := x * b[j] + out[i + j]) (by omega) (by omega), u64 (by omega) (by omega), w64 (by omega) (by omega), Int.toNat_natCast]
      rfl
    · rw [val_set _ _ _ hp, val_take_succ _ _ hjb, ← Nat.add_assoc, pw_succ]
      exact step_mul hv (by omega) (pw_add i j)
theorem mul_l0 (a b : List Int) (ha : Lim a) (hb : Lim b) (hna : a.length < 1000000000) (hnb : b.length < 1000000000) (d : Nat) : ∀ (i : Nat) (out : List Int), i + d = a.length → out.length = a.length + b.length → Lim out → val out = val (a.take i) * val b → Zf out (i + b.length) →
    Ev (fun k => nat_Mul.l0 k b out a (a.length : Int) (i : Int)) (dig (val a * val b)) := by
  induction d with
  | zero =>
    intro i out hi ho hL hv hz
    obtain rfl : i = a.length := by omega
    refine Ev.step (f := fun _ => some _) (fun k => ?_) (Ev.now _)
    simp only [nat_Mul.l0]
    rw [if_neg (by omega), norm_ev out hL (by omega), hv, List.take_of_length_le (by omega)]
    rfl
  | succ d ih =>
    intro i out hi ho hL hv hz
    have hia : i < a.length := by omega
    have ga := ha.get i hia
    refine Ev.step (fun k => ?_) (mul_l1 a b ha hb hna hnb i hia a[i] (val (a.take i) * val b) ga _ (fun out' h1 h2 h3 h4 => ih (i + 1) out' (by omega) h1 h2 ?_ h4) b.length 0 out 0 (by omega) ho hL (by omega) (by omega) ?_ hz)
    · simp only [nat_Mul.l0]
      rw [if_pos (by omega), if_pos (by omega), if_pos (by omega), rd_get _ _ hia]
      rfl
    · rw [h3, val_take_succ _ _ hia]; grind
    · simp [hv, val]
theorem mul_ev (a b : List Int) (ha : Lim a) (hb : Lim b) (hna : a.length < 1000000000) (hnb : b.length < 1000000000) : Ev (fun k => nat_Mul.f k a b) (dig (val a * val b)) := by
  refine Ev.congr (fun k => ?_) (mul_l0 a b ha hb hna hnb a.length 0 (List.replicate (a.length + b.length) 0) (by omega) (by simp) (Lim.zeros _) (by simp [val, val_zeros]) (Zf.zeros _ _))
  unfold nat_Mul.f
  rw [w64 (by omega) (by omega), if_pos (by omega), if_pos (by omega), show ((a.length : Int) + (b.length : Int)).toNat = a.length + b.length by omega]
  rfl

/-! ### a number by a small one -/
theorem wraps_u64 (n : Int) (h0 : 0 ≤ n) (h1 : n < 2 ^ 64) : IntKind.u64.wrap n = n := u64 h0 (by omega)
theorem or_join {x y : Int} (hx : 0 ≤ x ∧ x < 4294967296) (hy : 0 ≤ y ∧ y < 4294967296) : Go.bits .or .u64 (x * 4294967296) y = x * 4294967296 + y :=
  bits_join .u64 64 (by decide) wraps_u64 32 _ _ (by omega) (by omega) (by omega) hy.1 (by omega) (by omega)
theorem div_unique {a b q r : Int} (hb : 0 < b) (h : q * b + r = a) (h0 : 0 ≤ r) (h1 : r < b) : a / b = q ∧ a % b = r :=
  (Int.ediv_emod_unique hb).2 ⟨by rw [← h, Int.mul_comm]; omega, h0, h1⟩
theorem drop_set_self (l : List Int) (i : Nat) (x : Int) (h : i < l.length) : (l.set i x).drop i = x :: l.drop (i + 1) := by
  rw [List.drop_eq_getElem_cons (by simpa using h)]
  simp [List.drop_set_of_lt]
theorem small_l0 (a : List Int) (n : Int) (ha : Lim a) (hn0 : 0 < n) (hn1 : n ≤ 4294967296) (hna : a.length < 1000000000) (d : Nat) : ∀ (out : List Int) (r : Int), d ≤ a.length → out.length = a.length → Lim out → 0 ≤ r → r < n → val (out.drop d) * n + r = val (a.drop d) →
    Ev (fun k => nat_small.l0 k a n out r ((d : Int) - 1)) (dig (val a / n), val a % n) := by
  induction d with
  | zero =>
    intro out r hd ho hL r0 r1 hv
    refine Ev.step (f := fun _ => some _) (fun k => ?_) (Ev.now _)
    simp only [nat_small.l0]
    rw [if_neg (by omega), norm_ev out hL (by omega)]
    simp only [List.drop_zero] at hv
    obtain ⟨e1, e2⟩ := div_unique hn0 hv r0 r1
    rw [e1, e2]
    rfl
  | succ d ih =>
    intro out r hd ho hL r0 r1 hv
    have hda : d < a.length := by omega
    have hdo : d < out.length := by omega
    have ga := ha.get d hda
    have ho1 : Go.bits .or .u64 (IntKind.u64.wrap (r * 4294967296)) (IntKind.u64.wrap a[d]) = r * 4294967296 + a[d] := by
      rw [u64 (by omega) (by omega), u64 (by omega) (by omega)]
      exact or_join ⟨r0, by omega⟩ ga
    have hX0 : 0 ≤ r * 4294967296 + a[d] := by omega
    have hq0 : 0 ≤ (r * 4294967296 + a[d]) / n := Int.ediv_nonneg hX0 (by omega)
    have hq1 : (r * 4294967296 + a[d]) / n < 4294967296 := by
      apply Int.ediv_lt_of_lt_mul hn0
      have : (r + 1) * 4294967296 ≤ n * 4294967296 := Int.mul_le_mul_of_nonneg_right (by omega) (by omega)
      omega
    have hm0 := Int.emod_nonneg (r * 4294967296 + a[d]) (show n ≠ 0 by omega)
    have hm1 := Int.emod_lt_of_pos (r * 4294967296 + a[d]) hn0
    have hqr := Int.mul_ediv_add_emod (r * 4294967296 + a[d]) n
    refine Ev.step (fun k => ?_) (ih (out.set d ((r * 4294967296 + a[d]) / n)) ((r * 4294967296 + a[d]) % n) (by omega) (by simpa using ho) (hL.set _ hq0 hq1) hm0 hm1 ?_)
    · simp only [nat_small.l0]
      have e : ((d + 1 : Nat) : Int) - 1 = (d : Int) := by omega
      rw [e, if_pos (by omega), if_pos (by omega), if_pos (by omega), if_neg (by omega), if_pos (by omega), rd_get _ _ hda, ho1, Int.tdiv_eq_ediv_of_nonneg hX0, Int.tmod_eq_emod_of_nonneg hX0, u64 hq0 (by omega), Int.emod_eq_of_lt hq0 hq1, w64 (by omega) (by omega), Int.toNat_natCast]
    · rw [drop_set_self _ _ _ hdo, val_drop_cons _ _ hda]
      simp only [val]
      rw [← hv]
      generalize (r * 4294967296 + a[d]) / n = q at *
      generalize (r * 4294967296 + a[d]) % n = s at *
      grind
theorem small_ev (a : List Int) (n : Int) (ha : Lim a) (hn0 : 0 < n) (hn1 : n ≤ 4294967296) (hna : a.length < 1000000000) : Ev (fun k => nat_small.f k a n) (dig (val a / n), val a % n) := by
  refine Ev.congr (fun k => ?_) (small_l0 a n ha hn0 hn1 hna a.length (List.replicate a.length 0) 0 (Nat.le_refl _) (by simp) (Lim.zeros _) (by omega) (by omega) (by rw [List.drop_eq_nil_of_le (by simp), List.drop_eq_nil_of_le (by omega)]; simp [val]))
  unfold nat_small.f
  rw [if_pos (by omega), if_pos (by omega), w64 (by omega) (by omega), Int.toNat_natCast]

/-! ### moved bits -/
theorem wraps_u32 (n : Int) (h0 : 0 ≤ n) (h1 : n < 2 ^ 32) : IntKind.u32.wrap n = n := by rw [IntKind.wrap_u32]; omega
theorem or_comm_ (k : IntKind) (x y : Int) : Go.bits .or k x y = Go.bits .or k y x := by
  simp only [Go.bits, BitVec.or_comm]
theorem p_pos (n : Nat) : (0 : Int) < 2 ^ n := Int.pow_pos (by omega)
theorem p_split {n : Nat} (hn : n ≤ 32) : (2 : Int) ^ n * 2 ^ (32 - n) = 4294967296 := by
  rw [← Int.pow_add, show n + (32 - n) = 32 by omega]; rfl
theorem p_le {n : Nat} (hn : n ≤ 31) : (2 : Int) ^ n ≤ 2147483648 := by
  have := Nat.pow_le_pow_right (n := 2) (by omega) hn
  have e : (2 : Int) ^ n = ((2 ^ n : Nat) : Int) := by simp
  omega
theorem or_low {n : Nat} (hn : n ≤ 31) {x y : Int} (hx0 : 0 ≤ x) (hx1 : x < 2 ^ n) (hy0 : 0 ≤ y) (hy1 : y < 4294967296) (hy : y % 2 ^ n = 0) : Go.bits .or .u32 x y = x + y := by
  have := p_le hn
  rw [or_comm_, bits_join .u32 32 (by decide) wraps_u32 n y x hy0 hy (by omega) hx0 hx1 (by omega)]
  omega
theorem shl_u64 (x : Int) (n : Nat) (hn : n ≤ 31) (hx : 0 ≤ x ∧ x < 4294967296) : shl .u64 x (n : Int) = x * 2 ^ n ∧ 0 ≤ x * 2 ^ n ∧ x * 2 ^ n < 9223372036854775808 := by
  have h1 := p_pos n
  have h2 := p_le hn
  have h3 := mul_bd hx.1 (show x ≤ 4294967295 by omega) (Int.le_of_lt h1) h2
  refine ⟨?_, h3.1, by omega⟩
  unfold shl
  rw [Int.toNat_natCast, Nat.min_eq_left (by simp [IntKind.bits]; omega), u64 h3.1 (by omega)]
theorem mulmod_p {n : Nat} (hn : n ≤ 31) (x : Int) : (x * 2 ^ n) % 4294967296 % 2 ^ n = 0 := by
  rw [Int.emod_emod_of_dvd _ ⟨2 ^ (32 - n), (p_split (by omega)).symm⟩, Int.mul_emod_left]
theorem left_l0 (a : List Int) (n : Nat) (ha : Lim a) (hn : n ≤ 31) (hna : a.length < 1000000000) (d : Nat) : ∀ (i : Nat) (out : List Int), i + d = a.length → out.length = a.length + 1 → Lim out → out.getD i 0 < 2 ^ n → val (out.take (i + 1)) = val (a.take i) * 2 ^ n →
    ∃ o, Ev (fun k => nat_left.l0 k (n : Int) out a (a.length : Int) (i : Int)) o ∧ o.length = a.length + 1 ∧ Lim o ∧ val o = val a * 2 ^ n := by
  have hp := p_pos n
  have hp1 := p_le hn
  induction d with
  | zero =>
    intro i out hi ho hL h1 hv
    obtain rfl : i = a.length := by omega
    rw [List.take_of_length_le (by omega), List.take_of_length_le (by omega)] at hv
    refine ⟨out, Ev.step (f := fun _ => some _) (fun k => ?_) (Ev.now _), ho, hL, hv⟩
    simp only [nat_left.l0]
    rw [if_neg (by omega)]
  | succ d ih =>
    intro i out hi ho hL h1 hv
    have hia : i < a.length := by omega
    have hio : i < out.length := by omega
    have hio' : i + 1 < out.length := by omega
    have ga := ha.get i hia
    have go := hL.get i hio
    rw [getD_get _ _ hio] at h1
    obtain ⟨s1, s2, s3⟩ := shl_u64 a[i] n hn ga
    have hlow := mulmod_p hn a[i]
    have hor := or_low hn go.1 h1 (show 0 ≤ (a[i] * 2 ^ n) % 4294967296 by omega) (by omega) hlow
    have hq : (a[i] * 2 ^ n) / 4294967296 < 2 ^ n := by
      apply Int.ediv_lt_of_lt_mul (by omega)
      rw [Int.mul_comm (a[i])]
      exact Int.mul_lt_mul_of_pos_left ga.2 hp
    have hsum : out[i] + (a[i] * 2 ^ n) % 4294967296 < 4294967296 := by
      -- the low part is a multiple of 2^n below 2^32
      have e := Int.mul_ediv_add_emod ((a[i] * 2 ^ n) % 4294967296) (2 ^ n)
      rw [hlow] at e
      have hs := p_split (n := n) (by omega)
      have hs0 := p_pos (32 - n)
      have : (a[i] * 2 ^ n) % 4294967296 / 2 ^ n < 2 ^ (32 - n) := by
        apply Int.ediv_lt_of_lt_mul hp
        rw [Int.mul_comm (2 ^ (32 - n)), hs]; omega
      have h5 : 2 ^ n * ((a[i] * 2 ^ n) % 4294967296 / 2 ^ n + 1) ≤ 2 ^ n * 2 ^ (32 - n) := Int.mul_le_mul_of_nonneg_left (by omega) (Int.le_of_lt hp)
      rw [Int.mul_add, Int.mul_one] at h5
      omega
    have hstep := fun o' h2 h3 h4 h5 => ih (i + 1) o' (by omega) h2 h3 h4 h5
    obtain ⟨o, ho1, ho2, ho3, ho4⟩ := hstep ((out.set i (out[i] + (a[i] * 2 ^ n) % 4294967296)).set (i + 1) ((a[i] * 2 ^ n) / 4294967296)) (by simpa using ho) ((hL.set i (by omega) hsum).set (i + 1) (by omega) (by omega)) (by rw [getD_get _ _ (by simpa using hio')]; simpa using hq) (by
      rw [val_set_take _ _ _ (by simpa using hio'), val_set_take _ _ _ hio]
      rw [val_take_succ _ _ hio] at hv
      rw [val_take_succ _ _ hia, pw_succ]
      have e := Int.mul_ediv_add_emod (a[i] * 2 ^ n) 4294967296
      generalize a[i] * 2 ^ n / 4294967296 = q at *
      generalize a[i] * 2 ^ n % 4294967296 = r at *
      grind)
    refine ⟨o, Ev.step (fun k => ?_) ho1, ho2, ho3, ho4⟩
    simp only [nat_left.l0]
    rw [if_pos (by omega), if_pos (by omega), if_pos (by omega), if_pos (by omega), if_pos (by omega), w64 (by omega) (by omega), if_pos (by omega), if_pos (by omega), rd_get _ _ hio, rd_get _ _ hia, u64 (x := a[i]) ga.1 (by omega), s1, hor, Int.toNat_natCast, show ((i : Int) + 1).toNat = i + 1 by omega, Int.emod_eq_of_lt (a := a[i] * 2 ^ n / 4294967296) (by omega) (by omega)]
    rfl
theorem left_ev (a : List Int) (n : Nat) (ha : Lim a) (hn : n ≤ 31) (hna : a.length < 1000000000) : ∃ o, Ev (fun k => nat_left.f k a (n : Int)) o ∧ o.length = a.length + 1 ∧ Lim o ∧ val o = val a * 2 ^ n := by
  obtain ⟨o, h1, h2⟩ := left_l0 a n ha hn hna a.length 0 (List.replicate (a.length + 1) 0) (by omega) (by simp) (Lim.zeros _) (by have := p_pos n; simp; exact this) (by simp [val, List.replicate_succ])
  refine ⟨o, Ev.congr (fun k => ?_) h1, h2⟩
  unfold nat_left.f
  rw [w64 (by omega) (by omega), if_pos (by omega), if_pos (by omega), show ((a.length : Int) + 1).toNat = a.length + 1 by omega]
  rfl
theorem shr_u64 (x : Int) (n : Nat) (hn : n ≤ 31) : shr .u64 x (n : Int) = x / 2 ^ n := by
  unfold shr
  rw [Int.toNat_natCast, Nat.min_eq_left (by simp [IntKind.bits]; omega)]
/-- One limb of a number moved down. -/
theorem right_limb {p s X a : Int} (hp : 0 < p) (hs : 0 < s) (hps : p * s = 4294967296) (hX : 0 ≤ X ∧ X < 4294967296) (ha : 0 ≤ a ∧ a < 4294967296) : ((X * 4294967296 + a) / p % 4294967296) * p = (X % p) * 4294967296 + (a - a % p) ∧ 0 ≤ (X * 4294967296 + a) / p % 4294967296 ∧ (X * 4294967296 + a) / p % 4294967296 < 4294967296 := by
  have e1 : X * 4294967296 + a = a + p * (X * s) := by rw [← hps]; grind
  have e2 : (X * 4294967296 + a) / p = a / p + X * s := by rw [e1, Int.add_mul_ediv_left _ _ (by omega)]
  have e3 := Int.mul_ediv_add_emod X p
  have e4 := Int.mul_ediv_add_emod a p
  have m0 := Int.emod_nonneg X (show p ≠ 0 by omega)
  have m1 := Int.emod_lt_of_pos X hp
  have h0 : 0 ≤ a / p := Int.ediv_nonneg ha.1 (by omega)
  have h1 : a / p < s := Int.ediv_lt_of_lt_mul hp (by rw [Int.mul_comm s, hps]; exact ha.2)
  have e5 : (X * 4294967296 + a) / p = (X / p) * 4294967296 + ((X % p) * s + a / p) := by
    rw [e2, ← hps]
    generalize X / p = u at *
    generalize X % p = v at *
    generalize a / p = t at *
    subst e3
    grind
  have hb0 : 0 ≤ (X % p) * s := Int.mul_nonneg m0 (by omega)
  have hb1 : (X % p + 1) * s ≤ p * s := Int.mul_le_mul_of_nonneg_right (by omega) (by omega)
  rw [Int.add_mul, Int.one_mul, hps] at hb1
  have e6 : (X * 4294967296 + a) / p % 4294967296 = (X % p) * s + a / p := by
    rw [e5]
    generalize X % p * s = z at *
    omega
  refine ⟨?_, by omega, by omega⟩
  rw [e6]
  have : (X % p * s + a / p) * p = (X % p) * (p * s) + p * (a / p) := by grind
  rw [this, hps]
  omega
theorem right_l0 (a : List Int) (n : Nat) (ha : Lim a) (hn : n ≤ 31) (hna : a.length < 1000000000) (d : Nat) : ∀ (i : Nat) (out : List Int), i + d = a.length → out.length = a.length → Lim out → val (out.take i) * 2 ^ n + a.getD 0 0 % 2 ^ n = val (a.take i) + pw i * (a.getD i 0 % 2 ^ n) →
    Ev (fun k => nat_right.l0 k a (n : Int) out (a.length : Int) (i : Int)) (dig (val a / 2 ^ n)) := by
  have hp := p_pos n
  induction d with
  | zero =>
    intro i out hi ho hL hv
    obtain rfl : i = a.length := by omega
    refine Ev.step (f := fun _ => some _) (fun k => ?_) (Ev.now _)
    simp only [nat_right.l0]
    rw [if_neg (by omega), norm_ev out hL (by omega)]
    simp only [Option.bind_some]
    rw [List.take_of_length_le (by omega), List.take_of_length_le (by omega), List.getD_eq_getElem?_getD (i := a.length), List.getElem?_eq_none (by omega)] at hv
    simp only [Option.getD_none, Int.zero_emod, Int.mul_zero, Int.add_zero] at hv
    have h0 := Int.emod_nonneg (a.getD 0 0) (show (2 : Int) ^ n ≠ 0 by omega)
    have h1 := Int.emod_lt_of_pos (a.getD 0 0) hp
    rw [(div_unique hp hv h0 h1).1]
  | succ d ih =>
    intro i out hi ho hL hv
    have hia : i < a.length := by omega
    have hio : i < out.length := by omega
    have ga := ha.get i hia
    have gx := ha.getD (i + 1)
    obtain ⟨e1, e2, e3⟩ := right_limb hp (p_pos (32 - n)) (p_split (by omega)) gx ga
    refine Ev.step (fun k => ?_) (ih (i + 1) (out.set i ((a.getD (i + 1) 0 * 4294967296 + a[i]) / 2 ^ n % 4294967296)) (by omega) (by simpa using ho) (hL.set _ e2 e3) ?_)
    · simp only [nat_right.l0]
      rw [if_pos (by omega), w64 (x := (i : Int) + 1) (by omega) (by omega), show (i : Int) + 1 = ((i + 1 : Nat) : Int) by omega, limb_ev _ _ ha]
      simp only [Option.bind_some]
      rw [if_pos (by omega), if_pos (by omega), if_pos (by omega), if_pos (by omega), rd_get _ _ hia, u64 (x := a[i]) ga.1 (by omega), u64 (x := a.getD (i + 1) 0 * 4294967296) (by omega) (by omega), or_join gx ga, shr_u64 _ _ hn, Int.toNat_natCast]
    · rw [val_set_take _ _ _ hio, val_take_succ _ _ hia, pw_succ]
      rw [getD_get _ _ hia] at hv
      generalize (a.getD (i + 1) 0 * 4294967296 + a[i]) / 2 ^ n % 4294967296 = z at *
      generalize a.getD (i + 1) 0 % 2 ^ n = y at *
      generalize a[i] % 2 ^ n = w at *
      generalize (2 : Int) ^ n = p at *
      grind
theorem right_ev (a : List Int) (n : Nat) (ha : Lim a) (hn : n ≤ 31) (hna : a.length < 1000000000) : Ev (fun k => nat_right.f k a (n : Int)) (dig (val a / 2 ^ n)) := by
  refine Ev.congr (fun k => ?_) (right_l0 a n ha hn hna a.length 0 (List.replicate a.length 0) (by omega) (by simp) (Lim.zeros _) (by simp [val, pw_zero]))
  unfold nat_right.f
  rw [if_pos (by omega), if_pos (by omega)]
  simp only [Int.toNat_natCast]
  rfl
end Go.Proofs.YthnfmmaolkenkaaDoor.V
