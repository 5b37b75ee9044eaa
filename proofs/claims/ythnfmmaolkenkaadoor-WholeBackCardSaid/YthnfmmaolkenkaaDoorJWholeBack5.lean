/- Joined by wip/tools/shake.py for the claim of WholeBack: PAx5, HClo, PAx6, PAx7, HNine, HTrim, PAx8, PAx12, PAx13. -/
import Derived.Test.YthnfmmaolkenkaaDoorJWholeBack2
import Derived.Test.YthnfmmaolkenkaaDoorJWholeBack4
import Derived.Test.YthnfmmaolkenkaaDoorJWholeBack1
import Derived.Test.YthnfmmaolkenkaaDoorProg
import Derived.Lib.Strings
import Derived.Lib.Slices
import Derived.Lib.Walk
import Derived.WalkKit
import Derived.Outline
import Derived.Laws.Bits64
import Derived.WalkSpells
import Derived.WalkLawsBesides
import Derived.Laws.NewBlocks
import Derived.Lib.ConvBytes
import Derived.Laws.MakeOwn
import Derived.KernelRfl
/- Written by a program of this session, wip/tools/patch_print.py, over the kit's print of the loaded functions. -/
namespace Go.Proofs.YthnfmmaolkenkaaDoor.H
end Go.Proofs.YthnfmmaolkenkaaDoor.H
namespace Go.Proofs.YthnfmmaolkenkaaDoor.PA
open Go.RowKit Go.Proofs.YthnfmmaolkenkaaDoorW.PrintWords Go.Proofs.YthnfmmaolkenkaaDoorW.PrintLast Go.Proofs.YthnfmmaolkenkaaDoorW.PrintMore Go.Proofs.YthnfmmaolkenkaaDoor.H
attribute [local go_sem] max2_int min2_int max_two min_two max_three min_three max_four min_four   -- for this text's walks alone
set_option linter.unusedVariables false
set_option linter.unusedSimpArgs false

/-! ### nat_Sub: function 41 -/
def nat_Sub.l0 : Nat → List Int → List Int → List Int → Int → Int → Int → Option (List Int × Int)
 | 0, _, _, _, _, _, _ => none
 | k + 1, x0, x1, x6, x7, x18, x19 => if x19 < x18 then ((nat_limb.f x0 x19).bind fun t227 => ((nat_limb.f x1 x19).bind fun t228 => (if 0 ≤ x19 then (if x19 < (x6.length : Int) then (nat_Sub.l0 k x0 x1 (x6.set (x19 : Int).toNat ((IntKind.u64.wrap ((IntKind.u64.wrap (t227 - t228)) - x7)) % 4294967296)) ((IntKind.u64.wrap ((IntKind.u64.wrap (t227 - t228)) - x7)) / 9223372036854775808) x18 (wrap64 (x19 + 1))) else (none)) else (none)))) else ((nat_Norm.f x6).bind fun t230 => (some (t230, 0)))
def nat_Sub.f (k : Nat) (l0 : List Int) (l1 : List Int) : Option (List Int × Int) := (nat_Cmp.f k l0 l1).bind fun t223 => (if t223 < 0 then (some (([] : List Int), 6)) else (if 0 ≤ (l0.length : Int) then (if ((l0.length : Int) : Int).toNat ≤ 70368744177664 then ((some (List.replicate ((l0.length : Int) : Int).toNat 0 : List Int)).bind fun y224 => (nat_Sub.l0 k l0 l1 y224 0 (y224.length : Int) 0)) else (none)) else (none)))
set_option maxHeartbeats 8000000 in
set_option maxRecDepth 100000 in
theorem nat_Sub.calls (k : Nat) (A0 : Option Addr) (c0 : Nat) (l0 : List Int) (A1 : Option Addr) (c1 : Nat) (l1 : List Int) (r1 : List Int) (r2 : Int) (w : World) (hr0 : Kd.C (Kd.int .u32) w A0 l0.length l0) (hc0 : l0.length ≤ c0) (hr1 : Kd.C (Kd.int .u32) w A1 l1.length l1) (hc1 : l1.length ≤ c1) (h : nat_Sub.f k l0 l1 = some (r1, r2)) :
  Calls Tryd.prog 41 #[.slice A0 l0.length c0, .slice A1 l1.length c1] w fun e w' => ∃ v0_ : Value, e = .returned (.tuple #[v0_, .int .i64 r2]) ∧ Kd.R (Kd.int .u32) 51 w' w.heap.size (fun _ => True) v0_ r1 ∧ Below w.heap.size w w' := by
 have HR0 := Aside0.mk hr0
 have HC0 := Aside0.mk hc0
 clear hr0 hc0
 have HR1 := Aside0.mk hr1
 have HC1 := Aside0.mk hc1
 clear hr1 hc1
 have HB := Aside0.mk (Below.refl w.heap.size w)
 have H : ((nat_Cmp.f k l0 l1).bind fun t223 => (if t223 < 0 then (some (([] : List Int), 6)) else (if 0 ≤ (l0.length : Int) then (if ((l0.length : Int) : Int).toNat ≤ 70368744177664 then ((some (List.replicate ((l0.length : Int) : Int).toNat 0 : List Int)).bind fun y224 => (nat_Sub.l0 k l0 l1 y224 0 (y224.length : Int) 0)) else (none)) else (none)))) = some (r1, r2) := h
 clear h
 replace H := Option.bind_eq_some_iff.mp H
 obtain ⟨t223, A30, H⟩ := H
 replace H : (if t223 < 0 then (some (([] : List Int), 6)) else (if 0 ≤ (l0.length : Int) then (if ((l0.length : Int) : Int).toNat ≤ 70368744177664 then ((some (List.replicate ((l0.length : Int) : Int).toNat 0 : List Int)).bind fun y224 => (nat_Sub.l0 k l0 l1 y224 0 (y224.length : Int) 0)) else (none)) else (none))) = some (r1, r2) := H
 have A3 := Aside0.mk A30
 clear A30
 by_cases c4 : t223 < 0
 ·rw [if_pos c4] at H
  have c4b0 : decide (t223 < 0) = true := decide_eq_true c4
  clear c4
  simp only [Option.some.injEq, Prod.mk.injEq] at H
  obtain ⟨rfl, rfl⟩ := H
  go_enter Tryd.func41, Tryd.ntmps41
  go_wp2_with (first | ((with_reducible refine gate_callee (f := 47) rfl ?_); refine goL (some 12) Tryd.func47 [.slice A0 l0.length c0, .slice A1 l1.length c1] ?_; (with_reducible refine (nat_Cmp.calls k _ _ l0 _ _ l1 t223 _ ?side1 ?side2 ?side3 ?side4 A3.out).mono ?_); (case side1 => exact HR0.out); (case side2 => exact HC0.out); (case side3 => exact HR1.out); (case side4 => exact HC1.out); rintro e w5 ⟨rfl, hb⟩; refine ⟨_, rfl, ?_⟩; replace HB := Aside0.mk (below_step HB.out hb); (try clear hb); (try clear hb2); (try clear hk); (try clear hi)))
  go_ret2
  exact ⟨_, by first | rfl | (simp [errW_none, errW_some] <;> rfl) | (simp [*, errW_none, errW_some] <;> rfl), by first | exact Kd.R_nil _ _ _ _ _ | exact Kd.N_nil _ _ _ _ _ | exact Kd.V_nil _ _ _ _ _ | exact Kd.Q_nil _ _ _ _ _ | exact Kd.S_nil _ _ _ _ _, by repeat (first | (with_reducible first | exact HB.out | apply below_alloc | apply pw_below_drewN | apply below_drew1) | exact HB.out)⟩
 ·rw [if_neg c4] at H
  have c4b0 : decide (t223 < 0) = false := decide_eq_false c4
  clear c4
  by_cases c6 : 0 ≤ (l0.length : Int)
  ·rw [if_pos c6] at H
   have c6b0 := eq_true c6
   have c6b1 : decide (0 ≤ (l0.length : Int)) = true := decide_eq_true c6
   clear c6
   by_cases c7 : ((l0.length : Int) : Int).toNat ≤ 70368744177664
   ·rw [if_pos c7] at H
    have c7b0 := eq_true c7
    have c7b1 : decide (((l0.length : Int) : Int).toNat ≤ 70368744177664) = true := decide_eq_true c7
    clear c7
    obtain ⟨y224, hy224⟩ : ∃ y_ : List Int, y_ = (List.replicate ((l0.length : Int) : Int).toNat 0) := ⟨_, rfl⟩
    replace H : (nat_Sub.l0 k l0 l1 y224 0 (y224.length : Int) 0) = some (r1, r2) := by first | (rw [hy224]; with_reducible exact H) | (have H2_ := (Option.bind_some _ _).symm.trans H; rw [hy224]; with_reducible exact H2_) | (have H2_ := (Option.bind_some _ _).symm.trans H; with_reducible exact H2_) | with_reducible exact H | (rw [hy224]; exact H) | exact H
    have Ny224 := Aside0.mk hy224
    clear hy224
    have H' := Aside0.mk H
    clear H
    go_enter Tryd.func41, Tryd.ntmps41
    go_wp2_with (first | ((with_reducible refine gate_callee (f := 47) rfl ?_); refine goL (some 12) Tryd.func47 [.slice A0 l0.length c0, .slice A1 l1.length c1] ?_; (with_reducible refine (nat_Cmp.calls k _ _ l0 _ _ l1 t223 _ ?side1 ?side2 ?side3 ?side4 A3.out).mono ?_); (case side1 => exact HR0.out); (case side2 => exact HC0.out); (case side3 => exact HR1.out); (case side4 => exact HC1.out); rintro e w8 ⟨rfl, hb⟩; refine ⟨_, rfl, ?_⟩; replace HB := Aside0.mk (below_step HB.out hb); (try clear hb); (try clear hb2); (try clear hk); (try clear hi)) | ((with_reducible refine gate_dst (N := 16) rfl ?_); refine Kd.R_make (Kd.int .u32) _ 51 rfl (N := 16) rfl 22 _ _ rfl (l0.length : Int) rfl rfl Tryd.underlying22 (.int .u32 0) 4 info51 rfl (by decide) (by omega) 0 (ok := fun _ => True) (okp := fun _ => True) rfl (fun _ hk => hk) trivial (of_decide_eq_true (by first | (with_reducible assumption) | assumption)) (Nat.le_trans (Nat.mul_le_mul_right _ (of_decide_eq_true (by first | (with_reducible assumption) | assumption) : (l0.length : Int).toNat ≤ 70368744177664)) (by omega)) (Below.refl _ _) (Nat.le_refl _) ?_; intro v225 w9 ho10 hb hg_ hnew_; clear hg_ hnew_; (first | rw [← Ny224.out] at ho10 | (simp only [Int.reduceToNat] at ho10; rw [← Ny224.out] at ho10)); have HO226 := Aside0.mk (Kd.R_lower ho10 (below_size HB.out)); replace HB := Aside0.mk (below_step HB.out hb); clear hb ho10; obtain ⟨Ao11, co11, eo11⟩ := Kd.R_slice HO226.out; subst eo11))
    go_loopg [7, 19] k (fun kq v7 v19 w' => ∃ (x6_1 : List Int) (x7_1 : Int) (x19_1 : Int), v7 = .int .u64 x7_1 ∧ v19 = .int .i64 x19_1 ∧ Aside0 (nat_Sub.l0 kq l0 l1 x6_1 x7_1 (y224.length : Int) x19_1 = some (r1, r2)) ∧ Aside0 (kq ≤ k) ∧ Aside0 (Kd.R (Kd.int .u32) 51 w' w.heap.size (fun _ => True) (.slice Ao11 y224.length co11) x6_1) ∧ Aside0 (Below w.heap.size w w'))
    case atStart => exact ⟨(y224), (0), (0), (by first | rfl | (simp; done) | (simp [*]; done) | (refine congrArg (Value.int _) ?_; omega) | (refine congrArg Value.bool ?_; generalize ByteArray.toList _ = z_; cases z_ <;> rfl)), (by first | rfl | (simp; done) | (simp [*]; done) | (refine congrArg (Value.int _) ?_; omega) | (refine congrArg Value.bool ?_; generalize ByteArray.toList _ = z_; cases z_ <;> rfl)), H', ⟨Nat.le_refl _⟩, ⟨by (with_reducible repeat (first | apply Kd.R_alloc | apply Kd.R_drewN | apply Kd.R_drew)); exact HO226.out⟩, ⟨by repeat (first | (with_reducible first | exact HB.out | apply below_alloc | apply pw_below_drewN | apply below_drew1) | exact HB.out)⟩⟩
    case round =>
     clear H'
     try clear c1
     try clear p2
     try clear c4
     try clear c4b0
     try clear c6
     try clear c6b0
     try clear c6b1
     try clear c7
     try clear c7b0
     try clear c7b1
     obtain ⟨x6_1, x7_1, x19_1, rfl, rfl, HA, HK1, HO_6, HB⟩ := hrel
     have hl6_1 := (Kd.R_reads' HO_6.out).1
     rw [hl6_1] at HO_6
     (try simp only [hl6_1])
     cases gk with
     | zero => exact absurd HA.out (by simp [nat_Sub.l0])
     | succ k1 =>
      have H := HA.out
      clear HA
      simp only [nat_Sub.l0] at H
      by_cases c12 : x19_1 < (y224.length : Int)
      ·rw [if_pos c12] at H
       have c12b0 : decide (x19_1 < (y224.length : Int)) = true := decide_eq_true c12
       have c12b0z := c12b0
       (try rw [hl6_1] at c12b0z)
       clear c12
       replace H := Option.bind_eq_some_iff.mp H
       obtain ⟨t227, A130, H⟩ := H
       replace H : ((nat_limb.f l1 x19_1).bind fun t228 => (if 0 ≤ x19_1 then (if x19_1 < (x6_1.length : Int) then (nat_Sub.l0 k1 l0 l1 (x6_1.set (x19_1 : Int).toNat ((IntKind.u64.wrap ((IntKind.u64.wrap (t227 - t228)) - x7_1)) % 4294967296)) ((IntKind.u64.wrap ((IntKind.u64.wrap (t227 - t228)) - x7_1)) / 9223372036854775808) (y224.length : Int) (wrap64 (x19_1 + 1))) else (none)) else (none))) = some (r1, r2) := H
       have A13 := Aside0.mk A130
       clear A130
       replace H := Option.bind_eq_some_iff.mp H
       obtain ⟨t228, A140, H⟩ := H
       replace H : (if 0 ≤ x19_1 then (if x19_1 < (x6_1.length : Int) then (nat_Sub.l0 k1 l0 l1 (x6_1.set (x19_1 : Int).toNat ((IntKind.u64.wrap ((IntKind.u64.wrap (t227 - t228)) - x7_1)) % 4294967296)) ((IntKind.u64.wrap ((IntKind.u64.wrap (t227 - t228)) - x7_1)) / 9223372036854775808) (y224.length : Int) (wrap64 (x19_1 + 1))) else (none)) else (none)) = some (r1, r2) := H
       have A14 := Aside0.mk A140
       clear A140
       by_cases c15 : 0 ≤ x19_1
       ·rw [if_pos c15] at H
        have c15b0 : decide (0 ≤ x19_1) = true := decide_eq_true c15
        clear c15
        by_cases c16 : x19_1 < (x6_1.length : Int)
        ·rw [if_pos c16] at H
         have c16b0 : decide (x19_1 < (x6_1.length : Int)) = true := decide_eq_true c16
         have c16b0z := c16b0
         (try rw [hl6_1] at c16b0z)
         clear c16
         obtain ⟨y229, hy229⟩ : ∃ y_ : List Int, y_ = (x6_1.set (x19_1 : Int).toNat ((IntKind.u64.wrap ((IntKind.u64.wrap (t227 - t228)) - x7_1)) % 4294967296)) := ⟨_, rfl⟩
         replace H : (nat_Sub.l0 k1 l0 l1 y229 ((IntKind.u64.wrap ((IntKind.u64.wrap (t227 - t228)) - x7_1)) / 9223372036854775808) (y224.length : Int) (wrap64 (x19_1 + 1))) = some (r1, r2) := by first | (rw [hy229]; with_reducible exact H) | (have H2_ := (Option.bind_some _ _).symm.trans H; rw [hy229]; with_reducible exact H2_) | (have H2_ := (Option.bind_some _ _).symm.trans H; with_reducible exact H2_) | with_reducible exact H | (rw [hy229]; exact H) | exact H
         have Ny229 := Aside0.mk hy229
         clear hy229
         have H' := Aside0.mk H
         clear H
         go_wp2_with (first | ((with_reducible refine gate_callee (f := 66) rfl ?_); refine goL (some 24) Tryd.func66 [.slice A0 l0.length c0, .int .i64 x19_1] ?_; (with_reducible refine (nat_limb.calls _ _ l0 x19_1 t227 _ ?side1 ?side2 A13.out).mono ?_); (case side1 => repeat (first | exact (Kd.C_below HR0.out HB.out) | (with_reducible refine Kd.C_alloc ?_ _) | (with_reducible refine Kd.C_drewN ?_ _) | (with_reducible refine Kd.C_drew ?_))); (case side2 => exact HC0.out); rintro e w' ⟨rfl, ⟨nd, rfl⟩⟩; refine ⟨_, rfl, ?_⟩; (try (rw [drewN_self wr]; generalize hq_ : World.drewN wr _ = wr; have n0_ : Aside0 (Kd.R (Kd.int .u32) 51 wr w.heap.size (fun _ => True) (.slice Ao11 x6_1.length co11) x6_1) := ⟨by rw [← hq_]; exact (by (with_reducible repeat (first | apply Kd.R_alloc | apply Kd.R_drewN | apply Kd.R_drew)); exact HO_6.out)⟩; have n1_ : Aside0 (Below w.heap.size w wr) := ⟨by rw [← hq_]; exact (by repeat first | exact HB.out | refine bxSet ?_ (by assumption) | apply below_alloc | apply pw_below_drewN)⟩; clear HO_6 HB hq_; have HO_6 := n0_; have HB := n1_; clear n0_ n1_))) | ((with_reducible refine gate_callee (f := 66) rfl ?_); refine goL (some 27) Tryd.func66 [.slice A1 l1.length c1, .int .i64 x19_1] ?_; (with_reducible refine (nat_limb.calls _ _ l1 x19_1 t228 _ ?side1 ?side2 A14.out).mono ?_); (case side1 => repeat (first | exact (Kd.C_below HR1.out HB.out) | (with_reducible refine Kd.C_alloc ?_ _) | (with_reducible refine Kd.C_drewN ?_ _) | (with_reducible refine Kd.C_drew ?_))); (case side2 => exact HC1.out); rintro e w' ⟨rfl, ⟨nd, rfl⟩⟩; refine ⟨_, rfl, ?_⟩; (try (rw [drewN_self wr]; generalize hq_ : World.drewN wr _ = wr; have n0_ : Aside0 (Kd.R (Kd.int .u32) 51 wr w.heap.size (fun _ => True) (.slice Ao11 x6_1.length co11) x6_1) := ⟨by rw [← hq_]; exact (by (with_reducible repeat (first | apply Kd.R_alloc | apply Kd.R_drewN | apply Kd.R_drew)); exact HO_6.out)⟩; have n1_ : Aside0 (Below w.heap.size w wr) := ⟨by rw [← hq_]; exact (by repeat first | exact HB.out | refine bxSet ?_ (by assumption) | apply below_alloc | apply pw_below_drewN)⟩; clear HO_6 HB hq_; have HO_6 := n0_; have HB := n1_; clear n0_ n1_)); have p17 : 0 ≤ (x19_1 : Int) := of_decide_eq_true (by first | (with_reducible assumption) | assumption); have q17 : (x19_1 : Int) < ((x6_1.length : Int) : Int) := of_decide_eq_true (by first | (with_reducible assumption) | assumption); obtain ⟨go17, co17, eo17, gb17, gl17, cl17, HG17⟩ := Kd.R_form HO_6.out (by omega); (first | cases eo17 | (injection eo17 with ea_ en_ ec_; (first | subst ea_ | (injection ea_ with ea_; subst ea_)); subst ec_; clear en_)); have GB17 := Aside0.mk gb17; have GG17 := Aside0.mk HG17; clear gb17 gl17 HG17; obtain ⟨hx17_0, hf17_0⟩ := Kd.R_celln 0 HO_6.out (x19_1 : Int) p17 q17; replace p17 := eq_true p17; replace q17 := eq_true q17; obtain ⟨hy18_, hz18_⟩ := Kd.R_celln 0 HO_6.out (x19_1 : Int) (of_decide_eq_true (by first | (with_reducible assumption) | assumption)) (of_decide_eq_true (by first | (with_reducible assumption) | assumption)); have HP18 := Kd.R_putg HO_6.out (x19_1 : Int) ((IntKind.u64.wrap ((IntKind.u64.wrap (t227 - t228)) - x7_1)) % 4294967296)) | ((with_reducible refine gate_store (t := 51) (p := 35) rfl ?_); refine store_event (t := 51) (p := 35) (v := ?vo_w19) (w1 := (wr.setCell ⟨go17, (x19_1 : Int).toNat, none⟩ (.int .u32 ((IntKind.u64.wrap ((IntKind.u64.wrap (t227 - t228)) - x7_1)) % 4294967296)))) ?hg ?ho ?hn ?hr ?_; (case ho => rfl); (case hg => rfl); (case hn => rfl); (case hr => first | (go_simp; done) | (go_simp; rfl)); intro w19 hw; have hg : wr.grownBy w19 (some go17) := (by rw [hw]; exact HP18.2); have hp_ : Kd.R (Kd.int .u32) 51 w19 w.heap.size (fun _ => True) (.slice (some ⟨go17, 0, none⟩) x6_1.length co11) y229 := (by rw [hw, Ny229.out]; exact HP18.1); clear HP18; replace HO_6 := Aside0.mk (hp_); replace HB := Aside0.mk ((by rw [hw]; exact below_set (HB.out) GB17.out : Below w.heap.size w w19)); clear hg hw hp_))
         (try simp only [← hl6_1])
         go_roundg k1
         case measure => have := HK1.out; omega
         case rel => exact ⟨(y229), ((IntKind.u64.wrap ((IntKind.u64.wrap (t227 - t228)) - x7_1)) / 9223372036854775808), (wrap64 (x19_1 + 1)), (by first | rfl | (simp; done) | (simp [*]; done) | (refine congrArg (Value.int _) ?_; omega) | (refine congrArg Value.bool ?_; generalize ByteArray.toList _ = z_; cases z_ <;> rfl)), (by first | rfl | (simp; done) | (simp [*]; done) | (refine congrArg (Value.int _) ?_; omega) | (refine congrArg Value.bool ?_; generalize ByteArray.toList _ = z_; cases z_ <;> rfl)), H', ⟨by have := HK1.out; omega⟩, ⟨by (try simp only [hl6_1]); (with_reducible repeat (first | apply Kd.R_alloc | apply Kd.R_drewN | apply Kd.R_drew)); exact HO_6.out⟩, ⟨by repeat (first | (with_reducible first | exact HB.out | apply below_alloc | apply pw_below_drewN | apply below_drew1) | exact HB.out)⟩⟩
        ·rw [if_neg c16] at H
         exact absurd H (by simp)
       ·rw [if_neg c15] at H
        exact absurd H (by simp)
      ·rw [if_neg c12] at H
       have c12b0 : decide (x19_1 < (y224.length : Int)) = false := decide_eq_false c12
       have c12b0z := c12b0
       (try rw [hl6_1] at c12b0z)
       clear c12
       replace H := Option.bind_eq_some_iff.mp H
       obtain ⟨t230, A200, H⟩ := H
       replace H : (some (t230, 0)) = some (r1, r2) := H
       have A20 := Aside0.mk A200
       clear A200
       simp only [Option.some.injEq, Prod.mk.injEq] at H
       obtain ⟨rfl, rfl⟩ := H
       go_wp2_with (first | ((with_reducible refine gate_callee (f := 60) rfl ?_); refine goL (some 40) Tryd.func60 [.slice Ao11 x6_1.length co11] ?_; (with_reducible refine (nat_Norm.calls _ _ x6_1 t230 _ ?side1 ?side2 A20.out).mono ?_); (case side1 => exact (Kd.R_reads' HO_6.out).2.2); (case side2 => exact (Kd.R_reads' HO_6.out).2.1); rintro e w21 ⟨v231, rfl, ho0, hb⟩; refine ⟨_, rfl, ?_⟩; have HO232 := Aside0.mk (Kd.R_lower (Kd.R_new' ho0 (Kd.R_lt HO_6.out)) (below_size HB.out)); replace HO_6 := Aside0.mk (Kd.R_elder' HO_6.out (Kd.R_base ho0) hb); replace HB := Aside0.mk (below_step HB.out hb)))
       go_ret2
       exact ⟨_, by first | rfl | (simp [errW_none, errW_some] <;> rfl) | (simp [*, errW_none, errW_some] <;> rfl), by (with_reducible repeat (first | apply Kd.R_alloc | apply Kd.R_drewN | apply Kd.R_drew)); exact Kd.R_mono HO232.out (fun _ hk => trivial), by repeat (first | (with_reducible first | exact HB.out | apply below_alloc | apply pw_below_drewN | apply below_drew1) | exact HB.out)⟩
   ·rw [if_neg c7] at H
    exact absurd H (by simp)
  ·rw [if_neg c6] at H
   exact absurd H (by simp)

/-! ### nat_Add: function 42 -/
def nat_Add.l0 : Nat → List Int → List Int → List Int → Int → Int → Int → Option (List Int)
 | 0, _, _, _, _, _, _ => none
 | k + 1, x0, x1, x6, x7, x17, x18 => if x18 < x17 then ((nat_limb.f x0 x18).bind fun t236 => ((nat_limb.f x1 x18).bind fun t237 => (if 0 ≤ x18 then (if x18 < (x6.length : Int) then (nat_Add.l0 k x0 x1 (x6.set (x18 : Int).toNat ((IntKind.u64.wrap (x7 + (IntKind.u64.wrap (t236 + t237)))) % 4294967296)) ((IntKind.u64.wrap (x7 + (IntKind.u64.wrap (t236 + t237)))) / 4294967296) x17 (wrap64 (x18 + 1))) else (none)) else (none)))) else ((nat_Norm.f x6).bind fun t239 => (some t239))
def nat_Add.f (k : Nat) (l0 : List Int) (l1 : List Int) : Option (List Int) := if 0 ≤ (wrap64 ((mx (l0.length : Int) (l1.length : Int)) + 1)) then (if (wrap64 ((mx (l0.length : Int) (l1.length : Int)) + 1) : Int).toNat ≤ 70368744177664 then (nat_Add.l0 k l0 l1 (List.replicate (wrap64 ((mx (l0.length : Int) (l1.length : Int)) + 1) : Int).toNat 0) 0 (wrap64 ((mx (l0.length : Int) (l1.length : Int)) + 1)) 0) else (none)) else (none)
set_option maxHeartbeats 8000000 in
set_option maxRecDepth 100000 in
theorem nat_Add.calls (k : Nat) (A0 : Option Addr) (c0 : Nat) (l0 : List Int) (A1 : Option Addr) (c1 : Nat) (l1 : List Int) (r : List Int) (w : World) (hr0 : Kd.C (Kd.int .u32) w A0 l0.length l0) (hc0 : l0.length ≤ c0) (hr1 : Kd.C (Kd.int .u32) w A1 l1.length l1) (hc1 : l1.length ≤ c1) (h : nat_Add.f k l0 l1 = some r) :
  Calls Tryd.prog 42 #[.slice A0 l0.length c0, .slice A1 l1.length c1] w fun e w' => ∃ v0_ : Value, e = .returned (v0_) ∧ Kd.R (Kd.int .u32) 51 w' w.heap.size (fun _ => True) v0_ r ∧ Below w.heap.size w w' := by
 have HR0 := Aside0.mk hr0
 have HC0 := Aside0.mk hc0
 clear hr0 hc0
 have HR1 := Aside0.mk hr1
 have HC1 := Aside0.mk hc1
 clear hr1 hc1
 have HB := Aside0.mk (Below.refl w.heap.size w)
 have H : (if 0 ≤ (wrap64 ((mx (l0.length : Int) (l1.length : Int)) + 1)) then (if (wrap64 ((mx (l0.length : Int) (l1.length : Int)) + 1) : Int).toNat ≤ 70368744177664 then (nat_Add.l0 k l0 l1 (List.replicate (wrap64 ((mx (l0.length : Int) (l1.length : Int)) + 1) : Int).toNat 0) 0 (wrap64 ((mx (l0.length : Int) (l1.length : Int)) + 1)) 0) else (none)) else (none)) = some r := h
 clear h
 obtain ⟨ji3, hji3⟩ : ∃ j_ : Int, (mx (l0.length : Int) (l1.length : Int)) = j_ := ⟨_, rfl⟩
 replace H : (if 0 ≤ (wrap64 ((ji3) + 1)) then (if (wrap64 ((ji3) + 1) : Int).toNat ≤ 70368744177664 then (nat_Add.l0 k l0 l1 (List.replicate (wrap64 ((ji3) + 1) : Int).toNat 0) 0 (wrap64 ((ji3) + 1)) 0) else (none)) else (none)) = some r := by first | (rw [hji3] at H; exact H) | (simp only [hji3] at H ⊢; exact H)
 (try (have hji3l : 0 ≤ ji3 := by (rw [← hji3]; unfold mx; (repeat' split) <;> omega)))
 (try (have hji3m : 0 ≤ ji3 := by omega))
 have hji3_ : (if (l0.length : Int) < (l1.length : Int) then (l1.length : Int) else (l0.length : Int)) = ji3 := hji3
 have hji3__ := hji3_
 (try simp only [Int.ofNat_lt] at hji3__)
 obtain ⟨ji4, hji4⟩ : ∃ j_ : Int, (wrap64 ((ji3) + 1)) = j_ := ⟨_, rfl⟩
 replace H : (if 0 ≤ (ji4) then (if (ji4 : Int).toNat ≤ 70368744177664 then (nat_Add.l0 k l0 l1 (List.replicate (ji4 : Int).toNat 0) 0 ji4 0) else (none)) else (none)) = some r := by first | (rw [hji4] at H; exact H) | (simp only [hji4] at H ⊢; exact H)
 have hji4w : (IntKind.i64.wrap ((ji3) + 1)) = ji4 := (i64_w _).trans hji4
 by_cases c5 : 0 ≤ (ji4)
 ·rw [if_pos c5] at H
  have c5b0 := eq_true c5
  have c5b1 : decide (0 ≤ (ji4)) = true := decide_eq_true c5
  clear c5
  by_cases c6 : (ji4 : Int).toNat ≤ 70368744177664
  ·rw [if_pos c6] at H
   have c6b0 := eq_true c6
   have c6b1 : decide ((ji4 : Int).toNat ≤ 70368744177664) = true := decide_eq_true c6
   clear c6
   obtain ⟨y233, hy233⟩ : ∃ y_ : List Int, y_ = (List.replicate (ji4 : Int).toNat 0) := ⟨_, rfl⟩
   replace H : (nat_Add.l0 k l0 l1 y233 0 ji4 0) = some r := by first | (rw [hy233]; with_reducible exact H) | (have H2_ := (Option.bind_some _ _).symm.trans H; rw [hy233]; with_reducible exact H2_) | (have H2_ := (Option.bind_some _ _).symm.trans H; with_reducible exact H2_) | with_reducible exact H | (rw [hy233]; exact H) | exact H
   have Ny233 := Aside0.mk hy233
   clear hy233
   have H' := Aside0.mk H
   clear H
   go_enter Tryd.func42, Tryd.ntmps42
   go_wp2_with (first | ((with_reducible refine gate_dst (N := 16) rfl ?_); refine Kd.R_make (Kd.int .u32) _ 51 rfl (N := 16) rfl 22 _ _ rfl ji4 rfl rfl Tryd.underlying22 (.int .u32 0) 4 info51 rfl (by decide) (by omega) 0 (ok := fun _ => True) (okp := fun _ => True) rfl (fun _ hk => hk) trivial (of_decide_eq_true (by first | (with_reducible assumption) | assumption)) (Nat.le_trans (Nat.mul_le_mul_right _ (of_decide_eq_true (by first | (with_reducible assumption) | assumption) : ji4.toNat ≤ 70368744177664)) (by omega)) (Below.refl _ _) (Nat.le_refl _) ?_; intro v234 w7 ho8 hb hg_ hnew_; clear hg_ hnew_; (first | rw [← Ny233.out] at ho8 | (simp only [Int.reduceToNat] at ho8; rw [← Ny233.out] at ho8)); have HO235 := Aside0.mk (Kd.R_lower ho8 (below_size HB.out)); replace HB := Aside0.mk (below_step HB.out hb); clear hb ho8))
   go_loopg [7, 18] k (fun kq v7 v18 w' => ∃ (x6_1 : List Int) (x7_1 : Int) (x18_1 : Int), v7 = .int .u64 x7_1 ∧ v18 = .int .i64 x18_1 ∧ Aside0 (nat_Add.l0 kq l0 l1 x6_1 x7_1 ji4 x18_1 = some r) ∧ Aside0 (kq ≤ k) ∧ Aside0 (Kd.R (Kd.int .u32) 51 w' w.heap.size (fun _ => True) v234 x6_1) ∧ Aside0 (Below w.heap.size w w'))
   case atStart => exact ⟨(y233), (0), (0), (by first | rfl | (simp; done) | (simp [*]; done) | (refine congrArg (Value.int _) ?_; omega) | (refine congrArg Value.bool ?_; generalize ByteArray.toList _ = z_; cases z_ <;> rfl)), (by first | rfl | (simp; done) | (simp [*]; done) | (refine congrArg (Value.int _) ?_; omega) | (refine congrArg Value.bool ?_; generalize ByteArray.toList _ = z_; cases z_ <;> rfl)), H', ⟨Nat.le_refl _⟩, ⟨by (with_reducible repeat (first | apply Kd.R_alloc | apply Kd.R_drewN | apply Kd.R_drew)); exact HO235.out⟩, ⟨by repeat (first | (with_reducible first | exact HB.out | apply below_alloc | apply pw_below_drewN | apply below_drew1) | exact HB.out)⟩⟩
   case round =>
    clear H'
    try clear c1
    try clear p2
    try clear c4
    try clear c5
    try clear c5b0
    try clear c5b1
    try clear c6
    try clear c6b0
    try clear c6b1
    try clear p6
    obtain ⟨x6_1, x7_1, x18_1, rfl, rfl, HA, HK1, HO_6, HB⟩ := hrel
    cases gk with
    | zero => exact absurd HA.out (by simp [nat_Add.l0])
    | succ k1 =>
     have H := HA.out
     clear HA
     simp only [nat_Add.l0] at H
     by_cases c9 : x18_1 < ji4
     ·rw [if_pos c9] at H
      have c9b0 : decide (x18_1 < ji4) = true := decide_eq_true c9
      clear c9
      replace H := Option.bind_eq_some_iff.mp H
      obtain ⟨t236, A100, H⟩ := H
      replace H : ((nat_limb.f l1 x18_1).bind fun t237 => (if 0 ≤ x18_1 then (if x18_1 < (x6_1.length : Int) then (nat_Add.l0 k1 l0 l1 (x6_1.set (x18_1 : Int).toNat ((IntKind.u64.wrap (x7_1 + (IntKind.u64.wrap (t236 + t237)))) % 4294967296)) ((IntKind.u64.wrap (x7_1 + (IntKind.u64.wrap (t236 + t237)))) / 4294967296) ji4 (wrap64 (x18_1 + 1))) else (none)) else (none))) = some r := H
      have A10 := Aside0.mk A100
      clear A100
      replace H := Option.bind_eq_some_iff.mp H
      obtain ⟨t237, A110, H⟩ := H
      replace H : (if 0 ≤ x18_1 then (if x18_1 < (x6_1.length : Int) then (nat_Add.l0 k1 l0 l1 (x6_1.set (x18_1 : Int).toNat ((IntKind.u64.wrap (x7_1 + (IntKind.u64.wrap (t236 + t237)))) % 4294967296)) ((IntKind.u64.wrap (x7_1 + (IntKind.u64.wrap (t236 + t237)))) / 4294967296) ji4 (wrap64 (x18_1 + 1))) else (none)) else (none)) = some r := H
      have A11 := Aside0.mk A110
      clear A110
      by_cases c12 : 0 ≤ x18_1
      ·rw [if_pos c12] at H
       have c12b0 : decide (0 ≤ x18_1) = true := decide_eq_true c12
       clear c12
       by_cases c13 : x18_1 < (x6_1.length : Int)
       ·rw [if_pos c13] at H
        have c13b0 : decide (x18_1 < (x6_1.length : Int)) = true := decide_eq_true c13
        clear c13
        obtain ⟨y238, hy238⟩ : ∃ y_ : List Int, y_ = (x6_1.set (x18_1 : Int).toNat ((IntKind.u64.wrap (x7_1 + (IntKind.u64.wrap (t236 + t237)))) % 4294967296)) := ⟨_, rfl⟩
        replace H : (nat_Add.l0 k1 l0 l1 y238 ((IntKind.u64.wrap (x7_1 + (IntKind.u64.wrap (t236 + t237)))) / 4294967296) ji4 (wrap64 (x18_1 + 1))) = some r := by first | (rw [hy238]; with_reducible exact H) | (have H2_ := (Option.bind_some _ _).symm.trans H; rw [hy238]; with_reducible exact H2_) | (have H2_ := (Option.bind_some _ _).symm.trans H; with_reducible exact H2_) | with_reducible exact H | (rw [hy238]; exact H) | exact H
        have Ny238 := Aside0.mk hy238
        clear hy238
        have H' := Aside0.mk H
        clear H
        go_wp2_with (first | ((with_reducible refine gate_callee (f := 66) rfl ?_); refine goL (some 24) Tryd.func66 [.slice A0 l0.length c0, .int .i64 x18_1] ?_; (with_reducible refine (nat_limb.calls _ _ l0 x18_1 t236 _ ?side1 ?side2 A10.out).mono ?_); (case side1 => repeat (first | exact (Kd.C_below HR0.out HB.out) | (with_reducible refine Kd.C_alloc ?_ _) | (with_reducible refine Kd.C_drewN ?_ _) | (with_reducible refine Kd.C_drew ?_))); (case side2 => exact HC0.out); rintro e w' ⟨rfl, ⟨nd, rfl⟩⟩; refine ⟨_, rfl, ?_⟩; (try (rw [drewN_self wr]; generalize hq_ : World.drewN wr _ = wr; have n0_ : Aside0 (Kd.R (Kd.int .u32) 51 wr w.heap.size (fun _ => True) v234 x6_1) := ⟨by rw [← hq_]; exact (by (with_reducible repeat (first | apply Kd.R_alloc | apply Kd.R_drewN | apply Kd.R_drew)); exact HO_6.out)⟩; have n1_ : Aside0 (Below w.heap.size w wr) := ⟨by rw [← hq_]; exact (by repeat first | exact HB.out | refine bxSet ?_ (by assumption) | apply below_alloc | apply pw_below_drewN)⟩; clear HO_6 HB hq_; have HO_6 := n0_; have HB := n1_; clear n0_ n1_))) | ((with_reducible refine gate_callee (f := 66) rfl ?_); refine goL (some 27) Tryd.func66 [.slice A1 l1.length c1, .int .i64 x18_1] ?_; (with_reducible refine (nat_limb.calls _ _ l1 x18_1 t237 _ ?side1 ?side2 A11.out).mono ?_); (case side1 => repeat (first | exact (Kd.C_below HR1.out HB.out) | (with_reducible refine Kd.C_alloc ?_ _) | (with_reducible refine Kd.C_drewN ?_ _) | (with_reducible refine Kd.C_drew ?_))); (case side2 => exact HC1.out); rintro e w' ⟨rfl, ⟨nd, rfl⟩⟩; refine ⟨_, rfl, ?_⟩; (try (rw [drewN_self wr]; generalize hq_ : World.drewN wr _ = wr; have n0_ : Aside0 (Kd.R (Kd.int .u32) 51 wr w.heap.size (fun _ => True) v234 x6_1) := ⟨by rw [← hq_]; exact (by (with_reducible repeat (first | apply Kd.R_alloc | apply Kd.R_drewN | apply Kd.R_drew)); exact HO_6.out)⟩; have n1_ : Aside0 (Below w.heap.size w wr) := ⟨by rw [← hq_]; exact (by repeat first | exact HB.out | refine bxSet ?_ (by assumption) | apply below_alloc | apply pw_below_drewN)⟩; clear HO_6 HB hq_; have HO_6 := n0_; have HB := n1_; clear n0_ n1_)); have p14 : 0 ≤ (x18_1 : Int) := of_decide_eq_true (by first | (with_reducible assumption) | assumption); have q14 : (x18_1 : Int) < ((x6_1.length : Int) : Int) := of_decide_eq_true (by first | (with_reducible assumption) | assumption); obtain ⟨go14, co14, eo14, gb14, gl14, cl14, HG14⟩ := Kd.R_form HO_6.out (by omega); (first | cases eo14 | (injection eo14 with ea_ en_ ec_; (first | subst ea_ | (injection ea_ with ea_; subst ea_)); subst ec_; clear en_)); have GB14 := Aside0.mk gb14; have GG14 := Aside0.mk HG14; clear gb14 gl14 HG14; obtain ⟨hx14_0, hf14_0⟩ := Kd.R_celln 0 HO_6.out (x18_1 : Int) p14 q14; replace p14 := eq_true p14; replace q14 := eq_true q14; obtain ⟨hy15_, hz15_⟩ := Kd.R_celln 0 HO_6.out (x18_1 : Int) (of_decide_eq_true (by first | (with_reducible assumption) | assumption)) (of_decide_eq_true (by first | (with_reducible assumption) | assumption)); have HP15 := Kd.R_putg HO_6.out (x18_1 : Int) ((IntKind.u64.wrap (x7_1 + (IntKind.u64.wrap (t236 + t237)))) % 4294967296)) | ((with_reducible refine gate_store (t := 51) (p := 34) rfl ?_); refine store_event (t := 51) (p := 34) (v := ?vo_w16) (w1 := (wr.setCell ⟨go14, (x18_1 : Int).toNat, none⟩ (.int .u32 ((IntKind.u64.wrap (x7_1 + (IntKind.u64.wrap (t236 + t237)))) % 4294967296)))) ?hg ?ho ?hn ?hr ?_; (case ho => rfl); (case hg => rfl); (case hn => rfl); (case hr => first | (go_simp; done) | (go_simp; rfl)); intro w16 hw; have hg : wr.grownBy w16 (some go14) := (by rw [hw]; exact HP15.2); have hp_ : Kd.R (Kd.int .u32) 51 w16 w.heap.size (fun _ => True) (.slice (some ⟨go14, 0, none⟩) x6_1.length co14) y238 := (by rw [hw, Ny238.out]; exact HP15.1); clear HP15; replace HO_6 := Aside0.mk (hp_); replace HB := Aside0.mk ((by rw [hw]; exact below_set (HB.out) GB14.out : Below w.heap.size w w16)); clear hg hw hp_))
        go_roundg k1
        case measure => have := HK1.out; omega
        case rel => exact ⟨(y238), ((IntKind.u64.wrap (x7_1 + (IntKind.u64.wrap (t236 + t237)))) / 4294967296), (wrap64 (x18_1 + 1)), (by first | rfl | (simp; done) | (simp [*]; done) | (refine congrArg (Value.int _) ?_; omega) | (refine congrArg Value.bool ?_; generalize ByteArray.toList _ = z_; cases z_ <;> rfl)), (by first | rfl | (simp; done) | (simp [*]; done) | (refine congrArg (Value.int _) ?_; omega) | (refine congrArg Value.bool ?_; generalize ByteArray.toList _ = z_; cases z_ <;> rfl)), H', ⟨by have := HK1.out; omega⟩, ⟨by (with_reducible repeat (first | apply Kd.R_alloc | apply Kd.R_drewN | apply Kd.R_drew)); exact HO_6.out⟩, ⟨by repeat (first | (with_reducible first | exact HB.out | apply below_alloc | apply pw_below_drewN | apply below_drew1) | exact HB.out)⟩⟩
       ·rw [if_neg c13] at H
        exact absurd H (by simp)
      ·rw [if_neg c12] at H
       exact absurd H (by simp)
     ·rw [if_neg c9] at H
      have c9b0 : decide (x18_1 < ji4) = false := decide_eq_false c9
      clear c9
      replace H := Option.bind_eq_some_iff.mp H
      obtain ⟨t239, A170, H⟩ := H
      replace H : (some t239) = some r := H
      have A17 := Aside0.mk A170
      clear A170
      obtain rfl := Option.some.inj H
      obtain ⟨Ao18, co18, eo18⟩ := Kd.R_slice HO_6.out
      subst eo18
      go_wp2_with (first | ((with_reducible refine gate_callee (f := 60) rfl ?_); refine goL (some 39) Tryd.func60 [.slice Ao18 x6_1.length co18] ?_; (with_reducible refine (nat_Norm.calls _ _ x6_1 t239 _ ?side1 ?side2 A17.out).mono ?_); (case side1 => exact (Kd.R_reads' HO_6.out).2.2); (case side2 => exact (Kd.R_reads' HO_6.out).2.1); rintro e w19 ⟨v240, rfl, ho0, hb⟩; refine ⟨_, rfl, ?_⟩; have HO241 := Aside0.mk (Kd.R_lower (Kd.R_new' ho0 (Kd.R_lt HO_6.out)) (below_size HB.out)); replace HO_6 := Aside0.mk (Kd.R_elder' HO_6.out (Kd.R_base ho0) hb); replace HB := Aside0.mk (below_step HB.out hb)))
      go_ret
      exact ⟨_, by first | rfl | (simp [errW_none, errW_some] <;> rfl) | (simp only [← hji3, ← hji4]; first | rfl | (simp [errW_none, errW_some] <;> rfl)) | (simp [*, errW_none, errW_some] <;> rfl), by (with_reducible repeat (first | apply Kd.R_alloc | apply Kd.R_drewN | apply Kd.R_drew)); exact Kd.R_mono HO241.out (fun _ hk => trivial), by repeat (first | (with_reducible first | exact HB.out | apply below_alloc | apply pw_below_drewN | apply below_drew1) | exact HB.out)⟩
  ·rw [if_neg c6] at H
   exact absurd H (by simp)
 ·rw [if_neg c5] at H
  exact absurd H (by simp)

end Go.Proofs.YthnfmmaolkenkaaDoor.PA
/- The closure 'signed' of whole.DivMod, in the printed shape: it reads the truths of two captured variables and answers what made answers. -/
namespace Go.Proofs.YthnfmmaolkenkaaDoor.H
open Go.RowKit Go.Proofs.YthnfmmaolkenkaaDoorW.PrintWords Go.Proofs.YthnfmmaolkenkaaDoorW.PrintLast Go.Proofs.YthnfmmaolkenkaaDoorW.PrintMore Go.Proofs.YthnfmmaolkenkaaDoor.PA
attribute [local go_sem] box_twice
set_option linter.unusedVariables false
set_option linter.unusedSimpArgs false
set_option maxHeartbeats 8000000 in
set_option maxRecDepth 100000 in
theorem whole_DivMod_1.calls (ga gb : Nat) (an bn : Bool) (A1 : Option Addr) (c1 : Nat) (l1 : List Int) (r1 : Bool) (r2 : List Int) (w : World) (hr1 : Kd.C (Kd.int .u32) w A1 l1.length l1) (hc1 : l1.length ≤ c1) (h : whole_made.f (an != bn) l1 = some (r1, r2))
    (ha : w.cell? ⟨ga, 0, none⟩ = some (.bool an)) (hb : w.cell? ⟨gb, 0, none⟩ = some (.bool bn)) :
    Calls Tryd.prog 39 #[.slice A1 l1.length c1, .pointer (some ⟨ga, 0, none⟩), .pointer (some ⟨gb, 0, none⟩)] w fun e w' => ∃ v1_ : Value, e = .returned (.agg #[.bool r1, v1_]) ∧ Kd.R (Kd.int .u32) 51 w' w.heap.size (fun _ => True) v1_ r2 ∧ Below w.heap.size w w' := by
  have hu24 := Tryd.underlying24
  have HR1 := Aside0.mk hr1
  have HC1 := Aside0.mk hc1
  have A2 := Aside0.mk (show whole_made.f (!(an == bn)) l1 = some (r1, r2) from h)
  have HB := Aside0.mk (Below.refl w.heap.size w)
  have KA := Aside0.mk ha
  have KB := Aside0.mk hb
  clear hr1 hc1 h
  go_enter Tryd.func39, Tryd.ntmps39
  go_wp2_with (first
    | ((with_reducible refine gate_dst (N := 4) rfl ?_); (try (refine gate_guard (by rfl) ?_; dsimp only)); refine box_event ?hg (N := 4) ?hd (cs := #[.bool false, .slice none 0 0]) (t := 24) ?hr ?_; (case hd => rfl); (case hg => rfl); (case hr => first | (go_simp; done) | (go_simp; rfl)); intro g4 hg w3 hbox hb4; have BK := Aside0.mk hbox; have GE := Aside0.mk (show w.heap.size ≤ g4 by omega); have ha := pw_cell_below hb4 KA.out; have hb := pw_cell_below hb4 KB.out; have n_ := Aside0.mk (below_step HB.out hb4); clear HB; have HB := n_; clear n_ hb4 hbox hg)
    | (go_at_call 40; (with_reducible refine (whole_made.calls (!(an == bn)) _ _ l1 r1 r2 _ ?side1 ?side2 A2.out).mono ?_); (case side1 => exact (Kd.C_below HR1.out HB.out)); (case side2 => exact HC1.out); rintro e w7 ⟨v1, rfl, ho0, hb7⟩; have HO := Aside0.mk (Kd.R_lower ho0 (below_size HB.out)); have n1_ := Aside0.mk (blk_below BK.out hb7); clear BK; have BK := n1_; clear n1_; have n_ := Aside0.mk (below_step HB.out hb7); clear HB; have HB := n_; clear n_ hb7 ho0; obtain ⟨Ao, co, eo⟩ := Kd.R_slice HO.out; subst eo; have hcz0 : w7.cell? ⟨g4, 0, none⟩ = some (.bool false) := (blk_cell BK.out 0).trans rfl; have hcz1 : w7.cell? ⟨g4, 1, none⟩ = some (.slice none 0 0) := (blk_cell BK.out 1).trans rfl; have hfz0 := blk_frozen BK.out 0; have hfz1 := blk_frozen BK.out 1))
  refine bodyPost_ret (results_cell_row rfl _ _ g4 24 #[.bool r1, .slice Ao r2.length co] (0, 0) _ rfl (by (with_reducible repeat (first | refine blk_drewN ?_ _ | refine blk_drew ?_ | refine blk_alloc ?_ _)); refine blk_put (cs := #[.bool r1, .slice none 0 0]) ?_ 1 _ rfl; (with_reducible repeat (first | refine blk_drewN ?_ _ | refine blk_drew ?_ | refine blk_alloc ?_ _)); refine blk_put (cs := #[.bool false, .slice none 0 0]) ?_ 0 _ rfl; (with_reducible repeat (first | refine blk_drewN ?_ _ | refine blk_drew ?_ | refine blk_alloc ?_ _)); exact BK.out) Tryd.underlying24 rfl (by kernel_rfl)) rfl ?_
  exact ⟨_, by first | rfl | (simp [errW_none, errW_some] <;> rfl), by (with_reducible repeat (first | apply Kd.R_alloc | apply Kd.R_drewN | apply Kd.R_drew)); exact Kd.R_mono (Kd.R_far (p := ⟨g4, 1, none⟩) (Kd.R_far (p := ⟨g4, 0, none⟩) (Kd.R_types HO.out BK.out (by decide)) (fun _ hk => hk.2) (.bool r1)) (fun _ hk => hk.2) (.slice Ao r2.length co)) (fun _ hk => trivial), by repeat (first | (with_reducible first | exact HB.out | apply below_alloc | apply pw_below_drewN | apply below_drew1 | refine below_set ?_ GE.out) | exact HB.out)⟩
end Go.Proofs.YthnfmmaolkenkaaDoor.H
/- Written by a program of this session, wip/tools/patch_print.py, over the kit's print of the loaded functions. -/
namespace Go.Proofs.YthnfmmaolkenkaaDoor.H
end Go.Proofs.YthnfmmaolkenkaaDoor.H
namespace Go.Proofs.YthnfmmaolkenkaaDoor.PA
open Go.RowKit Go.Proofs.YthnfmmaolkenkaaDoorW.PrintWords Go.Proofs.YthnfmmaolkenkaaDoorW.PrintLast Go.Proofs.YthnfmmaolkenkaaDoorW.PrintMore Go.Proofs.YthnfmmaolkenkaaDoor.H
attribute [local go_sem] max2_int min2_int max_two min_two max_three min_three max_four min_four   -- for this text's walks alone
attribute [local go_sem] box_twice
set_option linter.unusedVariables false
set_option linter.unusedSimpArgs false

/-! ### whole_DivMod: function 11 -/
def whole_DivMod.j0 : Nat → List Int → List Int → Bool → Bool → List Int → Bool → List Int → Option (Bool × List Int × Bool × List Int × Int)
 | 0, _, _, _, _, _, _, _ => none
 | k + 1, x7, x8, x39, x243000, x243001, x244000, x244001 => if x39 = true then ((whole_made.f (x243000 != x244000) x7).bind fun bt262 => ((whole_made.f false x8).bind fun bt266 => (some (bt262.1, bt262.2, bt266.1, bt266.2, 0)))) else ((nat_Sub.f k x244001 x8).bind fun bt270 => ((nat_Add.f k x7 (([1] : List Int))).bind fun t277 => ((whole_made.f (x243000 != x244000) t277).bind fun bt280 => ((whole_made.f false bt270.1).bind fun bt284 => (some (bt280.1, bt280.2, bt284.1, bt284.2, 0))))))
def whole_DivMod.f (k : Nat) (a0_0 : Bool) (l0_1 : List Int) (a1_0 : Bool) (l1_1 : List Int) : Option (Bool × List Int × Bool × List Int × Int) := (whole_Norm.f a0_0 l0_1).bind fun bt246 => ((whole_Norm.f a1_0 l1_1).bind fun bt250 => ((nat_DivMod.f k bt246.2 bt250.2).bind fun bt254 => (if bt254.2.2 = 0 then (if bt246.1 = true then (whole_DivMod.j0 k bt254.1 bt254.2.1 ((bt254.2.1.length : Int) == 0) bt246.1 bt246.2 bt250.1 bt250.2) else (whole_DivMod.j0 k bt254.1 bt254.2.1 true bt246.1 bt246.2 bt250.1 bt250.2)) else (some (false, ([] : List Int), false, ([] : List Int), bt254.2.2)))))
set_option maxHeartbeats 8000000 in
set_option maxRecDepth 100000 in
theorem whole_DivMod.calls (k : Nat) (a0_0 : Bool) (A0_1 : Option Addr) (c0_1 : Nat) (l0_1 : List Int) (a1_0 : Bool) (A1_1 : Option Addr) (c1_1 : Nat) (l1_1 : List Int) (r1 : Bool) (r2 : List Int) (r3 : Bool) (r4 : List Int) (r5 : Int) (w : World) (hr0_1 : Kd.C (Kd.int .u32) w A0_1 l0_1.length l0_1) (hc0_1 : l0_1.length ≤ c0_1) (hr1_1 : Kd.C (Kd.int .u32) w A1_1 l1_1.length l1_1) (hc1_1 : l1_1.length ≤ c1_1) (h : whole_DivMod.f k a0_0 l0_1 a1_0 l1_1 = some (r1, r2, r3, r4, r5)) :
  Calls Tryd.prog 11 #[.agg #[.bool a0_0, .slice A0_1 l0_1.length c0_1], .agg #[.bool a1_0, .slice A1_1 l1_1.length c1_1]] w fun e w' => ∃ v1_ v3_ : Value, e = .returned (.tuple #[.agg #[.bool r1, v1_], .agg #[.bool r3, v3_], .int .i64 r5]) ∧ Kd.R (Kd.int .u32) 51 w' w.heap.size (fun k_ => some k_ ≠ (v3_ : Value).ownBlock) v1_ r2 ∧ Kd.R (Kd.int .u32) 51 w' w.heap.size (fun k_ => some k_ ≠ (v1_ : Value).ownBlock) v3_ r4 ∧ Below w.heap.size w w' := by
 have hu24 := Tryd.underlying24
 have HR0_1 := Aside0.mk hr0_1
 have HC0_1 := Aside0.mk hc0_1
 clear hr0_1 hc0_1
 have HR1_1 := Aside0.mk hr1_1
 have HC1_1 := Aside0.mk hc1_1
 clear hr1_1 hc1_1
 have HB := Aside0.mk (Below.refl w.heap.size w)
 have H : ((whole_Norm.f a0_0 l0_1).bind fun bt246 => ((whole_Norm.f a1_0 l1_1).bind fun bt250 => ((nat_DivMod.f k bt246.2 bt250.2).bind fun bt254 => (if bt254.2.2 = 0 then (if bt246.1 = true then (whole_DivMod.j0 k bt254.1 bt254.2.1 ((bt254.2.1.length : Int) == 0) bt246.1 bt246.2 bt250.1 bt250.2) else (whole_DivMod.j0 k bt254.1 bt254.2.1 true bt246.1 bt246.2 bt250.1 bt250.2)) else (some (false, ([] : List Int), false, ([] : List Int), bt254.2.2)))))) = some (r1, r2, r3, r4, r5) := h
 clear h
 obtain ⟨⟨t246, t247⟩, A30, H⟩ := Option.bind_eq_some_iff.mp H
 try dsimp only at H
 have A3 := Aside0.mk A30
 clear A30
 obtain ⟨⟨t250, t251⟩, A40, H⟩ := Option.bind_eq_some_iff.mp H
 try dsimp only at H
 have A4 := Aside0.mk A40
 clear A40
 obtain ⟨⟨t254, t255, t256⟩, A50, H⟩ := Option.bind_eq_some_iff.mp H
 try dsimp only at H
 have A5 := Aside0.mk A50
 clear A50
 by_cases c6 : t256 = 0
 ·rw [if_pos c6] at H
  have c6b0 : (t256 == 0) = true := beq_iff_eq.mpr c6
  have c6b1 : (t256 != 0) = false := bne_eq_false_iff_eq.mpr c6
  clear c6
  have HC7 := Aside0.mk H
  clear H
  go_enter Tryd.func11, Tryd.ntmps11
  try go_wp2_with (first | ((with_reducible refine gate_dst (N := 2) rfl ?_); (try (refine gate_guard (by rfl) ?_; dsimp only)); refine box_event ?hg (N := 2) ?hd (cs := #[.bool a0_0, .slice A0_1 l0_1.length c0_1]) (t := 24) ?hr ?_; (case hd => rfl); (case hg => rfl); (case hr => first | (go_simp; done) | (go_simp; rfl)); intro gb242 hg w8 hbox hb; have BK242 := Aside0.mk (hbox); have GW242 := Aside0.mk (bxLe HB.out hg); have GE242 := GW242; replace HB := Aside0.mk (below_step HB.out hb); clear hb hbox hg) | ((with_reducible refine gate_dst (N := 3) rfl ?_); (try (refine gate_guard (by rfl) ?_; dsimp only)); refine box_event ?hg (N := 3) ?hd (cs := #[.bool a1_0, .slice A1_1 l1_1.length c1_1]) (t := 24) ?hr ?_; (case hd => rfl); (case hg => rfl); (case hr => first | (go_simp; done) | (go_simp; rfl)); intro gb243 hg w9 hbox hb; have BK243 := Aside0.mk (hbox); have GW243 := Aside0.mk (bxLe HB.out hg); have GE243 := GW243; replace HB := Aside0.mk (below_step HB.out hb); have NB242_243 := Aside0.mk (neL BK242.out hg); have NB243_242 := Aside0.mk (neR BK242.out hg); replace BK242 := Aside0.mk (blk_below BK242.out hb); clear hb hbox hg) | ((with_reducible refine gate_dst (N := 4) rfl ?_); (try (refine gate_guard (by rfl) ?_; dsimp only)); refine box_event ?hg (N := 4) ?hd (cs := #[.bool false, .slice none 0 0]) (t := 24) ?hr ?_; (case hd => rfl); (case hg => rfl); (case hr => first | (go_simp; done) | (go_simp; rfl)); intro gb244 hg w10 hbox hb; have BK244 := Aside0.mk (hbox); have GW244 := Aside0.mk (bxLe HB.out hg); have GE244 := GW244; replace HB := Aside0.mk (below_step HB.out hb); have NB242_244 := Aside0.mk (neL BK242.out hg); have NB244_242 := Aside0.mk (neR BK242.out hg); replace BK242 := Aside0.mk (blk_below BK242.out hb); have NB243_244 := Aside0.mk (neL BK243.out hg); have NB244_243 := Aside0.mk (neR BK243.out hg); replace BK243 := Aside0.mk (blk_below BK243.out hb); clear hb hbox hg) | ((with_reducible refine gate_dst (N := 5) rfl ?_); (try (refine gate_guard (by rfl) ?_; dsimp only)); refine box_event ?hg (N := 5) ?hd (cs := #[.bool false, .slice none 0 0]) (t := 24) ?hr ?_; (case hd => rfl); (case hg => rfl); (case hr => first | (go_simp; done) | (go_simp; rfl)); intro gb245 hg w11 hbox hb; have BK245 := Aside0.mk (hbox); have GW245 := Aside0.mk (bxLe HB.out hg); have GE245 := GW245; replace HB := Aside0.mk (below_step HB.out hb); have NB242_245 := Aside0.mk (neL BK242.out hg); have NB245_242 := Aside0.mk (neR BK242.out hg); replace BK242 := Aside0.mk (blk_below BK242.out hb); have NB243_245 := Aside0.mk (neL BK243.out hg); have NB245_243 := Aside0.mk (neR BK243.out hg); replace BK243 := Aside0.mk (blk_below BK243.out hb); have NB244_245 := Aside0.mk (neL BK244.out hg); have NB245_244 := Aside0.mk (neR BK244.out hg); replace BK244 := Aside0.mk (blk_below BK244.out hb); clear hb hbox hg))
  replace BK242 := Aside0.mk (blk_drew BK242.out)
  replace BK243 := Aside0.mk (blk_drew BK243.out)
  replace BK244 := Aside0.mk (blk_drew BK244.out)
  replace BK245 := Aside0.mk (blk_drew BK245.out)
  replace HB := Aside0.mk (below_drew1 HB.out)
  refine start_ (n := 6) (S := fun w' => w'.cell? ⟨gb242, 0, none⟩ = some (.bool a0_0) ∧ w'.cell? ⟨gb242, 1, none⟩ = some (.slice A0_1 l0_1.length c0_1) ∧ w'.cell? ⟨gb243, 0, none⟩ = some (.bool a1_0) ∧ w'.cell? ⟨gb243, 1, none⟩ = some (.slice A1_1 l1_1.length c1_1)) (ds := [4, 5]) #[false, false, false, false, false, false] (by kernel_rfl) rfl rfl ⟨bc0 BK242.out, bc1 BK242.out, bc0 BK243.out, bc1 BK243.out⟩ (fun hHeld => ?_)
  generalize w11.drew = w12 at BK242 BK243 BK244 BK245 HB hHeld ⊢
  refine take_ (i := 0) (N := some 13) (v := ?_) (a' := ?_) #[true, false, false, false, false, false] rfl rfl (by kernel_rfl) (fun _ _ _ h => h) (Or.inl ⟨by rfl, ?_⟩) hHeld ?_ ?_
  rotate_left
  ·rintro w' ⟨s0, s1, s2, s3⟩
   go_simp
   with_reducible rfl
  rotate_left
  ·simp only [Act.put, List.setIfInBounds_toArray, List.set_cons_zero, List.set_cons_succ, i64_w, i32_w]
   rfl
  refine take_ (i := 2) (N := some 15) (v := ?_) (a' := ?_) #[true, false, true, false, false, false] rfl rfl (by kernel_rfl) (fun _ _ _ h => h) (Or.inl ⟨by rfl, ?_⟩) hHeld ?_ ?_
  rotate_left
  ·rintro w' ⟨s0, s1, s2, s3⟩
   go_simp
   with_reducible rfl
  rotate_left
  ·simp only [Act.put, List.setIfInBounds_toArray, List.set_cons_zero, List.set_cons_succ, i64_w, i32_w]
   rfl
  refine one_ (i := 1) (N := some 14) #[true, true, true, false, false, false] rfl rfl (by kernel_rfl) (by decide) (fun K hK => ?_)
  refine goR Tryd.func16 [.agg #[.bool a0_0, .slice A0_1 l0_1.length c0_1]] ?_
  with_reducible refine (whole_Norm.calls a0_0 _ _ l0_1 t246 t247 _ ?side1 ?side2 A3.out).mono ?_
  (case side1 => exact (Kd.C_below HR0_1.out HB.out))
  (case side2 => exact HC0_1.out)
  rintro e w13 ⟨v248, rfl, ho0, hb⟩
  refine ⟨_, rfl, ?_⟩
  have HO249 := Aside0.mk (Kd.R_lower ho0 (below_size HB.out))
  replace BK242 := Aside0.mk (blk_below BK242.out hb)
  replace BK243 := Aside0.mk (blk_below BK243.out hb)
  replace BK244 := Aside0.mk (blk_below BK244.out hb)
  replace BK245 := Aside0.mk (blk_below BK245.out hb)
  replace HB := Aside0.mk (below_step HB.out hb)
  (try clear hb)
  (try clear hb2)
  (try clear hk)
  (try clear hi)
  (try clear ho0)
  refine hK.out _ _ ⟨bc0 BK242.out, bc1 BK242.out, bc0 BK243.out, bc1 BK243.out⟩ (fun hHeld => ?_)
  clear hK K
  refine norm_ (a' := ?_) ?_ ?_
  rotate_left
  ·show Act.put _ (some 14) _ = _
   simp only [Act.put, List.setIfInBounds_toArray, List.set_cons_zero, List.set_cons_succ, i64_w, i32_w]
   rfl
  refine one_ (i := 3) (N := some 16) #[true, true, true, true, false, false] rfl rfl (by kernel_rfl) (by decide) (fun K hK => ?_)
  refine goR Tryd.func16 [.agg #[.bool a1_0, .slice A1_1 l1_1.length c1_1]] ?_
  with_reducible refine (whole_Norm.calls a1_0 _ _ l1_1 t250 t251 _ ?side1 ?side2 A4.out).mono ?_
  (case side1 => exact (Kd.C_below HR1_1.out HB.out))
  (case side2 => exact HC1_1.out)
  rintro e w14 ⟨v252, rfl, ho0, hb⟩
  refine ⟨_, rfl, ?_⟩
  have HO253 := Aside0.mk (Kd.R_lower (Kd.R_new' ho0 (Kd.R_lt HO249.out)) (below_size HB.out))
  replace HO249 := Aside0.mk (Kd.R_elder' HO249.out (Kd.R_base ho0) hb)
  replace BK242 := Aside0.mk (blk_below BK242.out hb)
  replace BK243 := Aside0.mk (blk_below BK243.out hb)
  replace BK244 := Aside0.mk (blk_below BK244.out hb)
  replace BK245 := Aside0.mk (blk_below BK245.out hb)
  replace HB := Aside0.mk (below_step HB.out hb)
  (try clear hb)
  (try clear hb2)
  (try clear hk)
  (try clear hi)
  (try clear ho0)
  obtain ⟨Ao16, co16, eo16⟩ := Kd.R_slice HO249.out
  subst eo16
  obtain ⟨Ao19, co19, eo19⟩ := Kd.R_slice HO253.out
  subst eo19
  refine hK.out _ _ ⟨bc0 BK242.out, bc1 BK242.out, bc0 BK243.out, bc1 BK243.out⟩ (fun hHeld => ?_)
  clear hK K
  refine norm_ (a' := ?_) ?_ ?_
  rotate_left
  ·show Act.put _ (some 16) _ = _
   simp only [Act.put, List.setIfInBounds_toArray, List.set_cons_zero, List.set_cons_succ, i64_w, i32_w]
   rfl
  refine last_ (i := 4) (N := none) #[true, true, true, true, true, false] rfl rfl (by kernel_rfl) (by decide) (fun K hK => ?_)
  have hs15 : w14.cell? ⟨gb242, 0, none⟩ = some (.bool a0_0) := bc0 BK242.out
  have hfs15 := blk_frozen BK242.out 0
  have hns15_1 := NB243_242.out
  have hns15_2 := NB244_242.out
  have hns15_3 := NB245_242.out
  have hms15_1 := NB242_243.out
  have hms15_2 := NB242_244.out
  have hms15_3 := NB242_245.out
  have hs17 : w14.cell? ⟨gb242, 1, none⟩ = some (.slice A0_1 l0_1.length c0_1) := bc1 BK242.out
  have hfs17 := blk_frozen BK242.out 1
  have hns17_1 := NB243_242.out
  have hns17_2 := NB244_242.out
  have hns17_3 := NB245_242.out
  have hms17_1 := NB242_243.out
  have hms17_2 := NB242_244.out
  have hms17_3 := NB242_245.out
  refine skip_ (w1 := ?_) (by rfl) rfl ?_ ?_
  rotate_left
  ·go_simp
   rfl
  refine hK.out _ _ ?_
  clear hK K
  refine last_ (i := 5) (N := none) #[true, true, true, true, true, true] rfl rfl (by kernel_rfl) (by decide) (fun K hK => ?_)
  have hs18 : w14.cell? ⟨gb243, 0, none⟩ = some (.bool a1_0) := bc0 BK243.out
  have hfs18 := blk_frozen BK243.out 0
  have hns18_0 := NB242_243.out
  have hns18_2 := NB244_243.out
  have hns18_3 := NB245_243.out
  have hms18_0 := NB243_242.out
  have hms18_2 := NB243_244.out
  have hms18_3 := NB243_245.out
  have hs20 : w14.cell? ⟨gb243, 1, none⟩ = some (.slice A1_1 l1_1.length c1_1) := bc1 BK243.out
  have hfs20 := blk_frozen BK243.out 1
  have hns20_0 := NB242_243.out
  have hns20_2 := NB244_243.out
  have hns20_3 := NB245_243.out
  have hms20_0 := NB243_242.out
  have hms20_2 := NB243_244.out
  have hms20_3 := NB243_245.out
  refine skip_ (w1 := ?_) (by rfl) rfl ?_ ?_
  rotate_left
  ·go_simp
   rfl
  refine hK.out _ _ ?_
  clear hK K
  refine done_ (by kernel_rfl) ?_
  have hnb21 := NB242_243.out
  have hnc21 := NB243_242.out
  have hnb22 := NB242_244.out
  have hnc22 := NB244_242.out
  have hnb23 := NB242_245.out
  have hnc23 := NB245_242.out
  have hcz24_0 : w14.cell? ⟨gb242, 0, none⟩ = some (.bool a0_0) := bc0 BK242.out
  have hcz24_1 : w14.cell? ⟨gb242, 1, none⟩ = some (.slice A0_1 l0_1.length c0_1) := bc1 BK242.out
  have hfz24_0 := blk_frozen BK242.out 0
  have hfz24_1 := blk_frozen BK242.out 1
  have hnb25 := NB243_244.out
  have hnc25 := NB244_243.out
  have hnb26 := NB243_245.out
  have hnc26 := NB245_243.out
  have hcz27_0 : w14.cell? ⟨gb243, 0, none⟩ = some (.bool a1_0) := bc0 BK243.out
  have hcz27_1 : w14.cell? ⟨gb243, 1, none⟩ = some (.slice A1_1 l1_1.length c1_1) := bc1 BK243.out
  have hfz27_0 := blk_frozen BK243.out 0
  have hfz27_1 := blk_frozen BK243.out 1
  go_upto_region 6 with (first | ((with_reducible refine gate_callee (f := 38) rfl ?_); refine goL (some 22) Tryd.func38 [.slice Ao16 t247.length co16, .slice Ao19 t251.length co19] ?_; (with_reducible refine (nat_DivMod.calls k _ _ t247 _ _ t251 t254 t255 t256 _ ?side1 ?side2 ?side3 ?side4 A5.out).mono ?_); (case side1 => refine (Kd.R_reads' (e := 51) (base := w.heap.size) (ok := fun k_ => (True ∧ some k_ ≠ (.slice Ao19 t251.length co19 : Value).ownBlock)) (n := t247.length) (c := co16) ?_).2.2; exact (Kd.R_mono (Kd.R_mono (Kd.R_far (p := ⟨gb243, 1, none⟩) (Kd.R_far (p := ⟨gb243, 0, none⟩) (Kd.R_far (p := ⟨gb242, 1, none⟩) (Kd.R_far (p := ⟨gb242, 0, none⟩) (Kd.R_types (Kd.R_types HO249.out BK242.out (by decide)) BK243.out (by decide)) (fun _ hk => hk.1.2) (.bool t246)) (fun _ hk => hk.1.2) (.slice Ao16 t247.length co16)) (fun _ hk => hk.2) (.bool t250)) (fun _ hk => hk.2) (.slice Ao19 t251.length co19)) (fun _ h_ => h_.1)) (fun _ h_ => h_.1))); (case side2 => exact (Kd.R_reads' HO249.out).2.1); (case side3 => refine (Kd.R_reads' (e := 51) (base := w.heap.size) (ok := fun k_ => (True ∧ some k_ ≠ (.slice Ao16 t247.length co16 : Value).ownBlock)) (n := t251.length) (c := co19) ?_).2.2; exact (Kd.R_mono (Kd.R_mono (Kd.R_far (p := ⟨gb243, 1, none⟩) (Kd.R_far (p := ⟨gb243, 0, none⟩) (Kd.R_far (p := ⟨gb242, 1, none⟩) (Kd.R_far (p := ⟨gb242, 0, none⟩) (Kd.R_types (Kd.R_types HO253.out BK242.out (by decide)) BK243.out (by decide)) (fun _ hk => hk.1.2) (.bool t246)) (fun _ hk => hk.1.2) (.slice Ao16 t247.length co16)) (fun _ hk => hk.2) (.bool t250)) (fun _ hk => hk.2) (.slice Ao19 t251.length co19)) (fun _ h_ => h_.1)) (fun _ h_ => h_.1))); (case side4 => exact (Kd.R_reads' HO253.out).2.1); rintro e w28 ⟨v257, v259, rfl, ho0, ho1, hb⟩; refine ⟨_, rfl, ?_⟩; have HO258 := Aside0.mk (Kd.R_lower (Kd.R_new' (Kd.R_new' ho0 (Kd.R_lt (Kd.R_mono (Kd.R_mono (Kd.R_far (p := ⟨gb243, 1, none⟩) (Kd.R_far (p := ⟨gb243, 0, none⟩) (Kd.R_far (p := ⟨gb242, 1, none⟩) (Kd.R_far (p := ⟨gb242, 0, none⟩) (Kd.R_types (Kd.R_types HO249.out BK242.out (by decide)) BK243.out (by decide)) (fun _ hk => hk.1.2) (.bool t246)) (fun _ hk => hk.1.2) (.slice Ao16 t247.length co16)) (fun _ hk => hk.2) (.bool t250)) (fun _ hk => hk.2) (.slice Ao19 t251.length co19)) (fun _ h_ => h_.1)) (fun _ h_ => h_.1)))) (Kd.R_lt (Kd.R_mono (Kd.R_mono (Kd.R_far (p := ⟨gb243, 1, none⟩) (Kd.R_far (p := ⟨gb243, 0, none⟩) (Kd.R_far (p := ⟨gb242, 1, none⟩) (Kd.R_far (p := ⟨gb242, 0, none⟩) (Kd.R_types (Kd.R_types HO253.out BK242.out (by decide)) BK243.out (by decide)) (fun _ hk => hk.1.2) (.bool t246)) (fun _ hk => hk.1.2) (.slice Ao16 t247.length co16)) (fun _ hk => hk.2) (.bool t250)) (fun _ hk => hk.2) (.slice Ao19 t251.length co19)) (fun _ h_ => h_.1)) (fun _ h_ => h_.1)))) (below_size (by repeat first | exact HB.out | refine bxSet ?_ (by assumption) | apply below_alloc | apply pw_below_drewN))); have HO260 := Aside0.mk (Kd.R_lower (Kd.R_new' (Kd.R_new' ho1 (Kd.R_lt (Kd.R_mono (Kd.R_mono (Kd.R_far (p := ⟨gb243, 1, none⟩) (Kd.R_far (p := ⟨gb243, 0, none⟩) (Kd.R_far (p := ⟨gb242, 1, none⟩) (Kd.R_far (p := ⟨gb242, 0, none⟩) (Kd.R_types (Kd.R_types HO249.out BK242.out (by decide)) BK243.out (by decide)) (fun _ hk => hk.1.2) (.bool t246)) (fun _ hk => hk.1.2) (.slice Ao16 t247.length co16)) (fun _ hk => hk.2) (.bool t250)) (fun _ hk => hk.2) (.slice Ao19 t251.length co19)) (fun _ h_ => h_.1)) (fun _ h_ => h_.1)))) (Kd.R_lt (Kd.R_mono (Kd.R_mono (Kd.R_far (p := ⟨gb243, 1, none⟩) (Kd.R_far (p := ⟨gb243, 0, none⟩) (Kd.R_far (p := ⟨gb242, 1, none⟩) (Kd.R_far (p := ⟨gb242, 0, none⟩) (Kd.R_types (Kd.R_types HO253.out BK242.out (by decide)) BK243.out (by decide)) (fun _ hk => hk.1.2) (.bool t246)) (fun _ hk => hk.1.2) (.slice Ao16 t247.length co16)) (fun _ hk => hk.2) (.bool t250)) (fun _ hk => hk.2) (.slice Ao19 t251.length co19)) (fun _ h_ => h_.1)) (fun _ h_ => h_.1)))) (below_size (by repeat first | exact HB.out | refine bxSet ?_ (by assumption) | apply below_alloc | apply pw_below_drewN))); replace HO249 := Aside0.mk (Kd.R_mono (Kd.R_told (Kd.R_told (Kd.R_old (Kd.R_mono (Kd.R_mono (Kd.R_far (p := ⟨gb243, 1, none⟩) (Kd.R_far (p := ⟨gb243, 0, none⟩) (Kd.R_far (p := ⟨gb242, 1, none⟩) (Kd.R_far (p := ⟨gb242, 0, none⟩) (Kd.R_types (Kd.R_types HO249.out BK242.out (by decide)) BK243.out (by decide)) (fun _ hk => hk.1.2) (.bool t246)) (fun _ hk => hk.1.2) (.slice Ao16 t247.length co16)) (fun _ hk => hk.2) (.bool t250)) (fun _ hk => hk.2) (.slice Ao19 t251.length co19)) (fun _ h_ => h_.1)) (fun _ h_ => h_.1)) hb) (Kd.R_base ho0)) (Kd.R_base ho1)) (fun _ h_ => h_.1)); replace HO253 := Aside0.mk (Kd.R_mono (Kd.R_told (Kd.R_told (Kd.R_old (Kd.R_mono (Kd.R_mono (Kd.R_far (p := ⟨gb243, 1, none⟩) (Kd.R_far (p := ⟨gb243, 0, none⟩) (Kd.R_far (p := ⟨gb242, 1, none⟩) (Kd.R_far (p := ⟨gb242, 0, none⟩) (Kd.R_types (Kd.R_types HO253.out BK242.out (by decide)) BK243.out (by decide)) (fun _ hk => hk.1.2) (.bool t246)) (fun _ hk => hk.1.2) (.slice Ao16 t247.length co16)) (fun _ hk => hk.2) (.bool t250)) (fun _ hk => hk.2) (.slice Ao19 t251.length co19)) (fun _ h_ => h_.1)) (fun _ h_ => h_.1)) hb) (Kd.R_base ho0)) (Kd.R_base ho1)) (fun _ h_ => h_.1)); replace BK242 := Aside0.mk (blk_below (g := gb242) (o := .cells #[.bool t246, .slice Ao16 t247.length co16] 24 (0, 0)) (by refine blk_far ?_ NB242_243.out _; refine blk_far ?_ NB242_243.out _; refine blk_put (cs := #[.bool t246, .slice A0_1 l0_1.length c0_1]) ?_ 1 _ rfl; refine blk_put (cs := #[.bool a0_0, .slice A0_1 l0_1.length c0_1]) ?_ 0 _ rfl; exact BK242.out) hb); replace BK243 := Aside0.mk (blk_below (g := gb243) (o := .cells #[.bool t250, .slice Ao19 t251.length co19] 24 (0, 0)) (by refine blk_put (cs := #[.bool t250, .slice A1_1 l1_1.length c1_1]) ?_ 1 _ rfl; refine blk_put (cs := #[.bool a1_0, .slice A1_1 l1_1.length c1_1]) ?_ 0 _ rfl; refine blk_far ?_ NB243_242.out _; refine blk_far ?_ NB243_242.out _; exact BK243.out) hb); replace BK244 := Aside0.mk (blk_below (g := gb244) (o := .cells #[.bool false, .slice none 0 0] 24 (0, 0)) (by refine blk_far ?_ NB244_243.out _; refine blk_far ?_ NB244_243.out _; refine blk_far ?_ NB244_242.out _; refine blk_far ?_ NB244_242.out _; exact BK244.out) hb); replace BK245 := Aside0.mk (blk_below (g := gb245) (o := .cells #[.bool false, .slice none 0 0] 24 (0, 0)) (by refine blk_far ?_ NB245_243.out _; refine blk_far ?_ NB245_243.out _; refine blk_far ?_ NB245_242.out _; refine blk_far ?_ NB245_242.out _; exact BK245.out) hb); replace HB := Aside0.mk (below_step (by repeat first | exact HB.out | refine bxSet ?_ (by assumption) | apply below_alloc | apply pw_below_drewN) hb); (try clear ho1)))
  (try simp only [Act.put, List.setIfInBounds_toArray, List.set_cons_zero, List.set_cons_succ])
  go_cut [39] (fun v39 wc => ∃ (kq : Nat) (x39_6 : Bool), v39 = .bool x39_6 ∧ Aside0 (whole_DivMod.j0 kq t254 t255 x39_6 t246 t247 t250 t251 = some (r1, r2, r3, r4, r5)) ∧ Aside0 (kq ≤ k) ∧ Aside0 (Kd.R (Kd.int .u32) 51 wc w.heap.size (fun k_ => some k_ ≠ (v259 : Value).ownBlock ∧ some k_ ≠ ((.slice Ao16 t247.length co16) : Value).ownBlock ∧ some k_ ≠ ((.slice Ao19 t251.length co19) : Value).ownBlock) v257 t254) ∧ Aside0 (Kd.R (Kd.int .u32) 51 wc w.heap.size (fun k_ => some k_ ≠ (v257 : Value).ownBlock ∧ some k_ ≠ ((.slice Ao16 t247.length co16) : Value).ownBlock ∧ some k_ ≠ ((.slice Ao19 t251.length co19) : Value).ownBlock) v259 t255) ∧ Aside0 (Kd.R (Kd.int .u32) 51 wc w.heap.size (fun k_ => some k_ ≠ (v257 : Value).ownBlock ∧ some k_ ≠ (v259 : Value).ownBlock ∧ some k_ ≠ ((.slice Ao19 t251.length co19) : Value).ownBlock) (.slice Ao16 t247.length co16) t247) ∧ Aside0 (Kd.R (Kd.int .u32) 51 wc w.heap.size (fun k_ => some k_ ≠ (v257 : Value).ownBlock ∧ some k_ ≠ (v259 : Value).ownBlock ∧ some k_ ≠ ((.slice Ao16 t247.length co16) : Value).ownBlock) (.slice Ao19 t251.length co19) t251) ∧ Aside0 (wc.heap[gb242]? = some (.cells #[.bool t246, (.slice Ao16 t247.length co16)] 24 (0, 0))) ∧ Aside0 (wc.heap[gb243]? = some (.cells #[.bool t250, (.slice Ao19 t251.length co19)] 24 (0, 0))) ∧ Aside0 (wc.heap[gb244]? = some (.cells #[.bool false, (.slice none 0 0)] 24 (0, 0))) ∧ Aside0 (wc.heap[gb245]? = some (.cells #[.bool false, (.slice none 0 0)] 24 (0, 0))) ∧ Aside0 (Below w.heap.size w wc))
  case first =>
   have H := HC7.out
   clear HC7
   by_cases c29 : t246 = true
   ·subst c29
    rw [if_pos rfl] at H
    have H' := Aside0.mk H
    clear H
    have hnb30 := NB242_243.out
    have hnc30 := NB243_242.out
    have hnb31 := NB242_244.out
    have hnc31 := NB244_242.out
    have hnb32 := NB242_245.out
    have hnc32 := NB245_242.out
    have hcz33_0 : w28.cell? ⟨gb242, 0, none⟩ = some (.bool true) := bc0 BK242.out
    have hcz33_1 : w28.cell? ⟨gb242, 1, none⟩ = some (.slice Ao16 t247.length co16) := bc1 BK242.out
    have hfz33_0 := blk_frozen BK242.out 0
    have hfz33_1 := blk_frozen BK242.out 1
    obtain ⟨Ao34, co34, eo34⟩ := Kd.R_slice HO260.out
    subst eo34
    go_wp2
    go_meet
    case rel => exact ⟨_, (((t255.length : Int) == 0)), (by first | rfl | (simp; done)), H', ⟨by first | omega | exact Nat.le_refl _⟩, ⟨Kd.R_mono HO258.out (fun _ hk => ⟨hk.1.1, ⟨hk.1.2, hk.2⟩⟩)⟩, ⟨Kd.R_mono HO260.out (fun _ hk => ⟨hk.1.1, ⟨hk.1.2, hk.2⟩⟩)⟩, ⟨Kd.R_mono HO249.out (fun _ hk => ⟨hk.1.2, ⟨hk.2, hk.1.1.2⟩⟩)⟩, ⟨Kd.R_mono HO253.out (fun _ hk => ⟨hk.1.2, ⟨hk.2, hk.1.1.2⟩⟩)⟩, ⟨BK242.out⟩, ⟨BK243.out⟩, ⟨BK244.out⟩, ⟨BK245.out⟩, ⟨HB.out⟩⟩
   ·replace c29 := Bool.eq_false_iff.mpr c29
    subst c29
    rw [if_neg (show ¬ (false = true) by decide)] at H
    have H' := Aside0.mk H
    clear H
    have hnb35 := NB242_243.out
    have hnc35 := NB243_242.out
    have hnb36 := NB242_244.out
    have hnc36 := NB244_242.out
    have hnb37 := NB242_245.out
    have hnc37 := NB245_242.out
    have hcz38_0 : w28.cell? ⟨gb242, 0, none⟩ = some (.bool false) := bc0 BK242.out
    have hcz38_1 : w28.cell? ⟨gb242, 1, none⟩ = some (.slice Ao16 t247.length co16) := bc1 BK242.out
    have hfz38_0 := blk_frozen BK242.out 0
    have hfz38_1 := blk_frozen BK242.out 1
    go_wp2
    go_meet
    case rel => exact ⟨_, (true), (by first | rfl | (simp; done)), H', ⟨by first | omega | exact Nat.le_refl _⟩, ⟨Kd.R_mono HO258.out (fun _ hk => ⟨hk.1.1, ⟨hk.1.2, hk.2⟩⟩)⟩, ⟨Kd.R_mono HO260.out (fun _ hk => ⟨hk.1.1, ⟨hk.1.2, hk.2⟩⟩)⟩, ⟨Kd.R_mono HO249.out (fun _ hk => ⟨hk.1.2, ⟨hk.2, hk.1.1.2⟩⟩)⟩, ⟨Kd.R_mono HO253.out (fun _ hk => ⟨hk.1.2, ⟨hk.2, hk.1.1.2⟩⟩)⟩, ⟨BK242.out⟩, ⟨BK243.out⟩, ⟨BK244.out⟩, ⟨BK245.out⟩, ⟨HB.out⟩⟩
  case rest =>
   clear HC7
   try clear c1
   try clear c2
   try clear p2
   try clear c3
   try clear c6
   try clear c6b0
   try clear c6b1
   try clear c11
   try clear c16
   try clear c21
   try clear c22
   try clear c23
   try clear c25
   try clear c26
   try clear c29
   try clear c30
   try clear c31
   try clear c32
   try clear c35
   try clear c36
   try clear c37
   try clear c38
   try clear hcz24_0
   try clear hcz24_1
   try clear hcz27_0
   try clear hcz27_1
   try clear hcz33_0
   try clear hcz33_1
   try clear hcz38_0
   try clear hcz38_1
   try clear hfz24_0
   try clear hfz24_1
   try clear hfz27_0
   try clear hfz27_1
   try clear hfz33_0
   try clear hfz33_1
   try clear hfz38_0
   try clear hfz38_1
   obtain ⟨kq, x39_6, rfl, HA, HJ6, HO_7, HO_8, HO_243001, HO_244001, BK242, BK243, BK244, BK245, HB⟩ := hcut
   cases kq with
   | zero => exact absurd HA.out (by simp [whole_DivMod.j0])
   | succ kj6 =>
    have H := HA.out
    clear HA
    simp only [whole_DivMod.j0] at H
    by_cases c39 : x39_6 = true
    ·subst c39
     rw [if_pos rfl] at H
     obtain ⟨⟨t262, t263⟩, A400, H⟩ := Option.bind_eq_some_iff.mp H
     try dsimp only at H
     have A40 := Aside0.mk A400
     clear A400
     obtain ⟨⟨t266, t267⟩, A410, H⟩ := Option.bind_eq_some_iff.mp H
     try dsimp only at H
     have A41 := Aside0.mk A410
     clear A410
     simp only [Option.some.injEq, Prod.mk.injEq] at H
     obtain ⟨rfl, rfl, rfl, rfl, rfl⟩ := H
     obtain ⟨Ao42, co42, eo42⟩ := Kd.R_slice HO_7.out
     subst eo42
     go_wp2_with (first | (go_at_call 39; (with_reducible refine (whole_DivMod_1.calls gb242 gb243 t246 t250 _ _ t254 t262 t263 _ ?side1 ?side2 A40.out ?side3 ?side4).mono ?_); (case side1 => exact (Kd.R_reads' HO_7.out).2.2); (case side2 => exact (Kd.R_reads' HO_7.out).2.1); (case side3 => exact bc0 BK242.out); (case side4 => exact bc0 BK243.out); rintro e w43 ⟨v264, rfl, ho0, hb⟩; have n0_ := Aside0.mk (Kd.R_elder' HO_7.out (Kd.R_base ho0) hb); have n1_ := Aside0.mk (Kd.R_elder' HO_8.out (Kd.R_base ho0) hb); have n2_ := Aside0.mk (Kd.R_elder' HO_243001.out (Kd.R_base ho0) hb); have n3_ := Aside0.mk (Kd.R_elder' HO_244001.out (Kd.R_base ho0) hb); have n4_ := Aside0.mk (Kd.R_lower (Kd.R_new' (Kd.R_new' (Kd.R_new' (Kd.R_new' ho0 (Kd.R_lt HO_7.out)) (Kd.R_lt HO_8.out)) (Kd.R_lt HO_243001.out)) (Kd.R_lt HO_244001.out)) (below_size HB.out)); have n5_ := Aside0.mk (blk_below BK242.out hb); have n6_ := Aside0.mk (blk_below BK243.out hb); have n7_ := Aside0.mk (blk_below BK244.out hb); have n8_ := Aside0.mk (blk_below BK245.out hb); have n9_ := Aside0.mk (below_step HB.out hb); clear HO_7; clear HO_8; clear HO_243001; clear HO_244001; clear BK242; clear BK243; clear BK244; clear BK245; clear HB; have HO_7 := n0_; have HO_8 := n1_; have HO_243001 := n2_; have HO_244001 := n3_; have HO265 := n4_; have BK242 := n5_; have BK243 := n6_; have BK244 := n7_; have BK245 := n8_; have HB := n9_; clear n0_ n1_ n2_ n3_ n4_ n5_ n6_ n7_ n8_ n9_; obtain ⟨Ao44, co44, eo44⟩ := Kd.R_slice HO_8.out; subst eo44) | ((with_reducible refine gate_callee (f := 40) rfl ?_); refine goL (some 44) Tryd.func40 [.bool false, .slice Ao44 t255.length co44] ?_; (with_reducible refine (whole_made.calls false _ _ t255 t266 t267 _ ?side1 ?side2 A41.out).mono ?_); (case side1 => exact (Kd.R_reads' HO_8.out).2.2); (case side2 => exact (Kd.R_reads' HO_8.out).2.1); rintro e w45 ⟨v268, rfl, ho0, hb⟩; refine ⟨_, rfl, ?_⟩; have HO269 := Aside0.mk (Kd.R_lower (Kd.R_new' (Kd.R_new' (Kd.R_new' (Kd.R_new' (Kd.R_new' ho0 (Kd.R_lt HO_7.out)) (Kd.R_lt HO_8.out)) (Kd.R_lt HO_243001.out)) (Kd.R_lt HO_244001.out)) (Kd.R_lt HO265.out)) (below_size HB.out)); replace HO265 := Aside0.mk (Kd.R_elder' HO265.out (Kd.R_base ho0) hb); replace BK244 := Aside0.mk (blk_below BK244.out hb); replace BK245 := Aside0.mk (blk_below BK245.out hb); replace HB := Aside0.mk (below_step HB.out hb); have hnb46 := NB244_242.out; have hnc46 := NB242_244.out; have hnb47 := NB244_243.out; have hnc47 := NB243_244.out; have hnb48 := NB244_245.out; have hnc48 := NB245_244.out; have hcz49_0 : w45.cell? ⟨gb244, 0, none⟩ = some (.bool false) := bc0 BK244.out; have hcz49_1 : w45.cell? ⟨gb244, 1, none⟩ = some (.slice none 0 0) := bc1 BK244.out; have hfz49_0 := blk_frozen BK244.out 0; have hfz49_1 := blk_frozen BK244.out 1; obtain ⟨Ao50, co50, eo50⟩ := Kd.R_slice HO265.out; subst eo50; have hnb51 := NB245_242.out; have hnc51 := NB242_245.out; have hnb52 := NB245_243.out; have hnc52 := NB243_245.out; have hcz53_0 : w45.cell? ⟨gb245, 0, none⟩ = some (.bool false) := bc0 BK245.out; have hcz53_1 : w45.cell? ⟨gb245, 1, none⟩ = some (.slice none 0 0) := bc1 BK245.out; have hfz53_0 := blk_frozen BK245.out 0; have hfz53_1 := blk_frozen BK245.out 1; obtain ⟨Ao54, co54, eo54⟩ := Kd.R_slice HO269.out; subst eo54))
     refine bodyPost_ret (results_list (rs := [.cell 4 24, .cell 5 24, .tmp 6]) rfl (by simp) (.cell gb244 24 #[.bool t262, .slice Ao50 t263.length co50] (0, 0) _ rfl (by refine blk_far ?_ NB244_245.out _; refine blk_far ?_ NB244_245.out _; refine blk_put (cs := #[.bool t262, .slice none 0 0]) ?_ 1 _ rfl; refine blk_put (cs := #[.bool false, .slice none 0 0]) ?_ 0 _ rfl; exact BK244.out) Tryd.underlying24 rfl (by kernel_rfl) (.cell gb245 24 #[.bool t266, .slice Ao54 t267.length co54] (0, 0) _ rfl (by refine blk_put (cs := #[.bool t266, .slice none 0 0]) ?_ 1 _ rfl; refine blk_put (cs := #[.bool false, .slice none 0 0]) ?_ 0 _ rfl; refine blk_far ?_ NB245_244.out _; refine blk_far ?_ NB245_244.out _; exact BK245.out) Tryd.underlying24 rfl (by kernel_rfl) (.tmp .nil)))) rfl ?_
     exact ⟨_, _, rfl, Kd.R_mono (Kd.R_far (p := ⟨gb245, 1, none⟩) (Kd.R_far (p := ⟨gb245, 0, none⟩) (Kd.R_far (p := ⟨gb244, 1, none⟩) (Kd.R_far (p := ⟨gb244, 0, none⟩) (Kd.R_types (Kd.R_types HO265.out BK244.out (by decide)) BK245.out (by decide)) (fun _ hk => hk.1.2) (.bool t262)) (fun _ hk => hk.1.2) (.slice Ao50 t263.length co50)) (fun _ hk => hk.2) (.bool t266)) (fun _ hk => hk.2) (.slice Ao54 t267.length co54)) (fun _ hk => hk.1.1.2), Kd.R_mono (Kd.R_far (p := ⟨gb245, 1, none⟩) (Kd.R_far (p := ⟨gb245, 0, none⟩) (Kd.R_far (p := ⟨gb244, 1, none⟩) (Kd.R_far (p := ⟨gb244, 0, none⟩) (Kd.R_types (Kd.R_types HO269.out BK244.out (by decide)) BK245.out (by decide)) (fun _ hk => hk.1.2) (.bool t262)) (fun _ hk => hk.1.2) (.slice Ao50 t263.length co50)) (fun _ hk => hk.2) (.bool t266)) (fun _ hk => hk.2) (.slice Ao54 t267.length co54)) (fun _ hk => hk.1.1.2), by repeat first | exact HB.out | refine bxSet ?_ (by assumption) | apply below_alloc | apply pw_below_drewN⟩
    ·replace c39 := Bool.eq_false_iff.mpr c39
     subst c39
     rw [if_neg (show ¬ (false = true) by decide)] at H
     obtain ⟨⟨t270, t271⟩, A550, H⟩ := Option.bind_eq_some_iff.mp H
     try dsimp only at H
     have A55 := Aside0.mk A550
     clear A550
     obtain ⟨y274, hy274⟩ : ∃ y_ : List Int, y_ = (([1] : List Int)) := ⟨_, rfl⟩
     replace H : ((nat_Add.f kj6 t254 y274).bind fun t277 => ((whole_made.f (t246 != t250) t277).bind fun bt280 => ((whole_made.f false t270).bind fun bt284 => (some (bt280.1, bt280.2, bt284.1, bt284.2, 0))))) = some (r1, r2, r3, r4, r5) := by first | (rw [hy274]; with_reducible exact H) | (have H2_ := (Option.bind_some _ _).symm.trans H; rw [hy274]; with_reducible exact H2_) | (have H2_ := (Option.bind_some _ _).symm.trans H; with_reducible exact H2_) | with_reducible exact H | (rw [hy274]; exact H) | exact H
     have Ny274 := Aside0.mk hy274
     clear hy274
     obtain ⟨t277, A560, H⟩ := Option.bind_eq_some_iff.mp H
     try dsimp only at H
     have A56 := Aside0.mk A560
     clear A560
     obtain ⟨⟨t280, t281⟩, A570, H⟩ := Option.bind_eq_some_iff.mp H
     try dsimp only at H
     have A57 := Aside0.mk A570
     clear A570
     obtain ⟨⟨t284, t285⟩, A580, H⟩ := Option.bind_eq_some_iff.mp H
     try dsimp only at H
     have A58 := Aside0.mk A580
     clear A580
     simp only [Option.some.injEq, Prod.mk.injEq] at H
     obtain ⟨rfl, rfl, rfl, rfl, rfl⟩ := H
     have hnb59 := NB243_242.out
     have hnc59 := NB242_243.out
     have hnb60 := NB243_244.out
     have hnc60 := NB244_243.out
     have hnb61 := NB243_245.out
     have hnc61 := NB245_243.out
     have hcz62_0 : wc.cell? ⟨gb243, 0, none⟩ = some (.bool t250) := bc0 BK243.out
     have hcz62_1 : wc.cell? ⟨gb243, 1, none⟩ = some (.slice Ao19 t251.length co19) := bc1 BK243.out
     have hfz62_0 := blk_frozen BK243.out 0
     have hfz62_1 := blk_frozen BK243.out 1
     obtain ⟨Ao63, co63, eo63⟩ := Kd.R_slice HO_8.out
     subst eo63
     go_wp2_with (first | ((with_reducible refine gate_callee (f := 41) rfl ?_); refine goL (some 49) Tryd.func41 [.slice Ao19 t251.length co19, .slice Ao63 t255.length co63] ?_; (with_reducible refine (nat_Sub.calls kj6 _ _ t251 _ _ t255 t270 t271 _ ?side1 ?side2 ?side3 ?side4 A55.out).mono ?_); (case side1 => exact (Kd.R_reads' HO_244001.out).2.2); (case side2 => exact (Kd.R_reads' HO_244001.out).2.1); (case side3 => exact (Kd.R_reads' HO_8.out).2.2); (case side4 => exact (Kd.R_reads' HO_8.out).2.1); rintro e w64 ⟨v272, rfl, ho0, hb⟩; refine ⟨_, rfl, ?_⟩; have HO273 := Aside0.mk (Kd.R_lower (Kd.R_new' (Kd.R_new' (Kd.R_new' (Kd.R_new' ho0 (Kd.R_lt HO_7.out)) (Kd.R_lt HO_8.out)) (Kd.R_lt HO_243001.out)) (Kd.R_lt HO_244001.out)) (below_size HB.out)); replace HO_7 := Aside0.mk (Kd.R_elder' HO_7.out (Kd.R_base ho0) hb); replace HO_8 := Aside0.mk (Kd.R_elder' HO_8.out (Kd.R_base ho0) hb); replace HO_243001 := Aside0.mk (Kd.R_elder' HO_243001.out (Kd.R_base ho0) hb); replace HO_244001 := Aside0.mk (Kd.R_elder' HO_244001.out (Kd.R_base ho0) hb); replace BK242 := Aside0.mk (blk_below BK242.out hb); replace BK243 := Aside0.mk (blk_below BK243.out hb); replace BK244 := Aside0.mk (blk_below BK244.out hb); replace BK245 := Aside0.mk (blk_below BK245.out hb); replace HB := Aside0.mk (below_step HB.out hb)) | ((with_reducible refine gate_dst (N := 54) rfl ?_); (try (refine gate_guard (by rfl) ?_; dsimp only)); refine Kd.R_lit (Kd.int .u32) _ 51 ?hg (N := 54) ?hd (xs := ([1] : List Int)) (inner := [.int .u32 1]) (ok := fun _ => True) (okp := fun _ => True) ?hr ?hp (fun _ hk => hk) trivial (Below.refl _ _) (Nat.le_refl _) (by simp) ?_; (case hd => rfl); (case hg => rfl); (case hr => first | (go_simp; done) | (go_simp; rfl)); (case hp => exact (Reps.one (show Kd.M (Kd.int .u32) _ _ _ 1 [.int .u32 1] from rfl) (Reps.none _ _))); intro v275 w65 ho66 hb hg_ hnew_; clear hg_ hnew_; (first | rw [← Ny274.out] at ho66 | (simp only [Int.reduceToNat] at ho66; rw [← Ny274.out] at ho66)); have HO276 := Aside0.mk (Kd.R_lower (Kd.R_new' (Kd.R_new' (Kd.R_new' (Kd.R_new' (Kd.R_new' ho66 (Kd.R_lt HO_7.out)) (Kd.R_lt HO_8.out)) (Kd.R_lt HO_243001.out)) (Kd.R_lt HO_244001.out)) (Kd.R_lt HO273.out)) (below_size HB.out)); replace HO_7 := Aside0.mk (Kd.R_elder' HO_7.out (Kd.R_base ho66) hb); replace HO_8 := Aside0.mk (Kd.R_elder' HO_8.out (Kd.R_base ho66) hb); replace HO_243001 := Aside0.mk (Kd.R_elder' HO_243001.out (Kd.R_base ho66) hb); replace HO_244001 := Aside0.mk (Kd.R_elder' HO_244001.out (Kd.R_base ho66) hb); replace HO273 := Aside0.mk (Kd.R_elder' HO273.out (Kd.R_base ho66) hb); replace BK242 := Aside0.mk (blk_below BK242.out hb); replace BK243 := Aside0.mk (blk_below BK243.out hb); replace BK244 := Aside0.mk (blk_below BK244.out hb); replace BK245 := Aside0.mk (blk_below BK245.out hb); replace HB := Aside0.mk (below_step HB.out hb); clear hb ho66; obtain ⟨Ao67, co67, eo67⟩ := Kd.R_slice HO_7.out; subst eo67; obtain ⟨Ao68, co68, eo68⟩ := Kd.R_slice HO276.out; subst eo68) | ((with_reducible refine gate_callee (f := 42) rfl ?_); refine goL (some 55) Tryd.func42 [.slice Ao67 t254.length co67, .slice Ao68 y274.length co68] ?_; (with_reducible refine (nat_Add.calls kj6 _ _ t254 _ _ y274 t277 _ ?side1 ?side2 ?side3 ?side4 A56.out).mono ?_); (case side1 => exact (Kd.R_reads' HO_7.out).2.2); (case side2 => exact (Kd.R_reads' HO_7.out).2.1); (case side3 => exact (Kd.R_reads' HO276.out).2.2); (case side4 => exact (Kd.R_reads' HO276.out).2.1); rintro e w69 ⟨v278, rfl, ho0, hb⟩; refine ⟨_, rfl, ?_⟩; have HO279 := Aside0.mk (Kd.R_lower (Kd.R_new' (Kd.R_new' (Kd.R_new' (Kd.R_new' (Kd.R_new' (Kd.R_new' ho0 (Kd.R_lt HO_7.out)) (Kd.R_lt HO_8.out)) (Kd.R_lt HO_243001.out)) (Kd.R_lt HO_244001.out)) (Kd.R_lt HO273.out)) (Kd.R_lt HO276.out)) (below_size HB.out)); replace HO_7 := Aside0.mk (Kd.R_elder' HO_7.out (Kd.R_base ho0) hb); replace HO_8 := Aside0.mk (Kd.R_elder' HO_8.out (Kd.R_base ho0) hb); replace HO_243001 := Aside0.mk (Kd.R_elder' HO_243001.out (Kd.R_base ho0) hb); replace HO_244001 := Aside0.mk (Kd.R_elder' HO_244001.out (Kd.R_base ho0) hb); replace HO273 := Aside0.mk (Kd.R_elder' HO273.out (Kd.R_base ho0) hb); replace HO276 := Aside0.mk (Kd.R_elder' HO276.out (Kd.R_base ho0) hb); replace BK242 := Aside0.mk (blk_below BK242.out hb); replace BK243 := Aside0.mk (blk_below BK243.out hb); replace BK244 := Aside0.mk (blk_below BK244.out hb); replace BK245 := Aside0.mk (blk_below BK245.out hb); replace HB := Aside0.mk (below_step HB.out hb); obtain ⟨Ao70, co70, eo70⟩ := Kd.R_slice HO279.out; subst eo70) | (go_at_call 39; (with_reducible refine (whole_DivMod_1.calls gb242 gb243 t246 t250 _ _ t277 t280 t281 _ ?side1 ?side2 A57.out ?side3 ?side4).mono ?_); (case side1 => exact (Kd.R_reads' HO279.out).2.2); (case side2 => exact (Kd.R_reads' HO279.out).2.1); (case side3 => exact bc0 BK242.out); (case side4 => exact bc0 BK243.out); rintro e w71 ⟨v282, rfl, ho0, hb⟩; have n0_ := Aside0.mk (Kd.R_elder' HO_7.out (Kd.R_base ho0) hb); have n1_ := Aside0.mk (Kd.R_elder' HO_8.out (Kd.R_base ho0) hb); have n2_ := Aside0.mk (Kd.R_elder' HO_243001.out (Kd.R_base ho0) hb); have n3_ := Aside0.mk (Kd.R_elder' HO_244001.out (Kd.R_base ho0) hb); have n4_ := Aside0.mk (Kd.R_elder' HO273.out (Kd.R_base ho0) hb); have n5_ := Aside0.mk (Kd.R_elder' HO276.out (Kd.R_base ho0) hb); have n6_ := Aside0.mk (Kd.R_elder' HO279.out (Kd.R_base ho0) hb); have n7_ := Aside0.mk (Kd.R_lower (Kd.R_new' (Kd.R_new' (Kd.R_new' (Kd.R_new' (Kd.R_new' (Kd.R_new' (Kd.R_new' ho0 (Kd.R_lt HO_7.out)) (Kd.R_lt HO_8.out)) (Kd.R_lt HO_243001.out)) (Kd.R_lt HO_244001.out)) (Kd.R_lt HO273.out)) (Kd.R_lt HO276.out)) (Kd.R_lt HO279.out)) (below_size HB.out)); have n8_ := Aside0.mk (blk_below BK242.out hb); have n9_ := Aside0.mk (blk_below BK243.out hb); have n10_ := Aside0.mk (blk_below BK244.out hb); have n11_ := Aside0.mk (blk_below BK245.out hb); have n12_ := Aside0.mk (below_step HB.out hb); clear HO_7; clear HO_8; clear HO_243001; clear HO_244001; clear HO273; clear HO276; clear HO279; clear BK242; clear BK243; clear BK244; clear BK245; clear HB; have HO_7 := n0_; have HO_8 := n1_; have HO_243001 := n2_; have HO_244001 := n3_; have HO273 := n4_; have HO276 := n5_; have HO279 := n6_; have HO283 := n7_; have BK242 := n8_; have BK243 := n9_; have BK244 := n10_; have BK245 := n11_; have HB := n12_; clear n0_ n1_ n2_ n3_ n4_ n5_ n6_ n7_ n8_ n9_ n10_ n11_ n12_; obtain ⟨Ao72, co72, eo72⟩ := Kd.R_slice HO273.out; subst eo72) | ((with_reducible refine gate_callee (f := 40) rfl ?_); refine goL (some 58) Tryd.func40 [.bool false, .slice Ao72 t270.length co72] ?_; (with_reducible refine (whole_made.calls false _ _ t270 t284 t285 _ ?side1 ?side2 A58.out).mono ?_); (case side1 => exact (Kd.R_reads' HO273.out).2.2); (case side2 => exact (Kd.R_reads' HO273.out).2.1); rintro e w73 ⟨v286, rfl, ho0, hb⟩; refine ⟨_, rfl, ?_⟩; have HO287 := Aside0.mk (Kd.R_lower (Kd.R_new' (Kd.R_new' (Kd.R_new' (Kd.R_new' (Kd.R_new' (Kd.R_new' (Kd.R_new' (Kd.R_new' ho0 (Kd.R_lt HO_7.out)) (Kd.R_lt HO_8.out)) (Kd.R_lt HO_243001.out)) (Kd.R_lt HO_244001.out)) (Kd.R_lt HO273.out)) (Kd.R_lt HO276.out)) (Kd.R_lt HO279.out)) (Kd.R_lt HO283.out)) (below_size HB.out)); replace HO283 := Aside0.mk (Kd.R_elder' HO283.out (Kd.R_base ho0) hb); replace BK244 := Aside0.mk (blk_below BK244.out hb); replace BK245 := Aside0.mk (blk_below BK245.out hb); replace HB := Aside0.mk (below_step HB.out hb); have hnb74 := NB244_242.out; have hnc74 := NB242_244.out; have hnb75 := NB244_245.out; have hnc75 := NB245_244.out; have hcz76_0 : w73.cell? ⟨gb244, 0, none⟩ = some (.bool false) := bc0 BK244.out; have hcz76_1 : w73.cell? ⟨gb244, 1, none⟩ = some (.slice none 0 0) := bc1 BK244.out; have hfz76_0 := blk_frozen BK244.out 0; have hfz76_1 := blk_frozen BK244.out 1; obtain ⟨Ao77, co77, eo77⟩ := Kd.R_slice HO283.out; subst eo77; have hnb78 := NB245_242.out; have hnc78 := NB242_245.out; have hcz79_0 : w73.cell? ⟨gb245, 0, none⟩ = some (.bool false) := bc0 BK245.out; have hcz79_1 : w73.cell? ⟨gb245, 1, none⟩ = some (.slice none 0 0) := bc1 BK245.out; have hfz79_0 := blk_frozen BK245.out 0; have hfz79_1 := blk_frozen BK245.out 1; obtain ⟨Ao80, co80, eo80⟩ := Kd.R_slice HO287.out; subst eo80))
     refine bodyPost_ret (results_list (rs := [.cell 4 24, .cell 5 24, .tmp 6]) rfl (by simp) (.cell gb244 24 #[.bool t280, .slice Ao77 t281.length co77] (0, 0) _ rfl (by refine blk_far ?_ NB244_245.out _; refine blk_far ?_ NB244_245.out _; refine blk_put (cs := #[.bool t280, .slice none 0 0]) ?_ 1 _ rfl; refine blk_put (cs := #[.bool false, .slice none 0 0]) ?_ 0 _ rfl; exact BK244.out) Tryd.underlying24 rfl (by kernel_rfl) (.cell gb245 24 #[.bool t284, .slice Ao80 t285.length co80] (0, 0) _ rfl (by refine blk_put (cs := #[.bool t284, .slice none 0 0]) ?_ 1 _ rfl; refine blk_put (cs := #[.bool false, .slice none 0 0]) ?_ 0 _ rfl; refine blk_far ?_ NB245_244.out _; refine blk_far ?_ NB245_244.out _; exact BK245.out) Tryd.underlying24 rfl (by kernel_rfl) (.tmp .nil)))) rfl ?_
     exact ⟨_, _, rfl, Kd.R_mono (Kd.R_far (p := ⟨gb245, 1, none⟩) (Kd.R_far (p := ⟨gb245, 0, none⟩) (Kd.R_far (p := ⟨gb244, 1, none⟩) (Kd.R_far (p := ⟨gb244, 0, none⟩) (Kd.R_types (Kd.R_types HO283.out BK244.out (by decide)) BK245.out (by decide)) (fun _ hk => hk.1.2) (.bool t280)) (fun _ hk => hk.1.2) (.slice Ao77 t281.length co77)) (fun _ hk => hk.2) (.bool t284)) (fun _ hk => hk.2) (.slice Ao80 t285.length co80)) (fun _ hk => hk.1.1.2), Kd.R_mono (Kd.R_far (p := ⟨gb245, 1, none⟩) (Kd.R_far (p := ⟨gb245, 0, none⟩) (Kd.R_far (p := ⟨gb244, 1, none⟩) (Kd.R_far (p := ⟨gb244, 0, none⟩) (Kd.R_types (Kd.R_types HO287.out BK244.out (by decide)) BK245.out (by decide)) (fun _ hk => hk.1.2) (.bool t280)) (fun _ hk => hk.1.2) (.slice Ao77 t281.length co77)) (fun _ hk => hk.2) (.bool t284)) (fun _ hk => hk.2) (.slice Ao80 t285.length co80)) (fun _ hk => hk.1.1.2), by repeat first | exact HB.out | refine bxSet ?_ (by assumption) | apply below_alloc | apply pw_below_drewN⟩
 ·rw [if_neg c6] at H
  have c6b0 : (t256 == 0) = false := beq_eq_false_iff_ne.mpr c6
  have c6b1 : (t256 != 0) = true := bne_iff_ne.mpr c6
  simp only [Option.some.injEq, Prod.mk.injEq] at H
  obtain ⟨rfl, rfl, rfl, rfl, rfl⟩ := H
  go_enter Tryd.func11, Tryd.ntmps11
  try go_wp2_with (first | ((with_reducible refine gate_dst (N := 2) rfl ?_); (try (refine gate_guard (by rfl) ?_; dsimp only)); refine box_event ?hg (N := 2) ?hd (cs := #[.bool a0_0, .slice A0_1 l0_1.length c0_1]) (t := 24) ?hr ?_; (case hd => rfl); (case hg => rfl); (case hr => first | (go_simp; done) | (go_simp; rfl)); intro gb242 hg w81 hbox hb; have BK242 := Aside0.mk (hbox); have GW242 := Aside0.mk (bxLe HB.out hg); have GE242 := GW242; replace HB := Aside0.mk (below_step HB.out hb); clear hb hbox hg) | ((with_reducible refine gate_dst (N := 3) rfl ?_); (try (refine gate_guard (by rfl) ?_; dsimp only)); refine box_event ?hg (N := 3) ?hd (cs := #[.bool a1_0, .slice A1_1 l1_1.length c1_1]) (t := 24) ?hr ?_; (case hd => rfl); (case hg => rfl); (case hr => first | (go_simp; done) | (go_simp; rfl)); intro gb243 hg w82 hbox hb; have BK243 := Aside0.mk (hbox); have GW243 := Aside0.mk (bxLe HB.out hg); have GE243 := GW243; replace HB := Aside0.mk (below_step HB.out hb); have NB242_243 := Aside0.mk (neL BK242.out hg); have NB243_242 := Aside0.mk (neR BK242.out hg); replace BK242 := Aside0.mk (blk_below BK242.out hb); clear hb hbox hg) | ((with_reducible refine gate_dst (N := 4) rfl ?_); (try (refine gate_guard (by rfl) ?_; dsimp only)); refine box_event ?hg (N := 4) ?hd (cs := #[.bool false, .slice none 0 0]) (t := 24) ?hr ?_; (case hd => rfl); (case hg => rfl); (case hr => first | (go_simp; done) | (go_simp; rfl)); intro gb244 hg w83 hbox hb; have BK244 := Aside0.mk (hbox); have GW244 := Aside0.mk (bxLe HB.out hg); have GE244 := GW244; replace HB := Aside0.mk (below_step HB.out hb); have NB242_244 := Aside0.mk (neL BK242.out hg); have NB244_242 := Aside0.mk (neR BK242.out hg); replace BK242 := Aside0.mk (blk_below BK242.out hb); have NB243_244 := Aside0.mk (neL BK243.out hg); have NB244_243 := Aside0.mk (neR BK243.out hg); replace BK243 := Aside0.mk (blk_below BK243.out hb); clear hb hbox hg) | ((with_reducible refine gate_dst (N := 5) rfl ?_); (try (refine gate_guard (by rfl) ?_; dsimp only)); refine box_event ?hg (N := 5) ?hd (cs := #[.bool false, .slice none 0 0]) (t := 24) ?hr ?_; (case hd => rfl); (case hg => rfl); (case hr => first | (go_simp; done) | (go_simp; rfl)); intro gb245 hg w84 hbox hb; have BK245 := Aside0.mk (hbox); have GW245 := Aside0.mk (bxLe HB.out hg); have GE245 := GW245; replace HB := Aside0.mk (below_step HB.out hb); have NB242_245 := Aside0.mk (neL BK242.out hg); have NB245_242 := Aside0.mk (neR BK242.out hg); replace BK242 := Aside0.mk (blk_below BK242.out hb); have NB243_245 := Aside0.mk (neL BK243.out hg); have NB245_243 := Aside0.mk (neR BK243.out hg); replace BK243 := Aside0.mk (blk_below BK243.out hb); have NB244_245 := Aside0.mk (neL BK244.out hg); have NB245_244 := Aside0.mk (neR BK244.out hg); replace BK244 := Aside0.mk (blk_below BK244.out hb); clear hb hbox hg))
  replace BK242 := Aside0.mk (blk_drew BK242.out)
  replace BK243 := Aside0.mk (blk_drew BK243.out)
  replace BK244 := Aside0.mk (blk_drew BK244.out)
  replace BK245 := Aside0.mk (blk_drew BK245.out)
  replace HB := Aside0.mk (below_drew1 HB.out)
  refine start_ (n := 6) (S := fun w' => w'.cell? ⟨gb242, 0, none⟩ = some (.bool a0_0) ∧ w'.cell? ⟨gb242, 1, none⟩ = some (.slice A0_1 l0_1.length c0_1) ∧ w'.cell? ⟨gb243, 0, none⟩ = some (.bool a1_0) ∧ w'.cell? ⟨gb243, 1, none⟩ = some (.slice A1_1 l1_1.length c1_1)) (ds := [4, 5]) #[false, false, false, false, false, false] (by kernel_rfl) rfl rfl ⟨bc0 BK242.out, bc1 BK242.out, bc0 BK243.out, bc1 BK243.out⟩ (fun hHeld => ?_)
  generalize w84.drew = w85 at BK242 BK243 BK244 BK245 HB hHeld ⊢
  refine take_ (i := 0) (N := some 13) (v := ?_) (a' := ?_) #[true, false, false, false, false, false] rfl rfl (by kernel_rfl) (fun _ _ _ h => h) (Or.inl ⟨by rfl, ?_⟩) hHeld ?_ ?_
  rotate_left
  ·rintro w' ⟨s0, s1, s2, s3⟩
   go_simp
   with_reducible rfl
  rotate_left
  ·simp only [Act.put, List.setIfInBounds_toArray, List.set_cons_zero, List.set_cons_succ, i64_w, i32_w]
   rfl
  refine take_ (i := 2) (N := some 15) (v := ?_) (a' := ?_) #[true, false, true, false, false, false] rfl rfl (by kernel_rfl) (fun _ _ _ h => h) (Or.inl ⟨by rfl, ?_⟩) hHeld ?_ ?_
  rotate_left
  ·rintro w' ⟨s0, s1, s2, s3⟩
   go_simp
   with_reducible rfl
  rotate_left
  ·simp only [Act.put, List.setIfInBounds_toArray, List.set_cons_zero, List.set_cons_succ, i64_w, i32_w]
   rfl
  refine one_ (i := 1) (N := some 14) #[true, true, true, false, false, false] rfl rfl (by kernel_rfl) (by decide) (fun K hK => ?_)
  refine goR Tryd.func16 [.agg #[.bool a0_0, .slice A0_1 l0_1.length c0_1]] ?_
  with_reducible refine (whole_Norm.calls a0_0 _ _ l0_1 t246 t247 _ ?side1 ?side2 A3.out).mono ?_
  (case side1 => exact (Kd.C_below HR0_1.out HB.out))
  (case side2 => exact HC0_1.out)
  rintro e w86 ⟨v248, rfl, ho0, hb⟩
  refine ⟨_, rfl, ?_⟩
  have HO249 := Aside0.mk (Kd.R_lower ho0 (below_size HB.out))
  replace BK242 := Aside0.mk (blk_below BK242.out hb)
  replace BK243 := Aside0.mk (blk_below BK243.out hb)
  replace BK244 := Aside0.mk (blk_below BK244.out hb)
  replace BK245 := Aside0.mk (blk_below BK245.out hb)
  replace HB := Aside0.mk (below_step HB.out hb)
  (try clear hb)
  (try clear hb2)
  (try clear hk)
  (try clear hi)
  (try clear ho0)
  refine hK.out _ _ ⟨bc0 BK242.out, bc1 BK242.out, bc0 BK243.out, bc1 BK243.out⟩ (fun hHeld => ?_)
  clear hK K
  refine norm_ (a' := ?_) ?_ ?_
  rotate_left
  ·show Act.put _ (some 14) _ = _
   simp only [Act.put, List.setIfInBounds_toArray, List.set_cons_zero, List.set_cons_succ, i64_w, i32_w]
   rfl
  refine one_ (i := 3) (N := some 16) #[true, true, true, true, false, false] rfl rfl (by kernel_rfl) (by decide) (fun K hK => ?_)
  refine goR Tryd.func16 [.agg #[.bool a1_0, .slice A1_1 l1_1.length c1_1]] ?_
  with_reducible refine (whole_Norm.calls a1_0 _ _ l1_1 t250 t251 _ ?side1 ?side2 A4.out).mono ?_
  (case side1 => exact (Kd.C_below HR1_1.out HB.out))
  (case side2 => exact HC1_1.out)
  rintro e w87 ⟨v252, rfl, ho0, hb⟩
  refine ⟨_, rfl, ?_⟩
  have HO253 := Aside0.mk (Kd.R_lower (Kd.R_new' ho0 (Kd.R_lt HO249.out)) (below_size HB.out))
  replace HO249 := Aside0.mk (Kd.R_elder' HO249.out (Kd.R_base ho0) hb)
  replace BK242 := Aside0.mk (blk_below BK242.out hb)
  replace BK243 := Aside0.mk (blk_below BK243.out hb)
  replace BK244 := Aside0.mk (blk_below BK244.out hb)
  replace BK245 := Aside0.mk (blk_below BK245.out hb)
  replace HB := Aside0.mk (below_step HB.out hb)
  (try clear hb)
  (try clear hb2)
  (try clear hk)
  (try clear hi)
  (try clear ho0)
  obtain ⟨Ao89, co89, eo89⟩ := Kd.R_slice HO249.out
  subst eo89
  obtain ⟨Ao92, co92, eo92⟩ := Kd.R_slice HO253.out
  subst eo92
  refine hK.out _ _ ⟨bc0 BK242.out, bc1 BK242.out, bc0 BK243.out, bc1 BK243.out⟩ (fun hHeld => ?_)
  clear hK K
  refine norm_ (a' := ?_) ?_ ?_
  rotate_left
  ·show Act.put _ (some 16) _ = _
   simp only [Act.put, List.setIfInBounds_toArray, List.set_cons_zero, List.set_cons_succ, i64_w, i32_w]
   rfl
  refine last_ (i := 4) (N := none) #[true, true, true, true, true, false] rfl rfl (by kernel_rfl) (by decide) (fun K hK => ?_)
  have hs88 : w87.cell? ⟨gb242, 0, none⟩ = some (.bool a0_0) := bc0 BK242.out
  have hfs88 := blk_frozen BK242.out 0
  have hns88_1 := NB243_242.out
  have hns88_2 := NB244_242.out
  have hns88_3 := NB245_242.out
  have hms88_1 := NB242_243.out
  have hms88_2 := NB242_244.out
  have hms88_3 := NB242_245.out
  have hs90 : w87.cell? ⟨gb242, 1, none⟩ = some (.slice A0_1 l0_1.length c0_1) := bc1 BK242.out
  have hfs90 := blk_frozen BK242.out 1
  have hns90_1 := NB243_242.out
  have hns90_2 := NB244_242.out
  have hns90_3 := NB245_242.out
  have hms90_1 := NB242_243.out
  have hms90_2 := NB242_244.out
  have hms90_3 := NB242_245.out
  refine skip_ (w1 := ?_) (by rfl) rfl ?_ ?_
  rotate_left
  ·go_simp
   rfl
  refine hK.out _ _ ?_
  clear hK K
  refine last_ (i := 5) (N := none) #[true, true, true, true, true, true] rfl rfl (by kernel_rfl) (by decide) (fun K hK => ?_)
  have hs91 : w87.cell? ⟨gb243, 0, none⟩ = some (.bool a1_0) := bc0 BK243.out
  have hfs91 := blk_frozen BK243.out 0
  have hns91_0 := NB242_243.out
  have hns91_2 := NB244_243.out
  have hns91_3 := NB245_243.out
  have hms91_0 := NB243_242.out
  have hms91_2 := NB243_244.out
  have hms91_3 := NB243_245.out
  have hs93 : w87.cell? ⟨gb243, 1, none⟩ = some (.slice A1_1 l1_1.length c1_1) := bc1 BK243.out
  have hfs93 := blk_frozen BK243.out 1
  have hns93_0 := NB242_243.out
  have hns93_2 := NB244_243.out
  have hns93_3 := NB245_243.out
  have hms93_0 := NB243_242.out
  have hms93_2 := NB243_244.out
  have hms93_3 := NB243_245.out
  refine skip_ (w1 := ?_) (by rfl) rfl ?_ ?_
  rotate_left
  ·go_simp
   rfl
  refine hK.out _ _ ?_
  clear hK K
  refine done_ (by kernel_rfl) ?_
  have hnb94 := NB242_243.out
  have hnc94 := NB243_242.out
  have hnb95 := NB242_244.out
  have hnc95 := NB244_242.out
  have hnb96 := NB242_245.out
  have hnc96 := NB245_242.out
  have hcz97_0 : w87.cell? ⟨gb242, 0, none⟩ = some (.bool a0_0) := bc0 BK242.out
  have hcz97_1 : w87.cell? ⟨gb242, 1, none⟩ = some (.slice A0_1 l0_1.length c0_1) := bc1 BK242.out
  have hfz97_0 := blk_frozen BK242.out 0
  have hfz97_1 := blk_frozen BK242.out 1
  have hnb98 := NB243_244.out
  have hnc98 := NB244_243.out
  have hnb99 := NB243_245.out
  have hnc99 := NB245_243.out
  have hcz100_0 : w87.cell? ⟨gb243, 0, none⟩ = some (.bool a1_0) := bc0 BK243.out
  have hcz100_1 : w87.cell? ⟨gb243, 1, none⟩ = some (.slice A1_1 l1_1.length c1_1) := bc1 BK243.out
  have hfz100_0 := blk_frozen BK243.out 0
  have hfz100_1 := blk_frozen BK243.out 1
  try go_wp2_with (first | ((with_reducible refine gate_callee (f := 38) rfl ?_); refine goL (some 22) Tryd.func38 [.slice Ao89 t247.length co89, .slice Ao92 t251.length co92] ?_; (with_reducible refine (nat_DivMod.calls k _ _ t247 _ _ t251 t254 t255 t256 _ ?side1 ?side2 ?side3 ?side4 A5.out).mono ?_); (case side1 => refine (Kd.R_reads' (e := 51) (base := w.heap.size) (ok := fun k_ => (True ∧ some k_ ≠ (.slice Ao92 t251.length co92 : Value).ownBlock)) (n := t247.length) (c := co89) ?_).2.2; exact (Kd.R_mono (Kd.R_mono (Kd.R_far (p := ⟨gb243, 1, none⟩) (Kd.R_far (p := ⟨gb243, 0, none⟩) (Kd.R_far (p := ⟨gb242, 1, none⟩) (Kd.R_far (p := ⟨gb242, 0, none⟩) (Kd.R_types (Kd.R_types HO249.out BK242.out (by decide)) BK243.out (by decide)) (fun _ hk => hk.1.2) (.bool t246)) (fun _ hk => hk.1.2) (.slice Ao89 t247.length co89)) (fun _ hk => hk.2) (.bool t250)) (fun _ hk => hk.2) (.slice Ao92 t251.length co92)) (fun _ h_ => h_.1)) (fun _ h_ => h_.1))); (case side2 => exact (Kd.R_reads' HO249.out).2.1); (case side3 => refine (Kd.R_reads' (e := 51) (base := w.heap.size) (ok := fun k_ => (True ∧ some k_ ≠ (.slice Ao89 t247.length co89 : Value).ownBlock)) (n := t251.length) (c := co92) ?_).2.2; exact (Kd.R_mono (Kd.R_mono (Kd.R_far (p := ⟨gb243, 1, none⟩) (Kd.R_far (p := ⟨gb243, 0, none⟩) (Kd.R_far (p := ⟨gb242, 1, none⟩) (Kd.R_far (p := ⟨gb242, 0, none⟩) (Kd.R_types (Kd.R_types HO253.out BK242.out (by decide)) BK243.out (by decide)) (fun _ hk => hk.1.2) (.bool t246)) (fun _ hk => hk.1.2) (.slice Ao89 t247.length co89)) (fun _ hk => hk.2) (.bool t250)) (fun _ hk => hk.2) (.slice Ao92 t251.length co92)) (fun _ h_ => h_.1)) (fun _ h_ => h_.1))); (case side4 => exact (Kd.R_reads' HO253.out).2.1); rintro e w101 ⟨v257, v259, rfl, ho0, ho1, hb⟩; refine ⟨_, rfl, ?_⟩; replace BK244 := Aside0.mk (blk_below (g := gb244) (o := .cells #[.bool false, .slice none 0 0] 24 (0, 0)) (by refine blk_far ?_ NB244_243.out _; refine blk_far ?_ NB244_243.out _; refine blk_far ?_ NB244_242.out _; refine blk_far ?_ NB244_242.out _; exact BK244.out) hb); replace BK245 := Aside0.mk (blk_below (g := gb245) (o := .cells #[.bool false, .slice none 0 0] 24 (0, 0)) (by refine blk_far ?_ NB245_243.out _; refine blk_far ?_ NB245_243.out _; refine blk_far ?_ NB245_242.out _; refine blk_far ?_ NB245_242.out _; exact BK245.out) hb); replace HB := Aside0.mk (below_step (by repeat first | exact HB.out | refine bxSet ?_ (by assumption) | apply below_alloc | apply pw_below_drewN) hb); (try clear ho1); have hnb102 := NB244_245.out; have hnc102 := NB245_244.out; have hcz103_0 : w101.cell? ⟨gb244, 0, none⟩ = some (.bool false) := bc0 BK244.out; have hcz103_1 : w101.cell? ⟨gb244, 1, none⟩ = some (.slice none 0 0) := bc1 BK244.out; have hfz103_0 := blk_frozen BK244.out 0; have hfz103_1 := blk_frozen BK244.out 1; have hcz104_0 : w101.cell? ⟨gb245, 0, none⟩ = some (.bool false) := bc0 BK245.out; have hcz104_1 : w101.cell? ⟨gb245, 1, none⟩ = some (.slice none 0 0) := bc1 BK245.out; have hfz104_0 := blk_frozen BK245.out 0; have hfz104_1 := blk_frozen BK245.out 1))
  refine bodyPost_ret (results_list (rs := [.cell 4 24, .cell 5 24, .tmp 6]) rfl (by simp) (.cell gb244 24 #[.bool false, .slice none 0 0] (0, 0) _ rfl (by refine blk_far ?_ NB244_245.out _; refine blk_far ?_ NB244_245.out _; refine blk_put (cs := #[.bool false, .slice none 0 0]) ?_ 1 _ rfl; refine blk_put (cs := #[.bool false, .slice none 0 0]) ?_ 0 _ rfl; exact BK244.out) Tryd.underlying24 rfl (by kernel_rfl) (.cell gb245 24 #[.bool false, .slice none 0 0] (0, 0) _ rfl (by refine blk_put (cs := #[.bool false, .slice none 0 0]) ?_ 1 _ rfl; refine blk_put (cs := #[.bool false, .slice none 0 0]) ?_ 0 _ rfl; refine blk_far ?_ NB245_244.out _; refine blk_far ?_ NB245_244.out _; exact BK245.out) Tryd.underlying24 rfl (by kernel_rfl) (.tmp .nil)))) rfl ?_
  exact ⟨_, _, by first | rfl | (simp [errW_none, errW_some] <;> rfl), by first | exact Kd.R_nil _ _ _ _ _ | exact Kd.N_nil _ _ _ _ _ | exact Kd.V_nil _ _ _ _ _ | exact Kd.Q_nil _ _ _ _ _ | exact Kd.S_nil _ _ _ _ _, by first | exact Kd.R_nil _ _ _ _ _ | exact Kd.N_nil _ _ _ _ _ | exact Kd.V_nil _ _ _ _ _ | exact Kd.Q_nil _ _ _ _ _ | exact Kd.S_nil _ _ _ _ _, by repeat first | exact HB.out | refine bxSet ?_ (by assumption) | apply below_alloc | apply pw_below_drewN⟩

/-! ### whole_Neg: function 18 -/
def whole_Neg.f (a0_0 : Bool) (l0_1 : List Int) : Option (Bool × List Int) := (whole_made.f (!a0_0) l0_1).bind fun bt290 => (some (bt290.1, bt290.2))
set_option maxHeartbeats 8000000 in
set_option maxRecDepth 100000 in
theorem whole_Neg.calls (a0_0 : Bool) (A0_1 : Option Addr) (c0_1 : Nat) (l0_1 : List Int) (r1 : Bool) (r2 : List Int) (w : World) (hr0_1 : Kd.C (Kd.int .u32) w A0_1 l0_1.length l0_1) (hc0_1 : l0_1.length ≤ c0_1) (h : whole_Neg.f a0_0 l0_1 = some (r1, r2)) :
  Calls Tryd.prog 18 #[.agg #[.bool a0_0, .slice A0_1 l0_1.length c0_1]] w fun e w' => ∃ v1_ : Value, e = .returned (.agg #[.bool r1, v1_]) ∧ Kd.R (Kd.int .u32) 51 w' w.heap.size (fun _ => True) v1_ r2 ∧ Below w.heap.size w w' := by
 have hu24 := Tryd.underlying24
 have HR0_1 := Aside0.mk hr0_1
 have HC0_1 := Aside0.mk hc0_1
 clear hr0_1 hc0_1
 have HB := Aside0.mk (Below.refl w.heap.size w)
 have H : ((whole_made.f (!a0_0) l0_1).bind fun bt290 => (some (bt290.1, bt290.2))) = some (r1, r2) := h
 clear h
 obtain ⟨⟨t290, t291⟩, A20, H⟩ := Option.bind_eq_some_iff.mp H
 try dsimp only at H
 have A2 := Aside0.mk A20
 clear A20
 simp only [Option.some.injEq, Prod.mk.injEq] at H
 obtain ⟨rfl, rfl⟩ := H
 go_enter Tryd.func18, Tryd.ntmps18
 go_wp2_with (first | ((with_reducible refine gate_dst (N := 1) rfl ?_); refine box_event ?hg (N := 1) ?hd (cs := #[.bool a0_0, .slice A0_1 l0_1.length c0_1]) (t := 24) ?hr ?_; (case hd => rfl); (case hg => rfl); (case hr => first | (go_simp; done) | (go_simp; rfl)); intro gb288 hg w3 hbox hb; have BK288 := Aside0.mk (hbox); have GW288 := Aside0.mk (bxLe HB.out hg); have GE288 := GW288; replace HB := Aside0.mk (below_step HB.out hb); clear hb hbox hg) | ((with_reducible refine gate_dst (N := 2) rfl ?_); refine box_event ?hg (N := 2) ?hd (cs := #[.bool false, .slice none 0 0]) (t := 24) ?hr ?_; (case hd => rfl); (case hg => rfl); (case hr => first | (go_simp; done) | (go_simp; rfl)); intro gb289 hg w4 hbox hb; have BK289 := Aside0.mk (hbox); have GW289 := Aside0.mk (bxLe HB.out hg); have GE289 := GW289; replace HB := Aside0.mk (below_step HB.out hb); have NB288_289 := Aside0.mk (neL BK288.out hg); have NB289_288 := Aside0.mk (neR BK288.out hg); replace BK288 := Aside0.mk (blk_below BK288.out hb); clear hb hbox hg; have hnb5 := NB288_289.out; have hnc5 := NB289_288.out; have hcz6_0 : w4.cell? ⟨gb288, 0, none⟩ = some (.bool a0_0) := bc0 BK288.out; have hcz6_1 : w4.cell? ⟨gb288, 1, none⟩ = some (.slice A0_1 l0_1.length c0_1) := bc1 BK288.out; have hfz6_0 := blk_frozen BK288.out 0; have hfz6_1 := blk_frozen BK288.out 1) | ((with_reducible refine gate_callee (f := 40) rfl ?_); refine goL (some 8) Tryd.func40 [.bool (!a0_0), .slice A0_1 l0_1.length c0_1] ?_; (with_reducible refine (whole_made.calls (!a0_0) _ _ l0_1 t290 t291 _ ?side1 ?side2 A2.out).mono ?_); (case side1 => exact (Kd.C_below HR0_1.out HB.out)); (case side2 => exact HC0_1.out); rintro e w7 ⟨v292, rfl, ho0, hb⟩; refine ⟨_, rfl, ?_⟩; have HO293 := Aside0.mk (Kd.R_lower ho0 (below_size HB.out)); replace BK289 := Aside0.mk (blk_below BK289.out hb); replace HB := Aside0.mk (below_step HB.out hb); have hcz8_0 : w7.cell? ⟨gb289, 0, none⟩ = some (.bool false) := bc0 BK289.out; have hcz8_1 : w7.cell? ⟨gb289, 1, none⟩ = some (.slice none 0 0) := bc1 BK289.out; have hfz8_0 := blk_frozen BK289.out 0; have hfz8_1 := blk_frozen BK289.out 1; obtain ⟨Ao9, co9, eo9⟩ := Kd.R_slice HO293.out; subst eo9))
 refine bodyPost_ret (results_cell_row rfl _ _ gb289 24 #[.bool t290, .slice Ao9 t291.length co9] (0, 0) _ rfl (by refine blk_put (cs := #[.bool t290, .slice none 0 0]) ?_ 1 _ rfl; refine blk_put (cs := #[.bool false, .slice none 0 0]) ?_ 0 _ rfl; exact BK289.out) Tryd.underlying24 rfl (by kernel_rfl)) rfl ?_
 exact ⟨_, rfl, Kd.R_mono (Kd.R_far (p := ⟨gb289, 1, none⟩) (Kd.R_far (p := ⟨gb289, 0, none⟩) (Kd.R_types HO293.out BK289.out (by decide)) (fun _ hk => hk.2) (.bool t290)) (fun _ hk => hk.2) (.slice Ao9 t291.length co9)) (fun _ hk => trivial), by repeat first | exact HB.out | refine bxSet ?_ (by assumption) | apply below_alloc | apply pw_below_drewN⟩

/-! ### whole_Sign: function 28 -/
def whole_Sign.f (a0_0 : Bool) (l0_1 : List Int) : Option (Int) := (whole_Norm.f a0_0 l0_1).bind fun bt295 => (if bt295.1 = true then (some (-1)) else (if (bt295.2.length : Int) > 0 then (some 1) else (some 0)))
set_option maxHeartbeats 8000000 in
set_option maxRecDepth 100000 in
theorem whole_Sign.calls (a0_0 : Bool) (A0_1 : Option Addr) (c0_1 : Nat) (l0_1 : List Int) (r : Int) (w : World) (hr0_1 : Kd.C (Kd.int .u32) w A0_1 l0_1.length l0_1) (hc0_1 : l0_1.length ≤ c0_1) (h : whole_Sign.f a0_0 l0_1 = some r) :
  Calls Tryd.prog 28 #[.agg #[.bool a0_0, .slice A0_1 l0_1.length c0_1]] w fun e w' => e = .returned (.int .i64 r) ∧ Below w.heap.size w w' := by
 have hu24 := Tryd.underlying24
 have HR0_1 := Aside0.mk hr0_1
 have HC0_1 := Aside0.mk hc0_1
 clear hr0_1 hc0_1
 have HB := Aside0.mk (Below.refl w.heap.size w)
 have H : ((whole_Norm.f a0_0 l0_1).bind fun bt295 => (if bt295.1 = true then (some (-1)) else (if (bt295.2.length : Int) > 0 then (some 1) else (some 0)))) = some r := h
 clear h
 obtain ⟨⟨t295, t296⟩, A20, H⟩ := Option.bind_eq_some_iff.mp H
 try dsimp only at H
 have A2 := Aside0.mk A20
 clear A20
 by_cases c3 : t295 = true
 ·subst c3
  rw [if_pos rfl] at H
  obtain rfl := Option.some.inj H
  go_enter Tryd.func28, Tryd.ntmps28
  go_wp2_with (first | ((with_reducible refine gate_dst (N := 1) rfl ?_); refine box_event ?hg (N := 1) ?hd (cs := #[.bool a0_0, .slice A0_1 l0_1.length c0_1]) (t := 24) ?hr ?_; (case hd => rfl); (case hg => rfl); (case hr => first | (go_simp; done) | (go_simp; rfl)); intro gb294 hg w4 hbox hb; have BK294 := Aside0.mk (hbox); have GW294 := Aside0.mk (bxLe HB.out hg); have GE294 := GW294; replace HB := Aside0.mk (below_step HB.out hb); clear hb hbox hg; have hcz5_0 : w4.cell? ⟨gb294, 0, none⟩ = some (.bool a0_0) := bc0 BK294.out; have hcz5_1 : w4.cell? ⟨gb294, 1, none⟩ = some (.slice A0_1 l0_1.length c0_1) := bc1 BK294.out; have hfz5_0 := blk_frozen BK294.out 0; have hfz5_1 := blk_frozen BK294.out 1) | ((with_reducible refine gate_callee (f := 16) rfl ?_); refine goL (some 4) Tryd.func16 [.agg #[.bool a0_0, .slice A0_1 l0_1.length c0_1]] ?_; (with_reducible refine (whole_Norm.calls a0_0 _ _ l0_1 true t296 _ ?side1 ?side2 A2.out).mono ?_); (case side1 => exact (Kd.C_below HR0_1.out HB.out)); (case side2 => exact HC0_1.out); rintro e w6 ⟨v297, rfl, ho0, hb⟩; refine ⟨_, rfl, ?_⟩; have HO298 := Aside0.mk (Kd.R_lower ho0 (below_size HB.out)); replace BK294 := Aside0.mk (blk_below BK294.out hb); replace HB := Aside0.mk (below_step HB.out hb); have hcz7_0 : w6.cell? ⟨gb294, 0, none⟩ = some (.bool a0_0) := bc0 BK294.out; have hcz7_1 : w6.cell? ⟨gb294, 1, none⟩ = some (.slice A0_1 l0_1.length c0_1) := bc1 BK294.out; have hfz7_0 := blk_frozen BK294.out 0; have hfz7_1 := blk_frozen BK294.out 1; obtain ⟨Ao8, co8, eo8⟩ := Kd.R_slice HO298.out; subst eo8))
  go_ret
  exact ⟨by first | rfl | (simp [errW_none, errW_some] <;> rfl) | (refine congrArg (fun z_ => Ending.returned (Value.bool z_)) (decide_eq_decide.mpr ?_); unfold wrap64; omega) | (simp [*, errW_none, errW_some] <;> rfl), by repeat first | exact HB.out | refine bxSet ?_ (by assumption) | apply below_alloc | apply pw_below_drewN⟩
 ·replace c3 := Bool.eq_false_iff.mpr c3
  subst c3
  rw [if_neg (show ¬ (false = true) by decide)] at H
  by_cases c9 : (t296.length : Int) > 0
  ·rw [if_pos c9] at H
   have c9b0 : decide (0 < (t296.length : Int)) = true := decide_eq_true c9
   have c9b1 : decide (0 < t296.length) = true := decide_eq_true (by omega)
   clear c9
   obtain rfl := Option.some.inj H
   go_enter Tryd.func28, Tryd.ntmps28
   go_wp2_with (first | ((with_reducible refine gate_dst (N := 1) rfl ?_); refine box_event ?hg (N := 1) ?hd (cs := #[.bool a0_0, .slice A0_1 l0_1.length c0_1]) (t := 24) ?hr ?_; (case hd => rfl); (case hg => rfl); (case hr => first | (go_simp; done) | (go_simp; rfl)); intro gb294 hg w10 hbox hb; have BK294 := Aside0.mk (hbox); have GW294 := Aside0.mk (bxLe HB.out hg); have GE294 := GW294; replace HB := Aside0.mk (below_step HB.out hb); clear hb hbox hg; have hcz11_0 : w10.cell? ⟨gb294, 0, none⟩ = some (.bool a0_0) := bc0 BK294.out; have hcz11_1 : w10.cell? ⟨gb294, 1, none⟩ = some (.slice A0_1 l0_1.length c0_1) := bc1 BK294.out; have hfz11_0 := blk_frozen BK294.out 0; have hfz11_1 := blk_frozen BK294.out 1) | ((with_reducible refine gate_callee (f := 16) rfl ?_); refine goL (some 4) Tryd.func16 [.agg #[.bool a0_0, .slice A0_1 l0_1.length c0_1]] ?_; (with_reducible refine (whole_Norm.calls a0_0 _ _ l0_1 false t296 _ ?side1 ?side2 A2.out).mono ?_); (case side1 => exact (Kd.C_below HR0_1.out HB.out)); (case side2 => exact HC0_1.out); rintro e w12 ⟨v297, rfl, ho0, hb⟩; refine ⟨_, rfl, ?_⟩; have HO298 := Aside0.mk (Kd.R_lower ho0 (below_size HB.out)); replace BK294 := Aside0.mk (blk_below BK294.out hb); replace HB := Aside0.mk (below_step HB.out hb); have hcz13_0 : w12.cell? ⟨gb294, 0, none⟩ = some (.bool a0_0) := bc0 BK294.out; have hcz13_1 : w12.cell? ⟨gb294, 1, none⟩ = some (.slice A0_1 l0_1.length c0_1) := bc1 BK294.out; have hfz13_0 := blk_frozen BK294.out 0; have hfz13_1 := blk_frozen BK294.out 1; obtain ⟨Ao14, co14, eo14⟩ := Kd.R_slice HO298.out; subst eo14))
   go_ret
   exact ⟨by first | rfl | (simp [errW_none, errW_some] <;> rfl) | (refine congrArg (fun z_ => Ending.returned (Value.bool z_)) (decide_eq_decide.mpr ?_); unfold wrap64; omega) | (simp [*, errW_none, errW_some] <;> rfl), by repeat first | exact HB.out | refine bxSet ?_ (by assumption) | apply below_alloc | apply pw_below_drewN⟩
  ·rw [if_neg c9] at H
   have c9b0 : decide (0 < (t296.length : Int)) = false := decide_eq_false c9
   have c9b1 : decide (0 < t296.length) = false := decide_eq_false (by omega)
   clear c9
   obtain rfl := Option.some.inj H
   go_enter Tryd.func28, Tryd.ntmps28
   go_wp2_with (first | ((with_reducible refine gate_dst (N := 1) rfl ?_); refine box_event ?hg (N := 1) ?hd (cs := #[.bool a0_0, .slice A0_1 l0_1.length c0_1]) (t := 24) ?hr ?_; (case hd => rfl); (case hg => rfl); (case hr => first | (go_simp; done) | (go_simp; rfl)); intro gb294 hg w15 hbox hb; have BK294 := Aside0.mk (hbox); have GW294 := Aside0.mk (bxLe HB.out hg); have GE294 := GW294; replace HB := Aside0.mk (below_step HB.out hb); clear hb hbox hg; have hcz16_0 : w15.cell? ⟨gb294, 0, none⟩ = some (.bool a0_0) := bc0 BK294.out; have hcz16_1 : w15.cell? ⟨gb294, 1, none⟩ = some (.slice A0_1 l0_1.length c0_1) := bc1 BK294.out; have hfz16_0 := blk_frozen BK294.out 0; have hfz16_1 := blk_frozen BK294.out 1) | ((with_reducible refine gate_callee (f := 16) rfl ?_); refine goL (some 4) Tryd.func16 [.agg #[.bool a0_0, .slice A0_1 l0_1.length c0_1]] ?_; (with_reducible refine (whole_Norm.calls a0_0 _ _ l0_1 false t296 _ ?side1 ?side2 A2.out).mono ?_); (case side1 => exact (Kd.C_below HR0_1.out HB.out)); (case side2 => exact HC0_1.out); rintro e w17 ⟨v297, rfl, ho0, hb⟩; refine ⟨_, rfl, ?_⟩; have HO298 := Aside0.mk (Kd.R_lower ho0 (below_size HB.out)); replace BK294 := Aside0.mk (blk_below BK294.out hb); replace HB := Aside0.mk (below_step HB.out hb); have hcz18_0 : w17.cell? ⟨gb294, 0, none⟩ = some (.bool a0_0) := bc0 BK294.out; have hcz18_1 : w17.cell? ⟨gb294, 1, none⟩ = some (.slice A0_1 l0_1.length c0_1) := bc1 BK294.out; have hfz18_0 := blk_frozen BK294.out 0; have hfz18_1 := blk_frozen BK294.out 1; obtain ⟨Ao19, co19, eo19⟩ := Kd.R_slice HO298.out; subst eo19))
   go_ret
   exact ⟨by first | rfl | (simp [errW_none, errW_some] <;> rfl) | (refine congrArg (fun z_ => Ending.returned (Value.bool z_)) (decide_eq_decide.mpr ?_); unfold wrap64; omega) | (simp [*, errW_none, errW_some] <;> rfl), by repeat first | exact HB.out | refine bxSet ?_ (by assumption) | apply below_alloc | apply pw_below_drewN⟩

end Go.Proofs.YthnfmmaolkenkaaDoor.PA
/- Written by a program of this session, wip/tools/patch_print.py, over the kit's print of the loaded functions. -/
namespace Go.Proofs.YthnfmmaolkenkaaDoor.H
end Go.Proofs.YthnfmmaolkenkaaDoor.H
namespace Go.Proofs.YthnfmmaolkenkaaDoor.PA
open Go.RowKit Go.Proofs.YthnfmmaolkenkaaDoorW.PrintWords Go.Proofs.YthnfmmaolkenkaaDoorW.PrintLast Go.Proofs.YthnfmmaolkenkaaDoorW.PrintMore Go.Proofs.YthnfmmaolkenkaaDoor.H
attribute [local go_sem] max2_int min2_int max_two min_two max_three min_three max_four min_four   -- for this text's walks alone
attribute [local go_sem] box_twice
set_option linter.unusedVariables false
set_option linter.unusedSimpArgs false

/-! ### whole_Floor: function 13 -/
def whole_Floor.f (k : Nat) (a0_0 : Bool) (l0_1 : List Int) (a1_0 : Bool) (l1_1 : List Int) : Option (Bool × List Int × Int) := (whole_Sign.f a1_0 l1_1).bind fun t302 => (if t302 < 0 then ((whole_Neg.f a0_0 l0_1).bind fun bt303 => ((whole_Neg.f a1_0 l1_1).bind fun bt307 => ((whole_DivMod.f k bt303.1 bt303.2 bt307.1 bt307.2).bind fun bt311 => (some (bt311.1, bt311.2.1, bt311.2.2.2.2))))) else ((whole_DivMod.f k a0_0 l0_1 a1_0 l1_1).bind fun bt322 => (some (bt322.1, bt322.2.1, bt322.2.2.2.2))))
set_option maxHeartbeats 8000000 in
set_option maxRecDepth 100000 in
theorem whole_Floor.calls (k : Nat) (a0_0 : Bool) (A0_1 : Option Addr) (c0_1 : Nat) (l0_1 : List Int) (a1_0 : Bool) (A1_1 : Option Addr) (c1_1 : Nat) (l1_1 : List Int) (r1 : Bool) (r2 : List Int) (r3 : Int) (w : World) (hr0_1 : Kd.C (Kd.int .u32) w A0_1 l0_1.length l0_1) (hc0_1 : l0_1.length ≤ c0_1) (hr1_1 : Kd.C (Kd.int .u32) w A1_1 l1_1.length l1_1) (hc1_1 : l1_1.length ≤ c1_1) (h : whole_Floor.f k a0_0 l0_1 a1_0 l1_1 = some (r1, r2, r3)) :
  Calls Tryd.prog 13 #[.agg #[.bool a0_0, .slice A0_1 l0_1.length c0_1], .agg #[.bool a1_0, .slice A1_1 l1_1.length c1_1]] w fun e w' => ∃ v1_ : Value, e = .returned (.tuple #[.agg #[.bool r1, v1_], .int .i64 r3]) ∧ Kd.R (Kd.int .u32) 51 w' w.heap.size (fun _ => True) v1_ r2 ∧ Below w.heap.size w w' := by
 have hu24 := Tryd.underlying24
 have HR0_1 := Aside0.mk hr0_1
 have HC0_1 := Aside0.mk hc0_1
 clear hr0_1 hc0_1
 have HR1_1 := Aside0.mk hr1_1
 have HC1_1 := Aside0.mk hc1_1
 clear hr1_1 hc1_1
 have HB := Aside0.mk (Below.refl w.heap.size w)
 have H : ((whole_Sign.f a1_0 l1_1).bind fun t302 => (if t302 < 0 then ((whole_Neg.f a0_0 l0_1).bind fun bt303 => ((whole_Neg.f a1_0 l1_1).bind fun bt307 => ((whole_DivMod.f k bt303.1 bt303.2 bt307.1 bt307.2).bind fun bt311 => (some (bt311.1, bt311.2.1, bt311.2.2.2.2))))) else ((whole_DivMod.f k a0_0 l0_1 a1_0 l1_1).bind fun bt322 => (some (bt322.1, bt322.2.1, bt322.2.2.2.2))))) = some (r1, r2, r3) := h
 clear h
 replace H := Option.bind_eq_some_iff.mp H
 obtain ⟨t302, A30, H⟩ := H
 replace H : (if t302 < 0 then ((whole_Neg.f a0_0 l0_1).bind fun bt303 => ((whole_Neg.f a1_0 l1_1).bind fun bt307 => ((whole_DivMod.f k bt303.1 bt303.2 bt307.1 bt307.2).bind fun bt311 => (some (bt311.1, bt311.2.1, bt311.2.2.2.2))))) else ((whole_DivMod.f k a0_0 l0_1 a1_0 l1_1).bind fun bt322 => (some (bt322.1, bt322.2.1, bt322.2.2.2.2)))) = some (r1, r2, r3) := H
 have A3 := Aside0.mk A30
 clear A30
 by_cases c4 : t302 < 0
 ·rw [if_pos c4] at H
  have c4b0 : decide (t302 < 0) = true := decide_eq_true c4
  clear c4
  replace H := Option.bind_eq_some_iff.mp H
  obtain ⟨⟨t303, t304⟩, A50, H⟩ := H
  replace H : ((whole_Neg.f a1_0 l1_1).bind fun bt307 => ((whole_DivMod.f k t303 t304 bt307.1 bt307.2).bind fun bt311 => (some (bt311.1, bt311.2.1, bt311.2.2.2.2)))) = some (r1, r2, r3) := H
  have A5 := Aside0.mk A50
  clear A50
  replace H := Option.bind_eq_some_iff.mp H
  obtain ⟨⟨t307, t308⟩, A60, H⟩ := H
  replace H : ((whole_DivMod.f k t303 t304 t307 t308).bind fun bt311 => (some (bt311.1, bt311.2.1, bt311.2.2.2.2))) = some (r1, r2, r3) := H
  have A6 := Aside0.mk A60
  clear A60
  replace H := Option.bind_eq_some_iff.mp H
  obtain ⟨⟨t311, t312, t315, t316, t319⟩, A70, H⟩ := H
  replace H : (some (t311, t312, t319)) = some (r1, r2, r3) := H
  have A7 := Aside0.mk A70
  clear A70
  simp only [Option.some.injEq, Prod.mk.injEq] at H
  obtain ⟨rfl, rfl, rfl⟩ := H
  go_enter Tryd.func13, Tryd.ntmps13
  try go_wp2_with (first | ((with_reducible refine gate_dst (N := 2) rfl ?_); refine box_event ?hg (N := 2) ?hd (cs := #[.bool a0_0, .slice A0_1 l0_1.length c0_1]) (t := 24) ?hr ?_; (case hd => rfl); (case hg => rfl); (case hr => first | (go_simp; done) | (go_simp; rfl)); intro gb299 hg w8 hbox hb; have BK299 := Aside0.mk (hbox); have GW299 := Aside0.mk (bxLe HB.out hg); have GE299 := GW299; replace HB := Aside0.mk (below_step HB.out hb); clear hb hbox hg) | ((with_reducible refine gate_dst (N := 3) rfl ?_); refine box_event ?hg (N := 3) ?hd (cs := #[.bool a1_0, .slice A1_1 l1_1.length c1_1]) (t := 24) ?hr ?_; (case hd => rfl); (case hg => rfl); (case hr => first | (go_simp; done) | (go_simp; rfl)); intro gb300 hg w9 hbox hb; have BK300 := Aside0.mk (hbox); have GW300 := Aside0.mk (bxLe HB.out hg); have GE300 := GW300; replace HB := Aside0.mk (below_step HB.out hb); have NB299_300 := Aside0.mk (neL BK299.out hg); have NB300_299 := Aside0.mk (neR BK299.out hg); replace BK299 := Aside0.mk (blk_below BK299.out hb); clear hb hbox hg) | ((with_reducible refine gate_dst (N := 4) rfl ?_); refine box_event ?hg (N := 4) ?hd (cs := #[.bool false, .slice none 0 0]) (t := 24) ?hr ?_; (case hd => rfl); (case hg => rfl); (case hr => first | (go_simp; done) | (go_simp; rfl)); intro gb301 hg w10 hbox hb; have BK301 := Aside0.mk (hbox); have GW301 := Aside0.mk (bxLe HB.out hg); have GE301 := GW301; replace HB := Aside0.mk (below_step HB.out hb); have NB299_301 := Aside0.mk (neL BK299.out hg); have NB301_299 := Aside0.mk (neR BK299.out hg); replace BK299 := Aside0.mk (blk_below BK299.out hb); have NB300_301 := Aside0.mk (neL BK300.out hg); have NB301_300 := Aside0.mk (neR BK300.out hg); replace BK300 := Aside0.mk (blk_below BK300.out hb); clear hb hbox hg; have hnb11 := NB300_299.out; have hnc11 := NB299_300.out; have hnb12 := NB300_301.out; have hnc12 := NB301_300.out; have hcz13_0 := bc0 BK300.out; have hcz13_1 := bc1 BK300.out; have hfz13_0 := blk_frozen BK300.out 0; have hfz13_1 := blk_frozen BK300.out 1) | ((with_reducible refine gate_callee (f := 28) rfl ?_); refine goL (some 10) Tryd.func28 [.agg #[.bool a1_0, .slice A1_1 l1_1.length c1_1]] ?_; (with_reducible refine (whole_Sign.calls a1_0 _ _ l1_1 t302 _ ?side1 ?side2 A3.out).mono ?_); (case side1 => exact (Kd.C_below HR1_1.out HB.out)); (case side2 => exact HC1_1.out); rintro e w14 ⟨rfl, hb⟩; refine ⟨_, rfl, ?_⟩; replace BK299 := Aside0.mk (blk_below BK299.out hb); replace BK300 := Aside0.mk (blk_below BK300.out hb); replace BK301 := Aside0.mk (blk_below BK301.out hb); replace HB := Aside0.mk (below_step HB.out hb); (try clear hb); (try clear hb2); (try clear hk); (try clear hi)))
  replace BK299 := Aside0.mk (blk_drew BK299.out)
  replace BK300 := Aside0.mk (blk_drew BK300.out)
  replace BK301 := Aside0.mk (blk_drew BK301.out)
  replace HB := Aside0.mk (below_drew1 HB.out)
  refine start_ (n := 6) (S := fun w' => w'.cell? ⟨gb299, 0, none⟩ = some (.bool a0_0) ∧ w'.cell? ⟨gb299, 1, none⟩ = some (.slice A0_1 l0_1.length c0_1) ∧ w'.cell? ⟨gb300, 0, none⟩ = some (.bool a1_0) ∧ w'.cell? ⟨gb300, 1, none⟩ = some (.slice A1_1 l1_1.length c1_1)) (ds := [4, 5]) #[false, false, false, false, false, false] (by kernel_rfl) rfl rfl ⟨(blk_cell BK299.out 0).trans rfl, (blk_cell BK299.out 1).trans rfl, (blk_cell BK300.out 0).trans rfl, (blk_cell BK300.out 1).trans rfl⟩ (fun hHeld => ?_)
  generalize w14.drew = w15 at BK299 BK300 BK301 HB hHeld ⊢
  refine take_ (i := 0) (N := some 12) (v := ?_) (a' := ?_) #[true, false, false, false, false, false] rfl rfl (by kernel_rfl) (fun _ _ _ h => h) (Or.inl ⟨by rfl, ?_⟩) hHeld ?_ ?_
  rotate_left
  ·rintro w' ⟨s0, s1, s2, s3⟩
   go_simp
   with_reducible rfl
  rotate_left
  ·simp only [Act.put, List.setIfInBounds_toArray, List.set_cons_zero, List.set_cons_succ, i64_w, i32_w]
   rfl
  refine take_ (i := 2) (N := some 14) (v := ?_) (a' := ?_) #[true, false, true, false, false, false] rfl rfl (by kernel_rfl) (fun _ _ _ h => h) (Or.inl ⟨by rfl, ?_⟩) hHeld ?_ ?_
  rotate_left
  ·rintro w' ⟨s0, s1, s2, s3⟩
   go_simp
   with_reducible rfl
  rotate_left
  ·simp only [Act.put, List.setIfInBounds_toArray, List.set_cons_zero, List.set_cons_succ, i64_w, i32_w]
   rfl
  refine one_ (i := 1) (N := some 13) #[true, true, true, false, false, false] rfl rfl (by kernel_rfl) (by decide) (fun K hK => ?_)
  refine goR Tryd.func18 [.agg #[.bool a0_0, .slice A0_1 l0_1.length c0_1]] ?_
  with_reducible refine (whole_Neg.calls a0_0 _ _ l0_1 t303 t304 _ ?side1 ?side2 A5.out).mono ?_
  (case side1 => exact (Kd.C_below HR0_1.out HB.out))
  (case side2 => exact HC0_1.out)
  rintro e w16 ⟨v305, rfl, ho0, hb⟩
  refine ⟨_, rfl, ?_⟩
  have HO306 := Aside0.mk (Kd.R_lower ho0 (below_size HB.out))
  replace BK299 := Aside0.mk (blk_below BK299.out hb)
  replace BK300 := Aside0.mk (blk_below BK300.out hb)
  replace BK301 := Aside0.mk (blk_below BK301.out hb)
  replace HB := Aside0.mk (below_step HB.out hb)
  (try clear hb)
  (try clear hb2)
  (try clear hk)
  (try clear hi)
  (try clear ho0)
  refine hK.out _ _ ⟨(blk_cell BK299.out 0).trans rfl, (blk_cell BK299.out 1).trans rfl, (blk_cell BK300.out 0).trans rfl, (blk_cell BK300.out 1).trans rfl⟩ (fun hHeld => ?_)
  clear hK K
  refine norm_ (a' := ?_) ?_ ?_
  rotate_left
  ·show Act.put _ (some 13) _ = _
   simp only [Act.put, List.setIfInBounds_toArray, List.set_cons_zero, List.set_cons_succ, i64_w, i32_w]
   rfl
  refine one_ (i := 3) (N := some 15) #[true, true, true, true, false, false] rfl rfl (by kernel_rfl) (by decide) (fun K hK => ?_)
  refine goR Tryd.func18 [.agg #[.bool a1_0, .slice A1_1 l1_1.length c1_1]] ?_
  with_reducible refine (whole_Neg.calls a1_0 _ _ l1_1 t307 t308 _ ?side1 ?side2 A6.out).mono ?_
  (case side1 => exact (Kd.C_below HR1_1.out HB.out))
  (case side2 => exact HC1_1.out)
  rintro e w17 ⟨v309, rfl, ho0, hb⟩
  refine ⟨_, rfl, ?_⟩
  have HO310 := Aside0.mk (Kd.R_lower (Kd.R_new' ho0 (Kd.R_lt HO306.out)) (below_size HB.out))
  replace HO306 := Aside0.mk (Kd.R_elder' HO306.out (Kd.R_base ho0) hb)
  replace BK299 := Aside0.mk (blk_below BK299.out hb)
  replace BK300 := Aside0.mk (blk_below BK300.out hb)
  replace BK301 := Aside0.mk (blk_below BK301.out hb)
  replace HB := Aside0.mk (below_step HB.out hb)
  (try clear hb)
  (try clear hb2)
  (try clear hk)
  (try clear hi)
  (try clear ho0)
  obtain ⟨Ao19, co19, eo19⟩ := Kd.R_slice HO306.out
  subst eo19
  obtain ⟨Ao22, co22, eo22⟩ := Kd.R_slice HO310.out
  subst eo22
  refine hK.out _ _ ⟨(blk_cell BK299.out 0).trans rfl, (blk_cell BK299.out 1).trans rfl, (blk_cell BK300.out 0).trans rfl, (blk_cell BK300.out 1).trans rfl⟩ (fun hHeld => ?_)
  clear hK K
  refine norm_ (a' := ?_) ?_ ?_
  rotate_left
  ·show Act.put _ (some 15) _ = _
   simp only [Act.put, List.setIfInBounds_toArray, List.set_cons_zero, List.set_cons_succ, i64_w, i32_w]
   rfl
  refine last_ (i := 4) (N := none) #[true, true, true, true, true, false] rfl rfl (by kernel_rfl) (by decide) (fun K hK => ?_)
  have hs18 : w17.cell? ⟨gb299, 0, none⟩ = some (.bool a0_0) := (blk_cell BK299.out 0).trans rfl
  have hfs18 := blk_frozen BK299.out 0
  have hns18_1 := NB300_299.out
  have hns18_2 := NB301_299.out
  have hms18_1 := NB299_300.out
  have hms18_2 := NB299_301.out
  have hs20 : w17.cell? ⟨gb299, 1, none⟩ = some (.slice A0_1 l0_1.length c0_1) := (blk_cell BK299.out 1).trans rfl
  have hfs20 := blk_frozen BK299.out 1
  have hns20_1 := NB300_299.out
  have hns20_2 := NB301_299.out
  have hms20_1 := NB299_300.out
  have hms20_2 := NB299_301.out
  refine skip_ (w1 := ?_) (by rfl) rfl ?_ ?_
  rotate_left
  ·go_simp
   rfl
  refine hK.out _ _ ?_
  clear hK K
  refine last_ (i := 5) (N := none) #[true, true, true, true, true, true] rfl rfl (by kernel_rfl) (by decide) (fun K hK => ?_)
  have hs21 : w17.cell? ⟨gb300, 0, none⟩ = some (.bool a1_0) := (blk_cell BK300.out 0).trans rfl
  have hfs21 := blk_frozen BK300.out 0
  have hns21_0 := NB299_300.out
  have hns21_2 := NB301_300.out
  have hms21_0 := NB300_299.out
  have hms21_2 := NB300_301.out
  have hs23 : w17.cell? ⟨gb300, 1, none⟩ = some (.slice A1_1 l1_1.length c1_1) := (blk_cell BK300.out 1).trans rfl
  have hfs23 := blk_frozen BK300.out 1
  have hns23_0 := NB299_300.out
  have hns23_2 := NB301_300.out
  have hms23_0 := NB300_299.out
  have hms23_2 := NB300_301.out
  refine skip_ (w1 := ?_) (by rfl) rfl ?_ ?_
  rotate_left
  ·go_simp
   rfl
  refine hK.out _ _ ?_
  clear hK K
  refine done_ (by kernel_rfl) ?_
  have hnb24 := NB299_301.out
  have hnc24 := NB301_299.out
  have hcz25_0 := bc0 BK299.out
  have hcz25_1 := bc1 BK299.out
  have hfz25_0 := blk_frozen BK299.out 0
  have hfz25_1 := blk_frozen BK299.out 1
  have hcz26_0 := bc0 BK300.out
  have hcz26_1 := bc1 BK300.out
  have hfz26_0 := blk_frozen BK300.out 0
  have hfz26_1 := blk_frozen BK300.out 1
  try go_wp2_with (first | ((with_reducible refine gate_callee (f := 11) rfl ?_); refine goL (some 19) Tryd.func11 [.agg #[.bool t303, .slice Ao19 t304.length co19], .agg #[.bool t307, .slice Ao22 t308.length co22]] ?_; (with_reducible refine (whole_DivMod.calls k t303 _ _ t304 t307 _ _ t308 t311 t312 t315 t316 t319 _ ?side1 ?side2 ?side3 ?side4 A7.out).mono ?_); (case side1 => refine (Kd.R_reads' (e := 51) (base := w.heap.size) (ok := fun k_ => (True ∧ some k_ ≠ (.slice Ao22 t308.length co22 : Value).ownBlock)) (n := t304.length) (c := co19) ?_).2.2; exact (Kd.R_mono (Kd.R_mono (Kd.R_far (p := ⟨gb300, 1, none⟩) (Kd.R_far (p := ⟨gb300, 0, none⟩) (Kd.R_far (p := ⟨gb299, 1, none⟩) (Kd.R_far (p := ⟨gb299, 0, none⟩) (Kd.R_types (Kd.R_types HO306.out BK299.out (by decide)) BK300.out (by decide)) (fun _ hk => hk.1.2) (.bool t303)) (fun _ hk => hk.1.2) (.slice Ao19 t304.length co19)) (fun _ hk => hk.2) (.bool t307)) (fun _ hk => hk.2) (.slice Ao22 t308.length co22)) (fun _ h_ => h_.1)) (fun _ h_ => h_.1))); (case side2 => exact (Kd.R_reads' HO306.out).2.1); (case side3 => refine (Kd.R_reads' (e := 51) (base := w.heap.size) (ok := fun k_ => (True ∧ some k_ ≠ (.slice Ao19 t304.length co19 : Value).ownBlock)) (n := t308.length) (c := co22) ?_).2.2; exact (Kd.R_mono (Kd.R_mono (Kd.R_far (p := ⟨gb300, 1, none⟩) (Kd.R_far (p := ⟨gb300, 0, none⟩) (Kd.R_far (p := ⟨gb299, 1, none⟩) (Kd.R_far (p := ⟨gb299, 0, none⟩) (Kd.R_types (Kd.R_types HO310.out BK299.out (by decide)) BK300.out (by decide)) (fun _ hk => hk.1.2) (.bool t303)) (fun _ hk => hk.1.2) (.slice Ao19 t304.length co19)) (fun _ hk => hk.2) (.bool t307)) (fun _ hk => hk.2) (.slice Ao22 t308.length co22)) (fun _ h_ => h_.1)) (fun _ h_ => h_.1))); (case side4 => exact (Kd.R_reads' HO310.out).2.1); rintro e w27 ⟨v313, v317, rfl, ho0, ho1, hb⟩; refine ⟨_, rfl, ?_⟩; have HO314 := Aside0.mk (Kd.R_lower (Kd.R_new' (Kd.R_new' ho0 (Kd.R_lt (Kd.R_mono (Kd.R_mono (Kd.R_far (p := ⟨gb300, 1, none⟩) (Kd.R_far (p := ⟨gb300, 0, none⟩) (Kd.R_far (p := ⟨gb299, 1, none⟩) (Kd.R_far (p := ⟨gb299, 0, none⟩) (Kd.R_types (Kd.R_types HO306.out BK299.out (by decide)) BK300.out (by decide)) (fun _ hk => hk.1.2) (.bool t303)) (fun _ hk => hk.1.2) (.slice Ao19 t304.length co19)) (fun _ hk => hk.2) (.bool t307)) (fun _ hk => hk.2) (.slice Ao22 t308.length co22)) (fun _ h_ => h_.1)) (fun _ h_ => h_.1)))) (Kd.R_lt (Kd.R_mono (Kd.R_mono (Kd.R_far (p := ⟨gb300, 1, none⟩) (Kd.R_far (p := ⟨gb300, 0, none⟩) (Kd.R_far (p := ⟨gb299, 1, none⟩) (Kd.R_far (p := ⟨gb299, 0, none⟩) (Kd.R_types (Kd.R_types HO310.out BK299.out (by decide)) BK300.out (by decide)) (fun _ hk => hk.1.2) (.bool t303)) (fun _ hk => hk.1.2) (.slice Ao19 t304.length co19)) (fun _ hk => hk.2) (.bool t307)) (fun _ hk => hk.2) (.slice Ao22 t308.length co22)) (fun _ h_ => h_.1)) (fun _ h_ => h_.1)))) (below_size (by repeat first | exact HB.out | refine bxSet ?_ (by assumption) | apply below_alloc | apply pw_below_drewN))); have HO318 := Aside0.mk (Kd.R_lower (Kd.R_new' (Kd.R_new' ho1 (Kd.R_lt (Kd.R_mono (Kd.R_mono (Kd.R_far (p := ⟨gb300, 1, none⟩) (Kd.R_far (p := ⟨gb300, 0, none⟩) (Kd.R_far (p := ⟨gb299, 1, none⟩) (Kd.R_far (p := ⟨gb299, 0, none⟩) (Kd.R_types (Kd.R_types HO306.out BK299.out (by decide)) BK300.out (by decide)) (fun _ hk => hk.1.2) (.bool t303)) (fun _ hk => hk.1.2) (.slice Ao19 t304.length co19)) (fun _ hk => hk.2) (.bool t307)) (fun _ hk => hk.2) (.slice Ao22 t308.length co22)) (fun _ h_ => h_.1)) (fun _ h_ => h_.1)))) (Kd.R_lt (Kd.R_mono (Kd.R_mono (Kd.R_far (p := ⟨gb300, 1, none⟩) (Kd.R_far (p := ⟨gb300, 0, none⟩) (Kd.R_far (p := ⟨gb299, 1, none⟩) (Kd.R_far (p := ⟨gb299, 0, none⟩) (Kd.R_types (Kd.R_types HO310.out BK299.out (by decide)) BK300.out (by decide)) (fun _ hk => hk.1.2) (.bool t303)) (fun _ hk => hk.1.2) (.slice Ao19 t304.length co19)) (fun _ hk => hk.2) (.bool t307)) (fun _ hk => hk.2) (.slice Ao22 t308.length co22)) (fun _ h_ => h_.1)) (fun _ h_ => h_.1)))) (below_size (by repeat first | exact HB.out | refine bxSet ?_ (by assumption) | apply below_alloc | apply pw_below_drewN))); replace HO306 := Aside0.mk (Kd.R_mono (Kd.R_told (Kd.R_told (Kd.R_old (Kd.R_mono (Kd.R_mono (Kd.R_far (p := ⟨gb300, 1, none⟩) (Kd.R_far (p := ⟨gb300, 0, none⟩) (Kd.R_far (p := ⟨gb299, 1, none⟩) (Kd.R_far (p := ⟨gb299, 0, none⟩) (Kd.R_types (Kd.R_types HO306.out BK299.out (by decide)) BK300.out (by decide)) (fun _ hk => hk.1.2) (.bool t303)) (fun _ hk => hk.1.2) (.slice Ao19 t304.length co19)) (fun _ hk => hk.2) (.bool t307)) (fun _ hk => hk.2) (.slice Ao22 t308.length co22)) (fun _ h_ => h_.1)) (fun _ h_ => h_.1)) hb) (Kd.R_base ho0)) (Kd.R_base ho1)) (fun _ h_ => h_.1)); replace HO310 := Aside0.mk (Kd.R_mono (Kd.R_told (Kd.R_told (Kd.R_old (Kd.R_mono (Kd.R_mono (Kd.R_far (p := ⟨gb300, 1, none⟩) (Kd.R_far (p := ⟨gb300, 0, none⟩) (Kd.R_far (p := ⟨gb299, 1, none⟩) (Kd.R_far (p := ⟨gb299, 0, none⟩) (Kd.R_types (Kd.R_types HO310.out BK299.out (by decide)) BK300.out (by decide)) (fun _ hk => hk.1.2) (.bool t303)) (fun _ hk => hk.1.2) (.slice Ao19 t304.length co19)) (fun _ hk => hk.2) (.bool t307)) (fun _ hk => hk.2) (.slice Ao22 t308.length co22)) (fun _ h_ => h_.1)) (fun _ h_ => h_.1)) hb) (Kd.R_base ho0)) (Kd.R_base ho1)) (fun _ h_ => h_.1)); replace BK299 := Aside0.mk (blk_below (g := gb299) (o := .cells #[.bool t303, .slice Ao19 t304.length co19] 24 (0, 0)) (by refine blk_far ?_ NB299_300.out _; refine blk_far ?_ NB299_300.out _; refine blk_put (cs := #[.bool t303, .slice A0_1 l0_1.length c0_1]) ?_ 1 _ rfl; refine blk_put (cs := #[.bool a0_0, .slice A0_1 l0_1.length c0_1]) ?_ 0 _ rfl; exact BK299.out) hb); replace BK300 := Aside0.mk (blk_below (g := gb300) (o := .cells #[.bool t307, .slice Ao22 t308.length co22] 24 (0, 0)) (by refine blk_put (cs := #[.bool t307, .slice A1_1 l1_1.length c1_1]) ?_ 1 _ rfl; refine blk_put (cs := #[.bool a1_0, .slice A1_1 l1_1.length c1_1]) ?_ 0 _ rfl; refine blk_far ?_ NB300_299.out _; refine blk_far ?_ NB300_299.out _; exact BK300.out) hb); replace BK301 := Aside0.mk (blk_below (g := gb301) (o := .cells #[.bool false, .slice none 0 0] 24 (0, 0)) (by refine blk_far ?_ NB301_300.out _; refine blk_far ?_ NB301_300.out _; refine blk_far ?_ NB301_299.out _; refine blk_far ?_ NB301_299.out _; exact BK301.out) hb); replace HB := Aside0.mk (below_step (by repeat first | exact HB.out | refine bxSet ?_ (by assumption) | apply below_alloc | apply pw_below_drewN) hb); (try clear ho1)) | ((with_reducible refine gate_dst (N := 6) rfl ?_); refine box_event ?hg (N := 6) ?hd (cs := #[.bool false, .slice none 0 0]) (t := 24) ?hr ?_; (case hd => rfl); (case hg => rfl); (case hr => first | (go_simp; done) | (go_simp; rfl)); intro gb320 hg w28 hbox hb; replace HO306 := Aside0.mk (Kd.R_below HO306.out hb); replace HO310 := Aside0.mk (Kd.R_below HO310.out hb); replace HO314 := Aside0.mk (Kd.R_below HO314.out hb); replace HO318 := Aside0.mk (Kd.R_below HO318.out hb); have BK320 := Aside0.mk (hbox); have GW320 := Aside0.mk (bxLe HB.out hg); have GE320 := GW320; replace HB := Aside0.mk (below_step HB.out hb); have NB299_320 := Aside0.mk (neL BK299.out hg); have NB320_299 := Aside0.mk (neR BK299.out hg); replace BK299 := Aside0.mk (blk_below BK299.out hb); have NB300_320 := Aside0.mk (neL BK300.out hg); have NB320_300 := Aside0.mk (neR BK300.out hg); replace BK300 := Aside0.mk (blk_below BK300.out hb); have NB301_320 := Aside0.mk (neL BK301.out hg); have NB320_301 := Aside0.mk (neR BK301.out hg); replace BK301 := Aside0.mk (blk_below BK301.out hb); clear hb hbox hg) | ((with_reducible refine gate_dst (N := 7) rfl ?_); refine box_event ?hg (N := 7) ?hd (cs := #[.bool false, .slice none 0 0]) (t := 24) ?hr ?_; (case hd => rfl); (case hg => rfl); (case hr => first | (go_simp; done) | (go_simp; rfl)); intro gb321 hg w29 hbox hb; replace HO306 := Aside0.mk (Kd.R_below HO306.out hb); replace HO310 := Aside0.mk (Kd.R_below HO310.out hb); replace HO314 := Aside0.mk (Kd.R_below HO314.out hb); replace HO318 := Aside0.mk (Kd.R_below HO318.out hb); have BK321 := Aside0.mk (hbox); have GW321 := Aside0.mk (bxLe HB.out hg); have GE321 := GW321; replace HB := Aside0.mk (below_step HB.out hb); have NB299_321 := Aside0.mk (neL BK299.out hg); have NB321_299 := Aside0.mk (neR BK299.out hg); replace BK299 := Aside0.mk (blk_below BK299.out hb); have NB300_321 := Aside0.mk (neL BK300.out hg); have NB321_300 := Aside0.mk (neR BK300.out hg); replace BK300 := Aside0.mk (blk_below BK300.out hb); have NB301_321 := Aside0.mk (neL BK301.out hg); have NB321_301 := Aside0.mk (neR BK301.out hg); replace BK301 := Aside0.mk (blk_below BK301.out hb); have NB320_321 := Aside0.mk (neL BK320.out hg); have NB321_320 := Aside0.mk (neR BK320.out hg); replace BK320 := Aside0.mk (blk_below BK320.out hb); clear hb hbox hg; have hnb30 := NB320_299.out; have hnc30 := NB299_320.out; have hnb31 := NB320_300.out; have hnc31 := NB300_320.out; have hnb32 := NB320_301.out; have hnc32 := NB301_320.out; have hnb33 := NB320_321.out; have hnc33 := NB321_320.out; have hcz34_0 := bc0 BK320.out; have hcz34_1 := bc1 BK320.out; have hfz34_0 := blk_frozen BK320.out 0; have hfz34_1 := blk_frozen BK320.out 1; obtain ⟨Ao35, co35, eo35⟩ := Kd.R_slice HO314.out; subst eo35; have hnb36 := NB321_299.out; have hnc36 := NB299_321.out; have hnb37 := NB321_300.out; have hnc37 := NB300_321.out; have hnb38 := NB321_301.out; have hnc38 := NB301_321.out; have hcz39_0 := bc0 BK321.out; have hcz39_1 := bc1 BK321.out; have hfz39_0 := blk_frozen BK321.out 0; have hfz39_1 := blk_frozen BK321.out 1; obtain ⟨Ao40, co40, eo40⟩ := Kd.R_slice HO318.out; subst eo40; have hcz41_0 := bc0 BK301.out; have hcz41_1 := bc1 BK301.out; have hfz41_0 := blk_frozen BK301.out 0; have hfz41_1 := blk_frozen BK301.out 1))
  refine bodyPost_ret (results_ct rfl _ _ gb301 24 #[.bool t311, .slice Ao35 t312.length co35] (0, 0) _ rfl (by refine blk_put (cs := #[.bool t311, .slice none 0 0]) ?_ 1 _ rfl; refine blk_put (cs := #[.bool false, .slice none 0 0]) ?_ 0 _ rfl; refine blk_far ?_ NB301_321.out _; refine blk_far ?_ NB301_321.out _; refine blk_far ?_ NB301_320.out _; refine blk_far ?_ NB301_320.out _; exact BK301.out) Tryd.underlying24 rfl (by kernel_rfl)) rfl ?_
  exact ⟨_, by first | rfl | (simp [errW_none, errW_some] <;> rfl) | (simp [*, errW_none, errW_some] <;> rfl), by (with_reducible repeat (first | apply Kd.R_alloc | apply Kd.R_drewN | apply Kd.R_drew)); exact Kd.R_mono (Kd.R_far (p := ⟨gb301, 1, none⟩) (Kd.R_far (p := ⟨gb301, 0, none⟩) (Kd.R_far (p := ⟨gb321, 1, none⟩) (Kd.R_far (p := ⟨gb321, 0, none⟩) (Kd.R_far (p := ⟨gb320, 1, none⟩) (Kd.R_far (p := ⟨gb320, 0, none⟩) (Kd.R_types (Kd.R_types (Kd.R_types HO314.out BK320.out (by decide)) BK321.out (by decide)) BK301.out (by decide)) (fun _ hk => hk.1.1.2) (.bool t311)) (fun _ hk => hk.1.1.2) (.slice Ao35 t312.length co35)) (fun _ hk => hk.1.2) (.bool t315)) (fun _ hk => hk.1.2) (.slice Ao40 t316.length co40)) (fun _ hk => hk.2) (.bool t311)) (fun _ hk => hk.2) (.slice Ao35 t312.length co35)) (fun _ hk => trivial), by repeat (first | (with_reducible first | exact HB.out | apply below_alloc | apply pw_below_drewN | apply below_drew1 | refine below_set ?_ GE299.out | refine below_set ?_ GE300.out | refine below_set ?_ GE301.out | refine below_set ?_ GE320.out | refine below_set ?_ GE321.out) | exact HB.out)⟩
 ·rw [if_neg c4] at H
  have c4b0 : decide (t302 < 0) = false := decide_eq_false c4
  clear c4
  replace H := Option.bind_eq_some_iff.mp H
  obtain ⟨⟨t322, t323, t326, t327, t330⟩, A420, H⟩ := H
  replace H : (some (t322, t323, t330)) = some (r1, r2, r3) := H
  have A42 := Aside0.mk A420
  clear A420
  simp only [Option.some.injEq, Prod.mk.injEq] at H
  obtain ⟨rfl, rfl, rfl⟩ := H
  go_enter Tryd.func13, Tryd.ntmps13
  go_wp2_with (first | ((with_reducible refine gate_dst (N := 2) rfl ?_); refine box_event ?hg (N := 2) ?hd (cs := #[.bool a0_0, .slice A0_1 l0_1.length c0_1]) (t := 24) ?hr ?_; (case hd => rfl); (case hg => rfl); (case hr => first | (go_simp; done) | (go_simp; rfl)); intro gb299 hg w43 hbox hb; have BK299 := Aside0.mk (hbox); have GW299 := Aside0.mk (bxLe HB.out hg); have GE299 := GW299; replace HB := Aside0.mk (below_step HB.out hb); clear hb hbox hg) | ((with_reducible refine gate_dst (N := 3) rfl ?_); refine box_event ?hg (N := 3) ?hd (cs := #[.bool a1_0, .slice A1_1 l1_1.length c1_1]) (t := 24) ?hr ?_; (case hd => rfl); (case hg => rfl); (case hr => first | (go_simp; done) | (go_simp; rfl)); intro gb300 hg w44 hbox hb; have BK300 := Aside0.mk (hbox); have GW300 := Aside0.mk (bxLe HB.out hg); have GE300 := GW300; replace HB := Aside0.mk (below_step HB.out hb); have NB299_300 := Aside0.mk (neL BK299.out hg); have NB300_299 := Aside0.mk (neR BK299.out hg); replace BK299 := Aside0.mk (blk_below BK299.out hb); clear hb hbox hg) | ((with_reducible refine gate_dst (N := 4) rfl ?_); refine box_event ?hg (N := 4) ?hd (cs := #[.bool false, .slice none 0 0]) (t := 24) ?hr ?_; (case hd => rfl); (case hg => rfl); (case hr => first | (go_simp; done) | (go_simp; rfl)); intro gb301 hg w45 hbox hb; have BK301 := Aside0.mk (hbox); have GW301 := Aside0.mk (bxLe HB.out hg); have GE301 := GW301; replace HB := Aside0.mk (below_step HB.out hb); have NB299_301 := Aside0.mk (neL BK299.out hg); have NB301_299 := Aside0.mk (neR BK299.out hg); replace BK299 := Aside0.mk (blk_below BK299.out hb); have NB300_301 := Aside0.mk (neL BK300.out hg); have NB301_300 := Aside0.mk (neR BK300.out hg); replace BK300 := Aside0.mk (blk_below BK300.out hb); clear hb hbox hg; have hnb46 := NB300_299.out; have hnc46 := NB299_300.out; have hnb47 := NB300_301.out; have hnc47 := NB301_300.out; have hcz48_0 := bc0 BK300.out; have hcz48_1 := bc1 BK300.out; have hfz48_0 := blk_frozen BK300.out 0; have hfz48_1 := blk_frozen BK300.out 1) | ((with_reducible refine gate_callee (f := 28) rfl ?_); refine goL (some 10) Tryd.func28 [.agg #[.bool a1_0, .slice A1_1 l1_1.length c1_1]] ?_; (with_reducible refine (whole_Sign.calls a1_0 _ _ l1_1 t302 _ ?side1 ?side2 A3.out).mono ?_); (case side1 => exact (Kd.C_below HR1_1.out HB.out)); (case side2 => exact HC1_1.out); rintro e w49 ⟨rfl, hb⟩; refine ⟨_, rfl, ?_⟩; replace BK299 := Aside0.mk (blk_below BK299.out hb); replace BK300 := Aside0.mk (blk_below BK300.out hb); replace BK301 := Aside0.mk (blk_below BK301.out hb); replace HB := Aside0.mk (below_step HB.out hb); (try clear hb); (try clear hb2); (try clear hk); (try clear hi); have hnb50 := NB299_301.out; have hnc50 := NB301_299.out; have hcz51_0 := bc0 BK299.out; have hcz51_1 := bc1 BK299.out; have hfz51_0 := blk_frozen BK299.out 0; have hfz51_1 := blk_frozen BK299.out 1; have hcz52_0 := bc0 BK300.out; have hcz52_1 := bc1 BK300.out; have hfz52_0 := blk_frozen BK300.out 0; have hfz52_1 := blk_frozen BK300.out 1) | ((with_reducible refine gate_callee (f := 11) rfl ?_); refine goL (some 19) Tryd.func11 [.agg #[.bool a0_0, .slice A0_1 l0_1.length c0_1], .agg #[.bool a1_0, .slice A1_1 l1_1.length c1_1]] ?_; (with_reducible refine (whole_DivMod.calls k a0_0 _ _ l0_1 a1_0 _ _ l1_1 t322 t323 t326 t327 t330 _ ?side1 ?side2 ?side3 ?side4 A42.out).mono ?_); (case side1 => exact (Kd.C_below HR0_1.out HB.out)); (case side2 => exact HC0_1.out); (case side3 => exact (Kd.C_below HR1_1.out HB.out)); (case side4 => exact HC1_1.out); rintro e w53 ⟨v324, v328, rfl, ho0, ho1, hb⟩; refine ⟨_, rfl, ?_⟩; have HO325 := Aside0.mk (Kd.R_lower ho0 (below_size HB.out)); have HO329 := Aside0.mk (Kd.R_lower ho1 (below_size HB.out)); replace BK299 := Aside0.mk (blk_below BK299.out hb); replace BK300 := Aside0.mk (blk_below BK300.out hb); replace BK301 := Aside0.mk (blk_below BK301.out hb); replace HB := Aside0.mk (below_step HB.out hb); (try clear ho1)) | ((with_reducible refine gate_dst (N := 6) rfl ?_); refine box_event ?hg (N := 6) ?hd (cs := #[.bool false, .slice none 0 0]) (t := 24) ?hr ?_; (case hd => rfl); (case hg => rfl); (case hr => first | (go_simp; done) | (go_simp; rfl)); intro gb331 hg w54 hbox hb; replace HO325 := Aside0.mk (Kd.R_below HO325.out hb); replace HO329 := Aside0.mk (Kd.R_below HO329.out hb); have BK331 := Aside0.mk (hbox); have GW331 := Aside0.mk (bxLe HB.out hg); have GE331 := GW331; replace HB := Aside0.mk (below_step HB.out hb); have NB299_331 := Aside0.mk (neL BK299.out hg); have NB331_299 := Aside0.mk (neR BK299.out hg); replace BK299 := Aside0.mk (blk_below BK299.out hb); have NB300_331 := Aside0.mk (neL BK300.out hg); have NB331_300 := Aside0.mk (neR BK300.out hg); replace BK300 := Aside0.mk (blk_below BK300.out hb); have NB301_331 := Aside0.mk (neL BK301.out hg); have NB331_301 := Aside0.mk (neR BK301.out hg); replace BK301 := Aside0.mk (blk_below BK301.out hb); clear hb hbox hg) | ((with_reducible refine gate_dst (N := 7) rfl ?_); refine box_event ?hg (N := 7) ?hd (cs := #[.bool false, .slice none 0 0]) (t := 24) ?hr ?_; (case hd => rfl); (case hg => rfl); (case hr => first | (go_simp; done) | (go_simp; rfl)); intro gb332 hg w55 hbox hb; replace HO325 := Aside0.mk (Kd.R_below HO325.out hb); replace HO329 := Aside0.mk (Kd.R_below HO329.out hb); have BK332 := Aside0.mk (hbox); have GW332 := Aside0.mk (bxLe HB.out hg); have GE332 := GW332; replace HB := Aside0.mk (below_step HB.out hb); have NB299_332 := Aside0.mk (neL BK299.out hg); have NB332_299 := Aside0.mk (neR BK299.out hg); replace BK299 := Aside0.mk (blk_below BK299.out hb); have NB300_332 := Aside0.mk (neL BK300.out hg); have NB332_300 := Aside0.mk (neR BK300.out hg); replace BK300 := Aside0.mk (blk_below BK300.out hb); have NB301_332 := Aside0.mk (neL BK301.out hg); have NB332_301 := Aside0.mk (neR BK301.out hg); replace BK301 := Aside0.mk (blk_below BK301.out hb); have NB331_332 := Aside0.mk (neL BK331.out hg); have NB332_331 := Aside0.mk (neR BK331.out hg); replace BK331 := Aside0.mk (blk_below BK331.out hb); clear hb hbox hg; have hnb56 := NB331_299.out; have hnc56 := NB299_331.out; have hnb57 := NB331_300.out; have hnc57 := NB300_331.out; have hnb58 := NB331_301.out; have hnc58 := NB301_331.out; have hnb59 := NB331_332.out; have hnc59 := NB332_331.out; have hcz60_0 := bc0 BK331.out; have hcz60_1 := bc1 BK331.out; have hfz60_0 := blk_frozen BK331.out 0; have hfz60_1 := blk_frozen BK331.out 1; obtain ⟨Ao61, co61, eo61⟩ := Kd.R_slice HO325.out; subst eo61; have hnb62 := NB332_299.out; have hnc62 := NB299_332.out; have hnb63 := NB332_300.out; have hnc63 := NB300_332.out; have hnb64 := NB332_301.out; have hnc64 := NB301_332.out; have hcz65_0 := bc0 BK332.out; have hcz65_1 := bc1 BK332.out; have hfz65_0 := blk_frozen BK332.out 0; have hfz65_1 := blk_frozen BK332.out 1; obtain ⟨Ao66, co66, eo66⟩ := Kd.R_slice HO329.out; subst eo66; have hcz67_0 := bc0 BK301.out; have hcz67_1 := bc1 BK301.out; have hfz67_0 := blk_frozen BK301.out 0; have hfz67_1 := blk_frozen BK301.out 1))
  refine bodyPost_ret (results_ct rfl _ _ gb301 24 #[.bool t322, .slice Ao61 t323.length co61] (0, 0) _ rfl (by refine blk_put (cs := #[.bool t322, .slice none 0 0]) ?_ 1 _ rfl; refine blk_put (cs := #[.bool false, .slice none 0 0]) ?_ 0 _ rfl; refine blk_far ?_ NB301_332.out _; refine blk_far ?_ NB301_332.out _; refine blk_far ?_ NB301_331.out _; refine blk_far ?_ NB301_331.out _; exact BK301.out) Tryd.underlying24 rfl (by kernel_rfl)) rfl ?_
  exact ⟨_, by first | rfl | (simp [errW_none, errW_some] <;> rfl) | (simp [*, errW_none, errW_some] <;> rfl), by (with_reducible repeat (first | apply Kd.R_alloc | apply Kd.R_drewN | apply Kd.R_drew)); exact Kd.R_mono (Kd.R_far (p := ⟨gb301, 1, none⟩) (Kd.R_far (p := ⟨gb301, 0, none⟩) (Kd.R_far (p := ⟨gb332, 1, none⟩) (Kd.R_far (p := ⟨gb332, 0, none⟩) (Kd.R_far (p := ⟨gb331, 1, none⟩) (Kd.R_far (p := ⟨gb331, 0, none⟩) (Kd.R_types (Kd.R_types (Kd.R_types HO325.out BK331.out (by decide)) BK332.out (by decide)) BK301.out (by decide)) (fun _ hk => hk.1.1.2) (.bool t322)) (fun _ hk => hk.1.1.2) (.slice Ao61 t323.length co61)) (fun _ hk => hk.1.2) (.bool t326)) (fun _ hk => hk.1.2) (.slice Ao66 t327.length co66)) (fun _ hk => hk.2) (.bool t322)) (fun _ hk => hk.2) (.slice Ao61 t323.length co61)) (fun _ hk => trivial), by repeat (first | (with_reducible first | exact HB.out | apply below_alloc | apply pw_below_drewN | apply below_drew1 | refine below_set ?_ GE299.out | refine below_set ?_ GE300.out | refine below_set ?_ GE301.out | refine below_set ?_ GE331.out | refine below_set ?_ GE332.out) | exact HB.out)⟩

/-! ### whole_Of: function 32 -/
def whole_Of.f (a0 : Int) : Option (Bool × List Int) := if a0 < 0 then ((nat_Of.f (IntKind.u64.wrap (-(IntKind.u64.wrap (a0))))).bind fun t334 => ((whole_made.f true t334).bind fun bt337 => (some (bt337.1, bt337.2)))) else ((nat_Of.f (IntKind.u64.wrap (a0))).bind fun t341 => ((whole_made.f false t341).bind fun bt344 => (some (bt344.1, bt344.2))))
set_option maxHeartbeats 8000000 in
set_option maxRecDepth 100000 in
theorem whole_Of.calls (a0 : Int) (r1 : Bool) (r2 : List Int) (w : World) (h : whole_Of.f a0 = some (r1, r2)) :
  Calls Tryd.prog 32 #[.int .i64 a0] w fun e w' => ∃ v1_ : Value, e = .returned (.agg #[.bool r1, v1_]) ∧ Kd.R (Kd.int .u32) 51 w' w.heap.size (fun _ => True) v1_ r2 ∧ Below w.heap.size w w' := by
 have hu24 := Tryd.underlying24
 have HB := Aside0.mk (Below.refl w.heap.size w)
 have H : (if a0 < 0 then ((nat_Of.f (IntKind.u64.wrap (-(IntKind.u64.wrap (a0))))).bind fun t334 => ((whole_made.f true t334).bind fun bt337 => (some (bt337.1, bt337.2)))) else ((nat_Of.f (IntKind.u64.wrap (a0))).bind fun t341 => ((whole_made.f false t341).bind fun bt344 => (some (bt344.1, bt344.2))))) = some (r1, r2) := h
 clear h
 by_cases c2 : a0 < 0
 ·rw [if_pos c2] at H
  have c2b0 : decide (a0 < 0) = true := decide_eq_true c2
  clear c2
  replace H := Option.bind_eq_some_iff.mp H
  obtain ⟨t334, A30, H⟩ := H
  replace H : ((whole_made.f true t334).bind fun bt337 => (some (bt337.1, bt337.2))) = some (r1, r2) := H
  have A3 := Aside0.mk A30
  clear A30
  replace H := Option.bind_eq_some_iff.mp H
  obtain ⟨⟨t337, t338⟩, A40, H⟩ := H
  replace H : (some (t337, t338)) = some (r1, r2) := H
  have A4 := Aside0.mk A40
  clear A40
  simp only [Option.some.injEq, Prod.mk.injEq] at H
  obtain ⟨rfl, rfl⟩ := H
  go_enter Tryd.func32, Tryd.ntmps32
  go_wp2_with (first | ((with_reducible refine gate_dst (N := 2) rfl ?_); refine box_event ?hg (N := 2) ?hd (cs := #[.bool false, .slice none 0 0]) (t := 24) ?hr ?_; (case hd => rfl); (case hg => rfl); (case hr => first | (go_simp; done) | (go_simp; rfl)); intro gb333 hg w5 hbox hb; have BK333 := Aside0.mk (hbox); have GW333 := Aside0.mk (bxLe HB.out hg); have GE333 := GW333; replace HB := Aside0.mk (below_step HB.out hb); clear hb hbox hg) | ((with_reducible refine gate_callee (f := 54) rfl ?_); refine goL (some 8) Tryd.func54 [.int .u64 (IntKind.u64.wrap (-(IntKind.u64.wrap (a0))))] ?_; (with_reducible refine (nat_Of.calls (IntKind.u64.wrap (-(IntKind.u64.wrap (a0)))) t334 _ A3.out).mono ?_); rintro e w6 ⟨v335, rfl, ho0, hb⟩; refine ⟨_, rfl, ?_⟩; have HO336 := Aside0.mk (Kd.R_lower ho0 (below_size HB.out)); replace BK333 := Aside0.mk (blk_below BK333.out hb); replace HB := Aside0.mk (below_step HB.out hb); obtain ⟨Ao7, co7, eo7⟩ := Kd.R_slice HO336.out; subst eo7) | ((with_reducible refine gate_callee (f := 40) rfl ?_); refine goL (some 9) Tryd.func40 [.bool true, .slice Ao7 t334.length co7] ?_; (with_reducible refine (whole_made.calls true _ _ t334 t337 t338 _ ?side1 ?side2 A4.out).mono ?_); (case side1 => exact (Kd.R_reads' HO336.out).2.2); (case side2 => exact (Kd.R_reads' HO336.out).2.1); rintro e w8 ⟨v339, rfl, ho0, hb⟩; refine ⟨_, rfl, ?_⟩; have HO340 := Aside0.mk (Kd.R_lower (Kd.R_new' ho0 (Kd.R_lt HO336.out)) (below_size HB.out)); replace HO336 := Aside0.mk (Kd.R_elder' HO336.out (Kd.R_base ho0) hb); replace BK333 := Aside0.mk (blk_below BK333.out hb); replace HB := Aside0.mk (below_step HB.out hb); have hcz9_0 := bc0 BK333.out; have hcz9_1 := bc1 BK333.out; have hfz9_0 := blk_frozen BK333.out 0; have hfz9_1 := blk_frozen BK333.out 1; obtain ⟨Ao10, co10, eo10⟩ := Kd.R_slice HO340.out; subst eo10))
  refine bodyPost_ret (results_cell_row rfl _ _ gb333 24 #[.bool t337, .slice Ao10 t338.length co10] (0, 0) _ rfl (by refine blk_put (cs := #[.bool t337, .slice none 0 0]) ?_ 1 _ rfl; refine blk_put (cs := #[.bool false, .slice none 0 0]) ?_ 0 _ rfl; exact BK333.out) Tryd.underlying24 rfl (by kernel_rfl)) rfl ?_
  exact ⟨_, by first | rfl | (simp [errW_none, errW_some] <;> rfl) | (simp [*, errW_none, errW_some] <;> rfl), by (with_reducible repeat (first | apply Kd.R_alloc | apply Kd.R_drewN | apply Kd.R_drew)); exact Kd.R_mono (Kd.R_far (p := ⟨gb333, 1, none⟩) (Kd.R_far (p := ⟨gb333, 0, none⟩) (Kd.R_types HO340.out BK333.out (by decide)) (fun _ hk => hk.2) (.bool t337)) (fun _ hk => hk.2) (.slice Ao10 t338.length co10)) (fun _ hk => trivial), by repeat (first | (with_reducible first | exact HB.out | apply below_alloc | apply pw_below_drewN | apply below_drew1 | refine below_set ?_ GE333.out) | exact HB.out)⟩
 ·rw [if_neg c2] at H
  have c2b0 : decide (a0 < 0) = false := decide_eq_false c2
  clear c2
  replace H := Option.bind_eq_some_iff.mp H
  obtain ⟨t341, A110, H⟩ := H
  replace H : ((whole_made.f false t341).bind fun bt344 => (some (bt344.1, bt344.2))) = some (r1, r2) := H
  have A11 := Aside0.mk A110
  clear A110
  replace H := Option.bind_eq_some_iff.mp H
  obtain ⟨⟨t344, t345⟩, A120, H⟩ := H
  replace H : (some (t344, t345)) = some (r1, r2) := H
  have A12 := Aside0.mk A120
  clear A120
  simp only [Option.some.injEq, Prod.mk.injEq] at H
  obtain ⟨rfl, rfl⟩ := H
  go_enter Tryd.func32, Tryd.ntmps32
  go_wp2_with (first | ((with_reducible refine gate_dst (N := 2) rfl ?_); refine box_event ?hg (N := 2) ?hd (cs := #[.bool false, .slice none 0 0]) (t := 24) ?hr ?_; (case hd => rfl); (case hg => rfl); (case hr => first | (go_simp; done) | (go_simp; rfl)); intro gb333 hg w13 hbox hb; have BK333 := Aside0.mk (hbox); have GW333 := Aside0.mk (bxLe HB.out hg); have GE333 := GW333; replace HB := Aside0.mk (below_step HB.out hb); clear hb hbox hg) | ((with_reducible refine gate_callee (f := 54) rfl ?_); refine goL (some 12) Tryd.func54 [.int .u64 (IntKind.u64.wrap (a0))] ?_; (with_reducible refine (nat_Of.calls (IntKind.u64.wrap (a0)) t341 _ A11.out).mono ?_); rintro e w14 ⟨v342, rfl, ho0, hb⟩; refine ⟨_, rfl, ?_⟩; have HO343 := Aside0.mk (Kd.R_lower ho0 (below_size HB.out)); replace BK333 := Aside0.mk (blk_below BK333.out hb); replace HB := Aside0.mk (below_step HB.out hb); obtain ⟨Ao15, co15, eo15⟩ := Kd.R_slice HO343.out; subst eo15) | ((with_reducible refine gate_callee (f := 40) rfl ?_); refine goL (some 13) Tryd.func40 [.bool false, .slice Ao15 t341.length co15] ?_; (with_reducible refine (whole_made.calls false _ _ t341 t344 t345 _ ?side1 ?side2 A12.out).mono ?_); (case side1 => exact (Kd.R_reads' HO343.out).2.2); (case side2 => exact (Kd.R_reads' HO343.out).2.1); rintro e w16 ⟨v346, rfl, ho0, hb⟩; refine ⟨_, rfl, ?_⟩; have HO347 := Aside0.mk (Kd.R_lower (Kd.R_new' ho0 (Kd.R_lt HO343.out)) (below_size HB.out)); replace HO343 := Aside0.mk (Kd.R_elder' HO343.out (Kd.R_base ho0) hb); replace BK333 := Aside0.mk (blk_below BK333.out hb); replace HB := Aside0.mk (below_step HB.out hb); have hcz17_0 := bc0 BK333.out; have hcz17_1 := bc1 BK333.out; have hfz17_0 := blk_frozen BK333.out 0; have hfz17_1 := blk_frozen BK333.out 1; obtain ⟨Ao18, co18, eo18⟩ := Kd.R_slice HO347.out; subst eo18))
  refine bodyPost_ret (results_cell_row rfl _ _ gb333 24 #[.bool t344, .slice Ao18 t345.length co18] (0, 0) _ rfl (by refine blk_put (cs := #[.bool t344, .slice none 0 0]) ?_ 1 _ rfl; refine blk_put (cs := #[.bool false, .slice none 0 0]) ?_ 0 _ rfl; exact BK333.out) Tryd.underlying24 rfl (by kernel_rfl)) rfl ?_
  exact ⟨_, by first | rfl | (simp [errW_none, errW_some] <;> rfl) | (simp [*, errW_none, errW_some] <;> rfl), by (with_reducible repeat (first | apply Kd.R_alloc | apply Kd.R_drewN | apply Kd.R_drew)); exact Kd.R_mono (Kd.R_far (p := ⟨gb333, 1, none⟩) (Kd.R_far (p := ⟨gb333, 0, none⟩) (Kd.R_types HO347.out BK333.out (by decide)) (fun _ hk => hk.2) (.bool t344)) (fun _ hk => hk.2) (.slice Ao18 t345.length co18)) (fun _ hk => trivial), by repeat (first | (with_reducible first | exact HB.out | apply below_alloc | apply pw_below_drewN | apply below_drew1 | refine below_set ?_ GE333.out) | exact HB.out)⟩

/-! ### strings_trimLeftByte: function 84 -/
def strings_trimLeftByte.l0 : Nat → ByteArray → Int → Option (ByteArray)
 | 0, _, _ => none
 | k + 1, x0, x1 => if (x0.size : Int) > 0 then (if 0 < (x0.size : Int) then (if (bt x0 0) = x1 then (if 1 ≤ (x0.size : Int) then (strings_trimLeftByte.l0 k (x0.extract 1 x0.size) x1) else (none)) else (some x0)) else (none)) else (some x0)
def strings_trimLeftByte.f (k : Nat) (a0 : ByteArray) (a1 : Int) : Option (ByteArray) := strings_trimLeftByte.l0 k a0 a1
set_option maxHeartbeats 8000000 in
set_option maxRecDepth 100000 in
theorem strings_trimLeftByte.calls (k : Nat) (a0 : ByteArray) (a1 : Int) (r : ByteArray) (w : World) (h : strings_trimLeftByte.f k a0 a1 = some r) :
  Calls Tryd.prog 84 #[.string a0, .int .u8 a1] w fun e w' => e = .returned (.string r) ∧ Drawn0 w w' := by
 have H : (strings_trimLeftByte.l0 k a0 a1) = some r := h
 clear h
 have H' := Aside0.mk H
 clear H
 go_enter Tryd.func84, Tryd.ntmps84
 go_wp2
 go_loopg [0] k (fun kq v0 w' => ∃ (x0_1 : ByteArray), v0 = .string x0_1 ∧ Aside0 (strings_trimLeftByte.l0 kq x0_1 a1 = some r) ∧ Aside0 (kq ≤ k) ∧ Drawn0 w w')
 case atStart => exact ⟨(a0), (by first | rfl | (simp; done) | (simp [*]; done) | (refine congrArg (Value.int _) ?_; omega) | (refine congrArg Value.bool ?_; generalize ByteArray.toList _ = z_; cases z_ <;> rfl)), H', ⟨Nat.le_refl _⟩, by repeat (first | exact Drawn0.refl _ | apply Drawn0.step)⟩
 case round =>
  clear H'
  try clear p2
  obtain ⟨x0_1, rfl, HA, HK1, ⟨m1, rfl⟩⟩ := hrel
  cases gk with
  | zero => exact absurd HA.out (by simp [strings_trimLeftByte.l0])
  | succ k1 =>
   have H := HA.out
   clear HA
   simp only [strings_trimLeftByte.l0] at H
   by_cases c3 : (x0_1.size : Int) > 0
   ·rw [if_pos c3] at H
    have c3b0 : decide (0 < (x0_1.size : Int)) = true := decide_eq_true c3
    have c3b1 : decide (0 < x0_1.size) = true := decide_eq_true (by omega)
    clear c3
    by_cases c4 : 0 < (x0_1.size : Int)
    ·rw [if_pos c4] at H
     have c4b0 : decide (0 < (x0_1.size : Int)) = true := decide_eq_true c4
     have c4b1 : decide (0 < x0_1.size) = true := decide_eq_true (by omega)
     clear c4
     by_cases c6 : (bt x0_1 0) = a1
     ·rw [if_pos c6] at H
      have c6b0 : ((bt x0_1 0) == a1) = true := beq_iff_eq.mpr c6
      have c6b1 : ((bt x0_1 0) != a1) = false := bne_eq_false_iff_eq.mpr c6
      clear c6
      by_cases c7 : 1 ≤ (x0_1.size : Int)
      ·rw [if_pos c7] at H
       have c7b0 := eq_true c7
       have c7b1 : decide (1 ≤ (x0_1.size : Int)) = true := decide_eq_true c7
       clear c7
       have H' := Aside0.mk H
       clear H
       have p5 : 0 ≤ (0 : Int) := (by omega)
       have q5 : 0 < x0_1.size := (by have : (0 : Int) < (x0_1.size : Int) := of_decide_eq_true (by first | (with_reducible assumption) | assumption); omega)
       have hx5 : ∀ h : 0 < x0_1.size, ((x0_1[0]'h).toNat : Int) = bt x0_1 0 := bt_at x0_1 0
       clear p5
       have qi5 : (0 < (x0_1.size : Int)) = True := eq_true (of_decide_eq_true (by first | (with_reducible assumption) | assumption))
       replace q5 := eq_true q5
       go_wp2
       go_roundg k1
       case measure => have := HK1.out; omega
       case rel => exact ⟨(x0_1.extract 1 x0_1.size), (by first | rfl | (simp; done) | (simp [*]; done) | (refine congrArg (Value.int _) ?_; omega) | (refine congrArg Value.bool ?_; generalize ByteArray.toList _ = z_; cases z_ <;> rfl)), H', ⟨by have := HK1.out; omega⟩, by repeat (first | exact Drawn0.refl _ | apply Drawn0.step)⟩
      ·rw [if_neg c7] at H
       exact absurd H (by simp)
     ·rw [if_neg c6] at H
      have c6b0 : ((bt x0_1 0) == a1) = false := beq_eq_false_iff_ne.mpr c6
      have c6b1 : ((bt x0_1 0) != a1) = true := bne_iff_ne.mpr c6
      obtain rfl := Option.some.inj H
      have p5 : 0 ≤ (0 : Int) := (by omega)
      have q5 : 0 < x0_1.size := (by have : (0 : Int) < (x0_1.size : Int) := of_decide_eq_true (by first | (with_reducible assumption) | assumption); omega)
      have hx5 : ∀ h : 0 < x0_1.size, ((x0_1[0]'h).toNat : Int) = bt x0_1 0 := bt_at x0_1 0
      clear p5
      have qi5 : (0 < (x0_1.size : Int)) = True := eq_true (of_decide_eq_true (by first | (with_reducible assumption) | assumption))
      replace q5 := eq_true q5
      go_wp2
      go_ret
      exact ⟨by first | rfl | (simp; done) | (simp [*]; done) | (refine congrArg (fun z_ => Ending.returned (Value.bool z_)) ?_; generalize ByteArray.toList _ = z_; cases z_ <;> rfl) | (refine congrArg (Value.int _) ?_; omega) | (refine congrArg Value.bool ?_; generalize ByteArray.toList _ = z_; cases z_ <;> rfl), by repeat (first | exact Drawn0.refl _ | apply Drawn0.step)⟩
    ·rw [if_neg c4] at H
     exact absurd H (by simp)
   ·rw [if_neg c3] at H
    have c3b0 : decide (0 < (x0_1.size : Int)) = false := decide_eq_false c3
    have c3b1 : decide (0 < x0_1.size) = false := decide_eq_false (by omega)
    clear c3
    obtain rfl := Option.some.inj H
    go_wp2
    go_ret
    exact ⟨by first | rfl | (simp; done) | (simp [*]; done) | (refine congrArg (fun z_ => Ending.returned (Value.bool z_)) ?_; generalize ByteArray.toList _ = z_; cases z_ <;> rfl) | (refine congrArg (Value.int _) ?_; omega) | (refine congrArg Value.bool ?_; generalize ByteArray.toList _ = z_; cases z_ <;> rfl), by repeat (first | exact Drawn0.refl _ | apply Drawn0.step)⟩

end Go.Proofs.YthnfmmaolkenkaaDoor.PA
/- nat.nine, in the printed shape: nine digits. -/
namespace Go.Proofs.YthnfmmaolkenkaaDoor.H
open Go.RowKit Go.Proofs.YthnfmmaolkenkaaDoorW.PrintWords Go.Proofs.YthnfmmaolkenkaaDoorW.PrintLast

/-- The last digits of a number. -/
def nineL : Nat → Nat → List UInt8
  | 0, _ => []
  | k + 1, u => nineL k (u / 10) ++ [UInt8.ofNat (48 + u % 10)]
def nat_nine.f (n : Int) : Option ByteArray := if 0 ≤ n ∧ n < 18446744073709551616 then some ⟨(nineL 9 n.toNat).toArray⟩ else none
theorem len9 : Tryd.prog.arrayLen 86 = 9 := by kernel_rfl
theorem slice9 (g : Nat) (W : World) :
    (Instr.sliceAt 86 (.pointer (some ⟨g, 0, none⟩)) none none none).run Tryd.prog W = .ok (.slice (some ⟨g, 0, none⟩) 9 9) W := by
  have hs : ∀ w, (sizeOf (Tryd.prog.elem 86)).run Tryd.prog w = .ok 1 w := fun w => by kernel_rfl
  have hu : Tryd.prog.underlying 86 = some (.array (Tryd.prog.arrayLen 86) (Tryd.prog.elem 86)) := by kernel_rfl
  rw [run_sliceAt_array_all W 86 ⟨g, 0, none⟩ hu, hs]
  simp only [Result.andThen, slicedAt, len9]
  rfl
theorem conv9 (g : Nat) (L : List Int) (hL : L.length = 9) (W : World) (hb : W.heap[g]? = some (.cells (L.map (Value.int .u8)).toArray 86 (0, 0))) :
    (convert 77 9 (.slice (some ⟨g, 0, none⟩) 9 9)).run Tryd.prog W = .ok (.string (strOfNums L)) W := by
  refine Kd.C_string Tryd.underlying77 Tryd.underlying5 Tryd.underlying9 ?_
  refine ⟨by simp [hL], by omega, fun _ => ⟨_, rfl, fun i p hp => ⟨[.int .u8 p], rfl, rfl, fun q u hq => ?_⟩⟩⟩
  have hq0 : q = 0 := by
    rcases q with _ | q
    · rfl
    · simp at hq
  subst hq0
  have hu : Value.int .u8 p = u := by simpa using hq
  subst hu
  have e : (⟨g, 0, none⟩ : Addr).add (i * (Kd.int .u8).sz + 0) = ⟨g, i, none⟩ := by
    rw [add_plain]
    simp [Kd.int, Kd.scalar]
  rw [e, blk_cell hb]
  simp [hp]
set_option maxHeartbeats 1000000 in
set_option maxRecDepth 100000 in
theorem nat_nine.calls (a0 : Int) (r : ByteArray) (w : World) (h : nat_nine.f a0 = some r) :
    Calls Tryd.prog 76 #[.int .u64 a0] w fun e w' => e = .returned (.string r) ∧ Below w.heap.size w w' := by
  unfold nat_nine.f at h
  split at h
  case isFalse => cases h
  case isTrue hn =>
  obtain ⟨n, rfl⟩ : ∃ n : Nat, a0 = (n : Int) := ⟨a0.toNat, by omega⟩
  have HRES := Aside0.mk (Option.some.inj h)
  have hn64 : n < 18446744073709551616 := by omega
  clear h hn
  rw [Int.toNat_natCast] at HRES
  go_enter Tryd.func76, Tryd.ntmps76
  go_wp2
  have hz0 : (w.alloc (Obj.cells #[Value.int IntKind.u8 0, Value.int IntKind.u8 0, Value.int IntKind.u8 0, Value.int IntKind.u8 0, Value.int IntKind.u8 0, Value.int IntKind.u8 0, Value.int IntKind.u8 0, Value.int IntKind.u8 0, Value.int IntKind.u8 0] 86)).heap[w.heap.size]? = some (.cells ((List.replicate 9 (0 : Int)).map (Value.int .u8)).toArray 86 (0, 0)) := (heap_alloc_new w _).trans (by kernel_rfl)
  have HZ := Aside0.mk hz0
  clear hz0
  go_loopw [0, 4] (fun v0 v4 wr => ∃ (i : Int) (j u : Nat) (L : List Int), v0 = .int .u64 (u : Int) ∧ v4 = .int .i64 i ∧ Aside0 (i = (j : Int) - 1 ∧ j ≤ 9 ∧ u < 18446744073709551616) ∧ Aside0 (nineL j u ++ (L.drop j).map (fun x => UInt8.ofNat x.toNat) = nineL 9 n ∧ L.length = 9) ∧ Aside0 (wr.heap[w.heap.size]? = some (.cells (L.map (Value.int .u8)).toArray 86 (0, 0))) ∧ Aside0 (Below w.heap.size w wr)) (fun _ v4 _ => (intOf v4 + 1).toNat)
  case atStart => exact ⟨8, 9, n, List.replicate 9 0, rfl, rfl, ⟨rfl, by omega, hn64⟩, ⟨by simp, by simp⟩, HZ, ⟨below_alloc (Below.refl _ _) _⟩⟩
  case round =>
    obtain ⟨i, j, u, L, rfl, rfl, HA, HE, HH, HB⟩ := hrel
    obtain ⟨hi, hj, hu⟩ := HA.out
    have hL := HE.out.2
    cases j with
    | zero =>
      have e0 : decide (0 ≤ i) = false := decide_eq_false (by omega)
      have hsl := slice9 w.heap.size wr
      have hcv := conv9 w.heap.size L hL wr HH.out
      go_wp2
      go_ret
      refine ⟨?_, HB.out⟩
      have e : strOfNums L = r := by
        rw [← HRES.out, ← HE.out.1]
        rfl
      rw [e]
      rfl
    | succ j =>
      obtain rfl : i = (j : Int) := by omega
      have hcell : wr.cell? ⟨w.heap.size, j, none⟩ = some (.int .u8 (L.getD j 0)) := (blk_cell HH.out j).trans (by have hl : j < L.length := (by omega); simp [List.getElem?_eq_getElem hl])
      have hfro : wr.frozen? ⟨w.heap.size, j, none⟩ = false := blk_frozen HH.out j
      have hj8 : j ≤ 8 := by omega
      clear hi hj hL
      have hl9 := Aside0.mk HE.out.2
      have heq := Aside0.mk HE.out.1
      go_wp2
      refine ⟨⟨(j : Int) - 1, j, u / 10, L.set j (48 + (u : Int) % 10), by go_num, rfl, ⟨rfl, by omega, by omega⟩, ⟨?_, by rw [List.length_set]; exact hl9.out⟩, ⟨?_⟩, ⟨Below.setCell HB.out (Nat.le_refl _) _⟩⟩, by simp [intOf]⟩
      · rw [← heq.out]
        have hl : j < L.length := by have := hl9.out; omega
        have hd : (L.set j (48 + (u : Int) % 10)).drop j = (48 + (u : Int) % 10) :: L.drop (j + 1) := by
          rw [List.drop_eq_getElem_cons (by simpa using hl)]
          simp [List.drop_set_of_lt]
        rw [hd]
        simp only [nineL, List.map_cons, List.append_assoc, List.singleton_append]
        congr 3
      · refine (blk_set HH.out j _).trans ?_
        simp [List.map_set]
end Go.Proofs.YthnfmmaolkenkaaDoor.H
/- strings.TrimLeft of noughts, in the printed shape: the other ways of TrimLeft are not gone. -/
namespace Go.Proofs.YthnfmmaolkenkaaDoor.H
open Go.RowKit Go.Proofs.YthnfmmaolkenkaaDoorW.PrintWords Go.Proofs.YthnfmmaolkenkaaDoorW.PrintLast Go.Proofs.YthnfmmaolkenkaaDoor.PA

def strings_TrimLeft.f (k : Nat) (a0 a1 : ByteArray) : Option ByteArray := if a1 = ⟨#[48]⟩ then (if a0.toList = ([] : List UInt8) then some a0 else strings_trimLeftByte.f k a0 48) else none
set_option maxHeartbeats 1000000 in
set_option maxRecDepth 100000 in
theorem strings_TrimLeft.calls (k : Nat) (a0 : ByteArray) (a1 : ByteArray) (r : ByteArray) (w : World) (h : strings_TrimLeft.f k a0 a1 = some r) :
    Calls Tryd.prog 77 #[.string a0, .string a1] w fun e w' => e = .returned (.string r) ∧ Drawn0 w w' := by
  unfold strings_TrimLeft.f at h
  by_cases h1 : a1 = ⟨#[48]⟩
  · rw [if_pos h1] at h
    subst h1
    by_cases h2 : a0.toList = ([] : List UInt8)
    · rw [if_pos h2] at h
      obtain rfl := Option.some.inj h
      have e1 : (a0.toList == ([] : List UInt8)) = true := by rw [h2]; rfl
      go_enter Tryd.func77, Tryd.ntmps77
      go_wp2
      go_ret
      exact ⟨rfl, Drawn0.refl _⟩
    · rw [if_neg h2] at h
      have e1 : (a0.toList == ([] : List UInt8)) = false := by simpa using h2
      go_enter Tryd.func77, Tryd.ntmps77
      go_wp2_with (go_at_call 84; refine (strings_trimLeftByte.calls k a0 48 r _ h).mono ?_; rintro e w' ⟨rfl, hd⟩)
      go_ret
      exact ⟨rfl, hd⟩
  · rw [if_neg h1] at h; cases h
end Go.Proofs.YthnfmmaolkenkaaDoor.H
/- Written by a program of this session, wip/tools/patch_print.py, over the kit's print of the loaded functions. -/
namespace Go.Proofs.YthnfmmaolkenkaaDoor.H
end Go.Proofs.YthnfmmaolkenkaaDoor.H
namespace Go.Proofs.YthnfmmaolkenkaaDoor.PA
open Go.RowKit Go.Proofs.YthnfmmaolkenkaaDoorW.PrintWords Go.Proofs.YthnfmmaolkenkaaDoorW.PrintLast Go.Proofs.YthnfmmaolkenkaaDoorW.PrintMore Go.Proofs.YthnfmmaolkenkaaDoor.H
attribute [local go_sem] max2_int min2_int max_two min_two max_three min_three max_four min_four   -- for this text's walks alone
attribute [local go_sem] box_twice
set_option linter.unusedVariables false
set_option linter.unusedSimpArgs false

/-! ### nat_Text: function 58 -/
def nat_Text.l0 : Nat → List Int → ByteArray → Option (ByteArray)
 | 0, _, _ => none
 | k + 1, x0, x3 => if (x0.length : Int) > 0 then ((nat_small.f k x0 1000000000).bind fun bt351 => ((nat_nine.f bt351.2).bind fun t355 => (if t355.size + x3.size ≤ 9223372036854775807 then (nat_Text.l0 k bt351.1 (t355 ++ x3)) else (none)))) else ((strings_TrimLeft.f k x3 (⟨#[48]⟩ : ByteArray)).bind fun t356 => (if t356.toList = ([] : List UInt8) then (some (⟨#[48]⟩ : ByteArray)) else (some t356)))
def nat_Text.f (k : Nat) (l0 : List Int) : Option (ByteArray) := (nat_Norm.f l0).bind fun t348 => (nat_Text.l0 k t348 (⟨#[]⟩ : ByteArray))
set_option maxHeartbeats 8000000 in
set_option maxRecDepth 100000 in
theorem nat_Text.calls (k : Nat) (A0 : Option Addr) (c0 : Nat) (l0 : List Int) (r : ByteArray) (w : World) (hr0 : Kd.C (Kd.int .u32) w A0 l0.length l0) (hc0 : l0.length ≤ c0) (h : nat_Text.f k l0 = some r) :
  Calls Tryd.prog 58 #[.slice A0 l0.length c0] w fun e w' => e = .returned (.string r) ∧ Below w.heap.size w w' := by
 have HR0 := Aside0.mk hr0
 have HC0 := Aside0.mk hc0
 clear hr0 hc0
 have HB := Aside0.mk (Below.refl w.heap.size w)
 have H : ((nat_Norm.f l0).bind fun t348 => (nat_Text.l0 k t348 (⟨#[]⟩ : ByteArray))) = some r := h
 clear h
 obtain ⟨t348, A20, H⟩ := Option.bind_eq_some_iff.mp H
 try dsimp only at H
 have A2 := Aside0.mk A20
 clear A20
 have H' := Aside0.mk H
 clear H
 go_enter Tryd.func58, Tryd.ntmps58
 go_wp2_with (first | ((with_reducible refine gate_callee (f := 60) rfl ?_); refine goL (some 7) Tryd.func60 [.slice A0 l0.length c0] ?_; (with_reducible refine (nat_Norm.calls _ _ l0 t348 _ ?side1 ?side2 A2.out).mono ?_); (case side1 => exact HR0.out); (case side2 => exact HC0.out); rintro e w3 ⟨v349, rfl, ho0, hb⟩; refine ⟨_, rfl, ?_⟩; have HO350 := Aside0.mk (Kd.R_lower ho0 (below_size HB.out)); replace HB := Aside0.mk (below_step HB.out hb)))
 go_loopg [0, 3] k (fun kq v0 v3 w' => ∃ (x0_1 : List Int) (x3_1 : ByteArray), v3 = .string x3_1 ∧ Aside0 (nat_Text.l0 kq x0_1 x3_1 = some r) ∧ Aside0 (kq ≤ k) ∧ Aside0 (Kd.R (Kd.int .u32) 51 w' w.heap.size (fun _ => True) v0 x0_1) ∧ Aside0 (Below w.heap.size w w'))
 case atStart => exact ⟨(t348), ((⟨#[]⟩ : ByteArray)), (by first | rfl | (simp; done)), H', ⟨Nat.le_refl _⟩, ⟨HO350.out⟩, ⟨HB.out⟩⟩
 case round =>
  clear H'
  try clear p2
  obtain ⟨x0_1, x3_1, rfl, HA, HK1, HO_0, HB⟩ := hrel
  cases gk with
  | zero => exact absurd HA.out (by simp [nat_Text.l0])
  | succ k1 =>
   have H := HA.out
   clear HA
   simp only [nat_Text.l0] at H
   by_cases c4 : (x0_1.length : Int) > 0
   ·rw [if_pos c4] at H
    have c4b0 : decide (0 < (x0_1.length : Int)) = true := decide_eq_true c4
    have c4b1 : decide (0 < x0_1.length) = true := decide_eq_true (by omega)
    clear c4
    obtain ⟨⟨t351, t352⟩, A50, H⟩ := Option.bind_eq_some_iff.mp H
    try dsimp only at H
    have A5 := Aside0.mk A50
    clear A50
    obtain ⟨t355, A60, H⟩ := Option.bind_eq_some_iff.mp H
    try dsimp only at H
    have A6 := Aside0.mk A60
    clear A60
    by_cases c7 : t355.size + x3_1.size ≤ 9223372036854775807
    ·rw [if_pos c7] at H
     have c7b0 := eq_true c7
     have c7b1 : decide (t355.size + x3_1.size ≤ 9223372036854775807) = true := decide_eq_true c7
     try have c7b2 : (9223372036854775807 < t355.size + x3_1.size) = False := eq_false (Nat.not_lt.2 c7)
     have H' := Aside0.mk H
     clear H
     obtain ⟨Ao8, co8, eo8⟩ := Kd.R_slice HO_0.out
     subst eo8
     go_wp2_with (first | ((with_reducible refine gate_callee (f := 61) rfl ?_); refine goL (some 13) Tryd.func61 [.slice Ao8 x0_1.length co8, .int .u64 1000000000] ?_; (with_reducible refine (nat_small.calls k1 _ _ x0_1 1000000000 t351 t352 _ ?side1 ?side2 A5.out).mono ?_); (case side1 => exact (Kd.R_reads' HO_0.out).2.2); (case side2 => exact (Kd.R_reads' HO_0.out).2.1); rintro e w9 ⟨v353, rfl, ho0, hb⟩; refine ⟨_, rfl, ?_⟩; have HO354 := Aside0.mk (Kd.R_lower (Kd.R_new' ho0 (Kd.R_lt HO_0.out)) (below_size HB.out)); replace HB := Aside0.mk (below_step HB.out hb)) | ((with_reducible refine gate_callee (f := 76) rfl ?_); refine goL (some 17) Tryd.func76 [.int .u64 t352] ?_; (with_reducible refine (nat_nine.calls t352 t355 _ A6.out).mono ?_); rintro e w10 ⟨rfl, hb⟩; refine ⟨_, rfl, ?_⟩; replace HO354 := Aside0.mk (Kd.R_below HO354.out hb); replace HB := Aside0.mk (below_step HB.out hb); (try clear hb); (try clear hb2); (try clear hk); (try clear hi)))
     go_roundg k1
     case measure => have := HK1.out; omega
     case rel => exact ⟨(t351), (t355 ++ x3_1), (by first | rfl | (simp; done)), H', ⟨by have := HK1.out; omega⟩, ⟨Kd.R_mono HO354.out (fun _ hk => trivial)⟩, ⟨HB.out⟩⟩
    ·rw [if_neg c7] at H
     exact absurd H (by simp)
   ·rw [if_neg c4] at H
    have c4b0 : decide (0 < (x0_1.length : Int)) = false := decide_eq_false c4
    have c4b1 : decide (0 < x0_1.length) = false := decide_eq_false (by omega)
    clear c4
    obtain ⟨t356, A110, H⟩ := Option.bind_eq_some_iff.mp H
    try dsimp only at H
    have A11 := Aside0.mk A110
    clear A110
    by_cases c12 : t356.toList = ([] : List UInt8)
    ·rw [if_pos c12] at H
     have c12b0 : (t356.toList == ([] : List UInt8)) = true := beq_iff_eq.mpr c12
     have c12b1 : (t356.toList != ([] : List UInt8)) = false := bne_eq_false_iff_eq.mpr c12
     clear c12
     obtain rfl := Option.some.inj H
     obtain ⟨Ao13, co13, eo13⟩ := Kd.R_slice HO_0.out
     subst eo13
     go_wp2_with (first | ((with_reducible refine gate_callee (f := 77) rfl ?_); refine goL (some 22) Tryd.func77 [.string x3_1, .string (⟨#[48]⟩ : ByteArray)] ?_; (with_reducible refine (strings_TrimLeft.calls k1 x3_1 (⟨#[48]⟩ : ByteArray) t356 _ A11.out).mono ?_); rintro e w' ⟨rfl, ⟨nd, rfl⟩⟩; refine ⟨_, rfl, ?_⟩))
     go_ret
     exact ⟨by first | rfl | (simp [errW_none, errW_some] <;> rfl) | (refine congrArg (fun z_ => Ending.returned (Value.bool z_)) (decide_eq_decide.mpr ?_); unfold wrap64; omega) | (simp [*, errW_none, errW_some] <;> rfl), by repeat first | exact HB.out | refine bxSet ?_ (by assumption) | apply below_alloc | apply pw_below_drewN⟩
    ·rw [if_neg c12] at H
     have c12b0 : (t356.toList == ([] : List UInt8)) = false := beq_eq_false_iff_ne.mpr c12
     have c12b1 : (t356.toList != ([] : List UInt8)) = true := bne_iff_ne.mpr c12
     obtain rfl := Option.some.inj H
     obtain ⟨Ao14, co14, eo14⟩ := Kd.R_slice HO_0.out
     subst eo14
     go_wp2_with (first | ((with_reducible refine gate_callee (f := 77) rfl ?_); refine goL (some 22) Tryd.func77 [.string x3_1, .string (⟨#[48]⟩ : ByteArray)] ?_; (with_reducible refine (strings_TrimLeft.calls k1 x3_1 (⟨#[48]⟩ : ByteArray) t356 _ A11.out).mono ?_); rintro e w' ⟨rfl, ⟨nd, rfl⟩⟩; refine ⟨_, rfl, ?_⟩))
     go_ret
     exact ⟨by first | rfl | (simp [errW_none, errW_some] <;> rfl) | (refine congrArg (fun z_ => Ending.returned (Value.bool z_)) (decide_eq_decide.mpr ?_); unfold wrap64; omega) | (simp [*, errW_none, errW_some] <;> rfl), by repeat first | exact HB.out | refine bxSet ?_ (by assumption) | apply below_alloc | apply pw_below_drewN⟩

/-! ### whole_Text: function 36 -/
def whole_Text.f (k : Nat) (a0_0 : Bool) (l0_1 : List Int) : Option (ByteArray) := (whole_Norm.f a0_0 l0_1).bind fun bt358 => (if bt358.1 = true then ((nat_Text.f k bt358.2).bind fun t362 => (if 1 + t362.size ≤ 9223372036854775807 then (some ((⟨#[45]⟩ : ByteArray) ++ t362)) else (none))) else ((nat_Text.f k bt358.2).bind fun t363 => (some t363)))
set_option maxHeartbeats 8000000 in
set_option maxRecDepth 100000 in
theorem whole_Text.calls (k : Nat) (a0_0 : Bool) (A0_1 : Option Addr) (c0_1 : Nat) (l0_1 : List Int) (r : ByteArray) (w : World) (hr0_1 : Kd.C (Kd.int .u32) w A0_1 l0_1.length l0_1) (hc0_1 : l0_1.length ≤ c0_1) (h : whole_Text.f k a0_0 l0_1 = some r) :
  Calls Tryd.prog 36 #[.agg #[.bool a0_0, .slice A0_1 l0_1.length c0_1]] w fun e w' => e = .returned (.string r) ∧ Below w.heap.size w w' := by
 have hu24 := Tryd.underlying24
 have HR0_1 := Aside0.mk hr0_1
 have HC0_1 := Aside0.mk hc0_1
 clear hr0_1 hc0_1
 have HB := Aside0.mk (Below.refl w.heap.size w)
 have H : ((whole_Norm.f a0_0 l0_1).bind fun bt358 => (if bt358.1 = true then ((nat_Text.f k bt358.2).bind fun t362 => (if 1 + t362.size ≤ 9223372036854775807 then (some ((⟨#[45]⟩ : ByteArray) ++ t362)) else (none))) else ((nat_Text.f k bt358.2).bind fun t363 => (some t363)))) = some r := h
 clear h
 obtain ⟨⟨t358, t359⟩, A20, H⟩ := Option.bind_eq_some_iff.mp H
 try dsimp only at H
 have A2 := Aside0.mk A20
 clear A20
 by_cases c3 : t358 = true
 ·subst c3
  rw [if_pos rfl] at H
  obtain ⟨t362, A40, H⟩ := Option.bind_eq_some_iff.mp H
  try dsimp only at H
  have A4 := Aside0.mk A40
  clear A40
  by_cases c5 : 1 + t362.size ≤ 9223372036854775807
  ·rw [if_pos c5] at H
   have c5b0 := eq_true c5
   have c5b1 : decide (1 + t362.size ≤ 9223372036854775807) = true := decide_eq_true c5
   try have c5b2 : (9223372036854775807 < 1 + t362.size) = False := eq_false (Nat.not_lt.2 c5)
   obtain rfl := Option.some.inj H
   go_enter Tryd.func36, Tryd.ntmps36
   go_wp2_with (first | ((with_reducible refine gate_dst (N := 1) rfl ?_); refine box_event ?hg (N := 1) ?hd (cs := #[.bool a0_0, .slice A0_1 l0_1.length c0_1]) (t := 24) ?hr ?_; (case hd => rfl); (case hg => rfl); (case hr => first | (go_simp; done) | (go_simp; rfl)); intro gb357 hg w6 hbox hb; have BK357 := Aside0.mk (hbox); have GW357 := Aside0.mk (bxLe HB.out hg); have GE357 := GW357; replace HB := Aside0.mk (below_step HB.out hb); clear hb hbox hg; have hcz7_0 : w6.cell? ⟨gb357, 0, none⟩ = some (.bool a0_0) := bc0 BK357.out; have hcz7_1 : w6.cell? ⟨gb357, 1, none⟩ = some (.slice A0_1 l0_1.length c0_1) := bc1 BK357.out; have hfz7_0 := blk_frozen BK357.out 0; have hfz7_1 := blk_frozen BK357.out 1) | ((with_reducible refine gate_callee (f := 16) rfl ?_); refine goL (some 4) Tryd.func16 [.agg #[.bool a0_0, .slice A0_1 l0_1.length c0_1]] ?_; (with_reducible refine (whole_Norm.calls a0_0 _ _ l0_1 true t359 _ ?side1 ?side2 A2.out).mono ?_); (case side1 => exact (Kd.C_below HR0_1.out HB.out)); (case side2 => exact HC0_1.out); rintro e w8 ⟨v360, rfl, ho0, hb⟩; refine ⟨_, rfl, ?_⟩; have HO361 := Aside0.mk (Kd.R_lower ho0 (below_size HB.out)); replace BK357 := Aside0.mk (blk_below BK357.out hb); replace HB := Aside0.mk (below_step HB.out hb); have hcz9_0 : w8.cell? ⟨gb357, 0, none⟩ = some (.bool a0_0) := bc0 BK357.out; have hcz9_1 : w8.cell? ⟨gb357, 1, none⟩ = some (.slice A0_1 l0_1.length c0_1) := bc1 BK357.out; have hfz9_0 := blk_frozen BK357.out 0; have hfz9_1 := blk_frozen BK357.out 1; obtain ⟨Ao10, co10, eo10⟩ := Kd.R_slice HO361.out; subst eo10) | ((with_reducible refine gate_callee (f := 58) rfl ?_); refine goL (some 9) Tryd.func58 [.slice Ao10 t359.length co10] ?_; (with_reducible refine (nat_Text.calls k _ _ t359 t362 _ ?side1 ?side2 A4.out).mono ?_); (case side1 => refine (Kd.R_reads' (e := 51) (base := w.heap.size) (ok := fun k_ => True) (n := t359.length) (c := co10) ?_).2.2; exact (Kd.R_mono (Kd.R_far (p := ⟨gb357, 1, none⟩) (Kd.R_far (p := ⟨gb357, 0, none⟩) (Kd.R_types HO361.out BK357.out (by decide)) (fun _ hk => hk.2) (.bool true)) (fun _ hk => hk.2) (.slice Ao10 t359.length co10)) (fun _ h_ => h_.1))); (case side2 => exact (Kd.R_reads' HO361.out).2.1); rintro e w11 ⟨rfl, hb⟩; refine ⟨_, rfl, ?_⟩; replace HB := Aside0.mk (below_step (by repeat first | exact HB.out | refine bxSet ?_ (by assumption) | apply below_alloc | apply pw_below_drewN) hb); (try clear hb); (try clear hb2); (try clear hk); (try clear hi)))
   go_ret
   exact ⟨by first | rfl | (simp [errW_none, errW_some] <;> rfl) | (refine congrArg (fun z_ => Ending.returned (Value.bool z_)) (decide_eq_decide.mpr ?_); unfold wrap64; omega) | (simp [*, errW_none, errW_some] <;> rfl), HB.out⟩
  ·rw [if_neg c5] at H
   exact absurd H (by simp)
 ·replace c3 := Bool.eq_false_iff.mpr c3
  subst c3
  rw [if_neg (show ¬ (false = true) by decide)] at H
  obtain ⟨t363, A120, H⟩ := Option.bind_eq_some_iff.mp H
  try dsimp only at H
  have A12 := Aside0.mk A120
  clear A120
  obtain rfl := Option.some.inj H
  go_enter Tryd.func36, Tryd.ntmps36
  go_wp2_with (first | ((with_reducible refine gate_dst (N := 1) rfl ?_); refine box_event ?hg (N := 1) ?hd (cs := #[.bool a0_0, .slice A0_1 l0_1.length c0_1]) (t := 24) ?hr ?_; (case hd => rfl); (case hg => rfl); (case hr => first | (go_simp; done) | (go_simp; rfl)); intro gb357 hg w13 hbox hb; have BK357 := Aside0.mk (hbox); have GW357 := Aside0.mk (bxLe HB.out hg); have GE357 := GW357; replace HB := Aside0.mk (below_step HB.out hb); clear hb hbox hg; have hcz14_0 : w13.cell? ⟨gb357, 0, none⟩ = some (.bool a0_0) := bc0 BK357.out; have hcz14_1 : w13.cell? ⟨gb357, 1, none⟩ = some (.slice A0_1 l0_1.length c0_1) := bc1 BK357.out; have hfz14_0 := blk_frozen BK357.out 0; have hfz14_1 := blk_frozen BK357.out 1) | ((with_reducible refine gate_callee (f := 16) rfl ?_); refine goL (some 4) Tryd.func16 [.agg #[.bool a0_0, .slice A0_1 l0_1.length c0_1]] ?_; (with_reducible refine (whole_Norm.calls a0_0 _ _ l0_1 false t359 _ ?side1 ?side2 A2.out).mono ?_); (case side1 => exact (Kd.C_below HR0_1.out HB.out)); (case side2 => exact HC0_1.out); rintro e w15 ⟨v360, rfl, ho0, hb⟩; refine ⟨_, rfl, ?_⟩; have HO361 := Aside0.mk (Kd.R_lower ho0 (below_size HB.out)); replace BK357 := Aside0.mk (blk_below BK357.out hb); replace HB := Aside0.mk (below_step HB.out hb); have hcz16_0 : w15.cell? ⟨gb357, 0, none⟩ = some (.bool a0_0) := bc0 BK357.out; have hcz16_1 : w15.cell? ⟨gb357, 1, none⟩ = some (.slice A0_1 l0_1.length c0_1) := bc1 BK357.out; have hfz16_0 := blk_frozen BK357.out 0; have hfz16_1 := blk_frozen BK357.out 1; obtain ⟨Ao17, co17, eo17⟩ := Kd.R_slice HO361.out; subst eo17) | ((with_reducible refine gate_callee (f := 58) rfl ?_); refine goL (some 13) Tryd.func58 [.slice Ao17 t359.length co17] ?_; (with_reducible refine (nat_Text.calls k _ _ t359 t363 _ ?side1 ?side2 A12.out).mono ?_); (case side1 => refine (Kd.R_reads' (e := 51) (base := w.heap.size) (ok := fun k_ => True) (n := t359.length) (c := co17) ?_).2.2; exact (Kd.R_mono (Kd.R_far (p := ⟨gb357, 1, none⟩) (Kd.R_far (p := ⟨gb357, 0, none⟩) (Kd.R_types HO361.out BK357.out (by decide)) (fun _ hk => hk.2) (.bool false)) (fun _ hk => hk.2) (.slice Ao17 t359.length co17)) (fun _ h_ => h_.1))); (case side2 => exact (Kd.R_reads' HO361.out).2.1); rintro e w18 ⟨rfl, hb⟩; refine ⟨_, rfl, ?_⟩; replace HB := Aside0.mk (below_step (by repeat first | exact HB.out | refine bxSet ?_ (by assumption) | apply below_alloc | apply pw_below_drewN) hb); (try clear hb); (try clear hb2); (try clear hk); (try clear hi)))
  go_ret
  exact ⟨by first | rfl | (simp [errW_none, errW_some] <;> rfl) | (refine congrArg (fun z_ => Ending.returned (Value.bool z_)) (decide_eq_decide.mpr ?_); unfold wrap64; omega) | (simp [*, errW_none, errW_some] <;> rfl), HB.out⟩

/-! ### gudgeonlaw02_awake: function 9 -/
def gudgeonlaw02_awake.f (k : Nat)  : Option (Bool) := (whole_Of.f (-7)).bind fun bt364 => ((whole_Of.f 2).bind fun bt368 => ((whole_DivMod.f k bt364.1 bt364.2 bt368.1 bt368.2).bind fun bt372 => ((whole_Of.f (-7)).bind fun bt383 => ((whole_Of.f (-2)).bind fun bt387 => ((whole_DivMod.f k bt383.1 bt383.2 bt387.1 bt387.2).bind fun bt391 => ((whole_Of.f 7).bind fun bt402 => ((whole_Of.f (-2)).bind fun bt406 => ((whole_Floor.f k bt402.1 bt402.2 bt406.1 bt406.2).bind fun bt410 => (if bt372.2.2.2.2 = 0 then (if bt391.2.2.2.2 = 0 then (if bt410.2.2 = 0 then ((whole_Text.f k bt372.1 bt372.2.1).bind fun t416 => (if t416.toList = ([45, 52] : List UInt8) then ((whole_Text.f k bt372.2.2.1 bt372.2.2.2.1).bind fun t417 => (if t417.toList = ([49] : List UInt8) then ((whole_Text.f k bt391.1 bt391.2.1).bind fun t418 => (if t418.toList = ([52] : List UInt8) then ((whole_Text.f k bt391.2.2.1 bt391.2.2.2.1).bind fun t419 => (if t419.toList = ([49] : List UInt8) then ((whole_Text.f k bt410.1 bt410.2.1).bind fun t420 => (some (t420.toList == ([45, 52] : List UInt8)))) else (none))) else (none))) else (none))) else (none))) else (none)) else (none)) else (none))))))))))
set_option maxHeartbeats 8000000 in
set_option maxRecDepth 100000 in
theorem gudgeonlaw02_awake.calls (k : Nat)  (r : Bool) (w : World) (h : gudgeonlaw02_awake.f k  = some r) :
  Calls Tryd.prog 9 #[] w fun e w' => e = .returned (.bool r) ∧ Below w.heap.size w w' := by
 have hu24 := Tryd.underlying24
 have HB := Aside0.mk (Below.refl w.heap.size w)
 have H : ((whole_Of.f (-7)).bind fun bt364 => ((whole_Of.f 2).bind fun bt368 => ((whole_DivMod.f k bt364.1 bt364.2 bt368.1 bt368.2).bind fun bt372 => ((whole_Of.f (-7)).bind fun bt383 => ((whole_Of.f (-2)).bind fun bt387 => ((whole_DivMod.f k bt383.1 bt383.2 bt387.1 bt387.2).bind fun bt391 => ((whole_Of.f 7).bind fun bt402 => ((whole_Of.f (-2)).bind fun bt406 => ((whole_Floor.f k bt402.1 bt402.2 bt406.1 bt406.2).bind fun bt410 => (if bt372.2.2.2.2 = 0 then (if bt391.2.2.2.2 = 0 then (if bt410.2.2 = 0 then ((whole_Text.f k bt372.1 bt372.2.1).bind fun t416 => (if t416.toList = ([45, 52] : List UInt8) then ((whole_Text.f k bt372.2.2.1 bt372.2.2.2.1).bind fun t417 => (if t417.toList = ([49] : List UInt8) then ((whole_Text.f k bt391.1 bt391.2.1).bind fun t418 => (if t418.toList = ([52] : List UInt8) then ((whole_Text.f k bt391.2.2.1 bt391.2.2.2.1).bind fun t419 => (if t419.toList = ([49] : List UInt8) then ((whole_Text.f k bt410.1 bt410.2.1).bind fun t420 => (some (t420.toList == ([45, 52] : List UInt8)))) else (none))) else (none))) else (none))) else (none))) else (none)) else (none)) else (none))))))))))) = some r := h
 clear h
 obtain ⟨⟨t364, t365⟩, A10, H⟩ := Option.bind_eq_some_iff.mp H
 try dsimp only at H
 have A1 := Aside0.mk A10
 clear A10
 obtain ⟨⟨t368, t369⟩, A20, H⟩ := Option.bind_eq_some_iff.mp H
 try dsimp only at H
 have A2 := Aside0.mk A20
 clear A20
 obtain ⟨⟨t372, t373, t376, t377, t380⟩, A30, H⟩ := Option.bind_eq_some_iff.mp H
 try dsimp only at H
 have A3 := Aside0.mk A30
 clear A30
 obtain ⟨⟨t383, t384⟩, A40, H⟩ := Option.bind_eq_some_iff.mp H
 try dsimp only at H
 have A4 := Aside0.mk A40
 clear A40
 obtain ⟨⟨t387, t388⟩, A50, H⟩ := Option.bind_eq_some_iff.mp H
 try dsimp only at H
 have A5 := Aside0.mk A50
 clear A50
 obtain ⟨⟨t391, t392, t395, t396, t399⟩, A60, H⟩ := Option.bind_eq_some_iff.mp H
 try dsimp only at H
 have A6 := Aside0.mk A60
 clear A60
 obtain ⟨⟨t402, t403⟩, A70, H⟩ := Option.bind_eq_some_iff.mp H
 try dsimp only at H
 have A7 := Aside0.mk A70
 clear A70
 obtain ⟨⟨t406, t407⟩, A80, H⟩ := Option.bind_eq_some_iff.mp H
 try dsimp only at H
 have A8 := Aside0.mk A80
 clear A80
 obtain ⟨⟨t410, t411, t414⟩, A90, H⟩ := Option.bind_eq_some_iff.mp H
 try dsimp only at H
 have A9 := Aside0.mk A90
 clear A90
 by_cases c10 : t380 = 0
 ·rw [if_pos c10] at H
  have c10b0 : (t380 == 0) = true := beq_iff_eq.mpr c10
  have c10b1 : (t380 != 0) = false := bne_eq_false_iff_eq.mpr c10
  clear c10
  by_cases c11 : t399 = 0
  ·rw [if_pos c11] at H
   have c11b0 : (t399 == 0) = true := beq_iff_eq.mpr c11
   have c11b1 : (t399 != 0) = false := bne_eq_false_iff_eq.mpr c11
   clear c11
   by_cases c12 : t414 = 0
   ·rw [if_pos c12] at H
    have c12b0 : (t414 == 0) = true := beq_iff_eq.mpr c12
    have c12b1 : (t414 != 0) = false := bne_eq_false_iff_eq.mpr c12
    clear c12
    obtain ⟨t416, A130, H⟩ := Option.bind_eq_some_iff.mp H
    try dsimp only at H
    have A13 := Aside0.mk A130
    clear A130
    by_cases c14 : t416.toList = ([45, 52] : List UInt8)
    ·rw [if_pos c14] at H
     have c14b0 : (t416.toList == ([45, 52] : List UInt8)) = true := beq_iff_eq.mpr c14
     have c14b1 : (t416.toList != ([45, 52] : List UInt8)) = false := bne_eq_false_iff_eq.mpr c14
     clear c14
     obtain ⟨t417, A150, H⟩ := Option.bind_eq_some_iff.mp H
     try dsimp only at H
     have A15 := Aside0.mk A150
     clear A150
     by_cases c16 : t417.toList = ([49] : List UInt8)
     ·rw [if_pos c16] at H
      have c16b0 : (t417.toList == ([49] : List UInt8)) = true := beq_iff_eq.mpr c16
      have c16b1 : (t417.toList != ([49] : List UInt8)) = false := bne_eq_false_iff_eq.mpr c16
      clear c16
      obtain ⟨t418, A170, H⟩ := Option.bind_eq_some_iff.mp H
      try dsimp only at H
      have A17 := Aside0.mk A170
      clear A170
      by_cases c18 : t418.toList = ([52] : List UInt8)
      ·rw [if_pos c18] at H
       have c18b0 : (t418.toList == ([52] : List UInt8)) = true := beq_iff_eq.mpr c18
       have c18b1 : (t418.toList != ([52] : List UInt8)) = false := bne_eq_false_iff_eq.mpr c18
       clear c18
       obtain ⟨t419, A190, H⟩ := Option.bind_eq_some_iff.mp H
       try dsimp only at H
       have A19 := Aside0.mk A190
       clear A190
       by_cases c20 : t419.toList = ([49] : List UInt8)
       ·rw [if_pos c20] at H
        have c20b0 : (t419.toList == ([49] : List UInt8)) = true := beq_iff_eq.mpr c20
        have c20b1 : (t419.toList != ([49] : List UInt8)) = false := bne_eq_false_iff_eq.mpr c20
        clear c20
        obtain ⟨t420, A210, H⟩ := Option.bind_eq_some_iff.mp H
        try dsimp only at H
        have A21 := Aside0.mk A210
        clear A210
        obtain rfl := Option.some.inj H
        go_enter Tryd.func9, Tryd.ntmps9
        go_wp2_with (first | ((with_reducible refine gate_callee (f := 32) rfl ?_); refine goL (some 10) Tryd.func32 [.int .i64 (-7)] ?_; (with_reducible refine (whole_Of.calls (-7) t364 t365 _ A1.out).mono ?_); rintro e w22 ⟨v366, rfl, ho0, hb⟩; refine ⟨_, rfl, ?_⟩; have HO367 := Aside0.mk (Kd.R_lower ho0 (below_size HB.out)); replace HB := Aside0.mk (below_step HB.out hb)) | ((with_reducible refine gate_callee (f := 32) rfl ?_); refine goL (some 11) Tryd.func32 [.int .i64 2] ?_; (with_reducible refine (whole_Of.calls 2 t368 t369 _ A2.out).mono ?_); rintro e w23 ⟨v370, rfl, ho0, hb⟩; refine ⟨_, rfl, ?_⟩; have HO371 := Aside0.mk (Kd.R_lower (Kd.R_new' ho0 (Kd.R_lt HO367.out)) (below_size HB.out)); replace HO367 := Aside0.mk (Kd.R_elder' HO367.out (Kd.R_base ho0) hb); replace HB := Aside0.mk (below_step HB.out hb); obtain ⟨Ao24, co24, eo24⟩ := Kd.R_slice HO367.out; subst eo24; obtain ⟨Ao25, co25, eo25⟩ := Kd.R_slice HO371.out; subst eo25) | ((with_reducible refine gate_callee (f := 11) rfl ?_); refine goL (some 12) Tryd.func11 [.agg #[.bool t364, .slice Ao24 t365.length co24], .agg #[.bool t368, .slice Ao25 t369.length co25]] ?_; (with_reducible refine (whole_DivMod.calls k t364 _ _ t365 t368 _ _ t369 t372 t373 t376 t377 t380 _ ?side1 ?side2 ?side3 ?side4 A3.out).mono ?_); (case side1 => exact (Kd.R_reads' HO367.out).2.2); (case side2 => exact (Kd.R_reads' HO367.out).2.1); (case side3 => exact (Kd.R_reads' HO371.out).2.2); (case side4 => exact (Kd.R_reads' HO371.out).2.1); rintro e w26 ⟨v374, v378, rfl, ho0, ho1, hb⟩; refine ⟨_, rfl, ?_⟩; have HO375 := Aside0.mk (Kd.R_lower (Kd.R_new' (Kd.R_new' ho0 (Kd.R_lt HO367.out)) (Kd.R_lt HO371.out)) (below_size HB.out)); have HO379 := Aside0.mk (Kd.R_lower (Kd.R_new' (Kd.R_new' ho1 (Kd.R_lt HO367.out)) (Kd.R_lt HO371.out)) (below_size HB.out)); replace HO367 := Aside0.mk (Kd.R_mono (Kd.R_told (Kd.R_told (Kd.R_old HO367.out hb) (Kd.R_base ho0)) (Kd.R_base ho1)) (fun _ h_ => h_.1)); replace HO371 := Aside0.mk (Kd.R_mono (Kd.R_told (Kd.R_told (Kd.R_old HO371.out hb) (Kd.R_base ho0)) (Kd.R_base ho1)) (fun _ h_ => h_.1)); replace HB := Aside0.mk (below_step HB.out hb); (try clear ho1)) | ((with_reducible refine gate_dst (N := 1) rfl ?_); refine box_event ?hg (N := 1) ?hd (cs := #[.bool false, .slice none 0 0]) (t := 24) ?hr ?_; (case hd => rfl); (case hg => rfl); (case hr => first | (go_simp; done) | (go_simp; rfl)); intro gb381 hg w27 hbox hb; replace HO367 := Aside0.mk (Kd.R_below HO367.out hb); replace HO371 := Aside0.mk (Kd.R_below HO371.out hb); replace HO375 := Aside0.mk (Kd.R_below HO375.out hb); replace HO379 := Aside0.mk (Kd.R_below HO379.out hb); have BK381 := Aside0.mk (hbox); have GW381 := Aside0.mk (bxLe HB.out hg); have GE381 := GW381; replace HB := Aside0.mk (below_step HB.out hb); clear hb hbox hg) | ((with_reducible refine gate_dst (N := 2) rfl ?_); refine box_event ?hg (N := 2) ?hd (cs := #[.bool false, .slice none 0 0]) (t := 24) ?hr ?_; (case hd => rfl); (case hg => rfl); (case hr => first | (go_simp; done) | (go_simp; rfl)); intro gb382 hg w28 hbox hb; replace HO367 := Aside0.mk (Kd.R_below HO367.out hb); replace HO371 := Aside0.mk (Kd.R_below HO371.out hb); replace HO375 := Aside0.mk (Kd.R_below HO375.out hb); replace HO379 := Aside0.mk (Kd.R_below HO379.out hb); have BK382 := Aside0.mk (hbox); have GW382 := Aside0.mk (bxLe HB.out hg); have GE382 := GW382; replace HB := Aside0.mk (below_step HB.out hb); have NB381_382 := Aside0.mk (neL BK381.out hg); have NB382_381 := Aside0.mk (neR BK381.out hg); replace BK381 := Aside0.mk (blk_below BK381.out hb); clear hb hbox hg; have hnb29 := NB381_382.out; have hnc29 := NB382_381.out; have hcz30_0 : w28.cell? ⟨gb381, 0, none⟩ = some (.bool false) := bc0 BK381.out; have hcz30_1 : w28.cell? ⟨gb381, 1, none⟩ = some (.slice none 0 0) := bc1 BK381.out; have hfz30_0 := blk_frozen BK381.out 0; have hfz30_1 := blk_frozen BK381.out 1; obtain ⟨Ao31, co31, eo31⟩ := Kd.R_slice HO375.out; subst eo31; have hcz32_0 : w28.cell? ⟨gb382, 0, none⟩ = some (.bool false) := bc0 BK382.out; have hcz32_1 : w28.cell? ⟨gb382, 1, none⟩ = some (.slice none 0 0) := bc1 BK382.out; have hfz32_0 := blk_frozen BK382.out 0; have hfz32_1 := blk_frozen BK382.out 1; obtain ⟨Ao33, co33, eo33⟩ := Kd.R_slice HO379.out; subst eo33) | ((with_reducible refine gate_callee (f := 32) rfl ?_); refine goL (some 17) Tryd.func32 [.int .i64 (-7)] ?_; (with_reducible refine (whole_Of.calls (-7) t383 t384 _ A4.out).mono ?_); rintro e w34 ⟨v385, rfl, ho0, hb⟩; refine ⟨_, rfl, ?_⟩; have HO386 := Aside0.mk (Kd.R_lower (Kd.R_new' (Kd.R_new' (Kd.R_new' (Kd.R_new' ho0 (Kd.R_lt (Kd.R_mono (Kd.R_mono (Kd.R_far (p := ⟨gb382, 1, none⟩) (Kd.R_far (p := ⟨gb382, 0, none⟩) (Kd.R_far (p := ⟨gb381, 1, none⟩) (Kd.R_far (p := ⟨gb381, 0, none⟩) (Kd.R_types (Kd.R_types HO367.out BK381.out (by decide)) BK382.out (by decide)) (fun _ hk => hk.1.2) (.bool t372)) (fun _ hk => hk.1.2) (.slice Ao31 t373.length co31)) (fun _ hk => hk.2) (.bool t376)) (fun _ hk => hk.2) (.slice Ao33 t377.length co33)) (fun _ h_ => h_.1)) (fun _ h_ => h_.1)))) (Kd.R_lt (Kd.R_mono (Kd.R_mono (Kd.R_far (p := ⟨gb382, 1, none⟩) (Kd.R_far (p := ⟨gb382, 0, none⟩) (Kd.R_far (p := ⟨gb381, 1, none⟩) (Kd.R_far (p := ⟨gb381, 0, none⟩) (Kd.R_types (Kd.R_types HO371.out BK381.out (by decide)) BK382.out (by decide)) (fun _ hk => hk.1.2) (.bool t372)) (fun _ hk => hk.1.2) (.slice Ao31 t373.length co31)) (fun _ hk => hk.2) (.bool t376)) (fun _ hk => hk.2) (.slice Ao33 t377.length co33)) (fun _ h_ => h_.1)) (fun _ h_ => h_.1)))) (Kd.R_lt (Kd.R_mono (Kd.R_mono (Kd.R_far (p := ⟨gb382, 1, none⟩) (Kd.R_far (p := ⟨gb382, 0, none⟩) (Kd.R_far (p := ⟨gb381, 1, none⟩) (Kd.R_far (p := ⟨gb381, 0, none⟩) (Kd.R_types (Kd.R_types HO375.out BK381.out (by decide)) BK382.out (by decide)) (fun _ hk => hk.1.2) (.bool t372)) (fun _ hk => hk.1.2) (.slice Ao31 t373.length co31)) (fun _ hk => hk.2) (.bool t376)) (fun _ hk => hk.2) (.slice Ao33 t377.length co33)) (fun _ h_ => h_.1)) (fun _ h_ => h_.1)))) (Kd.R_lt (Kd.R_mono (Kd.R_mono (Kd.R_far (p := ⟨gb382, 1, none⟩) (Kd.R_far (p := ⟨gb382, 0, none⟩) (Kd.R_far (p := ⟨gb381, 1, none⟩) (Kd.R_far (p := ⟨gb381, 0, none⟩) (Kd.R_types (Kd.R_types HO379.out BK381.out (by decide)) BK382.out (by decide)) (fun _ hk => hk.1.2) (.bool t372)) (fun _ hk => hk.1.2) (.slice Ao31 t373.length co31)) (fun _ hk => hk.2) (.bool t376)) (fun _ hk => hk.2) (.slice Ao33 t377.length co33)) (fun _ h_ => h_.1)) (fun _ h_ => h_.1)))) (below_size (by repeat first | exact HB.out | refine bxSet ?_ (by assumption) | apply below_alloc | apply pw_below_drewN))); replace HO367 := Aside0.mk (Kd.R_elder' (Kd.R_mono (Kd.R_mono (Kd.R_far (p := ⟨gb382, 1, none⟩) (Kd.R_far (p := ⟨gb382, 0, none⟩) (Kd.R_far (p := ⟨gb381, 1, none⟩) (Kd.R_far (p := ⟨gb381, 0, none⟩) (Kd.R_types (Kd.R_types HO367.out BK381.out (by decide)) BK382.out (by decide)) (fun _ hk => hk.1.2) (.bool t372)) (fun _ hk => hk.1.2) (.slice Ao31 t373.length co31)) (fun _ hk => hk.2) (.bool t376)) (fun _ hk => hk.2) (.slice Ao33 t377.length co33)) (fun _ h_ => h_.1)) (fun _ h_ => h_.1)) (Kd.R_base ho0) hb); replace HO371 := Aside0.mk (Kd.R_elder' (Kd.R_mono (Kd.R_mono (Kd.R_far (p := ⟨gb382, 1, none⟩) (Kd.R_far (p := ⟨gb382, 0, none⟩) (Kd.R_far (p := ⟨gb381, 1, none⟩) (Kd.R_far (p := ⟨gb381, 0, none⟩) (Kd.R_types (Kd.R_types HO371.out BK381.out (by decide)) BK382.out (by decide)) (fun _ hk => hk.1.2) (.bool t372)) (fun _ hk => hk.1.2) (.slice Ao31 t373.length co31)) (fun _ hk => hk.2) (.bool t376)) (fun _ hk => hk.2) (.slice Ao33 t377.length co33)) (fun _ h_ => h_.1)) (fun _ h_ => h_.1)) (Kd.R_base ho0) hb); replace HO375 := Aside0.mk (Kd.R_elder' (Kd.R_mono (Kd.R_mono (Kd.R_far (p := ⟨gb382, 1, none⟩) (Kd.R_far (p := ⟨gb382, 0, none⟩) (Kd.R_far (p := ⟨gb381, 1, none⟩) (Kd.R_far (p := ⟨gb381, 0, none⟩) (Kd.R_types (Kd.R_types HO375.out BK381.out (by decide)) BK382.out (by decide)) (fun _ hk => hk.1.2) (.bool t372)) (fun _ hk => hk.1.2) (.slice Ao31 t373.length co31)) (fun _ hk => hk.2) (.bool t376)) (fun _ hk => hk.2) (.slice Ao33 t377.length co33)) (fun _ h_ => h_.1)) (fun _ h_ => h_.1)) (Kd.R_base ho0) hb); replace HO379 := Aside0.mk (Kd.R_elder' (Kd.R_mono (Kd.R_mono (Kd.R_far (p := ⟨gb382, 1, none⟩) (Kd.R_far (p := ⟨gb382, 0, none⟩) (Kd.R_far (p := ⟨gb381, 1, none⟩) (Kd.R_far (p := ⟨gb381, 0, none⟩) (Kd.R_types (Kd.R_types HO379.out BK381.out (by decide)) BK382.out (by decide)) (fun _ hk => hk.1.2) (.bool t372)) (fun _ hk => hk.1.2) (.slice Ao31 t373.length co31)) (fun _ hk => hk.2) (.bool t376)) (fun _ hk => hk.2) (.slice Ao33 t377.length co33)) (fun _ h_ => h_.1)) (fun _ h_ => h_.1)) (Kd.R_base ho0) hb); replace BK381 := Aside0.mk (blk_below (g := gb381) (o := .cells #[.bool t372, .slice Ao31 t373.length co31] 24 (0, 0)) (by refine blk_far ?_ NB381_382.out _; refine blk_far ?_ NB381_382.out _; refine blk_put (cs := #[.bool t372, .slice none 0 0]) ?_ 1 _ rfl; refine blk_put (cs := #[.bool false, .slice none 0 0]) ?_ 0 _ rfl; exact BK381.out) hb); replace BK382 := Aside0.mk (blk_below (g := gb382) (o := .cells #[.bool t376, .slice Ao33 t377.length co33] 24 (0, 0)) (by refine blk_put (cs := #[.bool t376, .slice none 0 0]) ?_ 1 _ rfl; refine blk_put (cs := #[.bool false, .slice none 0 0]) ?_ 0 _ rfl; refine blk_far ?_ NB382_381.out _; refine blk_far ?_ NB382_381.out _; exact BK382.out) hb); replace HB := Aside0.mk (below_step (by repeat first | exact HB.out | refine bxSet ?_ (by assumption) | apply below_alloc | apply pw_below_drewN) hb)) | ((with_reducible refine gate_callee (f := 32) rfl ?_); refine goL (some 18) Tryd.func32 [.int .i64 (-2)] ?_; (with_reducible refine (whole_Of.calls (-2) t387 t388 _ A5.out).mono ?_); rintro e w35 ⟨v389, rfl, ho0, hb⟩; refine ⟨_, rfl, ?_⟩; have HO390 := Aside0.mk (Kd.R_lower (Kd.R_new' (Kd.R_new' (Kd.R_new' (Kd.R_new' (Kd.R_new' ho0 (Kd.R_lt HO367.out)) (Kd.R_lt HO371.out)) (Kd.R_lt HO375.out)) (Kd.R_lt HO379.out)) (Kd.R_lt HO386.out)) (below_size HB.out)); replace HO367 := Aside0.mk (Kd.R_elder' HO367.out (Kd.R_base ho0) hb); replace HO371 := Aside0.mk (Kd.R_elder' HO371.out (Kd.R_base ho0) hb); replace HO375 := Aside0.mk (Kd.R_elder' HO375.out (Kd.R_base ho0) hb); replace HO379 := Aside0.mk (Kd.R_elder' HO379.out (Kd.R_base ho0) hb); replace HO386 := Aside0.mk (Kd.R_elder' HO386.out (Kd.R_base ho0) hb); replace BK381 := Aside0.mk (blk_below BK381.out hb); replace BK382 := Aside0.mk (blk_below BK382.out hb); replace HB := Aside0.mk (below_step HB.out hb); obtain ⟨Ao36, co36, eo36⟩ := Kd.R_slice HO386.out; subst eo36; obtain ⟨Ao37, co37, eo37⟩ := Kd.R_slice HO390.out; subst eo37) | ((with_reducible refine gate_callee (f := 11) rfl ?_); refine goL (some 19) Tryd.func11 [.agg #[.bool t383, .slice Ao36 t384.length co36], .agg #[.bool t387, .slice Ao37 t388.length co37]] ?_; (with_reducible refine (whole_DivMod.calls k t383 _ _ t384 t387 _ _ t388 t391 t392 t395 t396 t399 _ ?side1 ?side2 ?side3 ?side4 A6.out).mono ?_); (case side1 => exact (Kd.R_reads' HO386.out).2.2); (case side2 => exact (Kd.R_reads' HO386.out).2.1); (case side3 => exact (Kd.R_reads' HO390.out).2.2); (case side4 => exact (Kd.R_reads' HO390.out).2.1); rintro e w38 ⟨v393, v397, rfl, ho0, ho1, hb⟩; refine ⟨_, rfl, ?_⟩; have HO394 := Aside0.mk (Kd.R_lower (Kd.R_new' (Kd.R_new' (Kd.R_new' (Kd.R_new' (Kd.R_new' (Kd.R_new' ho0 (Kd.R_lt HO367.out)) (Kd.R_lt HO371.out)) (Kd.R_lt HO375.out)) (Kd.R_lt HO379.out)) (Kd.R_lt HO386.out)) (Kd.R_lt HO390.out)) (below_size HB.out)); have HO398 := Aside0.mk (Kd.R_lower (Kd.R_new' (Kd.R_new' (Kd.R_new' (Kd.R_new' (Kd.R_new' (Kd.R_new' ho1 (Kd.R_lt HO367.out)) (Kd.R_lt HO371.out)) (Kd.R_lt HO375.out)) (Kd.R_lt HO379.out)) (Kd.R_lt HO386.out)) (Kd.R_lt HO390.out)) (below_size HB.out)); replace HO367 := Aside0.mk (Kd.R_mono (Kd.R_told (Kd.R_told (Kd.R_old HO367.out hb) (Kd.R_base ho0)) (Kd.R_base ho1)) (fun _ h_ => h_.1)); replace HO371 := Aside0.mk (Kd.R_mono (Kd.R_told (Kd.R_told (Kd.R_old HO371.out hb) (Kd.R_base ho0)) (Kd.R_base ho1)) (fun _ h_ => h_.1)); replace HO375 := Aside0.mk (Kd.R_mono (Kd.R_told (Kd.R_told (Kd.R_old HO375.out hb) (Kd.R_base ho0)) (Kd.R_base ho1)) (fun _ h_ => h_.1)); replace HO379 := Aside0.mk (Kd.R_mono (Kd.R_told (Kd.R_told (Kd.R_old HO379.out hb) (Kd.R_base ho0)) (Kd.R_base ho1)) (fun _ h_ => h_.1)); replace HO386 := Aside0.mk (Kd.R_mono (Kd.R_told (Kd.R_told (Kd.R_old HO386.out hb) (Kd.R_base ho0)) (Kd.R_base ho1)) (fun _ h_ => h_.1)); replace HO390 := Aside0.mk (Kd.R_mono (Kd.R_told (Kd.R_told (Kd.R_old HO390.out hb) (Kd.R_base ho0)) (Kd.R_base ho1)) (fun _ h_ => h_.1)); replace BK381 := Aside0.mk (blk_below BK381.out hb); replace BK382 := Aside0.mk (blk_below BK382.out hb); replace HB := Aside0.mk (below_step HB.out hb); (try clear ho1)) | ((with_reducible refine gate_dst (N := 4) rfl ?_); refine box_event ?hg (N := 4) ?hd (cs := #[.bool false, .slice none 0 0]) (t := 24) ?hr ?_; (case hd => rfl); (case hg => rfl); (case hr => first | (go_simp; done) | (go_simp; rfl)); intro gb400 hg w39 hbox hb; replace HO367 := Aside0.mk (Kd.R_below HO367.out hb); replace HO371 := Aside0.mk (Kd.R_below HO371.out hb); replace HO375 := Aside0.mk (Kd.R_below HO375.out hb); replace HO379 := Aside0.mk (Kd.R_below HO379.out hb); replace HO386 := Aside0.mk (Kd.R_below HO386.out hb); replace HO390 := Aside0.mk (Kd.R_below HO390.out hb); replace HO394 := Aside0.mk (Kd.R_below HO394.out hb); replace HO398 := Aside0.mk (Kd.R_below HO398.out hb); have BK400 := Aside0.mk (hbox); have GW400 := Aside0.mk (bxLe HB.out hg); have GE400 := GW400; replace HB := Aside0.mk (below_step HB.out hb); have NB381_400 := Aside0.mk (neL BK381.out hg); have NB400_381 := Aside0.mk (neR BK381.out hg); replace BK381 := Aside0.mk (blk_below BK381.out hb); have NB382_400 := Aside0.mk (neL BK382.out hg); have NB400_382 := Aside0.mk (neR BK382.out hg); replace BK382 := Aside0.mk (blk_below BK382.out hb); clear hb hbox hg) | ((with_reducible refine gate_dst (N := 5) rfl ?_); refine box_event ?hg (N := 5) ?hd (cs := #[.bool false, .slice none 0 0]) (t := 24) ?hr ?_; (case hd => rfl); (case hg => rfl); (case hr => first | (go_simp; done) | (go_simp; rfl)); intro gb401 hg w40 hbox hb; replace HO367 := Aside0.mk (Kd.R_below HO367.out hb); replace HO371 := Aside0.mk (Kd.R_below HO371.out hb); replace HO375 := Aside0.mk (Kd.R_below HO375.out hb); replace HO379 := Aside0.mk (Kd.R_below HO379.out hb); replace HO386 := Aside0.mk (Kd.R_below HO386.out hb); replace HO390 := Aside0.mk (Kd.R_below HO390.out hb); replace HO394 := Aside0.mk (Kd.R_below HO394.out hb); replace HO398 := Aside0.mk (Kd.R_below HO398.out hb); have BK401 := Aside0.mk (hbox); have GW401 := Aside0.mk (bxLe HB.out hg); have GE401 := GW401; replace HB := Aside0.mk (below_step HB.out hb); have NB381_401 := Aside0.mk (neL BK381.out hg); have NB401_381 := Aside0.mk (neR BK381.out hg); replace BK381 := Aside0.mk (blk_below BK381.out hb); have NB382_401 := Aside0.mk (neL BK382.out hg); have NB401_382 := Aside0.mk (neR BK382.out hg); replace BK382 := Aside0.mk (blk_below BK382.out hb); have NB400_401 := Aside0.mk (neL BK400.out hg); have NB401_400 := Aside0.mk (neR BK400.out hg); replace BK400 := Aside0.mk (blk_below BK400.out hb); clear hb hbox hg; have hnb41 := NB400_381.out; have hnc41 := NB381_400.out; have hnb42 := NB400_382.out; have hnc42 := NB382_400.out; have hnb43 := NB400_401.out; have hnc43 := NB401_400.out; have hcz44_0 : w40.cell? ⟨gb400, 0, none⟩ = some (.bool false) := bc0 BK400.out; have hcz44_1 : w40.cell? ⟨gb400, 1, none⟩ = some (.slice none 0 0) := bc1 BK400.out; have hfz44_0 := blk_frozen BK400.out 0; have hfz44_1 := blk_frozen BK400.out 1; obtain ⟨Ao45, co45, eo45⟩ := Kd.R_slice HO394.out; subst eo45; have hnb46 := NB401_381.out; have hnc46 := NB381_401.out; have hnb47 := NB401_382.out; have hnc47 := NB382_401.out; have hcz48_0 : w40.cell? ⟨gb401, 0, none⟩ = some (.bool false) := bc0 BK401.out; have hcz48_1 : w40.cell? ⟨gb401, 1, none⟩ = some (.slice none 0 0) := bc1 BK401.out; have hfz48_0 := blk_frozen BK401.out 0; have hfz48_1 := blk_frozen BK401.out 1; obtain ⟨Ao49, co49, eo49⟩ := Kd.R_slice HO398.out; subst eo49) | ((with_reducible refine gate_callee (f := 32) rfl ?_); refine goL (some 24) Tryd.func32 [.int .i64 7] ?_; (with_reducible refine (whole_Of.calls 7 t402 t403 _ A7.out).mono ?_); rintro e w50 ⟨v404, rfl, ho0, hb⟩; refine ⟨_, rfl, ?_⟩; have HO405 := Aside0.mk (Kd.R_lower (Kd.R_new' (Kd.R_new' (Kd.R_new' (Kd.R_new' (Kd.R_new' (Kd.R_new' (Kd.R_new' (Kd.R_new' ho0 (Kd.R_lt (Kd.R_mono (Kd.R_mono (Kd.R_far (p := ⟨gb401, 1, none⟩) (Kd.R_far (p := ⟨gb401, 0, none⟩) (Kd.R_far (p := ⟨gb400, 1, none⟩) (Kd.R_far (p := ⟨gb400, 0, none⟩) (Kd.R_types (Kd.R_types HO367.out BK400.out (by decide)) BK401.out (by decide)) (fun _ hk => hk.1.2) (.bool t391)) (fun _ hk => hk.1.2) (.slice Ao45 t392.length co45)) (fun _ hk => hk.2) (.bool t395)) (fun _ hk => hk.2) (.slice Ao49 t396.length co49)) (fun _ h_ => h_.1)) (fun _ h_ => h_.1)))) (Kd.R_lt (Kd.R_mono (Kd.R_mono (Kd.R_far (p := ⟨gb401, 1, none⟩) (Kd.R_far (p := ⟨gb401, 0, none⟩) (Kd.R_far (p := ⟨gb400, 1, none⟩) (Kd.R_far (p := ⟨gb400, 0, none⟩) (Kd.R_types (Kd.R_types HO371.out BK400.out (by decide)) BK401.out (by decide)) (fun _ hk => hk.1.2) (.bool t391)) (fun _ hk => hk.1.2) (.slice Ao45 t392.length co45)) (fun _ hk => hk.2) (.bool t395)) (fun _ hk => hk.2) (.slice Ao49 t396.length co49)) (fun _ h_ => h_.1)) (fun _ h_ => h_.1)))) (Kd.R_lt (Kd.R_mono (Kd.R_mono (Kd.R_far (p := ⟨gb401, 1, none⟩) (Kd.R_far (p := ⟨gb401, 0, none⟩) (Kd.R_far (p := ⟨gb400, 1, none⟩) (Kd.R_far (p := ⟨gb400, 0, none⟩) (Kd.R_types (Kd.R_types HO375.out BK400.out (by decide)) BK401.out (by decide)) (fun _ hk => hk.1.2) (.bool t391)) (fun _ hk => hk.1.2) (.slice Ao45 t392.length co45)) (fun _ hk => hk.2) (.bool t395)) (fun _ hk => hk.2) (.slice Ao49 t396.length co49)) (fun _ h_ => h_.1)) (fun _ h_ => h_.1)))) (Kd.R_lt (Kd.R_mono (Kd.R_mono (Kd.R_far (p := ⟨gb401, 1, none⟩) (Kd.R_far (p := ⟨gb401, 0, none⟩) (Kd.R_far (p := ⟨gb400, 1, none⟩) (Kd.R_far (p := ⟨gb400, 0, none⟩) (Kd.R_types (Kd.R_types HO379.out BK400.out (by decide)) BK401.out (by decide)) (fun _ hk => hk.1.2) (.bool t391)) (fun _ hk => hk.1.2) (.slice Ao45 t392.length co45)) (fun _ hk => hk.2) (.bool t395)) (fun _ hk => hk.2) (.slice Ao49 t396.length co49)) (fun _ h_ => h_.1)) (fun _ h_ => h_.1)))) (Kd.R_lt (Kd.R_mono (Kd.R_mono (Kd.R_far (p := ⟨gb401, 1, none⟩) (Kd.R_far (p := ⟨gb401, 0, none⟩) (Kd.R_far (p := ⟨gb400, 1, none⟩) (Kd.R_far (p := ⟨gb400, 0, none⟩) (Kd.R_types (Kd.R_types HO386.out BK400.out (by decide)) BK401.out (by decide)) (fun _ hk => hk.1.2) (.bool t391)) (fun _ hk => hk.1.2) (.slice Ao45 t392.length co45)) (fun _ hk => hk.2) (.bool t395)) (fun _ hk => hk.2) (.slice Ao49 t396.length co49)) (fun _ h_ => h_.1)) (fun _ h_ => h_.1)))) (Kd.R_lt (Kd.R_mono (Kd.R_mono (Kd.R_far (p := ⟨gb401, 1, none⟩) (Kd.R_far (p := ⟨gb401, 0, none⟩) (Kd.R_far (p := ⟨gb400, 1, none⟩) (Kd.R_far (p := ⟨gb400, 0, none⟩) (Kd.R_types (Kd.R_types HO390.out BK400.out (by decide)) BK401.out (by decide)) (fun _ hk => hk.1.2) (.bool t391)) (fun _ hk => hk.1.2) (.slice Ao45 t392.length co45)) (fun _ hk => hk.2) (.bool t395)) (fun _ hk => hk.2) (.slice Ao49 t396.length co49)) (fun _ h_ => h_.1)) (fun _ h_ => h_.1)))) (Kd.R_lt (Kd.R_mono (Kd.R_mono (Kd.R_far (p := ⟨gb401, 1, none⟩) (Kd.R_far (p := ⟨gb401, 0, none⟩) (Kd.R_far (p := ⟨gb400, 1, none⟩) (Kd.R_far (p := ⟨gb400, 0, none⟩) (Kd.R_types (Kd.R_types HO394.out BK400.out (by decide)) BK401.out (by decide)) (fun _ hk => hk.1.2) (.bool t391)) (fun _ hk => hk.1.2) (.slice Ao45 t392.length co45)) (fun _ hk => hk.2) (.bool t395)) (fun _ hk => hk.2) (.slice Ao49 t396.length co49)) (fun _ h_ => h_.1)) (fun _ h_ => h_.1)))) (Kd.R_lt (Kd.R_mono (Kd.R_mono (Kd.R_far (p := ⟨gb401, 1, none⟩) (Kd.R_far (p := ⟨gb401, 0, none⟩) (Kd.R_far (p := ⟨gb400, 1, none⟩) (Kd.R_far (p := ⟨gb400, 0, none⟩) (Kd.R_types (Kd.R_types HO398.out BK400.out (by decide)) BK401.out (by decide)) (fun _ hk => hk.1.2) (.bool t391)) (fun _ hk => hk.1.2) (.slice Ao45 t392.length co45)) (fun _ hk => hk.2) (.bool t395)) (fun _ hk => hk.2) (.slice Ao49 t396.length co49)) (fun _ h_ => h_.1)) (fun _ h_ => h_.1)))) (below_size (by repeat first | exact HB.out | refine bxSet ?_ (by assumption) | apply below_alloc | apply pw_below_drewN))); replace HO367 := Aside0.mk (Kd.R_elder' (Kd.R_mono (Kd.R_mono (Kd.R_far (p := ⟨gb401, 1, none⟩) (Kd.R_far (p := ⟨gb401, 0, none⟩) (Kd.R_far (p := ⟨gb400, 1, none⟩) (Kd.R_far (p := ⟨gb400, 0, none⟩) (Kd.R_types (Kd.R_types HO367.out BK400.out (by decide)) BK401.out (by decide)) (fun _ hk => hk.1.2) (.bool t391)) (fun _ hk => hk.1.2) (.slice Ao45 t392.length co45)) (fun _ hk => hk.2) (.bool t395)) (fun _ hk => hk.2) (.slice Ao49 t396.length co49)) (fun _ h_ => h_.1)) (fun _ h_ => h_.1)) (Kd.R_base ho0) hb); replace HO371 := Aside0.mk (Kd.R_elder' (Kd.R_mono (Kd.R_mono (Kd.R_far (p := ⟨gb401, 1, none⟩) (Kd.R_far (p := ⟨gb401, 0, none⟩) (Kd.R_far (p := ⟨gb400, 1, none⟩) (Kd.R_far (p := ⟨gb400, 0, none⟩) (Kd.R_types (Kd.R_types HO371.out BK400.out (by decide)) BK401.out (by decide)) (fun _ hk => hk.1.2) (.bool t391)) (fun _ hk => hk.1.2) (.slice Ao45 t392.length co45)) (fun _ hk => hk.2) (.bool t395)) (fun _ hk => hk.2) (.slice Ao49 t396.length co49)) (fun _ h_ => h_.1)) (fun _ h_ => h_.1)) (Kd.R_base ho0) hb); replace HO375 := Aside0.mk (Kd.R_elder' (Kd.R_mono (Kd.R_mono (Kd.R_far (p := ⟨gb401, 1, none⟩) (Kd.R_far (p := ⟨gb401, 0, none⟩) (Kd.R_far (p := ⟨gb400, 1, none⟩) (Kd.R_far (p := ⟨gb400, 0, none⟩) (Kd.R_types (Kd.R_types HO375.out BK400.out (by decide)) BK401.out (by decide)) (fun _ hk => hk.1.2) (.bool t391)) (fun _ hk => hk.1.2) (.slice Ao45 t392.length co45)) (fun _ hk => hk.2) (.bool t395)) (fun _ hk => hk.2) (.slice Ao49 t396.length co49)) (fun _ h_ => h_.1)) (fun _ h_ => h_.1)) (Kd.R_base ho0) hb); replace HO379 := Aside0.mk (Kd.R_elder' (Kd.R_mono (Kd.R_mono (Kd.R_far (p := ⟨gb401, 1, none⟩) (Kd.R_far (p := ⟨gb401, 0, none⟩) (Kd.R_far (p := ⟨gb400, 1, none⟩) (Kd.R_far (p := ⟨gb400, 0, none⟩) (Kd.R_types (Kd.R_types HO379.out BK400.out (by decide)) BK401.out (by decide)) (fun _ hk => hk.1.2) (.bool t391)) (fun _ hk => hk.1.2) (.slice Ao45 t392.length co45)) (fun _ hk => hk.2) (.bool t395)) (fun _ hk => hk.2) (.slice Ao49 t396.length co49)) (fun _ h_ => h_.1)) (fun _ h_ => h_.1)) (Kd.R_base ho0) hb); replace HO386 := Aside0.mk (Kd.R_elder' (Kd.R_mono (Kd.R_mono (Kd.R_far (p := ⟨gb401, 1, none⟩) (Kd.R_far (p := ⟨gb401, 0, none⟩) (Kd.R_far (p := ⟨gb400, 1, none⟩) (Kd.R_far (p := ⟨gb400, 0, none⟩) (Kd.R_types (Kd.R_types HO386.out BK400.out (by decide)) BK401.out (by decide)) (fun _ hk => hk.1.2) (.bool t391)) (fun _ hk => hk.1.2) (.slice Ao45 t392.length co45)) (fun _ hk => hk.2) (.bool t395)) (fun _ hk => hk.2) (.slice Ao49 t396.length co49)) (fun _ h_ => h_.1)) (fun _ h_ => h_.1)) (Kd.R_base ho0) hb); replace HO390 := Aside0.mk (Kd.R_elder' (Kd.R_mono (Kd.R_mono (Kd.R_far (p := ⟨gb401, 1, none⟩) (Kd.R_far (p := ⟨gb401, 0, none⟩) (Kd.R_far (p := ⟨gb400, 1, none⟩) (Kd.R_far (p := ⟨gb400, 0, none⟩) (Kd.R_types (Kd.R_types HO390.out BK400.out (by decide)) BK401.out (by decide)) (fun _ hk => hk.1.2) (.bool t391)) (fun _ hk => hk.1.2) (.slice Ao45 t392.length co45)) (fun _ hk => hk.2) (.bool t395)) (fun _ hk => hk.2) (.slice Ao49 t396.length co49)) (fun _ h_ => h_.1)) (fun _ h_ => h_.1)) (Kd.R_base ho0) hb); replace HO394 := Aside0.mk (Kd.R_elder' (Kd.R_mono (Kd.R_mono (Kd.R_far (p := ⟨gb401, 1, none⟩) (Kd.R_far (p := ⟨gb401, 0, none⟩) (Kd.R_far (p := ⟨gb400, 1, none⟩) (Kd.R_far (p := ⟨gb400, 0, none⟩) (Kd.R_types (Kd.R_types HO394.out BK400.out (by decide)) BK401.out (by decide)) (fun _ hk => hk.1.2) (.bool t391)) (fun _ hk => hk.1.2) (.slice Ao45 t392.length co45)) (fun _ hk => hk.2) (.bool t395)) (fun _ hk => hk.2) (.slice Ao49 t396.length co49)) (fun _ h_ => h_.1)) (fun _ h_ => h_.1)) (Kd.R_base ho0) hb); replace HO398 := Aside0.mk (Kd.R_elder' (Kd.R_mono (Kd.R_mono (Kd.R_far (p := ⟨gb401, 1, none⟩) (Kd.R_far (p := ⟨gb401, 0, none⟩) (Kd.R_far (p := ⟨gb400, 1, none⟩) (Kd.R_far (p := ⟨gb400, 0, none⟩) (Kd.R_types (Kd.R_types HO398.out BK400.out (by decide)) BK401.out (by decide)) (fun _ hk => hk.1.2) (.bool t391)) (fun _ hk => hk.1.2) (.slice Ao45 t392.length co45)) (fun _ hk => hk.2) (.bool t395)) (fun _ hk => hk.2) (.slice Ao49 t396.length co49)) (fun _ h_ => h_.1)) (fun _ h_ => h_.1)) (Kd.R_base ho0) hb); replace BK381 := Aside0.mk (blk_below (g := gb381) (o := .cells #[.bool t372, .slice Ao31 t373.length co31] 24 (0, 0)) (by refine blk_far ?_ NB381_401.out _; refine blk_far ?_ NB381_401.out _; refine blk_far ?_ NB381_400.out _; refine blk_far ?_ NB381_400.out _; exact BK381.out) hb); replace BK382 := Aside0.mk (blk_below (g := gb382) (o := .cells #[.bool t376, .slice Ao33 t377.length co33] 24 (0, 0)) (by refine blk_far ?_ NB382_401.out _; refine blk_far ?_ NB382_401.out _; refine blk_far ?_ NB382_400.out _; refine blk_far ?_ NB382_400.out _; exact BK382.out) hb); replace BK400 := Aside0.mk (blk_below (g := gb400) (o := .cells #[.bool t391, .slice Ao45 t392.length co45] 24 (0, 0)) (by refine blk_far ?_ NB400_401.out _; refine blk_far ?_ NB400_401.out _; refine blk_put (cs := #[.bool t391, .slice none 0 0]) ?_ 1 _ rfl; refine blk_put (cs := #[.bool false, .slice none 0 0]) ?_ 0 _ rfl; exact BK400.out) hb); replace BK401 := Aside0.mk (blk_below (g := gb401) (o := .cells #[.bool t395, .slice Ao49 t396.length co49] 24 (0, 0)) (by refine blk_put (cs := #[.bool t395, .slice none 0 0]) ?_ 1 _ rfl; refine blk_put (cs := #[.bool false, .slice none 0 0]) ?_ 0 _ rfl; refine blk_far ?_ NB401_400.out _; refine blk_far ?_ NB401_400.out _; exact BK401.out) hb); replace HB := Aside0.mk (below_step (by repeat first | exact HB.out | refine bxSet ?_ (by assumption) | apply below_alloc | apply pw_below_drewN) hb)) | ((with_reducible refine gate_callee (f := 32) rfl ?_); refine goL (some 25) Tryd.func32 [.int .i64 (-2)] ?_; (with_reducible refine (whole_Of.calls (-2) t406 t407 _ A8.out).mono ?_); rintro e w51 ⟨v408, rfl, ho0, hb⟩; refine ⟨_, rfl, ?_⟩; have HO409 := Aside0.mk (Kd.R_lower (Kd.R_new' (Kd.R_new' (Kd.R_new' (Kd.R_new' (Kd.R_new' (Kd.R_new' (Kd.R_new' (Kd.R_new' (Kd.R_new' ho0 (Kd.R_lt HO367.out)) (Kd.R_lt HO371.out)) (Kd.R_lt HO375.out)) (Kd.R_lt HO379.out)) (Kd.R_lt HO386.out)) (Kd.R_lt HO390.out)) (Kd.R_lt HO394.out)) (Kd.R_lt HO398.out)) (Kd.R_lt HO405.out)) (below_size HB.out)); replace HO367 := Aside0.mk (Kd.R_elder' HO367.out (Kd.R_base ho0) hb); replace HO371 := Aside0.mk (Kd.R_elder' HO371.out (Kd.R_base ho0) hb); replace HO375 := Aside0.mk (Kd.R_elder' HO375.out (Kd.R_base ho0) hb); replace HO379 := Aside0.mk (Kd.R_elder' HO379.out (Kd.R_base ho0) hb); replace HO386 := Aside0.mk (Kd.R_elder' HO386.out (Kd.R_base ho0) hb); replace HO390 := Aside0.mk (Kd.R_elder' HO390.out (Kd.R_base ho0) hb); replace HO394 := Aside0.mk (Kd.R_elder' HO394.out (Kd.R_base ho0) hb); replace HO398 := Aside0.mk (Kd.R_elder' HO398.out (Kd.R_base ho0) hb); replace HO405 := Aside0.mk (Kd.R_elder' HO405.out (Kd.R_base ho0) hb); replace BK381 := Aside0.mk (blk_below BK381.out hb); replace BK382 := Aside0.mk (blk_below BK382.out hb); replace BK400 := Aside0.mk (blk_below BK400.out hb); replace BK401 := Aside0.mk (blk_below BK401.out hb); replace HB := Aside0.mk (below_step HB.out hb); obtain ⟨Ao52, co52, eo52⟩ := Kd.R_slice HO405.out; subst eo52; obtain ⟨Ao53, co53, eo53⟩ := Kd.R_slice HO409.out; subst eo53) | ((with_reducible refine gate_callee (f := 13) rfl ?_); refine goL (some 26) Tryd.func13 [.agg #[.bool t402, .slice Ao52 t403.length co52], .agg #[.bool t406, .slice Ao53 t407.length co53]] ?_; (with_reducible refine (whole_Floor.calls k t402 _ _ t403 t406 _ _ t407 t410 t411 t414 _ ?side1 ?side2 ?side3 ?side4 A9.out).mono ?_); (case side1 => exact (Kd.R_reads' HO405.out).2.2); (case side2 => exact (Kd.R_reads' HO405.out).2.1); (case side3 => exact (Kd.R_reads' HO409.out).2.2); (case side4 => exact (Kd.R_reads' HO409.out).2.1); rintro e w54 ⟨v412, rfl, ho0, hb⟩; refine ⟨_, rfl, ?_⟩; have HO413 := Aside0.mk (Kd.R_lower (Kd.R_new' (Kd.R_new' (Kd.R_new' (Kd.R_new' (Kd.R_new' (Kd.R_new' (Kd.R_new' (Kd.R_new' (Kd.R_new' (Kd.R_new' ho0 (Kd.R_lt HO367.out)) (Kd.R_lt HO371.out)) (Kd.R_lt HO375.out)) (Kd.R_lt HO379.out)) (Kd.R_lt HO386.out)) (Kd.R_lt HO390.out)) (Kd.R_lt HO394.out)) (Kd.R_lt HO398.out)) (Kd.R_lt HO405.out)) (Kd.R_lt HO409.out)) (below_size HB.out)); replace HO367 := Aside0.mk (Kd.R_elder' HO367.out (Kd.R_base ho0) hb); replace HO371 := Aside0.mk (Kd.R_elder' HO371.out (Kd.R_base ho0) hb); replace HO375 := Aside0.mk (Kd.R_elder' HO375.out (Kd.R_base ho0) hb); replace HO379 := Aside0.mk (Kd.R_elder' HO379.out (Kd.R_base ho0) hb); replace HO386 := Aside0.mk (Kd.R_elder' HO386.out (Kd.R_base ho0) hb); replace HO390 := Aside0.mk (Kd.R_elder' HO390.out (Kd.R_base ho0) hb); replace HO394 := Aside0.mk (Kd.R_elder' HO394.out (Kd.R_base ho0) hb); replace HO398 := Aside0.mk (Kd.R_elder' HO398.out (Kd.R_base ho0) hb); replace HO405 := Aside0.mk (Kd.R_elder' HO405.out (Kd.R_base ho0) hb); replace HO409 := Aside0.mk (Kd.R_elder' HO409.out (Kd.R_base ho0) hb); replace BK381 := Aside0.mk (blk_below BK381.out hb); replace BK382 := Aside0.mk (blk_below BK382.out hb); replace BK400 := Aside0.mk (blk_below BK400.out hb); replace BK401 := Aside0.mk (blk_below BK401.out hb); replace HB := Aside0.mk (below_step HB.out hb)) | ((with_reducible refine gate_dst (N := 7) rfl ?_); refine box_event ?hg (N := 7) ?hd (cs := #[.bool false, .slice none 0 0]) (t := 24) ?hr ?_; (case hd => rfl); (case hg => rfl); (case hr => first | (go_simp; done) | (go_simp; rfl)); intro gb415 hg w55 hbox hb; replace HO367 := Aside0.mk (Kd.R_below HO367.out hb); replace HO371 := Aside0.mk (Kd.R_below HO371.out hb); replace HO375 := Aside0.mk (Kd.R_below HO375.out hb); replace HO379 := Aside0.mk (Kd.R_below HO379.out hb); replace HO386 := Aside0.mk (Kd.R_below HO386.out hb); replace HO390 := Aside0.mk (Kd.R_below HO390.out hb); replace HO394 := Aside0.mk (Kd.R_below HO394.out hb); replace HO398 := Aside0.mk (Kd.R_below HO398.out hb); replace HO405 := Aside0.mk (Kd.R_below HO405.out hb); replace HO409 := Aside0.mk (Kd.R_below HO409.out hb); replace HO413 := Aside0.mk (Kd.R_below HO413.out hb); have BK415 := Aside0.mk (hbox); have GW415 := Aside0.mk (bxLe HB.out hg); have GE415 := GW415; replace HB := Aside0.mk (below_step HB.out hb); have NB381_415 := Aside0.mk (neL BK381.out hg); have NB415_381 := Aside0.mk (neR BK381.out hg); replace BK381 := Aside0.mk (blk_below BK381.out hb); have NB382_415 := Aside0.mk (neL BK382.out hg); have NB415_382 := Aside0.mk (neR BK382.out hg); replace BK382 := Aside0.mk (blk_below BK382.out hb); have NB400_415 := Aside0.mk (neL BK400.out hg); have NB415_400 := Aside0.mk (neR BK400.out hg); replace BK400 := Aside0.mk (blk_below BK400.out hb); have NB401_415 := Aside0.mk (neL BK401.out hg); have NB415_401 := Aside0.mk (neR BK401.out hg); replace BK401 := Aside0.mk (blk_below BK401.out hb); clear hb hbox hg; have hnb56 := NB415_381.out; have hnc56 := NB381_415.out; have hnb57 := NB415_382.out; have hnc57 := NB382_415.out; have hnb58 := NB415_400.out; have hnc58 := NB400_415.out; have hnb59 := NB415_401.out; have hnc59 := NB401_415.out; have hcz60_0 : w55.cell? ⟨gb415, 0, none⟩ = some (.bool false) := bc0 BK415.out; have hcz60_1 : w55.cell? ⟨gb415, 1, none⟩ = some (.slice none 0 0) := bc1 BK415.out; have hfz60_0 := blk_frozen BK415.out 0; have hfz60_1 := blk_frozen BK415.out 1; obtain ⟨Ao61, co61, eo61⟩ := Kd.R_slice HO413.out; subst eo61; have hcz62_0 : w55.cell? ⟨gb381, 0, none⟩ = some (.bool t372) := bc0 BK381.out; have hcz62_1 : w55.cell? ⟨gb381, 1, none⟩ = some (.slice Ao31 t373.length co31) := bc1 BK381.out; have hfz62_0 := blk_frozen BK381.out 0; have hfz62_1 := blk_frozen BK381.out 1) | (go_at_call 36; (with_reducible refine (whole_Text.calls k t372 _ _ t373 t416 _ ?side1 ?side2 A13.out).mono ?_); (case side1 => refine (Kd.R_reads' (e := 51) (base := w.heap.size) (ok := fun k_ => (((((((((some k_ ≠ (.slice Ao33 t377.length co33 : Value).ownBlock ∧ some k_ ≠ (.slice Ao24 t365.length co24 : Value).ownBlock) ∧ some k_ ≠ (.slice Ao25 t369.length co25 : Value).ownBlock) ∧ some k_ ≠ (.slice Ao36 t384.length co36 : Value).ownBlock) ∧ some k_ ≠ (.slice Ao37 t388.length co37 : Value).ownBlock) ∧ some k_ ≠ (.slice Ao45 t392.length co45 : Value).ownBlock) ∧ some k_ ≠ (.slice Ao49 t396.length co49 : Value).ownBlock) ∧ some k_ ≠ (.slice Ao52 t403.length co52 : Value).ownBlock) ∧ some k_ ≠ (.slice Ao53 t407.length co53 : Value).ownBlock) ∧ some k_ ≠ (.slice Ao61 t411.length co61 : Value).ownBlock)) (n := t373.length) (c := co31) ?_).2.2; exact (Kd.R_mono (Kd.R_far (p := ⟨gb415, 1, none⟩) (Kd.R_far (p := ⟨gb415, 0, none⟩) (Kd.R_types HO375.out BK415.out (by decide)) (fun _ hk => hk.2) (.bool t410)) (fun _ hk => hk.2) (.slice Ao61 t411.length co61)) (fun _ h_ => h_.1))); (case side2 => exact (Kd.R_reads' HO375.out).2.1); rintro e w63 ⟨rfl, hb⟩; have n0_ := Aside0.mk (Kd.R_below (Kd.R_mono (Kd.R_far (p := ⟨gb415, 1, none⟩) (Kd.R_far (p := ⟨gb415, 0, none⟩) (Kd.R_types HO367.out BK415.out (by decide)) (fun _ hk => hk.2) (.bool t410)) (fun _ hk => hk.2) (.slice Ao61 t411.length co61)) (fun _ h_ => h_.1)) hb); have n1_ := Aside0.mk (Kd.R_below (Kd.R_mono (Kd.R_far (p := ⟨gb415, 1, none⟩) (Kd.R_far (p := ⟨gb415, 0, none⟩) (Kd.R_types HO371.out BK415.out (by decide)) (fun _ hk => hk.2) (.bool t410)) (fun _ hk => hk.2) (.slice Ao61 t411.length co61)) (fun _ h_ => h_.1)) hb); have n2_ := Aside0.mk (Kd.R_below (Kd.R_mono (Kd.R_far (p := ⟨gb415, 1, none⟩) (Kd.R_far (p := ⟨gb415, 0, none⟩) (Kd.R_types HO375.out BK415.out (by decide)) (fun _ hk => hk.2) (.bool t410)) (fun _ hk => hk.2) (.slice Ao61 t411.length co61)) (fun _ h_ => h_.1)) hb); have n3_ := Aside0.mk (Kd.R_below (Kd.R_mono (Kd.R_far (p := ⟨gb415, 1, none⟩) (Kd.R_far (p := ⟨gb415, 0, none⟩) (Kd.R_types HO379.out BK415.out (by decide)) (fun _ hk => hk.2) (.bool t410)) (fun _ hk => hk.2) (.slice Ao61 t411.length co61)) (fun _ h_ => h_.1)) hb); have n4_ := Aside0.mk (Kd.R_below (Kd.R_mono (Kd.R_far (p := ⟨gb415, 1, none⟩) (Kd.R_far (p := ⟨gb415, 0, none⟩) (Kd.R_types HO386.out BK415.out (by decide)) (fun _ hk => hk.2) (.bool t410)) (fun _ hk => hk.2) (.slice Ao61 t411.length co61)) (fun _ h_ => h_.1)) hb); have n5_ := Aside0.mk (Kd.R_below (Kd.R_mono (Kd.R_far (p := ⟨gb415, 1, none⟩) (Kd.R_far (p := ⟨gb415, 0, none⟩) (Kd.R_types HO390.out BK415.out (by decide)) (fun _ hk => hk.2) (.bool t410)) (fun _ hk => hk.2) (.slice Ao61 t411.length co61)) (fun _ h_ => h_.1)) hb); have n6_ := Aside0.mk (Kd.R_below (Kd.R_mono (Kd.R_far (p := ⟨gb415, 1, none⟩) (Kd.R_far (p := ⟨gb415, 0, none⟩) (Kd.R_types HO394.out BK415.out (by decide)) (fun _ hk => hk.2) (.bool t410)) (fun _ hk => hk.2) (.slice Ao61 t411.length co61)) (fun _ h_ => h_.1)) hb); have n7_ := Aside0.mk (Kd.R_below (Kd.R_mono (Kd.R_far (p := ⟨gb415, 1, none⟩) (Kd.R_far (p := ⟨gb415, 0, none⟩) (Kd.R_types HO398.out BK415.out (by decide)) (fun _ hk => hk.2) (.bool t410)) (fun _ hk => hk.2) (.slice Ao61 t411.length co61)) (fun _ h_ => h_.1)) hb); have n8_ := Aside0.mk (Kd.R_below (Kd.R_mono (Kd.R_far (p := ⟨gb415, 1, none⟩) (Kd.R_far (p := ⟨gb415, 0, none⟩) (Kd.R_types HO405.out BK415.out (by decide)) (fun _ hk => hk.2) (.bool t410)) (fun _ hk => hk.2) (.slice Ao61 t411.length co61)) (fun _ h_ => h_.1)) hb); have n9_ := Aside0.mk (Kd.R_below (Kd.R_mono (Kd.R_far (p := ⟨gb415, 1, none⟩) (Kd.R_far (p := ⟨gb415, 0, none⟩) (Kd.R_types HO409.out BK415.out (by decide)) (fun _ hk => hk.2) (.bool t410)) (fun _ hk => hk.2) (.slice Ao61 t411.length co61)) (fun _ h_ => h_.1)) hb); have n10_ := Aside0.mk (Kd.R_below (Kd.R_mono (Kd.R_far (p := ⟨gb415, 1, none⟩) (Kd.R_far (p := ⟨gb415, 0, none⟩) (Kd.R_types HO413.out BK415.out (by decide)) (fun _ hk => hk.2) (.bool t410)) (fun _ hk => hk.2) (.slice Ao61 t411.length co61)) (fun _ h_ => h_.1)) hb); have n11_ := Aside0.mk (blk_below (g := gb381) (o := .cells #[.bool t372, .slice Ao31 t373.length co31] 24 (0, 0)) (by refine blk_far ?_ NB381_415.out _; refine blk_far ?_ NB381_415.out _; exact BK381.out) hb); have n12_ := Aside0.mk (blk_below (g := gb382) (o := .cells #[.bool t376, .slice Ao33 t377.length co33] 24 (0, 0)) (by refine blk_far ?_ NB382_415.out _; refine blk_far ?_ NB382_415.out _; exact BK382.out) hb); have n13_ := Aside0.mk (blk_below (g := gb400) (o := .cells #[.bool t391, .slice Ao45 t392.length co45] 24 (0, 0)) (by refine blk_far ?_ NB400_415.out _; refine blk_far ?_ NB400_415.out _; exact BK400.out) hb); have n14_ := Aside0.mk (blk_below (g := gb401) (o := .cells #[.bool t395, .slice Ao49 t396.length co49] 24 (0, 0)) (by refine blk_far ?_ NB401_415.out _; refine blk_far ?_ NB401_415.out _; exact BK401.out) hb); have n15_ := Aside0.mk (blk_below (g := gb415) (o := .cells #[.bool t410, .slice Ao61 t411.length co61] 24 (0, 0)) (by refine blk_put (cs := #[.bool t410, .slice none 0 0]) ?_ 1 _ rfl; refine blk_put (cs := #[.bool false, .slice none 0 0]) ?_ 0 _ rfl; exact BK415.out) hb); have n16_ := Aside0.mk (below_step (by repeat first | exact HB.out | refine bxSet ?_ (by assumption) | apply below_alloc | apply pw_below_drewN) hb); clear HO367; clear HO371; clear HO375; clear HO379; clear HO386; clear HO390; clear HO394; clear HO398; clear HO405; clear HO409; clear HO413; clear BK381; clear BK382; clear BK400; clear BK401; clear BK415; clear HB; have HO367 := n0_; have HO371 := n1_; have HO375 := n2_; have HO379 := n3_; have HO386 := n4_; have HO390 := n5_; have HO394 := n6_; have HO398 := n7_; have HO405 := n8_; have HO409 := n9_; have HO413 := n10_; have BK381 := n11_; have BK382 := n12_; have BK400 := n13_; have BK401 := n14_; have BK415 := n15_; have HB := n16_; clear n0_ n1_ n2_ n3_ n4_ n5_ n6_ n7_ n8_ n9_ n10_ n11_ n12_ n13_ n14_ n15_ n16_; (try clear hb); (try clear hb2); (try clear hk); (try clear hi); have hcz64_0 : w63.cell? ⟨gb382, 0, none⟩ = some (.bool t376) := bc0 BK382.out; have hcz64_1 : w63.cell? ⟨gb382, 1, none⟩ = some (.slice Ao33 t377.length co33) := bc1 BK382.out; have hfz64_0 := blk_frozen BK382.out 0; have hfz64_1 := blk_frozen BK382.out 1) | (go_at_call 36; (with_reducible refine (whole_Text.calls k t376 _ _ t377 t417 _ ?side1 ?side2 A15.out).mono ?_); (case side1 => exact (Kd.R_reads' HO379.out).2.2); (case side2 => exact (Kd.R_reads' HO379.out).2.1); rintro e w65 ⟨rfl, hb⟩; have n0_ := Aside0.mk (Kd.R_below HO367.out hb); have n1_ := Aside0.mk (Kd.R_below HO371.out hb); have n2_ := Aside0.mk (Kd.R_below HO375.out hb); have n3_ := Aside0.mk (Kd.R_below HO379.out hb); have n4_ := Aside0.mk (Kd.R_below HO386.out hb); have n5_ := Aside0.mk (Kd.R_below HO390.out hb); have n6_ := Aside0.mk (Kd.R_below HO394.out hb); have n7_ := Aside0.mk (Kd.R_below HO398.out hb); have n8_ := Aside0.mk (Kd.R_below HO405.out hb); have n9_ := Aside0.mk (Kd.R_below HO409.out hb); have n10_ := Aside0.mk (Kd.R_below HO413.out hb); have n11_ := Aside0.mk (blk_below BK381.out hb); have n12_ := Aside0.mk (blk_below BK382.out hb); have n13_ := Aside0.mk (blk_below BK400.out hb); have n14_ := Aside0.mk (blk_below BK401.out hb); have n15_ := Aside0.mk (blk_below BK415.out hb); have n16_ := Aside0.mk (below_step (by repeat first | exact HB.out | refine bxSet ?_ (by assumption) | apply below_alloc | apply pw_below_drewN) hb); clear HO367; clear HO371; clear HO375; clear HO379; clear HO386; clear HO390; clear HO394; clear HO398; clear HO405; clear HO409; clear HO413; clear BK381; clear BK382; clear BK400; clear BK401; clear BK415; clear HB; have HO367 := n0_; have HO371 := n1_; have HO375 := n2_; have HO379 := n3_; have HO386 := n4_; have HO390 := n5_; have HO394 := n6_; have HO398 := n7_; have HO405 := n8_; have HO409 := n9_; have HO413 := n10_; have BK381 := n11_; have BK382 := n12_; have BK400 := n13_; have BK401 := n14_; have BK415 := n15_; have HB := n16_; clear n0_ n1_ n2_ n3_ n4_ n5_ n6_ n7_ n8_ n9_ n10_ n11_ n12_ n13_ n14_ n15_ n16_; (try clear hb); (try clear hb2); (try clear hk); (try clear hi); have hcz66_0 : w65.cell? ⟨gb400, 0, none⟩ = some (.bool t391) := bc0 BK400.out; have hcz66_1 : w65.cell? ⟨gb400, 1, none⟩ = some (.slice Ao45 t392.length co45) := bc1 BK400.out; have hfz66_0 := blk_frozen BK400.out 0; have hfz66_1 := blk_frozen BK400.out 1) | (go_at_call 36; (with_reducible refine (whole_Text.calls k t391 _ _ t392 t418 _ ?side1 ?side2 A17.out).mono ?_); (case side1 => exact (Kd.R_reads' HO394.out).2.2); (case side2 => exact (Kd.R_reads' HO394.out).2.1); rintro e w67 ⟨rfl, hb⟩; have n0_ := Aside0.mk (Kd.R_below HO367.out hb); have n1_ := Aside0.mk (Kd.R_below HO371.out hb); have n2_ := Aside0.mk (Kd.R_below HO375.out hb); have n3_ := Aside0.mk (Kd.R_below HO379.out hb); have n4_ := Aside0.mk (Kd.R_below HO386.out hb); have n5_ := Aside0.mk (Kd.R_below HO390.out hb); have n6_ := Aside0.mk (Kd.R_below HO394.out hb); have n7_ := Aside0.mk (Kd.R_below HO398.out hb); have n8_ := Aside0.mk (Kd.R_below HO405.out hb); have n9_ := Aside0.mk (Kd.R_below HO409.out hb); have n10_ := Aside0.mk (Kd.R_below HO413.out hb); have n11_ := Aside0.mk (blk_below BK381.out hb); have n12_ := Aside0.mk (blk_below BK382.out hb); have n13_ := Aside0.mk (blk_below BK400.out hb); have n14_ := Aside0.mk (blk_below BK401.out hb); have n15_ := Aside0.mk (blk_below BK415.out hb); have n16_ := Aside0.mk (below_step (by repeat first | exact HB.out | refine bxSet ?_ (by assumption) | apply below_alloc | apply pw_below_drewN) hb); clear HO367; clear HO371; clear HO375; clear HO379; clear HO386; clear HO390; clear HO394; clear HO398; clear HO405; clear HO409; clear HO413; clear BK381; clear BK382; clear BK400; clear BK401; clear BK415; clear HB; have HO367 := n0_; have HO371 := n1_; have HO375 := n2_; have HO379 := n3_; have HO386 := n4_; have HO390 := n5_; have HO394 := n6_; have HO398 := n7_; have HO405 := n8_; have HO409 := n9_; have HO413 := n10_; have BK381 := n11_; have BK382 := n12_; have BK400 := n13_; have BK401 := n14_; have BK415 := n15_; have HB := n16_; clear n0_ n1_ n2_ n3_ n4_ n5_ n6_ n7_ n8_ n9_ n10_ n11_ n12_ n13_ n14_ n15_ n16_; (try clear hb); (try clear hb2); (try clear hk); (try clear hi); have hcz68_0 : w67.cell? ⟨gb401, 0, none⟩ = some (.bool t395) := bc0 BK401.out; have hcz68_1 : w67.cell? ⟨gb401, 1, none⟩ = some (.slice Ao49 t396.length co49) := bc1 BK401.out; have hfz68_0 := blk_frozen BK401.out 0; have hfz68_1 := blk_frozen BK401.out 1) | (go_at_call 36; (with_reducible refine (whole_Text.calls k t395 _ _ t396 t419 _ ?side1 ?side2 A19.out).mono ?_); (case side1 => exact (Kd.R_reads' HO398.out).2.2); (case side2 => exact (Kd.R_reads' HO398.out).2.1); rintro e w69 ⟨rfl, hb⟩; have n0_ := Aside0.mk (Kd.R_below HO367.out hb); have n1_ := Aside0.mk (Kd.R_below HO371.out hb); have n2_ := Aside0.mk (Kd.R_below HO375.out hb); have n3_ := Aside0.mk (Kd.R_below HO379.out hb); have n4_ := Aside0.mk (Kd.R_below HO386.out hb); have n5_ := Aside0.mk (Kd.R_below HO390.out hb); have n6_ := Aside0.mk (Kd.R_below HO394.out hb); have n7_ := Aside0.mk (Kd.R_below HO398.out hb); have n8_ := Aside0.mk (Kd.R_below HO405.out hb); have n9_ := Aside0.mk (Kd.R_below HO409.out hb); have n10_ := Aside0.mk (Kd.R_below HO413.out hb); have n11_ := Aside0.mk (blk_below BK381.out hb); have n12_ := Aside0.mk (blk_below BK382.out hb); have n13_ := Aside0.mk (blk_below BK400.out hb); have n14_ := Aside0.mk (blk_below BK401.out hb); have n15_ := Aside0.mk (blk_below BK415.out hb); have n16_ := Aside0.mk (below_step (by repeat first | exact HB.out | refine bxSet ?_ (by assumption) | apply below_alloc | apply pw_below_drewN) hb); clear HO367; clear HO371; clear HO375; clear HO379; clear HO386; clear HO390; clear HO394; clear HO398; clear HO405; clear HO409; clear HO413; clear BK381; clear BK382; clear BK400; clear BK401; clear BK415; clear HB; have HO367 := n0_; have HO371 := n1_; have HO375 := n2_; have HO379 := n3_; have HO386 := n4_; have HO390 := n5_; have HO394 := n6_; have HO398 := n7_; have HO405 := n8_; have HO409 := n9_; have HO413 := n10_; have BK381 := n11_; have BK382 := n12_; have BK400 := n13_; have BK401 := n14_; have BK415 := n15_; have HB := n16_; clear n0_ n1_ n2_ n3_ n4_ n5_ n6_ n7_ n8_ n9_ n10_ n11_ n12_ n13_ n14_ n15_ n16_; (try clear hb); (try clear hb2); (try clear hk); (try clear hi); have hcz70_0 : w69.cell? ⟨gb415, 0, none⟩ = some (.bool t410) := bc0 BK415.out; have hcz70_1 : w69.cell? ⟨gb415, 1, none⟩ = some (.slice Ao61 t411.length co61) := bc1 BK415.out; have hfz70_0 := blk_frozen BK415.out 0; have hfz70_1 := blk_frozen BK415.out 1) | (go_at_call 36; (with_reducible refine (whole_Text.calls k t410 _ _ t411 t420 _ ?side1 ?side2 A21.out).mono ?_); (case side1 => exact (Kd.R_reads' HO413.out).2.2); (case side2 => exact (Kd.R_reads' HO413.out).2.1); rintro e w71 ⟨rfl, hb⟩; have n0_ := Aside0.mk (Kd.R_below HO367.out hb); have n1_ := Aside0.mk (Kd.R_below HO371.out hb); have n2_ := Aside0.mk (Kd.R_below HO375.out hb); have n3_ := Aside0.mk (Kd.R_below HO379.out hb); have n4_ := Aside0.mk (Kd.R_below HO386.out hb); have n5_ := Aside0.mk (Kd.R_below HO390.out hb); have n6_ := Aside0.mk (Kd.R_below HO394.out hb); have n7_ := Aside0.mk (Kd.R_below HO398.out hb); have n8_ := Aside0.mk (Kd.R_below HO405.out hb); have n9_ := Aside0.mk (Kd.R_below HO409.out hb); have n10_ := Aside0.mk (Kd.R_below HO413.out hb); have n11_ := Aside0.mk (blk_below BK381.out hb); have n12_ := Aside0.mk (blk_below BK382.out hb); have n13_ := Aside0.mk (blk_below BK400.out hb); have n14_ := Aside0.mk (blk_below BK401.out hb); have n15_ := Aside0.mk (blk_below BK415.out hb); have n16_ := Aside0.mk (below_step (by repeat first | exact HB.out | refine bxSet ?_ (by assumption) | apply below_alloc | apply pw_below_drewN) hb); clear HO367; clear HO371; clear HO375; clear HO379; clear HO386; clear HO390; clear HO394; clear HO398; clear HO405; clear HO409; clear HO413; clear BK381; clear BK382; clear BK400; clear BK401; clear BK415; clear HB; have HO367 := n0_; have HO371 := n1_; have HO375 := n2_; have HO379 := n3_; have HO386 := n4_; have HO390 := n5_; have HO394 := n6_; have HO398 := n7_; have HO405 := n8_; have HO409 := n9_; have HO413 := n10_; have BK381 := n11_; have BK382 := n12_; have BK400 := n13_; have BK401 := n14_; have BK415 := n15_; have HB := n16_; clear n0_ n1_ n2_ n3_ n4_ n5_ n6_ n7_ n8_ n9_ n10_ n11_ n12_ n13_ n14_ n15_ n16_; (try clear hb); (try clear hb2); (try clear hk); (try clear hi)))
        go_ret
        exact ⟨by first | rfl | (simp [errW_none, errW_some] <;> rfl) | (refine congrArg (fun z_ => Ending.returned (Value.bool z_)) (decide_eq_decide.mpr ?_); unfold wrap64; omega) | (simp [*, errW_none, errW_some] <;> rfl), HB.out⟩
       ·rw [if_neg c20] at H
        exact absurd H (by simp)
      ·rw [if_neg c18] at H
       exact absurd H (by simp)
     ·rw [if_neg c16] at H
      exact absurd H (by simp)
    ·rw [if_neg c14] at H
     exact absurd H (by simp)
   ·rw [if_neg c12] at H
    exact absurd H (by simp)
  ·rw [if_neg c11] at H
   exact absurd H (by simp)
 ·rw [if_neg c10] at H
  exact absurd H (by simp)

/-! ### gudgeonref01_Same: function 45 -/
/-! ### gudgeonref02_Same: function 15 -/
/-! ### stringslite_HasPrefix: function 83 -/
/-! ### stringslite_CutPrefix: function 75 -/
/-! ### strings_CutPrefix: function 51 -/
end Go.Proofs.YthnfmmaolkenkaaDoor.PA
/- Written by a program of this session, wip/tools/patch_print.py, over the kit's print of the loaded functions. -/
namespace Go.Proofs.YthnfmmaolkenkaaDoor.H
end Go.Proofs.YthnfmmaolkenkaaDoor.H
namespace Go.Proofs.YthnfmmaolkenkaaDoor.PA
open Go.RowKit Go.Proofs.YthnfmmaolkenkaaDoorW.PrintWords Go.Proofs.YthnfmmaolkenkaaDoorW.PrintLast Go.Proofs.YthnfmmaolkenkaaDoorW.PrintMore Go.Proofs.YthnfmmaolkenkaaDoor.H
attribute [local go_sem] max2_int min2_int max_two min_two max_three min_three max_four min_four   -- for this text's walks alone
attribute [local go_sem] box_twice
set_option linter.unusedVariables false
set_option linter.unusedSimpArgs false

/-! ### gudgeonlaw02_few: function 10 -/
def gudgeonlaw02_few.f (a0_0 : Bool) (l0_1 : List Int) (a1_0 : Bool) (l1_1 : List Int) (a2 : Int) : Option (Bool) := if (l0_1.length : Int) ≤ a2 then (some (decide ((l1_1.length : Int) ≤ a2))) else (some false)
set_option maxHeartbeats 8000000 in
set_option maxRecDepth 100000 in
theorem gudgeonlaw02_few.calls (a0_0 : Bool) (A0_1 : Option Addr) (c0_1 : Nat) (l0_1 : List Int) (a1_0 : Bool) (A1_1 : Option Addr) (c1_1 : Nat) (l1_1 : List Int) (a2 : Int) (r : Bool) (w : World) (hr0_1 : Kd.C (Kd.int .u32) w A0_1 l0_1.length l0_1) (hc0_1 : l0_1.length ≤ c0_1) (hr1_1 : Kd.C (Kd.int .u32) w A1_1 l1_1.length l1_1) (hc1_1 : l1_1.length ≤ c1_1) (h : gudgeonlaw02_few.f a0_0 l0_1 a1_0 l1_1 a2 = some r) :
  Calls Tryd.prog 10 #[.agg #[.bool a0_0, .slice A0_1 l0_1.length c0_1], .agg #[.bool a1_0, .slice A1_1 l1_1.length c1_1], .int .i64 a2] w fun e w' => e = .returned (.bool r) ∧ Below w.heap.size w w' := by
 have hu24 := Tryd.underlying24
 have HR0_1 := Aside0.mk hr0_1
 have HC0_1 := Aside0.mk hc0_1
 clear hr0_1 hc0_1
 have HR1_1 := Aside0.mk hr1_1
 have HC1_1 := Aside0.mk hc1_1
 clear hr1_1 hc1_1
 have HB := Aside0.mk (Below.refl w.heap.size w)
 have H : (if (l0_1.length : Int) ≤ a2 then (some (decide ((l1_1.length : Int) ≤ a2))) else (some false)) = some r := h
 clear h
 by_cases c4 : (l0_1.length : Int) ≤ a2
 ·rw [if_pos c4] at H
  have c4b0 : decide ((l0_1.length : Int) ≤ a2) = true := decide_eq_true c4
  clear c4
  obtain rfl := Option.some.inj H
  go_enter Tryd.func10, Tryd.ntmps10
  go_wp2_with (first | ((with_reducible refine gate_dst (N := 3) rfl ?_); (try (refine gate_guard (by rfl) ?_; dsimp only)); refine box_event ?hg (N := 3) ?hd (cs := #[.bool a0_0, .slice A0_1 l0_1.length c0_1]) (t := 24) ?hr ?_; (case hd => rfl); (case hg => rfl); (case hr => first | (go_simp; done) | (go_simp; rfl)); intro gb489 hg w5 hbox hb; have BK489 := Aside0.mk (hbox); have GW489 := Aside0.mk (bxLe HB.out hg); have GE489 := GW489; replace HB := Aside0.mk (below_step HB.out hb); clear hb hbox hg) | ((with_reducible refine gate_dst (N := 4) rfl ?_); (try (refine gate_guard (by rfl) ?_; dsimp only)); refine box_event ?hg (N := 4) ?hd (cs := #[.bool a1_0, .slice A1_1 l1_1.length c1_1]) (t := 24) ?hr ?_; (case hd => rfl); (case hg => rfl); (case hr => first | (go_simp; done) | (go_simp; rfl)); intro gb490 hg w6 hbox hb; have BK490 := Aside0.mk (hbox); have GW490 := Aside0.mk (bxLe HB.out hg); have GE490 := GW490; replace HB := Aside0.mk (below_step HB.out hb); have NB489_490 := Aside0.mk (neL BK489.out hg); have NB490_489 := Aside0.mk (neR BK489.out hg); replace BK489 := Aside0.mk (blk_below BK489.out hb); clear hb hbox hg; have hnb7 := NB489_490.out; have hnc7 := NB490_489.out; have hcz8_0 := bc0 BK489.out; have hcz8_1 := bc1 BK489.out; have hfz8_0 := blk_frozen BK489.out 0; have hfz8_1 := blk_frozen BK489.out 1; have hcz9_0 := bc0 BK490.out; have hcz9_1 := bc1 BK490.out; have hfz9_0 := blk_frozen BK490.out 0; have hfz9_1 := blk_frozen BK490.out 1))
  go_ret
  exact ⟨by first | rfl | (simp [errW_none, errW_some] <;> rfl) | (refine congrArg (fun z_ => Ending.returned (Value.bool z_)) (decide_eq_decide.mpr ?_); unfold wrap64; omega) | (simp [*, errW_none, errW_some] <;> rfl), by repeat (first | (with_reducible first | exact HB.out | apply below_alloc | apply pw_below_drewN | apply below_drew1 | refine below_set ?_ GE489.out | refine below_set ?_ GE490.out) | exact HB.out)⟩
 ·rw [if_neg c4] at H
  have c4b0 : decide ((l0_1.length : Int) ≤ a2) = false := decide_eq_false c4
  clear c4
  obtain rfl := Option.some.inj H
  go_enter Tryd.func10, Tryd.ntmps10
  go_wp2_with (first | ((with_reducible refine gate_dst (N := 3) rfl ?_); (try (refine gate_guard (by rfl) ?_; dsimp only)); refine box_event ?hg (N := 3) ?hd (cs := #[.bool a0_0, .slice A0_1 l0_1.length c0_1]) (t := 24) ?hr ?_; (case hd => rfl); (case hg => rfl); (case hr => first | (go_simp; done) | (go_simp; rfl)); intro gb489 hg w10 hbox hb; have BK489 := Aside0.mk (hbox); have GW489 := Aside0.mk (bxLe HB.out hg); have GE489 := GW489; replace HB := Aside0.mk (below_step HB.out hb); clear hb hbox hg) | ((with_reducible refine gate_dst (N := 4) rfl ?_); (try (refine gate_guard (by rfl) ?_; dsimp only)); refine box_event ?hg (N := 4) ?hd (cs := #[.bool a1_0, .slice A1_1 l1_1.length c1_1]) (t := 24) ?hr ?_; (case hd => rfl); (case hg => rfl); (case hr => first | (go_simp; done) | (go_simp; rfl)); intro gb490 hg w11 hbox hb; have BK490 := Aside0.mk (hbox); have GW490 := Aside0.mk (bxLe HB.out hg); have GE490 := GW490; replace HB := Aside0.mk (below_step HB.out hb); have NB489_490 := Aside0.mk (neL BK489.out hg); have NB490_489 := Aside0.mk (neR BK489.out hg); replace BK489 := Aside0.mk (blk_below BK489.out hb); clear hb hbox hg; have hnb12 := NB489_490.out; have hnc12 := NB490_489.out; have hcz13_0 := bc0 BK489.out; have hcz13_1 := bc1 BK489.out; have hfz13_0 := blk_frozen BK489.out 0; have hfz13_1 := blk_frozen BK489.out 1))
  go_ret
  exact ⟨by first | rfl | (simp [errW_none, errW_some] <;> rfl) | (refine congrArg (fun z_ => Ending.returned (Value.bool z_)) (decide_eq_decide.mpr ?_); unfold wrap64; omega) | (simp [*, errW_none, errW_some] <;> rfl), by repeat (first | (with_reducible first | exact HB.out | apply below_alloc | apply pw_below_drewN | apply below_drew1 | refine below_set ?_ GE489.out | refine below_set ?_ GE490.out) | exact HB.out)⟩

/-! ### gudgeonref01_trim: function 81 -/
/-! ### gudgeonref01_Bits: function 67 -/
/-! ### gudgeonref01_Limbs: function 69 -/
/-! ### gudgeonref01_Norm: function 46 -/
/-! ### gudgeonref02_Norm: function 17 -/
/-! ### gudgeonref02_Neg: function 19 -/
end Go.Proofs.YthnfmmaolkenkaaDoor.PA
/- Written by a program of this session, wip/tools/patch_print.py, over the kit's print of the loaded functions. -/
namespace Go.Proofs.YthnfmmaolkenkaaDoor.H
end Go.Proofs.YthnfmmaolkenkaaDoor.H
namespace Go.Proofs.YthnfmmaolkenkaaDoor.PA
open Go.RowKit Go.Proofs.YthnfmmaolkenkaaDoorW.PrintWords Go.Proofs.YthnfmmaolkenkaaDoorW.PrintLast Go.Proofs.YthnfmmaolkenkaaDoorW.PrintMore Go.Proofs.YthnfmmaolkenkaaDoor.H
attribute [local go_sem] max2_int min2_int max_two min_two max_three min_three max_four min_four   -- for this text's walks alone
attribute [local go_sem] box_twice
set_option linter.unusedVariables false
set_option linter.unusedSimpArgs false

/-! ### whole_Add: function 20 -/
def whole_Add.f (k : Nat) (a0_0 : Bool) (l0_1 : List Int) (a1_0 : Bool) (l1_1 : List Int) : Option (Bool × List Int) := if (a0_0 == a1_0) = true then ((nat_Add.f k l0_1 l1_1).bind fun t534 => ((whole_made.f a0_0 t534).bind fun bt537 => (some (bt537.1, bt537.2)))) else ((nat_Cmp.f k l0_1 l1_1).bind fun t541 => (if t541 < 0 then ((nat_Sub.f k l1_1 l0_1).bind fun bt542 => ((whole_made.f a1_0 bt542.1).bind fun bt546 => (some (bt546.1, bt546.2)))) else ((nat_Sub.f k l0_1 l1_1).bind fun bt550 => ((whole_made.f a0_0 bt550.1).bind fun bt554 => (some (bt554.1, bt554.2))))))
def whole_Add.T2 : Bool × List (List Nat × List Nat) := (true, [([], []), ([0], [0]), ([], []), ([2], [2]), ([], []), ([4], [4]), ([3, 5], [3, 5]), ([1, 6, 6], [1, 6]), ([7, 7, 0, 1, 2, 3, 4, 5, 6, 7], [7])])
def whole_Add.B2 : List Nat := [0, 1, 0, 4, 0, 16, 60, 127, 255]
theorem whole_Add.tab2 : rtab .any (opsOf Tryd.f20 2) = whole_Add.T2 := by kernel_rfl
theorem whole_Add.bits2 : waitsOk whole_Add.T2.2 whole_Add.B2 = true := by kernel_rfl
set_option maxHeartbeats 8000000 in
set_option maxRecDepth 100000 in
theorem whole_Add.calls (k : Nat) (a0_0 : Bool) (A0_1 : Option Addr) (c0_1 : Nat) (l0_1 : List Int) (a1_0 : Bool) (A1_1 : Option Addr) (c1_1 : Nat) (l1_1 : List Int) (r1 : Bool) (r2 : List Int) (w : World) (hr0_1 : Kd.C (Kd.int .u32) w A0_1 l0_1.length l0_1) (hc0_1 : l0_1.length ≤ c0_1) (hr1_1 : Kd.C (Kd.int .u32) w A1_1 l1_1.length l1_1) (hc1_1 : l1_1.length ≤ c1_1) (h : whole_Add.f k a0_0 l0_1 a1_0 l1_1 = some (r1, r2)) :
  Calls Tryd.prog 20 #[.agg #[.bool a0_0, .slice A0_1 l0_1.length c0_1], .agg #[.bool a1_0, .slice A1_1 l1_1.length c1_1]] w fun e w' => ∃ v1_ : Value, e = .returned (.agg #[.bool r1, v1_]) ∧ Kd.R (Kd.int .u32) 51 w' w.heap.size (fun _ => True) v1_ r2 ∧ Below w.heap.size w w' := by
 have hu24 := Tryd.underlying24
 have HR0_1 := Aside0.mk hr0_1
 have HC0_1 := Aside0.mk hc0_1
 clear hr0_1 hc0_1
 have HR1_1 := Aside0.mk hr1_1
 have HC1_1 := Aside0.mk hc1_1
 clear hr1_1 hc1_1
 have HB := Aside0.mk (Below.refl w.heap.size w)
 have H : (if (a0_0 == a1_0) = true then ((nat_Add.f k l0_1 l1_1).bind fun t534 => ((whole_made.f a0_0 t534).bind fun bt537 => (some (bt537.1, bt537.2)))) else ((nat_Cmp.f k l0_1 l1_1).bind fun t541 => (if t541 < 0 then ((nat_Sub.f k l1_1 l0_1).bind fun bt542 => ((whole_made.f a1_0 bt542.1).bind fun bt546 => (some (bt546.1, bt546.2)))) else ((nat_Sub.f k l0_1 l1_1).bind fun bt550 => ((whole_made.f a0_0 bt550.1).bind fun bt554 => (some (bt554.1, bt554.2))))))) = some (r1, r2) := h
 clear h
 by_cases c3 : (a0_0 == a1_0) = true
 ·rw [if_pos c3] at H
  have c3b0 : (a0_0 == a1_0) = true := c3
  (try (have c3b1 : decide (a0_0 = a1_0) = true := by simpa using c3))
  (try (have c3b2 : (a0_0 == a1_0) = true := by simpa using c3))
  clear c3
  obtain ⟨t534, A40, H⟩ := Option.bind_eq_some_iff.mp H
  try dsimp only at H
  have A4 := Aside0.mk A40
  clear A40
  obtain ⟨⟨t537, t538⟩, A50, H⟩ := Option.bind_eq_some_iff.mp H
  try dsimp only at H
  have A5 := Aside0.mk A50
  clear A50
  simp only [Option.some.injEq, Prod.mk.injEq] at H
  obtain ⟨rfl, rfl⟩ := H
  go_enter Tryd.func20, Tryd.ntmps20
  try go_wp2_with (first | ((with_reducible refine gate_dst (N := 2) rfl ?_); refine box_event ?hg (N := 2) ?hd (cs := #[.bool a0_0, .slice A0_1 l0_1.length c0_1]) (t := 24) ?hr ?_; (case hd => rfl); (case hg => rfl); (case hr => first | (go_simp; done) | (go_simp; rfl)); intro gb531 hg w6 hbox hb; have BK531 := Aside0.mk (hbox); have GW531 := Aside0.mk (bxLe HB.out hg); have GE531 := GW531; replace HB := Aside0.mk (below_step HB.out hb); clear hb hbox hg) | ((with_reducible refine gate_dst (N := 3) rfl ?_); refine box_event ?hg (N := 3) ?hd (cs := #[.bool a1_0, .slice A1_1 l1_1.length c1_1]) (t := 24) ?hr ?_; (case hd => rfl); (case hg => rfl); (case hr => first | (go_simp; done) | (go_simp; rfl)); intro gb532 hg w7 hbox hb; have BK532 := Aside0.mk (hbox); have GW532 := Aside0.mk (bxLe HB.out hg); have GE532 := GW532; replace HB := Aside0.mk (below_step HB.out hb); have NB531_532 := Aside0.mk (neL BK531.out hg); have NB532_531 := Aside0.mk (neR BK531.out hg); replace BK531 := Aside0.mk (blk_below BK531.out hb); clear hb hbox hg) | ((with_reducible refine gate_dst (N := 4) rfl ?_); refine box_event ?hg (N := 4) ?hd (cs := #[.bool false, .slice none 0 0]) (t := 24) ?hr ?_; (case hd => rfl); (case hg => rfl); (case hr => first | (go_simp; done) | (go_simp; rfl)); intro gb533 hg w8 hbox hb; have BK533 := Aside0.mk (hbox); have GW533 := Aside0.mk (bxLe HB.out hg); have GE533 := GW533; replace HB := Aside0.mk (below_step HB.out hb); have NB531_533 := Aside0.mk (neL BK531.out hg); have NB533_531 := Aside0.mk (neR BK531.out hg); replace BK531 := Aside0.mk (blk_below BK531.out hb); have NB532_533 := Aside0.mk (neL BK532.out hg); have NB533_532 := Aside0.mk (neR BK532.out hg); replace BK532 := Aside0.mk (blk_below BK532.out hb); clear hb hbox hg; have hnb9 := NB531_532.out; have hnc9 := NB532_531.out; have hnb10 := NB531_533.out; have hnc10 := NB533_531.out; have hcz11_0 : w8.cell? ⟨gb531, 0, none⟩ = some (.bool a0_0) := bc0 BK531.out; have hcz11_1 : w8.cell? ⟨gb531, 1, none⟩ = some (.slice A0_1 l0_1.length c0_1) := bc1 BK531.out; have hfz11_0 := blk_frozen BK531.out 0; have hfz11_1 := blk_frozen BK531.out 1; have hnb12 := NB532_533.out; have hnc12 := NB533_532.out; have hcz13_0 : w8.cell? ⟨gb532, 0, none⟩ = some (.bool a1_0) := bc0 BK532.out; have hcz13_1 : w8.cell? ⟨gb532, 1, none⟩ = some (.slice A1_1 l1_1.length c1_1) := bc1 BK532.out; have hfz13_0 := blk_frozen BK532.out 0; have hfz13_1 := blk_frozen BK532.out 1))
  replace BK531 := Aside0.mk (blk_drew BK531.out)
  replace BK532 := Aside0.mk (blk_drew BK532.out)
  replace BK533 := Aside0.mk (blk_drew BK533.out)
  replace HB := Aside0.mk (below_drew1 HB.out)
  refine start_ (n := 9) (S := fun w' => w'.cell? ⟨gb531, 0, none⟩ = some (.bool a0_0) ∧ w'.cell? ⟨gb531, 1, none⟩ = some (.slice A0_1 l0_1.length c0_1) ∧ w'.cell? ⟨gb532, 0, none⟩ = some (.bool a1_0) ∧ w'.cell? ⟨gb532, 1, none⟩ = some (.slice A1_1 l1_1.length c1_1)) (ds := []) #[false, false, false, false, false, false, false, false, false] (by kernel_rfl) rfl rfl ⟨bc0 BK531.out, bc1 BK531.out, bc0 BK532.out, bc1 BK532.out⟩ (fun hHeld => ?_); refine with_tabW whole_Add.tab2 whole_Add.bits2 (fun HT_ HW_ => ?_)
  generalize w8.drew = w14 at BK531 BK532 BK533 HB hHeld ⊢
  refine pure_ (i := 0) (N := some 12) (v := ?_) (a' := ?_) #[true, false, false, false, false, false, false, false, false] rfl rfl (any_of HT_.out (by kernel_rfl)) (fun _ _ _ h => h) (Or.inl ⟨by rfl, ?_⟩) ?_ ?_
  rotate_left
  ·intro w'
   go_simp
   with_reducible rfl
  rotate_left
  ·simp only [Act.put, List.setIfInBounds_toArray, List.set_cons_zero, List.set_cons_succ, i64_w, i32_w]
   rfl
  refine pure_ (i := 2) (N := some 14) (v := ?_) (a' := ?_) #[true, false, true, false, false, false, false, false, false] rfl rfl (any_of HT_.out (by kernel_rfl)) (fun _ _ _ h => h) (Or.inl ⟨by rfl, ?_⟩) ?_ ?_
  rotate_left
  ·intro w'
   go_simp
   with_reducible rfl
  rotate_left
  ·simp only [Act.put, List.setIfInBounds_toArray, List.set_cons_zero, List.set_cons_succ, i64_w, i32_w]
   rfl
  refine pure_ (i := 4) (N := some 16) (v := ?_) (a' := ?_) #[true, false, true, false, true, false, false, false, false] rfl rfl (any_of HT_.out (by kernel_rfl)) (fun _ _ _ h => h) (Or.inl ⟨by rfl, ?_⟩) ?_ ?_
  rotate_left
  ·intro w'
   go_simp
   with_reducible rfl
  rotate_left
  ·simp only [Act.put, List.setIfInBounds_toArray, List.set_cons_zero, List.set_cons_succ, i64_w, i32_w]
   rfl
  refine take_ (i := 1) (N := some 13) (v := ?_) (a' := ?_) #[true, true, true, false, true, false, false, false, false] rfl rfl (take_ofW HT_.out HW_.out (by kernel_rfl)) (fun _ _ _ h => h) (Or.inl ⟨by rfl, ?_⟩) hHeld ?_ ?_
  rotate_left
  ·rintro w' ⟨s0, s1, s2, s3⟩
   go_simp
   with_reducible rfl
  rotate_left
  ·simp only [Act.put, List.setIfInBounds_toArray, List.set_cons_zero, List.set_cons_succ, i64_w, i32_w]
   rfl
  refine take_ (i := 3) (N := some 15) (v := ?_) (a' := ?_) #[true, true, true, true, true, false, false, false, false] rfl rfl (take_ofW HT_.out HW_.out (by kernel_rfl)) (fun _ _ _ h => h) (Or.inl ⟨by rfl, ?_⟩) hHeld ?_ ?_
  rotate_left
  ·rintro w' ⟨s0, s1, s2, s3⟩
   go_simp
   with_reducible rfl
  rotate_left
  ·simp only [Act.put, List.setIfInBounds_toArray, List.set_cons_zero, List.set_cons_succ, i64_w, i32_w]
   rfl
  refine take_ (i := 5) (N := some 17) (v := ?_) (a' := ?_) #[true, true, true, true, true, true, false, false, false] rfl rfl (take_ofW HT_.out HW_.out (by kernel_rfl)) (fun _ _ _ h => h) (Or.inl ⟨by rfl, ?_⟩) hHeld ?_ ?_
  rotate_left
  ·rintro w' ⟨s0, s1, s2, s3⟩
   go_simp
   with_reducible rfl
  rotate_left
  ·simp only [Act.put, List.setIfInBounds_toArray, List.set_cons_zero, List.set_cons_succ, i64_w, i32_w]
   rfl
  refine one_ (i := 6) (N := some 18) #[true, true, true, true, true, true, true, false, false] rfl rfl (one_of HT_.out (by kernel_rfl)) (by decide) (fun K hK => ?_)
  refine goR Tryd.func42 [.slice A0_1 l0_1.length c0_1, .slice A1_1 l1_1.length c1_1] ?_
  with_reducible refine (nat_Add.calls k _ _ l0_1 _ _ l1_1 t534 _ ?side1 ?side2 ?side3 ?side4 A4.out).mono ?_
  (case side1 => exact (Kd.C_below HR0_1.out HB.out))
  (case side2 => exact HC0_1.out)
  (case side3 => exact (Kd.C_below HR1_1.out HB.out))
  (case side4 => exact HC1_1.out)
  rintro e w15 ⟨v535, rfl, ho0, hb⟩
  refine ⟨_, rfl, ?_⟩
  have HO536 := Aside0.mk (Kd.R_lower ho0 (below_size HB.out))
  replace BK531 := Aside0.mk (blk_below BK531.out hb)
  replace BK532 := Aside0.mk (blk_below BK532.out hb)
  replace BK533 := Aside0.mk (blk_below BK533.out hb)
  replace HB := Aside0.mk (below_step HB.out hb)
  (try clear hb)
  (try clear hb2)
  (try clear hk)
  (try clear hi)
  (try clear ho0)
  obtain ⟨Ao16, co16, eo16⟩ := Kd.R_slice HO536.out
  subst eo16
  refine hK.out _ _ ⟨bc0 BK531.out, bc1 BK531.out, bc0 BK532.out, bc1 BK532.out⟩ (fun hHeld => ?_)
  clear hK K
  refine norm_ (a' := ?_) ?_ ?_
  rotate_left
  ·show Act.put _ (some 18) _ = _
   simp only [Act.put, List.setIfInBounds_toArray, List.set_cons_zero, List.set_cons_succ, i64_w, i32_w]
   rfl
  refine one_ (i := 7) (N := some 19) #[true, true, true, true, true, true, true, true, false] rfl rfl (one_of HT_.out (by kernel_rfl)) (by decide) (fun K hK => ?_)
  refine goR Tryd.func40 [.bool a0_0, .slice Ao16 t534.length co16] ?_
  with_reducible refine (whole_made.calls a0_0 _ _ t534 t537 t538 _ ?side1 ?side2 A5.out).mono ?_
  (case side1 => exact (Kd.R_reads' HO536.out).2.2)
  (case side2 => exact (Kd.R_reads' HO536.out).2.1)
  rintro e w17 ⟨v539, rfl, ho0, hb⟩
  refine ⟨_, rfl, ?_⟩
  have HO540 := Aside0.mk (Kd.R_lower (Kd.R_new' ho0 (Kd.R_lt HO536.out)) (below_size HB.out))
  replace BK531 := Aside0.mk (blk_below BK531.out hb)
  replace BK532 := Aside0.mk (blk_below BK532.out hb)
  replace BK533 := Aside0.mk (blk_below BK533.out hb)
  replace HB := Aside0.mk (below_step HB.out hb)
  (try clear hb)
  (try clear hb2)
  (try clear hk)
  (try clear hi)
  (try clear ho0)
  obtain ⟨Ao19, co19, eo19⟩ := Kd.R_slice HO540.out
  subst eo19
  refine hK.out _ _ ⟨bc0 BK531.out, bc1 BK531.out, bc0 BK532.out, bc1 BK532.out⟩ (fun hHeld => ?_)
  clear hK K
  refine norm_ (a' := ?_) ?_ ?_
  rotate_left
  ·show Act.put _ (some 19) _ = _
   simp only [Act.put, List.setIfInBounds_toArray, List.set_cons_zero, List.set_cons_succ, i64_w, i32_w]
   rfl
  refine one_ (i := 8) (N := none) #[true, true, true, true, true, true, true, true, true] rfl rfl (one_of HT_.out (by kernel_rfl)) (by decide) (fun K hK => ?_)
  have hs18 : w17.cell? ⟨gb533, 0, none⟩ = some (.bool false) := bc0 BK533.out
  have hfs18 := blk_frozen BK533.out 0
  have hns18_0 := NB531_533.out
  have hns18_1 := NB532_533.out
  have hms18_0 := NB533_531.out
  have hms18_1 := NB533_532.out
  have hs20 : w17.cell? ⟨gb533, 1, none⟩ = some (.slice none 0 0) := bc1 BK533.out
  have hfs20 := blk_frozen BK533.out 1
  have hns20_0 := NB531_533.out
  have hns20_1 := NB532_533.out
  have hms20_0 := NB533_531.out
  have hms20_1 := NB533_532.out
  refine skip_ (w1 := ?_) (by rfl) rfl ?_ ?_
  rotate_left
  ·go_simp
   rfl
  refine hK.out _ _ ⟨((cell_far (p := ⟨gb533, _, none⟩) NB531_533.out _).trans (((cell_far (p := ⟨gb533, _, none⟩) NB531_533.out _).trans (hHeld.1)))), ((cell_far (p := ⟨gb533, _, none⟩) NB531_533.out _).trans (((cell_far (p := ⟨gb533, _, none⟩) NB531_533.out _).trans (hHeld.2.1)))), ((cell_far (p := ⟨gb533, _, none⟩) NB532_533.out _).trans (((cell_far (p := ⟨gb533, _, none⟩) NB532_533.out _).trans (hHeld.2.2.1)))), ((cell_far (p := ⟨gb533, _, none⟩) NB532_533.out _).trans (((cell_far (p := ⟨gb533, _, none⟩) NB532_533.out _).trans (hHeld.2.2.2))))⟩ (fun hHeld => ?_)
  clear hK K
  refine done_ (done_of HT_.out (by kernel_rfl)) ?_
  try go_wp2
  refine bodyPost_ret (results_cell_row rfl _ _ gb533 24 #[.bool t537, .slice Ao19 t538.length co19] (0, 0) _ rfl (by refine blk_put (cs := #[.bool t537, .slice none 0 0]) ?_ 1 _ rfl; refine blk_put (cs := #[.bool false, .slice none 0 0]) ?_ 0 _ rfl; exact BK533.out) Tryd.underlying24 rfl (by kernel_rfl)) rfl ?_
  exact ⟨_, rfl, Kd.R_mono (Kd.R_far (p := ⟨gb533, 1, none⟩) (Kd.R_far (p := ⟨gb533, 0, none⟩) (Kd.R_types HO540.out BK533.out (by decide)) (fun _ hk => hk.2) (.bool t537)) (fun _ hk => hk.2) (.slice Ao19 t538.length co19)) (fun _ hk => trivial), by repeat first | exact HB.out | refine bxSet ?_ (by assumption) | apply below_alloc | apply pw_below_drewN⟩
 ·rw [if_neg c3] at H
  have c3b0 : (a0_0 == a1_0) = false := by simpa using c3
  (try (have c3b1 : decide (a0_0 = a1_0) = false := by simpa using c3))
  (try (have c3b2 : (a0_0 == a1_0) = false := by simpa using c3))
  (try (have c3b3 : ¬ (a0_0 = a1_0) := by simpa using c3))
  clear c3
  obtain ⟨t541, A210, H⟩ := Option.bind_eq_some_iff.mp H
  try dsimp only at H
  have A21 := Aside0.mk A210
  clear A210
  by_cases c22 : t541 < 0
  ·rw [if_pos c22] at H
   have c22b0 : decide (t541 < 0) = true := decide_eq_true c22
   clear c22
   obtain ⟨⟨t542, t543⟩, A230, H⟩ := Option.bind_eq_some_iff.mp H
   try dsimp only at H
   have A23 := Aside0.mk A230
   clear A230
   obtain ⟨⟨t546, t547⟩, A240, H⟩ := Option.bind_eq_some_iff.mp H
   try dsimp only at H
   have A24 := Aside0.mk A240
   clear A240
   simp only [Option.some.injEq, Prod.mk.injEq] at H
   obtain ⟨rfl, rfl⟩ := H
   go_enter Tryd.func20, Tryd.ntmps20
   go_wp2_with (first | ((with_reducible refine gate_dst (N := 2) rfl ?_); refine box_event ?hg (N := 2) ?hd (cs := #[.bool a0_0, .slice A0_1 l0_1.length c0_1]) (t := 24) ?hr ?_; (case hd => rfl); (case hg => rfl); (case hr => first | (go_simp; done) | (go_simp; rfl)); intro gb531 hg w25 hbox hb; have BK531 := Aside0.mk (hbox); have GW531 := Aside0.mk (bxLe HB.out hg); have GE531 := GW531; replace HB := Aside0.mk (below_step HB.out hb); clear hb hbox hg) | ((with_reducible refine gate_dst (N := 3) rfl ?_); refine box_event ?hg (N := 3) ?hd (cs := #[.bool a1_0, .slice A1_1 l1_1.length c1_1]) (t := 24) ?hr ?_; (case hd => rfl); (case hg => rfl); (case hr => first | (go_simp; done) | (go_simp; rfl)); intro gb532 hg w26 hbox hb; have BK532 := Aside0.mk (hbox); have GW532 := Aside0.mk (bxLe HB.out hg); have GE532 := GW532; replace HB := Aside0.mk (below_step HB.out hb); have NB531_532 := Aside0.mk (neL BK531.out hg); have NB532_531 := Aside0.mk (neR BK531.out hg); replace BK531 := Aside0.mk (blk_below BK531.out hb); clear hb hbox hg) | ((with_reducible refine gate_dst (N := 4) rfl ?_); refine box_event ?hg (N := 4) ?hd (cs := #[.bool false, .slice none 0 0]) (t := 24) ?hr ?_; (case hd => rfl); (case hg => rfl); (case hr => first | (go_simp; done) | (go_simp; rfl)); intro gb533 hg w27 hbox hb; have BK533 := Aside0.mk (hbox); have GW533 := Aside0.mk (bxLe HB.out hg); have GE533 := GW533; replace HB := Aside0.mk (below_step HB.out hb); have NB531_533 := Aside0.mk (neL BK531.out hg); have NB533_531 := Aside0.mk (neR BK531.out hg); replace BK531 := Aside0.mk (blk_below BK531.out hb); have NB532_533 := Aside0.mk (neL BK532.out hg); have NB533_532 := Aside0.mk (neR BK532.out hg); replace BK532 := Aside0.mk (blk_below BK532.out hb); clear hb hbox hg; have hnb28 := NB531_532.out; have hnc28 := NB532_531.out; have hnb29 := NB531_533.out; have hnc29 := NB533_531.out; have hcz30_0 : w27.cell? ⟨gb531, 0, none⟩ = some (.bool a0_0) := bc0 BK531.out; have hcz30_1 : w27.cell? ⟨gb531, 1, none⟩ = some (.slice A0_1 l0_1.length c0_1) := bc1 BK531.out; have hfz30_0 := blk_frozen BK531.out 0; have hfz30_1 := blk_frozen BK531.out 1; have hnb31 := NB532_533.out; have hnc31 := NB533_532.out; have hcz32_0 : w27.cell? ⟨gb532, 0, none⟩ = some (.bool a1_0) := bc0 BK532.out; have hcz32_1 : w27.cell? ⟨gb532, 1, none⟩ = some (.slice A1_1 l1_1.length c1_1) := bc1 BK532.out; have hfz32_0 := blk_frozen BK532.out 0; have hfz32_1 := blk_frozen BK532.out 1) | ((with_reducible refine gate_callee (f := 47) rfl ?_); refine goL (some 24) Tryd.func47 [.slice A0_1 l0_1.length c0_1, .slice A1_1 l1_1.length c1_1] ?_; (with_reducible refine (nat_Cmp.calls k _ _ l0_1 _ _ l1_1 t541 _ ?side1 ?side2 ?side3 ?side4 A21.out).mono ?_); (case side1 => exact (Kd.C_below HR0_1.out HB.out)); (case side2 => exact HC0_1.out); (case side3 => exact (Kd.C_below HR1_1.out HB.out)); (case side4 => exact HC1_1.out); rintro e w33 ⟨rfl, hb⟩; refine ⟨_, rfl, ?_⟩; replace BK531 := Aside0.mk (blk_below BK531.out hb); replace BK532 := Aside0.mk (blk_below BK532.out hb); replace BK533 := Aside0.mk (blk_below BK533.out hb); replace HB := Aside0.mk (below_step HB.out hb); (try clear hb); (try clear hb2); (try clear hk); (try clear hi); have hcz34_0 : w33.cell? ⟨gb532, 0, none⟩ = some (.bool a1_0) := bc0 BK532.out; have hcz34_1 : w33.cell? ⟨gb532, 1, none⟩ = some (.slice A1_1 l1_1.length c1_1) := bc1 BK532.out; have hfz34_0 := blk_frozen BK532.out 0; have hfz34_1 := blk_frozen BK532.out 1; have hcz35_0 : w33.cell? ⟨gb531, 0, none⟩ = some (.bool a0_0) := bc0 BK531.out; have hcz35_1 : w33.cell? ⟨gb531, 1, none⟩ = some (.slice A0_1 l0_1.length c0_1) := bc1 BK531.out; have hfz35_0 := blk_frozen BK531.out 0; have hfz35_1 := blk_frozen BK531.out 1) | ((with_reducible refine gate_callee (f := 41) rfl ?_); refine goL (some 33) Tryd.func41 [.slice A1_1 l1_1.length c1_1, .slice A0_1 l0_1.length c0_1] ?_; (with_reducible refine (nat_Sub.calls k _ _ l1_1 _ _ l0_1 t542 t543 _ ?side1 ?side2 ?side3 ?side4 A23.out).mono ?_); (case side1 => exact Kd.C_below HR1_1.out (by repeat first | exact HB.out | refine bxSet ?_ (by assumption) | apply below_alloc | apply pw_below_drewN)); (case side2 => exact HC1_1.out); (case side3 => exact Kd.C_below HR0_1.out (by repeat first | exact HB.out | refine bxSet ?_ (by assumption) | apply below_alloc | apply pw_below_drewN)); (case side4 => exact HC0_1.out); rintro e w36 ⟨v544, rfl, ho0, hb⟩; refine ⟨_, rfl, ?_⟩; have HO545 := Aside0.mk (Kd.R_lower ho0 (below_size (by repeat first | exact HB.out | refine bxSet ?_ (by assumption) | apply below_alloc | apply pw_below_drewN))); replace BK531 := Aside0.mk (blk_below (g := gb531) (o := .cells #[.bool a1_0, .slice A1_1 l1_1.length c1_1] 24 (0, 0)) (by refine blk_far ?_ NB531_532.out _; refine blk_far ?_ NB531_532.out _; refine blk_put (cs := #[.bool a1_0, .slice A0_1 l0_1.length c0_1]) ?_ 1 _ rfl; refine blk_put (cs := #[.bool a0_0, .slice A0_1 l0_1.length c0_1]) ?_ 0 _ rfl; exact BK531.out) hb); replace BK533 := Aside0.mk (blk_below (g := gb533) (o := .cells #[.bool false, .slice none 0 0] 24 (0, 0)) (by refine blk_far ?_ NB533_532.out _; refine blk_far ?_ NB533_532.out _; refine blk_far ?_ NB533_531.out _; refine blk_far ?_ NB533_531.out _; exact BK533.out) hb); replace HB := Aside0.mk (below_step (by repeat first | exact HB.out | refine bxSet ?_ (by assumption) | apply below_alloc | apply pw_below_drewN) hb); have hcz37_0 : w36.cell? ⟨gb531, 0, none⟩ = some (.bool a1_0) := bc0 BK531.out; have hcz37_1 : w36.cell? ⟨gb531, 1, none⟩ = some (.slice A1_1 l1_1.length c1_1) := bc1 BK531.out; have hfz37_0 := blk_frozen BK531.out 0; have hfz37_1 := blk_frozen BK531.out 1; obtain ⟨Ao38, co38, eo38⟩ := Kd.R_slice HO545.out; subst eo38) | ((with_reducible refine gate_callee (f := 40) rfl ?_); refine goL (some 39) Tryd.func40 [.bool a1_0, .slice Ao38 t542.length co38] ?_; (with_reducible refine (whole_made.calls a1_0 _ _ t542 t546 t547 _ ?side1 ?side2 A24.out).mono ?_); (case side1 => exact (Kd.R_reads' HO545.out).2.2); (case side2 => exact (Kd.R_reads' HO545.out).2.1); rintro e w39 ⟨v548, rfl, ho0, hb⟩; refine ⟨_, rfl, ?_⟩; have HO549 := Aside0.mk (Kd.R_lower (Kd.R_new' ho0 (Kd.R_lt HO545.out)) (below_size HB.out)); replace BK533 := Aside0.mk (blk_below BK533.out hb); replace HB := Aside0.mk (below_step HB.out hb); have hcz40_0 : w39.cell? ⟨gb533, 0, none⟩ = some (.bool false) := bc0 BK533.out; have hcz40_1 : w39.cell? ⟨gb533, 1, none⟩ = some (.slice none 0 0) := bc1 BK533.out; have hfz40_0 := blk_frozen BK533.out 0; have hfz40_1 := blk_frozen BK533.out 1; obtain ⟨Ao41, co41, eo41⟩ := Kd.R_slice HO549.out; subst eo41))
   refine bodyPost_ret (results_cell_row rfl _ _ gb533 24 #[.bool t546, .slice Ao41 t547.length co41] (0, 0) _ rfl (by refine blk_put (cs := #[.bool t546, .slice none 0 0]) ?_ 1 _ rfl; refine blk_put (cs := #[.bool false, .slice none 0 0]) ?_ 0 _ rfl; exact BK533.out) Tryd.underlying24 rfl (by kernel_rfl)) rfl ?_
   exact ⟨_, rfl, Kd.R_mono (Kd.R_far (p := ⟨gb533, 1, none⟩) (Kd.R_far (p := ⟨gb533, 0, none⟩) (Kd.R_types HO549.out BK533.out (by decide)) (fun _ hk => hk.2) (.bool t546)) (fun _ hk => hk.2) (.slice Ao41 t547.length co41)) (fun _ hk => trivial), by repeat first | exact HB.out | refine bxSet ?_ (by assumption) | apply below_alloc | apply pw_below_drewN⟩
  ·rw [if_neg c22] at H
   have c22b0 : decide (t541 < 0) = false := decide_eq_false c22
   clear c22
   obtain ⟨⟨t550, t551⟩, A420, H⟩ := Option.bind_eq_some_iff.mp H
   try dsimp only at H
   have A42 := Aside0.mk A420
   clear A420
   obtain ⟨⟨t554, t555⟩, A430, H⟩ := Option.bind_eq_some_iff.mp H
   try dsimp only at H
   have A43 := Aside0.mk A430
   clear A430
   simp only [Option.some.injEq, Prod.mk.injEq] at H
   obtain ⟨rfl, rfl⟩ := H
   go_enter Tryd.func20, Tryd.ntmps20
   go_wp2_with (first | ((with_reducible refine gate_dst (N := 2) rfl ?_); refine box_event ?hg (N := 2) ?hd (cs := #[.bool a0_0, .slice A0_1 l0_1.length c0_1]) (t := 24) ?hr ?_; (case hd => rfl); (case hg => rfl); (case hr => first | (go_simp; done) | (go_simp; rfl)); intro gb531 hg w44 hbox hb; have BK531 := Aside0.mk (hbox); have GW531 := Aside0.mk (bxLe HB.out hg); have GE531 := GW531; replace HB := Aside0.mk (below_step HB.out hb); clear hb hbox hg) | ((with_reducible refine gate_dst (N := 3) rfl ?_); refine box_event ?hg (N := 3) ?hd (cs := #[.bool a1_0, .slice A1_1 l1_1.length c1_1]) (t := 24) ?hr ?_; (case hd => rfl); (case hg => rfl); (case hr => first | (go_simp; done) | (go_simp; rfl)); intro gb532 hg w45 hbox hb; have BK532 := Aside0.mk (hbox); have GW532 := Aside0.mk (bxLe HB.out hg); have GE532 := GW532; replace HB := Aside0.mk (below_step HB.out hb); have NB531_532 := Aside0.mk (neL BK531.out hg); have NB532_531 := Aside0.mk (neR BK531.out hg); replace BK531 := Aside0.mk (blk_below BK531.out hb); clear hb hbox hg) | ((with_reducible refine gate_dst (N := 4) rfl ?_); refine box_event ?hg (N := 4) ?hd (cs := #[.bool false, .slice none 0 0]) (t := 24) ?hr ?_; (case hd => rfl); (case hg => rfl); (case hr => first | (go_simp; done) | (go_simp; rfl)); intro gb533 hg w46 hbox hb; have BK533 := Aside0.mk (hbox); have GW533 := Aside0.mk (bxLe HB.out hg); have GE533 := GW533; replace HB := Aside0.mk (below_step HB.out hb); have NB531_533 := Aside0.mk (neL BK531.out hg); have NB533_531 := Aside0.mk (neR BK531.out hg); replace BK531 := Aside0.mk (blk_below BK531.out hb); have NB532_533 := Aside0.mk (neL BK532.out hg); have NB533_532 := Aside0.mk (neR BK532.out hg); replace BK532 := Aside0.mk (blk_below BK532.out hb); clear hb hbox hg; have hnb47 := NB531_532.out; have hnc47 := NB532_531.out; have hnb48 := NB531_533.out; have hnc48 := NB533_531.out; have hcz49_0 : w46.cell? ⟨gb531, 0, none⟩ = some (.bool a0_0) := bc0 BK531.out; have hcz49_1 : w46.cell? ⟨gb531, 1, none⟩ = some (.slice A0_1 l0_1.length c0_1) := bc1 BK531.out; have hfz49_0 := blk_frozen BK531.out 0; have hfz49_1 := blk_frozen BK531.out 1; have hnb50 := NB532_533.out; have hnc50 := NB533_532.out; have hcz51_0 : w46.cell? ⟨gb532, 0, none⟩ = some (.bool a1_0) := bc0 BK532.out; have hcz51_1 : w46.cell? ⟨gb532, 1, none⟩ = some (.slice A1_1 l1_1.length c1_1) := bc1 BK532.out; have hfz51_0 := blk_frozen BK532.out 0; have hfz51_1 := blk_frozen BK532.out 1) | ((with_reducible refine gate_callee (f := 47) rfl ?_); refine goL (some 24) Tryd.func47 [.slice A0_1 l0_1.length c0_1, .slice A1_1 l1_1.length c1_1] ?_; (with_reducible refine (nat_Cmp.calls k _ _ l0_1 _ _ l1_1 t541 _ ?side1 ?side2 ?side3 ?side4 A21.out).mono ?_); (case side1 => exact (Kd.C_below HR0_1.out HB.out)); (case side2 => exact HC0_1.out); (case side3 => exact (Kd.C_below HR1_1.out HB.out)); (case side4 => exact HC1_1.out); rintro e w52 ⟨rfl, hb⟩; refine ⟨_, rfl, ?_⟩; replace BK531 := Aside0.mk (blk_below BK531.out hb); replace BK532 := Aside0.mk (blk_below BK532.out hb); replace BK533 := Aside0.mk (blk_below BK533.out hb); replace HB := Aside0.mk (below_step HB.out hb); (try clear hb); (try clear hb2); (try clear hk); (try clear hi); have hcz53_0 : w52.cell? ⟨gb531, 0, none⟩ = some (.bool a0_0) := bc0 BK531.out; have hcz53_1 : w52.cell? ⟨gb531, 1, none⟩ = some (.slice A0_1 l0_1.length c0_1) := bc1 BK531.out; have hfz53_0 := blk_frozen BK531.out 0; have hfz53_1 := blk_frozen BK531.out 1; have hcz54_0 : w52.cell? ⟨gb532, 0, none⟩ = some (.bool a1_0) := bc0 BK532.out; have hcz54_1 : w52.cell? ⟨gb532, 1, none⟩ = some (.slice A1_1 l1_1.length c1_1) := bc1 BK532.out; have hfz54_0 := blk_frozen BK532.out 0; have hfz54_1 := blk_frozen BK532.out 1) | ((with_reducible refine gate_callee (f := 41) rfl ?_); refine goL (some 33) Tryd.func41 [.slice A0_1 l0_1.length c0_1, .slice A1_1 l1_1.length c1_1] ?_; (with_reducible refine (nat_Sub.calls k _ _ l0_1 _ _ l1_1 t550 t551 _ ?side1 ?side2 ?side3 ?side4 A42.out).mono ?_); (case side1 => exact (Kd.C_below HR0_1.out HB.out)); (case side2 => exact HC0_1.out); (case side3 => exact (Kd.C_below HR1_1.out HB.out)); (case side4 => exact HC1_1.out); rintro e w55 ⟨v552, rfl, ho0, hb⟩; refine ⟨_, rfl, ?_⟩; have HO553 := Aside0.mk (Kd.R_lower ho0 (below_size HB.out)); replace BK531 := Aside0.mk (blk_below BK531.out hb); replace BK533 := Aside0.mk (blk_below BK533.out hb); replace HB := Aside0.mk (below_step HB.out hb); have hcz56_0 : w55.cell? ⟨gb531, 0, none⟩ = some (.bool a0_0) := bc0 BK531.out; have hcz56_1 : w55.cell? ⟨gb531, 1, none⟩ = some (.slice A0_1 l0_1.length c0_1) := bc1 BK531.out; have hfz56_0 := blk_frozen BK531.out 0; have hfz56_1 := blk_frozen BK531.out 1; obtain ⟨Ao57, co57, eo57⟩ := Kd.R_slice HO553.out; subst eo57) | ((with_reducible refine gate_callee (f := 40) rfl ?_); refine goL (some 39) Tryd.func40 [.bool a0_0, .slice Ao57 t550.length co57] ?_; (with_reducible refine (whole_made.calls a0_0 _ _ t550 t554 t555 _ ?side1 ?side2 A43.out).mono ?_); (case side1 => exact (Kd.R_reads' HO553.out).2.2); (case side2 => exact (Kd.R_reads' HO553.out).2.1); rintro e w58 ⟨v556, rfl, ho0, hb⟩; refine ⟨_, rfl, ?_⟩; have HO557 := Aside0.mk (Kd.R_lower (Kd.R_new' ho0 (Kd.R_lt HO553.out)) (below_size HB.out)); replace BK533 := Aside0.mk (blk_below BK533.out hb); replace HB := Aside0.mk (below_step HB.out hb); have hcz59_0 : w58.cell? ⟨gb533, 0, none⟩ = some (.bool false) := bc0 BK533.out; have hcz59_1 : w58.cell? ⟨gb533, 1, none⟩ = some (.slice none 0 0) := bc1 BK533.out; have hfz59_0 := blk_frozen BK533.out 0; have hfz59_1 := blk_frozen BK533.out 1; obtain ⟨Ao60, co60, eo60⟩ := Kd.R_slice HO557.out; subst eo60))
   refine bodyPost_ret (results_cell_row rfl _ _ gb533 24 #[.bool t554, .slice Ao60 t555.length co60] (0, 0) _ rfl (by refine blk_put (cs := #[.bool t554, .slice none 0 0]) ?_ 1 _ rfl; refine blk_put (cs := #[.bool false, .slice none 0 0]) ?_ 0 _ rfl; exact BK533.out) Tryd.underlying24 rfl (by kernel_rfl)) rfl ?_
   exact ⟨_, rfl, Kd.R_mono (Kd.R_far (p := ⟨gb533, 1, none⟩) (Kd.R_far (p := ⟨gb533, 0, none⟩) (Kd.R_types HO557.out BK533.out (by decide)) (fun _ hk => hk.2) (.bool t554)) (fun _ hk => hk.2) (.slice Ao60 t555.length co60)) (fun _ hk => trivial), by repeat first | exact HB.out | refine bxSet ?_ (by assumption) | apply below_alloc | apply pw_below_drewN⟩

/-! ### gudgeonref01_at: function 82 -/
/-! ### gudgeonref01_add: function 70 -/
/-! ### gudgeonref01_Add: function 44 -/
end Go.Proofs.YthnfmmaolkenkaaDoor.PA
