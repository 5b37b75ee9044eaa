/- Joined by wip/tools/shake.py for the claim of LinReckons: PAx5, NatC, HWin, PAx7, NatE, NatG, NatY, HClo, PAx6, WhoA, HLNorm, HLValue, HLBy. -/
import Derived.Test.YtdicjemjmlbmlaaJLinReckons2
import Derived.Lib.BitFns
import Derived.Test.YtdicjemjmlbmlaaJLinReckons1
import Derived.Test.YtdicjemjmlbmlaaProg
import Derived.WalkKit
import Derived.KernelRfl
import Derived.OpenShut
import Derived.Shelf.RegionOpenPlain
import Derived.Lib.SliceRun
/- Written by a program of this session, wip/tools/patch_print.py, over the kit's print of the loaded functions. -/
namespace Go.Proofs.Ytdicjemjmlbmlaa.H
end Go.Proofs.Ytdicjemjmlbmlaa.H
namespace Go.Proofs.Ytdicjemjmlbmlaa.PA
open Go.RowKit Go.Proofs.YtdicjemjmlbmlaaW.PrintWords Go.Proofs.YtdicjemjmlbmlaaW.PrintLast Go.Proofs.YtdicjemjmlbmlaaW.PrintMore Go.Proofs.Ytdicjemjmlbmlaa.H
attribute [local go_sem] max2_int min2_int max_two min_two max_three min_three max_four min_four   -- for this text's walks alone
set_option linter.unusedVariables false
set_option linter.unusedSimpArgs false

/-! ### nat_right: function 93 -/
/-! ### nat_DivMod: function 72 -/
def nat_DivMod.f (k : Nat) (l0 : List Int) (l1 : List Int) : Option (List Int × List Int × Int) := (nat_Norm.f l0).bind fun t290 => ((nat_Norm.f l1).bind fun t293 => (if (t293.length : Int) = 0 then (some (([] : List Int), ([] : List Int), 7)) else ((nat_Cmp.f k t290 t293).bind fun t296 => (if t296 < 0 then (some ((([] : List Int)), t290, 0)) else (if (t293.length : Int) = 1 then (if 0 < (t293.length : Int) then ((nat_small.f k t290 (IntKind.u64.wrap (rd t293 0))).bind fun bt301 => ((nat_Of.f bt301.2).bind fun t305 => (some (bt301.1, t305, 0)))) else (none)) else (none))))))
set_option maxHeartbeats 8000000 in
set_option maxRecDepth 100000 in
theorem nat_DivMod.calls (k : Nat) (A0 : Option Addr) (c0 : Nat) (l0 : List Int) (A1 : Option Addr) (c1 : Nat) (l1 : List Int) (r1 : List Int) (r2 : List Int) (r3 : Int) (w : World) (hr0 : Kd.C (Kd.int .u32) w A0 l0.length l0) (hc0 : l0.length ≤ c0) (hr1 : Kd.C (Kd.int .u32) w A1 l1.length l1) (hc1 : l1.length ≤ c1) (h : nat_DivMod.f k l0 l1 = some (r1, r2, r3)) :
  Calls Try.prog 72 #[.slice A0 l0.length c0, .slice A1 l1.length c1] w fun e w' => ∃ v0_ v1_ : Value, e = .returned (.tuple #[v0_, v1_, .int .i64 r3]) ∧ Kd.R (Kd.int .u32) 81 w' w.heap.size (fun k_ => some k_ ≠ (v1_ : Value).ownBlock) v0_ r1 ∧ Kd.R (Kd.int .u32) 81 w' w.heap.size (fun k_ => some k_ ≠ (v0_ : Value).ownBlock) v1_ r2 ∧ Below w.heap.size w w' := by
 have HR0 := Aside0.mk hr0
 have HC0 := Aside0.mk hc0
 clear hr0 hc0
 have HR1 := Aside0.mk hr1
 have HC1 := Aside0.mk hc1
 clear hr1 hc1
 have HB := Aside0.mk (Below.refl w.heap.size w)
 have H : ((nat_Norm.f l0).bind fun t290 => ((nat_Norm.f l1).bind fun t293 => (if (t293.length : Int) = 0 then (some (([] : List Int), ([] : List Int), 7)) else ((nat_Cmp.f k t290 t293).bind fun t296 => (if t296 < 0 then (some ((([] : List Int)), t290, 0)) else (if (t293.length : Int) = 1 then (if 0 < (t293.length : Int) then ((nat_small.f k t290 (IntKind.u64.wrap (rd t293 0))).bind fun bt301 => ((nat_Of.f bt301.2).bind fun t305 => (some (bt301.1, t305, 0)))) else (none)) else (none))))))) = some (r1, r2, r3) := h
 clear h
 replace H := Option.bind_eq_some_iff.mp H
 obtain ⟨t290, A30, H⟩ := H
 replace H : ((nat_Norm.f l1).bind fun t293 => (if (t293.length : Int) = 0 then (some (([] : List Int), ([] : List Int), 7)) else ((nat_Cmp.f k t290 t293).bind fun t296 => (if t296 < 0 then (some ((([] : List Int)), t290, 0)) else (if (t293.length : Int) = 1 then (if 0 < (t293.length : Int) then ((nat_small.f k t290 (IntKind.u64.wrap (rd t293 0))).bind fun bt301 => ((nat_Of.f bt301.2).bind fun t305 => (some (bt301.1, t305, 0)))) else (none)) else (none)))))) = some (r1, r2, r3) := H
 have A3 := Aside0.mk A30
 clear A30
 replace H := Option.bind_eq_some_iff.mp H
 obtain ⟨t293, A40, H⟩ := H
 replace H : (if (t293.length : Int) = 0 then (some (([] : List Int), ([] : List Int), 7)) else ((nat_Cmp.f k t290 t293).bind fun t296 => (if t296 < 0 then (some ((([] : List Int)), t290, 0)) else (if (t293.length : Int) = 1 then (if 0 < (t293.length : Int) then ((nat_small.f k t290 (IntKind.u64.wrap (rd t293 0))).bind fun bt301 => ((nat_Of.f bt301.2).bind fun t305 => (some (bt301.1, t305, 0)))) else (none)) else (none))))) = some (r1, r2, r3) := H
 have A4 := Aside0.mk A40
 clear A40
 by_cases c5 : (t293.length : Int) = 0
 ·rw [if_pos c5] at H
  have c5b0 : ((t293.length : Int) == 0) = true := beq_iff_eq.mpr c5
  have c5b1 : ((t293.length : Int) != 0) = false := bne_eq_false_iff_eq.mpr c5
  clear c5
  simp only [Option.some.injEq, Prod.mk.injEq] at H
  obtain ⟨rfl, rfl, rfl⟩ := H
  go_enter Try.func72, Try.ntmps72
  go_wp2_with (first | ((with_reducible refine gate_callee (f := 83) rfl ?_); refine goesL_ (some 15) rfl rfl Try.func83 (by kernel_rfl) rfl #[.slice A0 l0.length c0] rfl (by (try simp only [List.map_toArray, List.map_cons, List.map_nil]); first | done | rfl | (simp only [List.length_drop, List.length_take]; rfl)) ?_; (with_reducible refine (nat_Norm.calls _ _ l0 t290 _ ?side1 ?side2 A3.out).mono ?_); (case side1 => repeat (first | exact HR0.out | (with_reducible refine Kd.C_alloc ?_ _) | (with_reducible refine Kd.C_drewN ?_ _) | (with_reducible refine Kd.C_drew ?_))); (case side2 => exact HC0.out); rintro e w6 ⟨v291, rfl, ho0, hb⟩; refine ⟨_, rfl, ?_⟩; have n0_ := Aside0.mk (Kd.R_lower ho0 (below_size (by repeat (first | (with_reducible first | exact HB.out | apply below_alloc | apply pw_below_drewN | apply below_drew1) | exact HB.out)))); have n1_ := Aside0.mk (below_step (by repeat (first | (with_reducible first | exact HB.out | apply below_alloc | apply pw_below_drewN | apply below_drew1) | exact HB.out)) hb); clear HB; have HO292 := n0_; have HB := n1_; clear n0_ n1_; (try clear hb); (try clear hb2); (try clear hk); (try clear hi); (try clear ho0)) | ((with_reducible refine gate_callee (f := 83) rfl ?_); refine goesL_ (some 17) rfl rfl Try.func83 (by kernel_rfl) rfl #[.slice A1 l1.length c1] rfl (by (try simp only [List.map_toArray, List.map_cons, List.map_nil]); first | done | rfl | (simp only [List.length_drop, List.length_take]; rfl)) ?_; (with_reducible refine (nat_Norm.calls _ _ l1 t293 _ ?side1 ?side2 A4.out).mono ?_); (case side1 => repeat (first | exact (Kd.C_below HR1.out HB.out) | (with_reducible refine Kd.C_alloc ?_ _) | (with_reducible refine Kd.C_drewN ?_ _) | (with_reducible refine Kd.C_drew ?_))); (case side2 => exact HC1.out); rintro e w7 ⟨v294, rfl, ho0, hb⟩; refine ⟨_, rfl, ?_⟩; have n0_ := Aside0.mk (Kd.R_elder' (by (with_reducible repeat (first | apply Kd.R_alloc | apply Kd.R_drewN | apply Kd.R_drew)); exact HO292.out) (Kd.R_base ho0) hb); have n1_ := Aside0.mk (Kd.R_lower (Kd.R_new' ho0 (Kd.R_lt (by (with_reducible repeat (first | apply Kd.R_alloc | apply Kd.R_drewN | apply Kd.R_drew)); exact HO292.out))) (below_size (by repeat (first | (with_reducible first | exact HB.out | apply below_alloc | apply pw_below_drewN | apply below_drew1) | exact HB.out)))); have n2_ := Aside0.mk (below_step (by repeat (first | (with_reducible first | exact HB.out | apply below_alloc | apply pw_below_drewN | apply below_drew1) | exact HB.out)) hb); clear HO292; clear HB; have HO292 := n0_; have HO295 := n1_; have HB := n2_; clear n0_ n1_ n2_; (try clear hb); (try clear hb2); (try clear hk); (try clear hi); (try clear ho0); obtain ⟨Ao8, co8, eo8⟩ := Kd.R_slice HO295.out; subst eo8))
  go_ret3
  exact ⟨_, _, by first | rfl | (simp [errW_none, errW_some] <;> rfl) | (simp [*, errW_none, errW_some] <;> rfl), by first | exact Kd.R_nil _ _ _ _ _ | exact Kd.N_nil _ _ _ _ _ | exact Kd.V_nil _ _ _ _ _ | exact Kd.Q_nil _ _ _ _ _ | exact Kd.S_nil _ _ _ _ _, by first | exact Kd.R_nil _ _ _ _ _ | exact Kd.N_nil _ _ _ _ _ | exact Kd.V_nil _ _ _ _ _ | exact Kd.Q_nil _ _ _ _ _ | exact Kd.S_nil _ _ _ _ _, by repeat (first | (with_reducible first | exact HB.out | apply below_alloc | apply pw_below_drewN | apply below_drew1) | exact HB.out)⟩
 ·rw [if_neg c5] at H
  have c5b0 : ((t293.length : Int) == 0) = false := beq_eq_false_iff_ne.mpr c5
  have c5b1 : ((t293.length : Int) != 0) = true := bne_iff_ne.mpr c5
  have c5b2 : ¬ (t293 = []) := fun h_ => c5 (by rw [h_]; rfl)
  replace H := Option.bind_eq_some_iff.mp H
  obtain ⟨t296, A90, H⟩ := H
  replace H : (if t296 < 0 then (some ((([] : List Int)), t290, 0)) else (if (t293.length : Int) = 1 then (if 0 < (t293.length : Int) then ((nat_small.f k t290 (IntKind.u64.wrap (rd t293 0))).bind fun bt301 => ((nat_Of.f bt301.2).bind fun t305 => (some (bt301.1, t305, 0)))) else (none)) else (none))) = some (r1, r2, r3) := H
  have A9 := Aside0.mk A90
  clear A90
  by_cases c10 : t296 < 0
  ·rw [if_pos c10] at H
   have c10b0 : decide (t296 < 0) = true := decide_eq_true c10
   clear c10
   obtain ⟨y297, hy297⟩ : ∃ y_ : List Int, y_ = (([] : List Int)) := ⟨_, rfl⟩
   replace H : (some (y297, t290, 0)) = some (r1, r2, r3) := by first | (rw [hy297]; with_reducible exact H) | (have H2_ := (Option.bind_some _ _).symm.trans H; rw [hy297]; with_reducible exact H2_) | (have H2_ := (Option.bind_some _ _).symm.trans H; with_reducible exact H2_) | with_reducible exact H | (rw [hy297]; exact H) | exact H
   have Ny297 := Aside0.mk hy297
   clear hy297
   simp only [Option.some.injEq, Prod.mk.injEq] at H
   obtain ⟨rfl, rfl, rfl⟩ := H
   go_enter Try.func72, Try.ntmps72
   go_wp2_with (first | ((with_reducible refine gate_callee (f := 83) rfl ?_); refine goesL_ (some 15) rfl rfl Try.func83 (by kernel_rfl) rfl #[.slice A0 l0.length c0] rfl (by (try simp only [List.map_toArray, List.map_cons, List.map_nil]); first | done | rfl | (simp only [List.length_drop, List.length_take]; rfl)) ?_; (with_reducible refine (nat_Norm.calls _ _ l0 t290 _ ?side1 ?side2 A3.out).mono ?_); (case side1 => repeat (first | exact HR0.out | (with_reducible refine Kd.C_alloc ?_ _) | (with_reducible refine Kd.C_drewN ?_ _) | (with_reducible refine Kd.C_drew ?_))); (case side2 => exact HC0.out); rintro e w11 ⟨v291, rfl, ho0, hb⟩; refine ⟨_, rfl, ?_⟩; have n0_ := Aside0.mk (Kd.R_lower ho0 (below_size (by repeat (first | (with_reducible first | exact HB.out | apply below_alloc | apply pw_below_drewN | apply below_drew1) | exact HB.out)))); have n1_ := Aside0.mk (below_step (by repeat (first | (with_reducible first | exact HB.out | apply below_alloc | apply pw_below_drewN | apply below_drew1) | exact HB.out)) hb); clear HB; have HO292 := n0_; have HB := n1_; clear n0_ n1_; (try clear hb); (try clear hb2); (try clear hk); (try clear hi); (try clear ho0)) | ((with_reducible refine gate_callee (f := 83) rfl ?_); refine goesL_ (some 17) rfl rfl Try.func83 (by kernel_rfl) rfl #[.slice A1 l1.length c1] rfl (by (try simp only [List.map_toArray, List.map_cons, List.map_nil]); first | done | rfl | (simp only [List.length_drop, List.length_take]; rfl)) ?_; (with_reducible refine (nat_Norm.calls _ _ l1 t293 _ ?side1 ?side2 A4.out).mono ?_); (case side1 => repeat (first | exact (Kd.C_below HR1.out HB.out) | (with_reducible refine Kd.C_alloc ?_ _) | (with_reducible refine Kd.C_drewN ?_ _) | (with_reducible refine Kd.C_drew ?_))); (case side2 => exact HC1.out); rintro e w12 ⟨v294, rfl, ho0, hb⟩; refine ⟨_, rfl, ?_⟩; have n0_ := Aside0.mk (Kd.R_elder' (by (with_reducible repeat (first | apply Kd.R_alloc | apply Kd.R_drewN | apply Kd.R_drew)); exact HO292.out) (Kd.R_base ho0) hb); have n1_ := Aside0.mk (Kd.R_lower (Kd.R_new' ho0 (Kd.R_lt (by (with_reducible repeat (first | apply Kd.R_alloc | apply Kd.R_drewN | apply Kd.R_drew)); exact HO292.out))) (below_size (by repeat (first | (with_reducible first | exact HB.out | apply below_alloc | apply pw_below_drewN | apply below_drew1) | exact HB.out)))); have n2_ := Aside0.mk (below_step (by repeat (first | (with_reducible first | exact HB.out | apply below_alloc | apply pw_below_drewN | apply below_drew1) | exact HB.out)) hb); clear HO292; clear HB; have HO292 := n0_; have HO295 := n1_; have HB := n2_; clear n0_ n1_ n2_; (try clear hb); (try clear hb2); (try clear hk); (try clear hi); (try clear ho0); obtain ⟨Ao13, co13, eo13⟩ := Kd.R_slice HO295.out; subst eo13; obtain ⟨Ao14, co14, eo14⟩ := Kd.R_slice HO292.out; subst eo14) | ((with_reducible refine gate_callee (f := 67) rfl ?_); refine goesL_ (some 25) rfl rfl Try.func67 (by kernel_rfl) rfl #[.slice Ao14 t290.length co14, .slice Ao13 t293.length co13] rfl (by (try simp only [List.map_toArray, List.map_cons, List.map_nil]); first | done | rfl | (simp only [List.length_drop, List.length_take]; rfl)) ?_; (with_reducible refine (nat_Cmp.calls k _ _ t290 _ _ t293 t296 _ ?side1 ?side2 ?side3 ?side4 A9.out).mono ?_); (case side1 => repeat (first | exact (Kd.R_reads' HO292.out).2.2 | (with_reducible refine Kd.C_alloc ?_ _) | (with_reducible refine Kd.C_drewN ?_ _) | (with_reducible refine Kd.C_drew ?_))); (case side2 => exact (Kd.R_reads' HO292.out).2.1); (case side3 => repeat (first | exact (Kd.R_reads' HO295.out).2.2 | (with_reducible refine Kd.C_alloc ?_ _) | (with_reducible refine Kd.C_drewN ?_ _) | (with_reducible refine Kd.C_drew ?_))); (case side4 => exact (Kd.R_reads' HO295.out).2.1); rintro e w15 ⟨rfl, hb⟩; refine ⟨_, rfl, ?_⟩; have n0_ := Aside0.mk (Kd.R_below (by (with_reducible repeat (first | apply Kd.R_alloc | apply Kd.R_drewN | apply Kd.R_drew)); exact HO292.out) hb); have n1_ := Aside0.mk (Kd.R_below (by (with_reducible repeat (first | apply Kd.R_alloc | apply Kd.R_drewN | apply Kd.R_drew)); exact HO295.out) hb); have n2_ := Aside0.mk (below_step (by repeat (first | (with_reducible first | exact HB.out | apply below_alloc | apply pw_below_drewN | apply below_drew1) | exact HB.out)) hb); clear HO292; clear HO295; clear HB; have HO292 := n0_; have HO295 := n1_; have HB := n2_; clear n0_ n1_ n2_; (try clear hb); (try clear hb2); (try clear hk); (try clear hi)) | ((with_reducible refine gate_dst (N := 27) rfl ?_); refine Kd.R_lit (Kd.int .u32) _ 81 ?hg (N := 27) ?hd (xs := ([] : List Int)) (inner := []) (ok := fun _ => True) (okp := fun _ => True) ?hr ?hp (fun _ hk => hk) trivial (Below.refl _ _) (Nat.le_refl _) (by simp) ?_; (case hd => rfl); (case hg => rfl); (case hr => first | (go_simp; done) | (go_simp; rfl) | (go_simp; simp only [IntKind.wrap_u8, IntKind.wrap_u32]; congr 4; omega) | (go_simp; simp only [IntKind.wrap_u8, IntKind.wrap_u32]; congr 5; omega)); (case hp => exact (Reps.none _ _)); intro v298 w16 ho17 hb hg_ hnew_; clear hg_ hnew_; (first | rw [← Ny297.out] at ho17 | (simp only [Int.reduceToNat] at ho17; rw [← Ny297.out] at ho17)); have n0_ := Aside0.mk (Kd.R_elder' (by (with_reducible repeat (first | apply Kd.R_alloc | apply Kd.R_drewN | apply Kd.R_drew)); exact HO292.out) (Kd.R_base ho17) hb); have n1_ := Aside0.mk (Kd.R_elder' (by (with_reducible repeat (first | apply Kd.R_alloc | apply Kd.R_drewN | apply Kd.R_drew)); exact HO295.out) (Kd.R_base ho17) hb); have n2_ := Aside0.mk (Kd.R_lower (Kd.R_new' (Kd.R_new' ho17 (Kd.R_lt (by (with_reducible repeat (first | apply Kd.R_alloc | apply Kd.R_drewN | apply Kd.R_drew)); exact HO292.out))) (Kd.R_lt (by (with_reducible repeat (first | apply Kd.R_alloc | apply Kd.R_drewN | apply Kd.R_drew)); exact HO295.out))) (below_size (by repeat (first | (with_reducible first | exact HB.out | apply below_alloc | apply pw_below_drewN | apply below_drew1) | exact HB.out)))); have n3_ := Aside0.mk (below_step (by repeat (first | (with_reducible first | exact HB.out | apply below_alloc | apply pw_below_drewN | apply below_drew1) | exact HB.out)) hb); clear HO292; clear HO295; clear HB; have HO292 := n0_; have HO295 := n1_; have HO299 := n2_; have HB := n3_; clear n0_ n1_ n2_ n3_; clear hb ho17))
   go_ret3
   exact ⟨_, _, by first | rfl | (simp [errW_none, errW_some] <;> rfl) | (simp [*, errW_none, errW_some] <;> rfl), by (with_reducible repeat (first | apply Kd.R_alloc | apply Kd.R_drewN | apply Kd.R_drew)); exact Kd.R_mono HO299.out (fun _ hk => hk.1.2), by (with_reducible repeat (first | apply Kd.R_alloc | apply Kd.R_drewN | apply Kd.R_drew)); exact Kd.R_mono HO292.out (fun _ hk => hk.2), by repeat (first | (with_reducible first | exact HB.out | apply below_alloc | apply pw_below_drewN | apply below_drew1) | exact HB.out)⟩
  ·rw [if_neg c10] at H
   have c10b0 : decide (t296 < 0) = false := decide_eq_false c10
   clear c10
   by_cases c18 : (t293.length : Int) = 1
   ·rw [if_pos c18] at H
    have c18b0 : ((t293.length : Int) == 1) = true := beq_iff_eq.mpr c18
    have c18b1 : ((t293.length : Int) != 1) = false := bne_eq_false_iff_eq.mpr c18
    clear c18
    by_cases c19 : 0 < (t293.length : Int)
    ·rw [if_pos c19] at H
     have c19b0 : decide (0 < (t293.length : Int)) = true := decide_eq_true c19
     have c19b1 : decide (0 < t293.length) = true := decide_eq_true (by omega)
     clear c19
     replace H := Option.bind_eq_some_iff.mp H
     obtain ⟨⟨t301, t302⟩, A200, H⟩ := H
     replace H : ((nat_Of.f t302).bind fun t305 => (some (t301, t305, 0))) = some (r1, r2, r3) := H
     have A20 := Aside0.mk A200
     clear A200
     replace H := Option.bind_eq_some_iff.mp H
     obtain ⟨t305, A210, H⟩ := H
     replace H : (some (t301, t305, 0)) = some (r1, r2, r3) := H
     have A21 := Aside0.mk A210
     clear A210
     simp only [Option.some.injEq, Prod.mk.injEq] at H
     obtain ⟨rfl, rfl, rfl⟩ := H
     go_enter Try.func72, Try.ntmps72
     go_wp2_with (first | ((with_reducible refine gate_callee (f := 83) rfl ?_); refine goesL_ (some 15) rfl rfl Try.func83 (by kernel_rfl) rfl #[.slice A0 l0.length c0] rfl (by (try simp only [List.map_toArray, List.map_cons, List.map_nil]); first | done | rfl | (simp only [List.length_drop, List.length_take]; rfl)) ?_; (with_reducible refine (nat_Norm.calls _ _ l0 t290 _ ?side1 ?side2 A3.out).mono ?_); (case side1 => repeat (first | exact HR0.out | (with_reducible refine Kd.C_alloc ?_ _) | (with_reducible refine Kd.C_drewN ?_ _) | (with_reducible refine Kd.C_drew ?_))); (case side2 => exact HC0.out); rintro e w22 ⟨v291, rfl, ho0, hb⟩; refine ⟨_, rfl, ?_⟩; have n0_ := Aside0.mk (Kd.R_lower ho0 (below_size (by repeat (first | (with_reducible first | exact HB.out | apply below_alloc | apply pw_below_drewN | apply below_drew1) | exact HB.out)))); have n1_ := Aside0.mk (below_step (by repeat (first | (with_reducible first | exact HB.out | apply below_alloc | apply pw_below_drewN | apply below_drew1) | exact HB.out)) hb); clear HB; have HO292 := n0_; have HB := n1_; clear n0_ n1_; (try clear hb); (try clear hb2); (try clear hk); (try clear hi); (try clear ho0)) | ((with_reducible refine gate_callee (f := 83) rfl ?_); refine goesL_ (some 17) rfl rfl Try.func83 (by kernel_rfl) rfl #[.slice A1 l1.length c1] rfl (by (try simp only [List.map_toArray, List.map_cons, List.map_nil]); first | done | rfl | (simp only [List.length_drop, List.length_take]; rfl)) ?_; (with_reducible refine (nat_Norm.calls _ _ l1 t293 _ ?side1 ?side2 A4.out).mono ?_); (case side1 => repeat (first | exact (Kd.C_below HR1.out HB.out) | (with_reducible refine Kd.C_alloc ?_ _) | (with_reducible refine Kd.C_drewN ?_ _) | (with_reducible refine Kd.C_drew ?_))); (case side2 => exact HC1.out); rintro e w23 ⟨v294, rfl, ho0, hb⟩; refine ⟨_, rfl, ?_⟩; have n0_ := Aside0.mk (Kd.R_elder' (by (with_reducible repeat (first | apply Kd.R_alloc | apply Kd.R_drewN | apply Kd.R_drew)); exact HO292.out) (Kd.R_base ho0) hb); have n1_ := Aside0.mk (Kd.R_lower (Kd.R_new' ho0 (Kd.R_lt (by (with_reducible repeat (first | apply Kd.R_alloc | apply Kd.R_drewN | apply Kd.R_drew)); exact HO292.out))) (below_size (by repeat (first | (with_reducible first | exact HB.out | apply below_alloc | apply pw_below_drewN | apply below_drew1) | exact HB.out)))); have n2_ := Aside0.mk (below_step (by repeat (first | (with_reducible first | exact HB.out | apply below_alloc | apply pw_below_drewN | apply below_drew1) | exact HB.out)) hb); clear HO292; clear HB; have HO292 := n0_; have HO295 := n1_; have HB := n2_; clear n0_ n1_ n2_; (try clear hb); (try clear hb2); (try clear hk); (try clear hi); (try clear ho0); obtain ⟨Ao24, co24, eo24⟩ := Kd.R_slice HO295.out; subst eo24; obtain ⟨Ao25, co25, eo25⟩ := Kd.R_slice HO292.out; subst eo25) | ((with_reducible refine gate_callee (f := 67) rfl ?_); refine goesL_ (some 25) rfl rfl Try.func67 (by kernel_rfl) rfl #[.slice Ao25 t290.length co25, .slice Ao24 t293.length co24] rfl (by (try simp only [List.map_toArray, List.map_cons, List.map_nil]); first | done | rfl | (simp only [List.length_drop, List.length_take]; rfl)) ?_; (with_reducible refine (nat_Cmp.calls k _ _ t290 _ _ t293 t296 _ ?side1 ?side2 ?side3 ?side4 A9.out).mono ?_); (case side1 => repeat (first | exact (Kd.R_reads' HO292.out).2.2 | (with_reducible refine Kd.C_alloc ?_ _) | (with_reducible refine Kd.C_drewN ?_ _) | (with_reducible refine Kd.C_drew ?_))); (case side2 => exact (Kd.R_reads' HO292.out).2.1); (case side3 => repeat (first | exact (Kd.R_reads' HO295.out).2.2 | (with_reducible refine Kd.C_alloc ?_ _) | (with_reducible refine Kd.C_drewN ?_ _) | (with_reducible refine Kd.C_drew ?_))); (case side4 => exact (Kd.R_reads' HO295.out).2.1); rintro e w26 ⟨rfl, hb⟩; refine ⟨_, rfl, ?_⟩; have n0_ := Aside0.mk (Kd.R_below (by (with_reducible repeat (first | apply Kd.R_alloc | apply Kd.R_drewN | apply Kd.R_drew)); exact HO292.out) hb); have n1_ := Aside0.mk (Kd.R_below (by (with_reducible repeat (first | apply Kd.R_alloc | apply Kd.R_drewN | apply Kd.R_drew)); exact HO295.out) hb); have n2_ := Aside0.mk (below_step (by repeat (first | (with_reducible first | exact HB.out | apply below_alloc | apply pw_below_drewN | apply below_drew1) | exact HB.out)) hb); clear HO292; clear HO295; clear HB; have HO292 := n0_; have HO295 := n1_; have HB := n2_; clear n0_ n1_ n2_; (try clear hb); (try clear hb2); (try clear hk); (try clear hi); have p300 : 0 ≤ (0 : Int) := (by omega); have q300 : 0 < (t293.length : Int) := of_decide_eq_true (by first | (with_reducible assumption) | assumption); obtain ⟨ad300, e300, hx300_0⟩ := Kd.at_int (Kd.R_reads' HO295.out).2.2 0 p300 q300; cases e300; have qi300 : (0 < t293.length) = True := eq_true (by omega); (try rw [show ((0 : Int)).toNat = 0 from rfl] at hx300_0); (try rw [Addr.add_zero'] at hx300_0); replace p300 := eq_true p300; replace q300 := eq_true q300) | ((with_reducible refine gate_callee (f := 89) rfl ?_); refine goesL_ (some 39) rfl rfl Try.func89 (by kernel_rfl) rfl #[.slice Ao25 t290.length co25, .int .u64 (IntKind.u64.wrap (rd t293 0))] rfl (by (try simp only [List.map_toArray, List.map_cons, List.map_nil]); first | done | rfl | (simp only [List.length_drop, List.length_take]; rfl)) ?_; (with_reducible refine (nat_small.calls k _ _ t290 (IntKind.u64.wrap (rd t293 0)) t301 t302 _ ?side1 ?side2 A20.out).mono ?_); (case side1 => repeat (first | exact (Kd.R_reads' HO292.out).2.2 | (with_reducible refine Kd.C_alloc ?_ _) | (with_reducible refine Kd.C_drewN ?_ _) | (with_reducible refine Kd.C_drew ?_))); (case side2 => exact (Kd.R_reads' HO292.out).2.1); rintro e w27 ⟨v303, rfl, ho0, hb⟩; refine ⟨_, rfl, ?_⟩; have n0_ := Aside0.mk (Kd.R_elder' (by (with_reducible repeat (first | apply Kd.R_alloc | apply Kd.R_drewN | apply Kd.R_drew)); exact HO292.out) (Kd.R_base ho0) hb); have n1_ := Aside0.mk (Kd.R_elder' (by (with_reducible repeat (first | apply Kd.R_alloc | apply Kd.R_drewN | apply Kd.R_drew)); exact HO295.out) (Kd.R_base ho0) hb); have n2_ := Aside0.mk (Kd.R_lower (Kd.R_new' (Kd.R_new' ho0 (Kd.R_lt (by (with_reducible repeat (first | apply Kd.R_alloc | apply Kd.R_drewN | apply Kd.R_drew)); exact HO292.out))) (Kd.R_lt (by (with_reducible repeat (first | apply Kd.R_alloc | apply Kd.R_drewN | apply Kd.R_drew)); exact HO295.out))) (below_size (by repeat (first | (with_reducible first | exact HB.out | apply below_alloc | apply pw_below_drewN | apply below_drew1) | exact HB.out)))); have n3_ := Aside0.mk (below_step (by repeat (first | (with_reducible first | exact HB.out | apply below_alloc | apply pw_below_drewN | apply below_drew1) | exact HB.out)) hb); clear HO292; clear HO295; clear HB; have HO292 := n0_; have HO295 := n1_; have HO304 := n2_; have HB := n3_; clear n0_ n1_ n2_ n3_; (try clear hb); (try clear hb2); (try clear hk); (try clear hi); (try clear ho0)) | ((with_reducible refine gate_callee (f := 64) rfl ?_); refine goesL_ (some 44) rfl rfl Try.func64 (by kernel_rfl) rfl #[.int .u64 t302] rfl (by (try simp only [List.map_toArray, List.map_cons, List.map_nil]); first | done | rfl | (simp only [List.length_drop, List.length_take]; rfl)) ?_; (with_reducible refine (nat_Of.calls t302 t305 _ A21.out).mono ?_); rintro e w28 ⟨v306, rfl, ho0, hb⟩; refine ⟨_, rfl, ?_⟩; have n0_ := Aside0.mk (Kd.R_elder' (by (with_reducible repeat (first | apply Kd.R_alloc | apply Kd.R_drewN | apply Kd.R_drew)); exact HO292.out) (Kd.R_base ho0) hb); have n1_ := Aside0.mk (Kd.R_elder' (by (with_reducible repeat (first | apply Kd.R_alloc | apply Kd.R_drewN | apply Kd.R_drew)); exact HO295.out) (Kd.R_base ho0) hb); have n2_ := Aside0.mk (Kd.R_elder' (by (with_reducible repeat (first | apply Kd.R_alloc | apply Kd.R_drewN | apply Kd.R_drew)); exact HO304.out) (Kd.R_base ho0) hb); have n3_ := Aside0.mk (Kd.R_lower (Kd.R_new' (Kd.R_new' (Kd.R_new' ho0 (Kd.R_lt (by (with_reducible repeat (first | apply Kd.R_alloc | apply Kd.R_drewN | apply Kd.R_drew)); exact HO292.out))) (Kd.R_lt (by (with_reducible repeat (first | apply Kd.R_alloc | apply Kd.R_drewN | apply Kd.R_drew)); exact HO295.out))) (Kd.R_lt (by (with_reducible repeat (first | apply Kd.R_alloc | apply Kd.R_drewN | apply Kd.R_drew)); exact HO304.out))) (below_size (by repeat (first | (with_reducible first | exact HB.out | apply below_alloc | apply pw_below_drewN | apply below_drew1) | exact HB.out)))); have n4_ := Aside0.mk (below_step (by repeat (first | (with_reducible first | exact HB.out | apply below_alloc | apply pw_below_drewN | apply below_drew1) | exact HB.out)) hb); clear HO292; clear HO295; clear HO304; clear HB; have HO292 := n0_; have HO295 := n1_; have HO304 := n2_; have HO307 := n3_; have HB := n4_; clear n0_ n1_ n2_ n3_ n4_; (try clear hb); (try clear hb2); (try clear hk); (try clear hi); (try clear ho0)))
     go_ret3
     exact ⟨_, _, by first | rfl | (simp [errW_none, errW_some] <;> rfl) | (simp [*, errW_none, errW_some] <;> rfl), by (with_reducible repeat (first | apply Kd.R_alloc | apply Kd.R_drewN | apply Kd.R_drew)); exact Kd.R_mono HO304.out (fun _ hk => hk.2), by (with_reducible repeat (first | apply Kd.R_alloc | apply Kd.R_drewN | apply Kd.R_drew)); exact Kd.R_mono HO307.out (fun _ hk => hk.2), by repeat (first | (with_reducible first | exact HB.out | apply below_alloc | apply pw_below_drewN | apply below_drew1) | exact HB.out)⟩
    ·rw [if_neg c19] at H
     exact absurd H (by simp)
   ·rw [if_neg c18] at H
    exact absurd H (by simp)

end Go.Proofs.Ytdicjemjmlbmlaa.PA
/- What nat's products, and a number by a small one, and moved bits are, as numbers. -/
namespace Go.Proofs.Ytdicjemjmlbmlaa.V
set_option linter.unusedVariables false
set_option linter.unusedSimpArgs false
open Go.RowKit Go.Proofs.Ytdicjemjmlbmlaa.PA Go.Proofs.Ytdicjemjmlbmlaa.H Go.Proofs.YtdicjemjmlbmlaaW.PrintWords Go.Proofs.YtdicjemjmlbmlaaW.PrintLast Go.Proofs.YtdicjemjmlbmlaaW.PrintMore

theorem mul_bd {x y X Y : Int} (h0 : 0 ≤ x) (h1 : x ≤ X) (g0 : 0 ≤ y) (g1 : y ≤ Y) : 0 ≤ x * y ∧ x * y ≤ X * Y :=
  ⟨Int.mul_nonneg h0 g0, Int.mul_le_mul h1 g1 g0 (by omega)⟩
theorem mul_bd32 {x y : Int} (hx : 0 ≤ x ∧ x < 4294967296) (hy : 0 ≤ y ∧ y < 4294967296) : 0 ≤ x * y ∧ x * y ≤ 18446744065119617025 :=
  mul_bd hx.1 (show x ≤ 4294967295 by omega) hy.1 (show y ≤ 4294967295 by omega)
theorem getD_get (l : List Int) (i : Nat) (h : i < l.length) : l.getD i 0 = l[i] := by simp [List.getD_eq_getElem?_getD, h]
theorem getD_set_ne (l : List Int) (i p : Nat) (x : Int) (h : i ≠ p) : (l.set i x).getD p 0 = l.getD p 0 := by
  simp [List.getD_eq_getElem?_getD, h]
/-- Noughts from a place on. -/
def Zf (l : List Int) (n : Nat) : Prop := ∀ p, n ≤ p → l.getD p 0 = 0
theorem Zf.set {l : List Int} {n i : Nat} {x : Int} (h : Zf l n) (hi : i < n) : Zf (l.set i x) n := fun p hp => by
  rw [getD_set_ne _ _ _ _ (by omega)]; exact h p hp
theorem Zf.zeros (m n : Nat) : Zf (List.replicate m 0) n := fun p _ => by
  rw [List.getD_eq_getElem?_getD]
  by_cases h : p < m <;> simp [h]
theorem step_mul {W V0 Pi pj P x y c q r vb o : Int} (h : W + P * c = V0 + Pi * x * vb) (e : r + 4294967296 * q = c + (x * y + o)) (hP : P = Pi * pj) : W + P * (r - o) + (4294967296 * P) * q = V0 + Pi * x * (vb + pj * y) := by
  subst hP
  grind
theorem mul_l1 (a b : List Int) (ha : Lim a) (hb : Lim b) (hna : a.length < 1000000000) (hnb : b.length < 1000000000) (i : Nat) (hi : i < a.length) (x V0 : Int) (hx : 0 ≤ x ∧ x < 4294967296) (r : List Int)
    (hc : ∀ out, out.length = a.length + b.length → Lim out → val out = V0 + pw i * x * val b → Zf out (i + 1 + b.length) → Ev (fun k => nat_Mul.l0 k b out a (a.length : Int) ((i + 1 : Nat) : Int)) r) (d : Nat) : ∀ (j : Nat) (out : List Int) (c : Int), j + d = b.length → out.length = a.length + b.length → Lim out → 0 ≤ c → c < 4294967296 → val out + pw (i + j) * c = V0 + pw i * x * val (b.take j) → Zf out (i + b.length) →
    Ev (fun k => nat_Mul.l1 k b out (i : Int) x c a (a.length : Int) (i : Int) (b.length : Int) (j : Int)) r := by
  induction d with
  | zero =>
    intro j out c hj ho hL c0 c1 hv hz
    obtain rfl : j = b.length := by omega
    have hp : i + b.length < out.length := by omega
    refine Ev.step (fun k => ?_) (hc (out.set (i + b.length) c) (by simpa using ho) (hL.set _ c0 c1) ?_ ?_)
    · simp only [nat_Mul.l1]
      rw [if_neg (by omega), w64 (by omega) (by omega), if_pos (by omega), if_pos (by omega), w64 (by omega) (by omega), show ((i : Int) + (b.length : Int)).toNat = i + b.length by omega, show c % 4294967296 = c by omega]
      rfl
    · have h0 := hz (i + b.length) (Nat.le_refl _)
      rw [getD_get _ _ hp] at h0
      rw [val_set _ _ _ hp, h0]
      rw [List.take_of_length_le (by omega)] at hv
      rw [Int.sub_zero]; exact hv
    · intro p hpp
      rw [getD_set_ne _ _ _ _ (by omega)]
      exact hz p (by omega)
  | succ d ih =>
    intro j out c hj ho hL c0 c1 hv hz
    have hjb : j < b.length := by omega
    have hp : i + j < out.length := by omega
    have gb := hb.get j hjb
    have go := hL.get (i + j) hp
    have hm := mul_bd32 hx gb
    refine Ev.step (fun k => ?_) (ih (j + 1) (out.set (i + j) ((c + (x * b[j] + out[i + j])) % 4294967296)) ((c + (x * b[j] + out[i + j])) / 4294967296) (by omega) (by simpa using ho) (hL.set _ (by omega) (by omega)) (by omega) (by omega) ?_ (hz.set (by omega)))
    · simp only [nat_Mul.l1]
      rw [if_pos (by omega), if_pos (by omega), if_pos (by omega), w64 (x := (i : Int) + (j : Int)) (by omega) (by omega), if_pos (by omega), if_pos (by omega), show ((i : Int) + (j : Int)) = ((i + j : Nat) : Int) by omega, rd_get _ _ hp, rd_get _ _ hjb, u64 (x := x) (by omega) (by omega), u64 (x := b[j]) (by omega) (by omega), u64 (x := x * b[j]) (by omega) (by omega), u64 (x := out[i + j]) (by omega) (by omega), u64 (x := x * b[j] + out[i + j]) (by omega) (by omega), u64 (by omega) (by omega), w64 (by omega) (by omega), Int.toNat_natCast]
      rfl
    · rw [val_set _ _ _ hp, val_take_succ _ _ hjb, ← Nat.add_assoc, pw_succ]
      exact step_mul hv (by omega) (pw_add i j)
theorem mul_l0 (a b : List Int) (ha : Lim a) (hb : Lim b) (hna : a.length < 1000000000) (hnb : b.length < 1000000000) (d : Nat) : ∀ (i : Nat) (out : List Int), i + d = a.length → out.length = a.length + b.length → Lim out → val out = val (a.take i) * val b → Zf out (i + b.length) →
    Ev (fun k => nat_Mul.l0 k b out a (a.length : Int) (i : Int)) (dig (val a * val b)) := by
  induction d with
  | zero =>
    intro i out hi ho hL hv hz
    obtain rfl : i = a.length := by omega
    refine Ev.step (f := fun _ => some _) (fun k => ?_) (Ev.now _)
    simp only [nat_Mul.l0]
    rw [if_neg (by omega), norm_ev out hL (by omega), hv, List.take_of_length_le (by omega)]
    rfl
  | succ d ih =>
    intro i out hi ho hL hv hz
    have hia : i < a.length := by omega
    have ga := ha.get i hia
    refine Ev.step (fun k => ?_) (mul_l1 a b ha hb hna hnb i hia a[i] (val (a.take i) * val b) ga _ (fun out' h1 h2 h3 h4 => ih (i + 1) out' (by omega) h1 h2 ?_ h4) b.length 0 out 0 (by omega) ho hL (by omega) (by omega) ?_ hz)
    · simp only [nat_Mul.l0]
      rw [if_pos (by omega), if_pos (by omega), if_pos (by omega), rd_get _ _ hia]
      rfl
    · rw [h3, val_take_succ _ _ hia]; grind
    · simp [hv, val]
theorem mul_ev (a b : List Int) (ha : Lim a) (hb : Lim b) (hna : a.length < 1000000000) (hnb : b.length < 1000000000) : Ev (fun k => nat_Mul.f k a b) (dig (val a * val b)) := by
  refine Ev.congr (fun k => ?_) (mul_l0 a b ha hb hna hnb a.length 0 (List.replicate (a.length + b.length) 0) (by omega) (by simp) (Lim.zeros _) (by simp [val, val_zeros]) (Zf.zeros _ _))
  unfold nat_Mul.f
  rw [w64 (by omega) (by omega), if_pos (by omega), if_pos (by omega), show ((a.length : Int) + (b.length : Int)).toNat = a.length + b.length by omega]
  rfl

/-! ### a number by a small one -/
theorem wraps_u64 (n : Int) (h0 : 0 ≤ n) (h1 : n < 2 ^ 64) : IntKind.u64.wrap n = n := u64 h0 (by omega)
theorem or_join {x y : Int} (hx : 0 ≤ x ∧ x < 4294967296) (hy : 0 ≤ y ∧ y < 4294967296) : Go.bits .or .u64 (x * 4294967296) y = x * 4294967296 + y :=
  bits_join .u64 64 (by decide) wraps_u64 32 _ _ (by omega) (by omega) (by omega) hy.1 (by omega) (by omega)
theorem div_unique {a b q r : Int} (hb : 0 < b) (h : q * b + r = a) (h0 : 0 ≤ r) (h1 : r < b) : a / b = q ∧ a % b = r :=
  (Int.ediv_emod_unique hb).2 ⟨by rw [← h, Int.mul_comm]; omega, h0, h1⟩
theorem drop_set_self (l : List Int) (i : Nat) (x : Int) (h : i < l.length) : (l.set i x).drop i = x :: l.drop (i + 1) := by
  rw [List.drop_eq_getElem_cons (by simpa using h)]
  simp [List.drop_set_of_lt]
theorem small_l0 (a : List Int) (n : Int) (ha : Lim a) (hn0 : 0 < n) (hn1 : n ≤ 4294967296) (hna : a.length < 1000000000) (d : Nat) : ∀ (out : List Int) (r : Int), d ≤ a.length → out.length = a.length → Lim out → 0 ≤ r → r < n → val (out.drop d) * n + r = val (a.drop d) →
    Ev (fun k => nat_small.l0 k a n out r ((d : Int) - 1)) (dig (val a / n), val a % n) := by
  induction d with
  | zero =>
    intro out r hd ho hL r0 r1 hv
    refine Ev.step (f := fun _ => some _) (fun k => ?_) (Ev.now _)
    simp only [nat_small.l0]
    rw [if_neg (by omega), norm_ev out hL (by omega)]
    simp only [List.drop_zero] at hv
    obtain ⟨e1, e2⟩ := div_unique hn0 hv r0 r1
    rw [e1, e2]
    rfl
  | succ d ih =>
    intro out r hd ho hL r0 r1 hv
    have hda : d < a.length := by omega
    have hdo : d < out.length := by omega
    have ga := ha.get d hda
    have ho1 : Go.bits .or .u64 (IntKind.u64.wrap (r * 4294967296)) (IntKind.u64.wrap a[d]) = r * 4294967296 + a[d] := by
      rw [u64 (by omega) (by omega), u64 (by omega) (by omega)]
      exact or_join ⟨r0, by omega⟩ ga
    have hX0 : 0 ≤ r * 4294967296 + a[d] := by omega
    have hq0 : 0 ≤ (r * 4294967296 + a[d]) / n := Int.ediv_nonneg hX0 (by omega)
    have hq1 : (r * 4294967296 + a[d]) / n < 4294967296 := by
      apply Int.ediv_lt_of_lt_mul hn0
      have : (r + 1) * 4294967296 ≤ n * 4294967296 := Int.mul_le_mul_of_nonneg_right (by omega) (by omega)
      omega
    have hm0 := Int.emod_nonneg (r * 4294967296 + a[d]) (show n ≠ 0 by omega)
    have hm1 := Int.emod_lt_of_pos (r * 4294967296 + a[d]) hn0
    have hqr := Int.mul_ediv_add_emod (r * 4294967296 + a[d]) n
    refine Ev.step (fun k => ?_) (ih (out.set d ((r * 4294967296 + a[d]) / n)) ((r * 4294967296 + a[d]) % n) (by omega) (by simpa using ho) (hL.set _ hq0 hq1) hm0 hm1 ?_)
    · simp only [nat_small.l0]
      have e : ((d + 1 : Nat) : Int) - 1 = (d : Int) := by omega
      rw [e, if_pos (by omega), if_pos (by omega), if_pos (by omega), if_neg (by omega), if_pos (by omega), rd_get _ _ hda, ho1, Int.tdiv_eq_ediv_of_nonneg hX0, Int.tmod_eq_emod_of_nonneg hX0, u64 hq0 (by omega), Int.emod_eq_of_lt hq0 hq1, w64 (by omega) (by omega), Int.toNat_natCast]
    · rw [drop_set_self _ _ _ hdo, val_drop_cons _ _ hda]
      simp only [val]
      rw [← hv]
      generalize (r * 4294967296 + a[d]) / n = q at *
      generalize (r * 4294967296 + a[d]) % n = s at *
      grind
theorem small_ev (a : List Int) (n : Int) (ha : Lim a) (hn0 : 0 < n) (hn1 : n ≤ 4294967296) (hna : a.length < 1000000000) : Ev (fun k => nat_small.f k a n) (dig (val a / n), val a % n) := by
  refine Ev.congr (fun k => ?_) (small_l0 a n ha hn0 hn1 hna a.length (List.replicate a.length 0) 0 (Nat.le_refl _) (by simp) (Lim.zeros _) (by omega) (by omega) (by rw [List.drop_eq_nil_of_le (by simp), List.drop_eq_nil_of_le (by omega)]; simp [val]))
  unfold nat_small.f
  rw [if_pos (by omega), if_pos (by omega), w64 (by omega) (by omega), Int.toNat_natCast]

/-! ### moved bits -/
end Go.Proofs.Ytdicjemjmlbmlaa.V
/- A window of a row of one's own (numbers of 32 bits): what the words ask of a row, for the window. -/
namespace Go.Proofs.Ytdicjemjmlbmlaa.H
open Go.RowKit Go.Proofs.YtdicjemjmlbmlaaW.PrintWords Go.Proofs.YtdicjemjmlbmlaaW.PrintLast

theorem win_add (g o j : Nat) : (⟨g, o, none⟩ : Addr).add j = ⟨g, o + j, none⟩ := by unfold Addr.add; split <;> simp_all
/-- A window: of the row of block g (N elements, capacity C) the part behind pre and ahead of suf; cap: the window's capacity. -/
structure Wn where
  g : Nat
  N : Nat
  C : Nat
  cap : Nat
  pre : List Int
  suf : List Int
def Wn.R (X : Wn) (w : World) (base : Nat) (ok : Nat → Prop) (v : Value) (xs : List Int) : Prop :=
  (∀ k, v.ownBlock = some k → ok k) ∧ v = .slice (some ⟨X.g, X.pre.length, none⟩) xs.length X.cap ∧ xs.length ≤ X.cap ∧ Kd.R (Kd.int .u32) 81 w base ok (.slice (some ⟨X.g, 0, none⟩) X.N X.C) (X.pre ++ xs ++ X.suf)
namespace Wn
variable {X : Wn} {w w1 : World} {base : Nat} {ok ok' : Nat → Prop} {v : Value} {xs : List Int}
theorem R_mono (h : X.R w base ok v xs) (hok : ∀ k, ok k → ok' k) : X.R w base ok' v xs := ⟨fun k hk => hok k (h.1 k hk), h.2.1, h.2.2.1, Kd.R_mono h.2.2.2 hok⟩
theorem R_alloc (h : X.R w base ok v xs) (o : Obj) : X.R (w.alloc o) base ok v xs := ⟨h.1, h.2.1, h.2.2.1, Kd.R_alloc h.2.2.2 o⟩
theorem R_drew (h : X.R w base ok v xs) : X.R w.drew base ok v xs := ⟨h.1, h.2.1, h.2.2.1, Kd.R_drew h.2.2.2⟩
theorem R_drewN (h : X.R w base ok v xs) (m : Nat) : X.R (w.drewN m) base ok v xs := ⟨h.1, h.2.1, h.2.2.1, Kd.R_drewN h.2.2.2 m⟩
theorem R_at {m : Nat} {w' : World} (hq : w.drewN m = w') (h : X.R w base ok v xs) : X.R w' base ok v xs := by subst hq; exact R_drewN h m
theorem R_slice (h : X.R w base ok v xs) : ∃ A c, v = .slice A xs.length c := ⟨_, _, h.2.1⟩
theorem R_tight (h : X.R w base ok v xs) : X.R w base (fun k => some k = v.ownBlock) v xs := ⟨fun k hk => hk.symm, h.2.1, h.2.2.1, by
  have := Kd.R_tight rfl h.2.2.2
  rw [h.2.1]
  exact this⟩
theorem R_reok {Q : Nat → Prop} (h : X.R w base Q v xs) (hok : ∀ k, v.ownBlock = some k → ok k) : X.R w base ok v xs := ⟨hok, h.2.1, h.2.2.1, Kd.R_reok rfl h.2.2.2 (fun k hk => hok k (by rw [h.2.1]; exact hk))⟩
theorem shape {A : Option Addr} {n c : Nat} (h : X.R w base ok (.slice A n c) xs) : A = some ⟨X.g, X.pre.length, none⟩ ∧ n = xs.length ∧ c = X.cap := by
  have := h.2.1
  injection this with h1 h2 h3
  exact ⟨h1, h2, h3⟩
theorem cell (h : X.R w base ok v xs) (i : Nat) (hi : i < xs.length) : w.cell? ⟨X.g, X.pre.length + i, none⟩ = some (.int .u32 (rd xs (i : Int))) ∧ w.frozen? ⟨X.g, X.pre.length + i, none⟩ = false := by
  obtain ⟨hN, _⟩ := Kd.R_reads' h.2.2.2
  have hl : (X.pre ++ xs ++ X.suf).length = X.pre.length + xs.length + X.suf.length := by simp; omega
  have := Kd.R_celln (0 : Int) h.2.2.2 ((X.pre.length + i : Nat) : Int) (by omega) (by omega)
  rw [Int.toNat_natCast] at this
  refine ⟨this.1.trans ?_, this.2⟩
  have e : rdOf (0 : Int) (X.pre ++ xs ++ X.suf) ((X.pre.length + i : Nat) : Int) = rd xs (i : Int) := by
    unfold rdOf rd
    rw [Int.toNat_natCast, Int.toNat_natCast, List.append_assoc, List.getD_eq_getElem?_getD, List.getElem?_append_right (by omega), Nat.add_sub_cancel_left, List.getElem?_append_left (by omega)]
    simp [List.getD_eq_getElem?_getD, hi]
  rw [e]
theorem R_reads' {A : Option Addr} {n c : Nat} (h : X.R w base ok (.slice A n c) xs) : n = xs.length ∧ n ≤ c ∧ Kd.C (Kd.int .u32) w A xs.length xs := by
  obtain ⟨rfl, rfl, rfl⟩ := shape h
  have hm := (Kd.R_reads' h.2.2.2).2.2.2.1
  refine ⟨rfl, h.2.2.1, rfl, by simp at hm; omega, fun hn => ⟨_, rfl, fun j p hp => ⟨[.int .u32 p], rfl, rfl, fun i u hu => ?_⟩⟩⟩
  have hi0 : i = 0 := by
    rcases i with _ | i
    · rfl
    · simp at hu
  subst hi0
  have hu' : Value.int .u32 p = u := by simpa using hu
  subst hu'
  obtain ⟨hj, rfl⟩ := List.getElem?_eq_some_iff.1 hp
  have := (cell h j hj).1
  have e : (⟨X.g, X.pre.length, none⟩ : Addr).add (j * (Kd.int .u32).sz + 0) = ⟨X.g, X.pre.length + j, none⟩ := by
    rw [win_add]; simp [Kd.int, Kd.scalar]
  rw [e, this]
  simp [rd, hj]
theorem R_form (h : X.R w base ok v xs) (_hp : 0 < xs.length) : ∃ g cap, v = .slice (some ⟨g, X.pre.length, none⟩) xs.length cap ∧ base ≤ g ∧ g < w.heap.size ∧ ∃ cells, w.heap[g]? = some (.cells cells 81 (0, 0)) := by
  obtain ⟨g, cap, he, hb, hl, hc⟩ := Kd.R_form h.2.2.2 (by simp; omega)
  injection he with h1 h2 h3
  injection h1 with h1
  injection h1 with h1
  subst h1
  exact ⟨_, _, h.2.1, hb, hl, hc⟩
theorem R_celln {g n cap : Nat} (h : X.R w base ok (.slice (some ⟨g, X.pre.length, none⟩) n cap) xs) (i : Int) (h0 : 0 ≤ i) (hi : i < n) : w.cell? ⟨g, X.pre.length + i.toNat, none⟩ = some (.int .u32 (rd xs i)) ∧ w.frozen? ⟨g, X.pre.length + i.toNat, none⟩ = false := by
  obtain ⟨h1, rfl, rfl⟩ := shape h
  injection h1 with h1
  injection h1 with h1
  subst h1
  have := cell h i.toNat (by omega)
  rwa [show ((i.toNat : Nat) : Int) = i by omega] at this
theorem R_putg {g n cap : Nat} (h : X.R w base ok (.slice (some ⟨g, X.pre.length, none⟩) n cap) xs) (i : Int) (x : Int) (h0 : 0 ≤ i) (hi : i < n) : X.R (w.setCell ⟨g, X.pre.length + i.toNat, none⟩ (.int .u32 x)) base ok (.slice (some ⟨g, X.pre.length, none⟩) n cap) (xs.set i.toNat x) ∧ w.grownBy (w.setCell ⟨g, X.pre.length + i.toNat, none⟩ (.int .u32 x)) (some g) := by
  obtain ⟨h1, rfl, rfl⟩ := shape h
  injection h1 with h1
  injection h1 with h1
  subst h1
  have := Kd.R_putg h.2.2.2 ((X.pre.length + i.toNat : Nat) : Int) x
  rw [Int.toNat_natCast] at this
  refine ⟨⟨h.1, by rw [List.length_set], by rw [List.length_set]; exact h.2.2.1, ?_⟩, this.2⟩
  have e : (X.pre ++ xs ++ X.suf).set (X.pre.length + i.toNat) x = X.pre ++ xs.set i.toNat x ++ X.suf := by
    rw [List.append_assoc, List.set_append_right _ _ (by omega), Nat.add_sub_cancel_left, List.set_append_left _ _ (by omega), List.append_assoc]
  rw [← e]
  exact this.1
end Wn
end Go.Proofs.Ytdicjemjmlbmlaa.H
/- Written by a program of this session, wip/tools/patch_print.py, over the kit's print of the loaded functions. -/
namespace Go.Proofs.Ytdicjemjmlbmlaa.H
end Go.Proofs.Ytdicjemjmlbmlaa.H
namespace Go.Proofs.Ytdicjemjmlbmlaa.PA
open Go.RowKit Go.Proofs.YtdicjemjmlbmlaaW.PrintWords Go.Proofs.YtdicjemjmlbmlaaW.PrintLast Go.Proofs.YtdicjemjmlbmlaaW.PrintMore Go.Proofs.Ytdicjemjmlbmlaa.H
attribute [local go_sem] max2_int min2_int max_two min_two max_three min_three max_four min_four   -- for this text's walks alone
set_option linter.unusedVariables false
set_option linter.unusedSimpArgs false

/-! ### nat_Gcd: function 70 -/
def nat_Gcd.l0 : Nat → List Int → List Int → Option (List Int)
 | 0, _, _ => none
 | k + 1, x0, x1 => if (x1.length : Int) > 0 then ((nat_DivMod.f k x0 x1).bind fun bt394 => (nat_Gcd.l0 k x1 bt394.2.1)) else (some x0)
def nat_Gcd.f (k : Nat) (l0 : List Int) (l1 : List Int) : Option (List Int) := (nat_Norm.f l0).bind fun t388 => ((nat_Norm.f l1).bind fun t391 => (nat_Gcd.l0 k t388 t391))
set_option maxHeartbeats 8000000 in
set_option maxRecDepth 100000 in
theorem nat_Gcd.calls (k : Nat) (A0 : Option Addr) (c0 : Nat) (l0 : List Int) (A1 : Option Addr) (c1 : Nat) (l1 : List Int) (r : List Int) (w : World) (hr0 : Kd.C (Kd.int .u32) w A0 l0.length l0) (hc0 : l0.length ≤ c0) (hr1 : Kd.C (Kd.int .u32) w A1 l1.length l1) (hc1 : l1.length ≤ c1) (h : nat_Gcd.f k l0 l1 = some r) :
  Calls Try.prog 70 #[.slice A0 l0.length c0, .slice A1 l1.length c1] w fun e w' => ∃ v0_ : Value, e = .returned (v0_) ∧ Kd.R (Kd.int .u32) 81 w' w.heap.size (fun _ => True) v0_ r ∧ Below w.heap.size w w' := by
 have HR0 := Aside0.mk hr0
 have HC0 := Aside0.mk hc0
 clear hr0 hc0
 have HR1 := Aside0.mk hr1
 have HC1 := Aside0.mk hc1
 clear hr1 hc1
 have HB := Aside0.mk (Below.refl w.heap.size w)
 have H : ((nat_Norm.f l0).bind fun t388 => ((nat_Norm.f l1).bind fun t391 => (nat_Gcd.l0 k t388 t391))) = some r := h
 clear h
 replace H := Option.bind_eq_some_iff.mp H
 obtain ⟨t388, A30, H⟩ := H
 replace H : ((nat_Norm.f l1).bind fun t391 => (nat_Gcd.l0 k t388 t391)) = some r := H
 have A3 := Aside0.mk A30
 clear A30
 replace H := Option.bind_eq_some_iff.mp H
 obtain ⟨t391, A40, H⟩ := H
 replace H : (nat_Gcd.l0 k t388 t391) = some r := H
 have A4 := Aside0.mk A40
 clear A40
 have H' := Aside0.mk H
 clear H
 go_enter Try.func70, Try.ntmps70
 go_wp2_with (first | ((with_reducible refine gate_callee (f := 83) rfl ?_); refine goesL_ (some 9) rfl rfl Try.func83 (by kernel_rfl) rfl #[.slice A0 l0.length c0] rfl (by (try simp only [List.map_toArray, List.map_cons, List.map_nil]); first | done | rfl | (simp only [List.length_drop, List.length_take]; rfl)) ?_; (with_reducible refine (nat_Norm.calls _ _ l0 t388 _ ?side1 ?side2 A3.out).mono ?_); (case side1 => repeat (first | exact HR0.out | (with_reducible refine Kd.C_alloc ?_ _) | (with_reducible refine Kd.C_drewN ?_ _) | (with_reducible refine Kd.C_drew ?_))); (case side2 => exact HC0.out); rintro e w5 ⟨v389, rfl, ho0, hb⟩; refine ⟨_, rfl, ?_⟩; have n0_ := Aside0.mk (Kd.R_lower ho0 (below_size (by repeat (first | (with_reducible first | exact HB.out | apply below_alloc | apply pw_below_drewN | apply below_drew1) | exact HB.out)))); have n1_ := Aside0.mk (below_step (by repeat (first | (with_reducible first | exact HB.out | apply below_alloc | apply pw_below_drewN | apply below_drew1) | exact HB.out)) hb); clear HB; have HO390 := n0_; have HB := n1_; clear n0_ n1_; (try clear hb); (try clear hb2); (try clear hk); (try clear hi); (try clear ho0)) | ((with_reducible refine gate_callee (f := 83) rfl ?_); refine goesL_ (some 11) rfl rfl Try.func83 (by kernel_rfl) rfl #[.slice A1 l1.length c1] rfl (by (try simp only [List.map_toArray, List.map_cons, List.map_nil]); first | done | rfl | (simp only [List.length_drop, List.length_take]; rfl)) ?_; (with_reducible refine (nat_Norm.calls _ _ l1 t391 _ ?side1 ?side2 A4.out).mono ?_); (case side1 => repeat (first | exact (Kd.C_below HR1.out HB.out) | (with_reducible refine Kd.C_alloc ?_ _) | (with_reducible refine Kd.C_drewN ?_ _) | (with_reducible refine Kd.C_drew ?_))); (case side2 => exact HC1.out); rintro e w6 ⟨v392, rfl, ho0, hb⟩; refine ⟨_, rfl, ?_⟩; have n0_ := Aside0.mk (Kd.R_elder' (by (with_reducible repeat (first | apply Kd.R_alloc | apply Kd.R_drewN | apply Kd.R_drew)); exact HO390.out) (Kd.R_base ho0) hb); have n1_ := Aside0.mk (Kd.R_lower (Kd.R_new' ho0 (Kd.R_lt (by (with_reducible repeat (first | apply Kd.R_alloc | apply Kd.R_drewN | apply Kd.R_drew)); exact HO390.out))) (below_size (by repeat (first | (with_reducible first | exact HB.out | apply below_alloc | apply pw_below_drewN | apply below_drew1) | exact HB.out)))); have n2_ := Aside0.mk (below_step (by repeat (first | (with_reducible first | exact HB.out | apply below_alloc | apply pw_below_drewN | apply below_drew1) | exact HB.out)) hb); clear HO390; clear HB; have HO390 := n0_; have HO393 := n1_; have HB := n2_; clear n0_ n1_ n2_; (try clear hb); (try clear hb2); (try clear hk); (try clear hi); (try clear ho0)))
 go_loopg [0, 1] k (fun kq v0 v1 w' => ∃ (x0_1 : List Int) (x1_1 : List Int), Aside0 (nat_Gcd.l0 kq x0_1 x1_1 = some r) ∧ Aside0 (kq ≤ k) ∧ Aside0 (Kd.R (Kd.int .u32) 81 w' w.heap.size (fun k_ => some k_ ≠ (v1 : Value).ownBlock) v0 x0_1) ∧ Aside0 (Kd.R (Kd.int .u32) 81 w' w.heap.size (fun k_ => some k_ ≠ (v0 : Value).ownBlock) v1 x1_1) ∧ Aside0 (Below w.heap.size w w'))
 case atStart => exact ⟨(t388), (t391), H', ⟨Nat.le_refl _⟩, ⟨by (with_reducible repeat (first | apply Kd.R_alloc | apply Kd.R_drewN | apply Kd.R_drew)); exact Kd.R_mono HO390.out (fun _ hk => hk.2)⟩, ⟨by (with_reducible repeat (first | apply Kd.R_alloc | apply Kd.R_drewN | apply Kd.R_drew)); exact Kd.R_mono HO393.out (fun _ hk => hk.2)⟩, ⟨by repeat (first | (with_reducible first | exact HB.out | apply below_alloc | apply pw_below_drewN | apply below_drew1) | exact HB.out)⟩⟩
 case round =>
  clear H'
  try clear c1
  try clear p2
  obtain ⟨x0_1, x1_1, HA, HK1, HO_0, HO_1, HB⟩ := hrel
  cases gk with
  | zero => exact absurd HA.out (by simp [nat_Gcd.l0])
  | succ k1 =>
   have H := HA.out
   clear HA
   simp only [nat_Gcd.l0] at H
   by_cases c7 : (x1_1.length : Int) > 0
   ·rw [if_pos c7] at H
    have c7b0 : decide (0 < (x1_1.length : Int)) = true := decide_eq_true c7
    have c7b1 : decide (0 < x1_1.length) = true := decide_eq_true (by omega)
    clear c7
    replace H := Option.bind_eq_some_iff.mp H
    obtain ⟨⟨t394, t395, t396⟩, A80, H⟩ := H
    replace H : (nat_Gcd.l0 k1 x1_1 t395) = some r := H
    have A8 := Aside0.mk A80
    clear A80
    have H' := Aside0.mk H
    clear H
    obtain ⟨Ao9, co9, eo9⟩ := Kd.R_slice HO_1.out
    subst eo9
    obtain ⟨Ao10, co10, eo10⟩ := Kd.R_slice HO_0.out
    subst eo10
    go_wp2_with (first | ((with_reducible refine gate_callee (f := 72) rfl ?_); refine goesL_ (some 18) rfl rfl Try.func72 (by kernel_rfl) rfl #[.slice Ao10 x0_1.length co10, .slice Ao9 x1_1.length co9] rfl (by (try simp only [List.map_toArray, List.map_cons, List.map_nil]); first | done | rfl | (simp only [List.length_drop, List.length_take]; rfl)) ?_; (with_reducible refine (nat_DivMod.calls k1 _ _ x0_1 _ _ x1_1 t394 t395 t396 _ ?side1 ?side2 ?side3 ?side4 A8.out).mono ?_); (case side1 => repeat (first | exact (Kd.R_reads' HO_0.out).2.2 | (with_reducible refine Kd.C_alloc ?_ _) | (with_reducible refine Kd.C_drewN ?_ _) | (with_reducible refine Kd.C_drew ?_))); (case side2 => exact (Kd.R_reads' HO_0.out).2.1); (case side3 => repeat (first | exact (Kd.R_reads' HO_1.out).2.2 | (with_reducible refine Kd.C_alloc ?_ _) | (with_reducible refine Kd.C_drewN ?_ _) | (with_reducible refine Kd.C_drew ?_))); (case side4 => exact (Kd.R_reads' HO_1.out).2.1); rintro e w11 ⟨v397, v399, rfl, ho0, ho1, hb⟩; refine ⟨_, rfl, ?_⟩; have n0_ := Aside0.mk (Kd.R_mono (Kd.R_told (Kd.R_told (Kd.R_old (by (with_reducible repeat (first | apply Kd.R_alloc | apply Kd.R_drewN | apply Kd.R_drew)); exact HO_0.out) hb) (Kd.R_base ho0)) (Kd.R_base ho1)) (fun _ h_ => h_.1)); have n1_ := Aside0.mk (Kd.R_mono (Kd.R_told (Kd.R_told (Kd.R_old (by (with_reducible repeat (first | apply Kd.R_alloc | apply Kd.R_drewN | apply Kd.R_drew)); exact HO_1.out) hb) (Kd.R_base ho0)) (Kd.R_base ho1)) (fun _ h_ => h_.1)); have n2_ := Aside0.mk (Kd.R_lower (Kd.R_new' (Kd.R_new' ho0 (Kd.R_lt (by (with_reducible repeat (first | apply Kd.R_alloc | apply Kd.R_drewN | apply Kd.R_drew)); exact HO_0.out))) (Kd.R_lt (by (with_reducible repeat (first | apply Kd.R_alloc | apply Kd.R_drewN | apply Kd.R_drew)); exact HO_1.out))) (below_size (by repeat (first | (with_reducible first | exact HB.out | apply below_alloc | apply pw_below_drewN | apply below_drew1) | exact HB.out)))); have n3_ := Aside0.mk (Kd.R_lower (Kd.R_new' (Kd.R_new' ho1 (Kd.R_lt (by (with_reducible repeat (first | apply Kd.R_alloc | apply Kd.R_drewN | apply Kd.R_drew)); exact HO_0.out))) (Kd.R_lt (by (with_reducible repeat (first | apply Kd.R_alloc | apply Kd.R_drewN | apply Kd.R_drew)); exact HO_1.out))) (below_size (by repeat (first | (with_reducible first | exact HB.out | apply below_alloc | apply pw_below_drewN | apply below_drew1) | exact HB.out)))); have n4_ := Aside0.mk (below_step (by repeat (first | (with_reducible first | exact HB.out | apply below_alloc | apply pw_below_drewN | apply below_drew1) | exact HB.out)) hb); clear HO_0; clear HO_1; clear HB; have HO_0 := n0_; have HO_1 := n1_; have HO398 := n2_; have HO400 := n3_; have HB := n4_; clear n0_ n1_ n2_ n3_ n4_; (try clear hb); (try clear hb2); (try clear hk); (try clear hi); (try clear ho0); (try clear ho1)))
    go_roundg k1
    case measure => have := HK1.out; omega
    case rel => exact ⟨(x1_1), (t395), H', ⟨by have := HK1.out; omega⟩, ⟨by (with_reducible repeat (first | apply Kd.R_alloc | apply Kd.R_drewN | apply Kd.R_drew)); exact Kd.R_mono HO_1.out (fun _ hk => hk.2)⟩, ⟨by (with_reducible repeat (first | apply Kd.R_alloc | apply Kd.R_drewN | apply Kd.R_drew)); exact Kd.R_mono HO400.out (fun _ hk => hk.2)⟩, ⟨by repeat (first | (with_reducible first | exact HB.out | apply below_alloc | apply pw_below_drewN | apply below_drew1) | exact HB.out)⟩⟩
   ·rw [if_neg c7] at H
    have c7b0 : decide (0 < (x1_1.length : Int)) = false := decide_eq_false c7
    have c7b1 : decide (0 < x1_1.length) = false := decide_eq_false (by omega)
    clear c7
    obtain rfl := Option.some.inj H
    obtain ⟨Ao12, co12, eo12⟩ := Kd.R_slice HO_1.out
    subst eo12
    go_wp2
    go_ret
    exact ⟨_, by first | rfl | (simp [errW_none, errW_some] <;> rfl) | (simp [*, errW_none, errW_some] <;> rfl), by (with_reducible repeat (first | apply Kd.R_alloc | apply Kd.R_drewN | apply Kd.R_drew)); exact Kd.R_mono HO_0.out (fun _ hk => trivial), by repeat (first | (with_reducible first | exact HB.out | apply below_alloc | apply pw_below_drewN | apply below_drew1) | exact HB.out)⟩

end Go.Proofs.Ytdicjemjmlbmlaa.PA
/- nat.DivMod and nat.Gcd, as numbers. -/
namespace Go.Proofs.Ytdicjemjmlbmlaa.V
set_option linter.unusedVariables false
set_option linter.unusedSimpArgs false
open Go.RowKit Go.Proofs.Ytdicjemjmlbmlaa.PA Go.Proofs.Ytdicjemjmlbmlaa.H Go.Proofs.YtdicjemjmlbmlaaW.PrintWords Go.Proofs.YtdicjemjmlbmlaaW.PrintLast Go.Proofs.YtdicjemjmlbmlaaW.PrintMore

theorem divmod_ev (a b : List Int) (ha : Lim a) (hb : Lim b) (hna : a.length < 1000000000) (hnb : b.length < 1000000000) (h1b : val b < 4294967296) :
    Ev (fun k => nat_DivMod.f k a b) (if val b = 0 then ([], [], 7) else (dig (val a / val b), dig (val a % val b), 0)) := by
  have va := val_nonneg ha
  have vb := val_nonneg hb
  have la := dig_length a ha
  have lb := dig_length b hb
  have na := norm_ev a ha (by omega)
  have nb := norm_ev b hb (by omega)
  by_cases hz : val b = 0
  · rw [if_pos hz]
    refine Ev.congr (f := fun _ => some _) (fun k => ?_) (Ev.now _)
    unfold nat_DivMod.f
    rw [na, nb, hz, dig_zero]
    rfl
  rw [if_neg hz]
  have hlb : 0 < (dig (val b)).length := by
    have : dig (val b) ≠ [] := by rw [Ne, dig_eq_nil vb]; exact hz
    cases h : dig (val b) with
    | nil => exact absurd h this
    | cons _ _ => simp
  have hc := cmp_ev (dig (val a)) (dig (val b)) (dig_lim _) (dig_lim _) (by omega) (by omega)
  rw [val_dig va, val_dig vb] at hc
  refine Ev.congr (fun k => by
    unfold nat_DivMod.f
    rw [na, nb, Option.bind_some, Option.bind_some, if_neg (by omega)]) (Ev.bind hc ?_)
  by_cases hlt : val a < val b
  · refine Ev.congr (f := fun _ => some _) (fun k => by unfold cmpI; rw [if_pos hlt, if_pos (by decide)]) ?_
    rw [Int.ediv_eq_zero_of_lt va hlt, Int.emod_eq_of_lt va hlt, dig_zero]
    exact Ev.now _
  have hcm : ¬ cmpI (val a) (val b) < 0 := by unfold cmpI; rw [if_neg hlt]; split <;> decide
  by_cases h1 : (dig (val b)).length = 1
  · obtain ⟨x, hx⟩ : ∃ x, dig (val b) = [x] := List.length_eq_one_iff.1 h1
    have hxb : val b = x := by rw [← val_dig vb, hx]; simp [val]
    have hx1 : x < 4294967296 := by have := dig_lim (val b) x (by rw [hx]; simp); exact this.2
    have hs := small_ev (dig (val a)) x (dig_lim _) (by omega) (by omega) (by omega)
    rw [val_dig va] at hs
    have hm0 := Int.emod_nonneg (val a) (show x ≠ 0 by omega)
    have hm1 := Int.emod_lt_of_pos (val a) (show 0 < x by omega)
    refine Ev.congr (fun k => by
      rw [if_neg hcm, if_pos (by omega), if_pos (by omega), hx, show rd [x] 0 = x from rfl, u64 (x := x) (by omega) (by omega)]) (Ev.bind hs ?_)
    refine Ev.congr (f := fun _ => some _) (fun k => ?_) (Ev.now _)
    simp only []
    rw [of_ev _ hm0 (by omega), hxb]
    rfl
  exact absurd (show (dig (val b)).length = 1 by have := dig_length_le (k := 1) vb (by simpa [pw] using h1b); omega) h1

/-! ### the greatest common divisor -/
def gcdI (a b : Int) : Int := (Nat.gcd a.toNat b.toNat : Nat)
theorem gcdI_zero (a : Int) (h : 0 ≤ a) : gcdI a 0 = a := by unfold gcdI; simp; omega
theorem gcdI_rec (a b : Int) (ha : 0 ≤ a) (hb : 0 ≤ b) : gcdI b (a % b) = gcdI a b := by
  unfold gcdI
  obtain ⟨a, rfl⟩ := Int.eq_ofNat_of_zero_le ha
  obtain ⟨b, rfl⟩ := Int.eq_ofNat_of_zero_le hb
  have e : ((a : Int) % (b : Int)).toNat = a % b := by rw [← Int.natCast_emod]; exact Int.toNat_natCast _
  rw [e, Int.toNat_natCast, Int.toNat_natCast, Nat.gcd_comm a b, Nat.gcd_rec b a, Nat.gcd_comm]
theorem gcd_l0 (n : Nat) : ∀ (a b : Int), 0 ≤ a → 0 ≤ b → b < 4294967296 → b.toNat = n → (dig a).length < 1000000000 → (dig b).length < 1000000000 → Ev (fun k => nat_Gcd.l0 k (dig a) (dig b)) (dig (gcdI a b)) := by
  induction n using Nat.strongRecOn with
  | _ n ih =>
    intro a b ha hb h1b hn la lb
    by_cases hz : b = 0
    · subst hz
      refine Ev.step (f := fun _ => some _) (fun k => ?_) (Ev.now _)
      simp only [nat_Gcd.l0]
      rw [dig_zero, if_neg (by simp), gcdI_zero a ha]
    · have hlb : 0 < (dig b).length := by
        have : dig b ≠ [] := by rw [Ne, dig_eq_nil hb]; exact hz
        cases h : dig b with
        | nil => exact absurd h this
        | cons _ _ => simp
      have hd := divmod_ev (dig a) (dig b) (dig_lim _) (dig_lim _) la lb (by rw [val_dig hb]; exact h1b)
      rw [val_dig ha, val_dig hb, if_neg hz] at hd
      have hm0 := Int.emod_nonneg a (show b ≠ 0 by omega)
      have hm1 := Int.emod_lt_of_pos a (show 0 < b by omega)
      have hlm : (dig (a % b)).length ≤ (dig b).length := by
        have := lt_of_dig_length hb (Nat.le_refl _)
        exact dig_length_le hm0 (by omega)
      have := ih (a % b).toNat (by omega) b (a % b) hb hm0 (by omega) rfl lb (by omega)
      rw [gcdI_rec a b ha hb] at this
      refine Ev.step (fun k => by
        simp only [nat_Gcd.l0]
        rw [if_pos (by omega)]) (Ev.bind hd this)
theorem gcd_ev (a b : List Int) (ha : Lim a) (hb : Lim b) (hna : a.length < 1000000000) (hnb : b.length < 1000000000) (h1b : val b < 4294967296) : Ev (fun k => nat_Gcd.f k a b) (dig (gcdI (val a) (val b))) := by
  have la := dig_length a ha
  have lb := dig_length b hb
  refine Ev.congr (fun k => ?_) (gcd_l0 _ (val a) (val b) (val_nonneg ha) (val_nonneg hb) h1b rfl (by omega) (by omega))
  unfold nat_Gcd.f
  rw [norm_ev a ha (by omega), norm_ev b hb (by omega)]
  rfl
end Go.Proofs.Ytdicjemjmlbmlaa.V
/- nat.Sub, as a number. -/
namespace Go.Proofs.Ytdicjemjmlbmlaa.V
set_option linter.unusedVariables false
set_option linter.unusedSimpArgs false
open Go.RowKit Go.Proofs.Ytdicjemjmlbmlaa.PA Go.Proofs.Ytdicjemjmlbmlaa.H Go.Proofs.YtdicjemjmlbmlaaW.PrintWords Go.Proofs.YtdicjemjmlbmlaaW.PrintLast Go.Proofs.YtdicjemjmlbmlaaW.PrintMore

/-! ### differences -/
theorem step_sub {P V A Bv c x y q r : Int} (h : V - P * c = A - Bv) (e : r - 4294967296 * q = x - y - c) : V + P * r - (4294967296 * P) * q = A + P * x - (Bv + P * y) := by grind
theorem sub_l0 (a b : List Int) (ha : Lim a) (hb : Lim b) (hab : val b ≤ val a) (hn : a.length ≤ 1000000000000) (d : Nat) : ∀ (i : Nat) (out : List Int) (c : Int), i + d = a.length → out.length = a.length → Lim out → 0 ≤ c → c ≤ 1 → val (out.take i) - pw i * c = val (a.take i) - val (b.take i) →
    Ev (fun k => nat_Sub.l0 k a b out c (a.length : Int) (i : Int)) (dig (val a - val b), 0) := by
  induction d with
  | zero =>
    intro i out c hi ho hL c0 c1 hv
    obtain rfl : i = a.length := by omega
    refine Ev.step (f := fun _ => some _) (fun k => ?_) (Ev.now _)
    simp only [nat_Sub.l0]
    rw [if_neg (by omega), norm_ev out hL (by omega)]
    simp only [Option.bind_some]
    rw [List.take_of_length_le (by omega), List.take_of_length_le (l := a) (by omega)] at hv
    have hbt : val (b.take a.length) = val b := by
      by_cases hl : b.length ≤ a.length
      · rw [List.take_of_length_le hl]
      · have e := val_take_drop b a.length (by omega)
        have h1 := val_lt ha
        have h2 := val_nonneg (hb.take a.length)
        have h3 := val_nonneg (hb.drop a.length)
        have h4 := pw_pos a.length
        by_cases hz : val (b.drop a.length) = 0
        · rw [hz] at e; omega
        · have : pw a.length * 1 ≤ pw a.length * val (b.drop a.length) := Int.mul_le_mul_of_nonneg_left (by omega) (by omega)
          omega
    rw [hbt] at hv
    have h1 := val_lt hL
    rw [ho] at h1
    have hc : c = 0 := by
      by_cases hc : c = 0
      · exact hc
      · have : c = 1 := by omega
        subst this
        omega
    subst hc
    congr 3
    omega
  | succ d ih =>
    intro i out c hi ho hL c0 c1 hv
    have ga := ha.getD i
    have gb := hb.getD i
    have hio : i < out.length := by omega
    have e1 : IntKind.u64.wrap ((IntKind.u64.wrap (a.getD i 0 - b.getD i 0)) - c) = (a.getD i 0 - b.getD i 0 - c) % 18446744073709551616 := by
      rw [u64e, u64e]; omega
    refine Ev.step (fun k => ?_) (ih (i + 1) (out.set i ((a.getD i 0 - b.getD i 0 - c) % 18446744073709551616 % 4294967296)) ((a.getD i 0 - b.getD i 0 - c) % 18446744073709551616 / 9223372036854775808) (by omega) (by simpa using ho) (hL.set i (by omega) (by omega)) (by omega) (by omega) ?_)
    · simp only [nat_Sub.l0]
      rw [if_pos (by omega), limb_ev a i ha, limb_ev b i hb]
      simp only [Option.bind_some]
      rw [if_pos (by omega), if_pos (by omega), e1, w64 (by omega) (by omega), Int.toNat_natCast]
      rfl
    · rw [val_set_take _ _ _ hio, val_take_getD a, val_take_getD b, pw_succ]
      exact step_sub hv (by omega)
theorem sub_ev (a b : List Int) (ha : Lim a) (hb : Lim b) (hna : a.length < 1000000000) (hnb : b.length < 1000000000) : Ev (fun k => nat_Sub.f k a b) (if val a < val b then ([], 6) else (dig (val a - val b), 0)) := by
  unfold nat_Sub.f
  refine Ev.bind (f := fun k t => _) (cmp_ev a b ha hb (by omega) (by omega)) ?_
  unfold cmpI
  by_cases h : val a < val b
  · rw [if_pos h, if_pos h]
    exact Ev.congr (fun k => by rw [if_pos (by decide)]) (Ev.now _)
  · rw [if_neg h, if_neg h]
    have := sub_l0 a b ha hb (by omega) (by omega) a.length 0 (List.replicate a.length 0) 0 (by omega) (by simp) (Lim.zeros _) (by omega) (by omega) (by simp [val])
    refine Ev.congr (fun k => ?_) this
    rw [if_neg (by split <;> decide), if_pos (by omega), if_pos (by omega)]
    simp only [Option.bind_some, Int.toNat_natCast, List.length_replicate]
    rfl
end Go.Proofs.Ytdicjemjmlbmlaa.V
/- Are two lists the same? -/
namespace Go.Proofs.Ytdicjemjmlbmlaa.V
set_option linter.unusedVariables false
set_option linter.unusedSimpArgs false
open Go.RowKit Go.Proofs.Ytdicjemjmlbmlaa.PA Go.Proofs.Ytdicjemjmlbmlaa.H Go.Proofs.YtdicjemjmlbmlaaW.PrintWords Go.Proofs.YtdicjemjmlbmlaaW.PrintLast Go.Proofs.YtdicjemjmlbmlaaW.PrintMore

/-! ### equality -/
theorem same_l0 (a b : List Int) (hl : a.length = b.length) (hn : a.length ≤ 1000000000) (d : Nat) : ∀ i : Nat, i + d = a.length → a.take i = b.take i → Ev (fun k => gudgeonref01_Same.l0 k a b (i : Int)) (decide (a = b)) := by
  induction d with
  | zero =>
    intro i hi he
    rw [List.take_of_length_le (by omega), List.take_of_length_le (by omega)] at he
    refine Ev.step (f := fun _ => some _) (fun k => ?_) (Ev.now _)
    simp only [gudgeonref01_Same.l0]
    rw [if_neg (by omega), decide_eq_true he]
  | succ d ih =>
    intro i hi he
    have hia : i < a.length := by omega
    have hib : i < b.length := by omega
    by_cases hx : a[i] = b[i]
    · refine Ev.step (fun k => ?_) (ih (i + 1) (by omega) (by rw [List.take_succ_eq_append_getElem hia, List.take_succ_eq_append_getElem hib, he, hx]))
      simp only [gudgeonref01_Same.l0]
      rw [if_pos (by omega), if_pos (by omega), if_pos (by omega), rd_get _ _ hia, rd_get _ _ hib, if_pos hx, w64 (by omega) (by omega)]
      rfl
    · refine Ev.step (f := fun _ => some _) (fun k => ?_) (Ev.now _)
      simp only [gudgeonref01_Same.l0]
      rw [if_pos (by omega), if_pos (by omega), if_pos (by omega), rd_get _ _ hia, rd_get _ _ hib, if_neg hx, decide_eq_false]
      intro h
      subst h
      exact hx rfl
theorem same_ev (a b : List Int) (hn : a.length ≤ 1000000000) : Ev (fun k => gudgeonref01_Same.f k a b) (decide (a = b)) := by
  by_cases hl : a.length = b.length
  · refine Ev.congr (fun k => ?_) (same_l0 a b hl hn a.length 0 (by omega) rfl)
    unfold gudgeonref01_Same.f
    rw [if_pos (by omega)]
    rfl
  · refine Ev.congr (f := fun _ => some _) (fun k => ?_) (Ev.now _)
    unfold gudgeonref01_Same.f
    rw [if_neg (by omega), decide_eq_false]
    intro h
    exact hl (by rw [h])
theorem same_self (a b : List Int) (h : a = b) (hn : a.length ≤ 1000000000) : Ev (fun k => gudgeonref01_Same.f k a b) true := by
  have := same_ev a b hn
  rwa [decide_eq_true h] at this
end Go.Proofs.Ytdicjemjmlbmlaa.V
/- The closure 'signed' of whole.DivMod, in the printed shape: it reads the truths of two captured variables and answers what made answers. -/
namespace Go.Proofs.Ytdicjemjmlbmlaa.H
open Go.RowKit Go.Proofs.YtdicjemjmlbmlaaW.PrintWords Go.Proofs.YtdicjemjmlbmlaaW.PrintLast Go.Proofs.YtdicjemjmlbmlaaW.PrintMore Go.Proofs.Ytdicjemjmlbmlaa.PA
attribute [local go_sem] box_twice
set_option linter.unusedVariables false
set_option linter.unusedSimpArgs false
set_option maxHeartbeats 8000000 in
set_option maxRecDepth 100000 in
theorem whole_DivMod_1.calls (ga gb : Nat) (an bn : Bool) (A1 : Option Addr) (c1 : Nat) (l1 : List Int) (r1 : Bool) (r2 : List Int) (w : World) (hr1 : Kd.C (Kd.int .u32) w A1 l1.length l1) (hc1 : l1.length ≤ c1) (h : whole_made.f (an != bn) l1 = some (r1, r2))
    (ha : w.cell? ⟨ga, 0, none⟩ = some (.bool an)) (hb : w.cell? ⟨gb, 0, none⟩ = some (.bool bn)) :
    Calls Try.prog 73 #[.slice A1 l1.length c1, .pointer (some ⟨ga, 0, none⟩), .pointer (some ⟨gb, 0, none⟩)] w fun e w' => ∃ v1_ : Value, e = .returned (.agg #[.bool r1, v1_]) ∧ Kd.R (Kd.int .u32) 81 w' w.heap.size (fun _ => True) v1_ r2 ∧ Below w.heap.size w w' := by
  have hu24 := Try.underlying24
  have HR1 := Aside0.mk hr1
  have HC1 := Aside0.mk hc1
  have A2 := Aside0.mk (show whole_made.f (!(an == bn)) l1 = some (r1, r2) from h)
  have HB := Aside0.mk (Below.refl w.heap.size w)
  have KA := Aside0.mk ha
  have KB := Aside0.mk hb
  clear hr1 hc1 h
  go_enter Try.func73, Try.ntmps73
  go_wp2_with (first
    | ((with_reducible refine gate_dst (N := 4) rfl ?_); (try (refine gate_guard (by rfl) ?_; dsimp only)); refine box_event ?hg (N := 4) ?hd (cs := #[.bool false, .slice none 0 0]) (t := 24) ?hr ?_; (case hd => rfl); (case hg => rfl); (case hr => first | (go_simp; done) | (go_simp; rfl)); intro g4 hg w3 hbox hb4; have BK := Aside0.mk hbox; have GE := Aside0.mk (show w.heap.size ≤ g4 by omega); have ha := pw_cell_below hb4 KA.out; have hb := pw_cell_below hb4 KB.out; have n_ := Aside0.mk (below_step HB.out hb4); clear HB; have HB := n_; clear n_ hb4 hbox hg)
    | (go_at_call 63; (with_reducible refine (whole_made.calls (!(an == bn)) _ _ l1 r1 r2 _ ?side1 ?side2 A2.out).mono ?_); (case side1 => exact (Kd.C_below HR1.out HB.out)); (case side2 => exact HC1.out); rintro e w7 ⟨v1, rfl, ho0, hb7⟩; have HO := Aside0.mk (Kd.R_lower ho0 (below_size HB.out)); have n1_ := Aside0.mk (blk_below BK.out hb7); clear BK; have BK := n1_; clear n1_; have n_ := Aside0.mk (below_step HB.out hb7); clear HB; have HB := n_; clear n_ hb7 ho0; obtain ⟨Ao, co, eo⟩ := Kd.R_slice HO.out; subst eo; have hcz0 : w7.cell? ⟨g4, 0, none⟩ = some (.bool false) := (blk_cell BK.out 0).trans rfl; have hcz1 : w7.cell? ⟨g4, 1, none⟩ = some (.slice none 0 0) := (blk_cell BK.out 1).trans rfl; have hfz0 := blk_frozen BK.out 0; have hfz1 := blk_frozen BK.out 1))
  refine bodyPost_ret (results_cell_row rfl _ _ g4 24 #[.bool r1, .slice Ao r2.length co] (0, 0) _ rfl (by (with_reducible repeat (first | refine blk_drewN ?_ _ | refine blk_drew ?_ | refine blk_alloc ?_ _)); refine blk_put (cs := #[.bool r1, .slice none 0 0]) ?_ 1 _ rfl; (with_reducible repeat (first | refine blk_drewN ?_ _ | refine blk_drew ?_ | refine blk_alloc ?_ _)); refine blk_put (cs := #[.bool false, .slice none 0 0]) ?_ 0 _ rfl; (with_reducible repeat (first | refine blk_drewN ?_ _ | refine blk_drew ?_ | refine blk_alloc ?_ _)); exact BK.out) Try.underlying24 rfl (by kernel_rfl)) rfl ?_
  exact ⟨_, by first | rfl | (simp [errW_none, errW_some] <;> rfl), by (with_reducible repeat (first | apply Kd.R_alloc | apply Kd.R_drewN | apply Kd.R_drew)); exact Kd.R_mono (Kd.R_far (p := ⟨g4, 1, none⟩) (Kd.R_far (p := ⟨g4, 0, none⟩) (Kd.R_types HO.out BK.out (by decide)) (fun _ hk => hk.2) (.bool r1)) (fun _ hk => hk.2) (.slice Ao r2.length co)) (fun _ hk => trivial), by repeat (first | (with_reducible first | exact HB.out | apply below_alloc | apply pw_below_drewN | apply below_drew1 | refine below_set ?_ GE.out) | exact HB.out)⟩
end Go.Proofs.Ytdicjemjmlbmlaa.H
/- Written by a program of this session, wip/tools/patch_print.py, over the kit's print of the loaded functions. -/
namespace Go.Proofs.Ytdicjemjmlbmlaa.H
end Go.Proofs.Ytdicjemjmlbmlaa.H
namespace Go.Proofs.Ytdicjemjmlbmlaa.PA
open Go.RowKit Go.Proofs.YtdicjemjmlbmlaaW.PrintWords Go.Proofs.YtdicjemjmlbmlaaW.PrintLast Go.Proofs.YtdicjemjmlbmlaaW.PrintMore Go.Proofs.Ytdicjemjmlbmlaa.H
attribute [local go_sem] max2_int min2_int max_two min_two max_three min_three max_four min_four   -- for this text's walks alone
attribute [local go_sem] box_twice
set_option linter.unusedVariables false
set_option linter.unusedSimpArgs false

/-! ### whole_DivMod: function 48 -/
def whole_DivMod.j0 : Nat → List Int → List Int → Bool → Bool → List Int → Bool → List Int → Option (Bool × List Int × Bool × List Int × Int)
 | 0, _, _, _, _, _, _, _ => none
 | k + 1, x7, x8, x39, x340000, x340001, x341000, x341001 => if x39 = true then ((whole_made.f (x340000 != x341000) x7).bind fun bt359 => ((whole_made.f false x8).bind fun bt363 => (some (bt359.1, bt359.2, bt363.1, bt363.2, 0)))) else ((nat_Sub.f k x341001 x8).bind fun bt367 => ((nat_Add.f k x7 (([1] : List Int))).bind fun t374 => ((whole_made.f (x340000 != x341000) t374).bind fun bt377 => ((whole_made.f false bt367.1).bind fun bt381 => (some (bt377.1, bt377.2, bt381.1, bt381.2, 0))))))
def whole_DivMod.f (k : Nat) (a0_0 : Bool) (l0_1 : List Int) (a1_0 : Bool) (l1_1 : List Int) : Option (Bool × List Int × Bool × List Int × Int) := (whole_Norm.f a0_0 l0_1).bind fun bt343 => ((whole_Norm.f a1_0 l1_1).bind fun bt347 => ((nat_DivMod.f k bt343.2 bt347.2).bind fun bt351 => (if bt351.2.2 = 0 then (if bt343.1 = true then (whole_DivMod.j0 k bt351.1 bt351.2.1 ((bt351.2.1.length : Int) == 0) bt343.1 bt343.2 bt347.1 bt347.2) else (whole_DivMod.j0 k bt351.1 bt351.2.1 true bt343.1 bt343.2 bt347.1 bt347.2)) else (some (false, ([] : List Int), false, ([] : List Int), bt351.2.2)))))
set_option maxHeartbeats 8000000 in
set_option maxRecDepth 100000 in
theorem whole_DivMod.calls (k : Nat) (a0_0 : Bool) (A0_1 : Option Addr) (c0_1 : Nat) (l0_1 : List Int) (a1_0 : Bool) (A1_1 : Option Addr) (c1_1 : Nat) (l1_1 : List Int) (r1 : Bool) (r2 : List Int) (r3 : Bool) (r4 : List Int) (r5 : Int) (w : World) (hr0_1 : Kd.C (Kd.int .u32) w A0_1 l0_1.length l0_1) (hc0_1 : l0_1.length ≤ c0_1) (hr1_1 : Kd.C (Kd.int .u32) w A1_1 l1_1.length l1_1) (hc1_1 : l1_1.length ≤ c1_1) (h : whole_DivMod.f k a0_0 l0_1 a1_0 l1_1 = some (r1, r2, r3, r4, r5)) :
  Calls Try.prog 48 #[.agg #[.bool a0_0, .slice A0_1 l0_1.length c0_1], .agg #[.bool a1_0, .slice A1_1 l1_1.length c1_1]] w fun e w' => ∃ v1_ v3_ : Value, e = .returned (.tuple #[.agg #[.bool r1, v1_], .agg #[.bool r3, v3_], .int .i64 r5]) ∧ Kd.R (Kd.int .u32) 81 w' w.heap.size (fun k_ => some k_ ≠ (v3_ : Value).ownBlock) v1_ r2 ∧ Kd.R (Kd.int .u32) 81 w' w.heap.size (fun k_ => some k_ ≠ (v1_ : Value).ownBlock) v3_ r4 ∧ Below w.heap.size w w' := by
 have hu24 := Try.underlying24
 have HR0_1 := Aside0.mk hr0_1
 have HC0_1 := Aside0.mk hc0_1
 clear hr0_1 hc0_1
 have HR1_1 := Aside0.mk hr1_1
 have HC1_1 := Aside0.mk hc1_1
 clear hr1_1 hc1_1
 have HB := Aside0.mk (Below.refl w.heap.size w)
 have H : ((whole_Norm.f a0_0 l0_1).bind fun bt343 => ((whole_Norm.f a1_0 l1_1).bind fun bt347 => ((nat_DivMod.f k bt343.2 bt347.2).bind fun bt351 => (if bt351.2.2 = 0 then (if bt343.1 = true then (whole_DivMod.j0 k bt351.1 bt351.2.1 ((bt351.2.1.length : Int) == 0) bt343.1 bt343.2 bt347.1 bt347.2) else (whole_DivMod.j0 k bt351.1 bt351.2.1 true bt343.1 bt343.2 bt347.1 bt347.2)) else (some (false, ([] : List Int), false, ([] : List Int), bt351.2.2)))))) = some (r1, r2, r3, r4, r5) := h
 clear h
 obtain ⟨⟨t343, t344⟩, A30, H⟩ := Option.bind_eq_some_iff.mp H
 try dsimp only at H
 have A3 := Aside0.mk A30
 clear A30
 obtain ⟨⟨t347, t348⟩, A40, H⟩ := Option.bind_eq_some_iff.mp H
 try dsimp only at H
 have A4 := Aside0.mk A40
 clear A40
 obtain ⟨⟨t351, t352, t353⟩, A50, H⟩ := Option.bind_eq_some_iff.mp H
 try dsimp only at H
 have A5 := Aside0.mk A50
 clear A50
 by_cases c6 : t353 = 0
 ·rw [if_pos c6] at H
  have c6b0 : (t353 == 0) = true := beq_iff_eq.mpr c6
  have c6b1 : (t353 != 0) = false := bne_eq_false_iff_eq.mpr c6
  clear c6
  have HC7 := Aside0.mk H
  clear H
  go_enter Try.func48, Try.ntmps48
  try go_wp2_with (first | ((with_reducible refine gate_dst (N := 2) rfl ?_); (try (refine gate_guard (by rfl) ?_; dsimp only)); refine box_event ?hg (N := 2) ?hd (cs := #[.bool a0_0, .slice A0_1 l0_1.length c0_1]) (t := 24) ?hr ?_; (case hd => rfl); (case hg => rfl); (case hr => first | (go_simp; done) | (go_simp; rfl)); intro gb339 hg w8 hbox hb; have BK339 := Aside0.mk (hbox); have GW339 := Aside0.mk (bxLe HB.out hg); have GE339 := GW339; replace HB := Aside0.mk (below_step HB.out hb); clear hb hbox hg) | ((with_reducible refine gate_dst (N := 3) rfl ?_); (try (refine gate_guard (by rfl) ?_; dsimp only)); refine box_event ?hg (N := 3) ?hd (cs := #[.bool a1_0, .slice A1_1 l1_1.length c1_1]) (t := 24) ?hr ?_; (case hd => rfl); (case hg => rfl); (case hr => first | (go_simp; done) | (go_simp; rfl)); intro gb340 hg w9 hbox hb; have BK340 := Aside0.mk (hbox); have GW340 := Aside0.mk (bxLe HB.out hg); have GE340 := GW340; replace HB := Aside0.mk (below_step HB.out hb); have NB339_340 := Aside0.mk (neL BK339.out hg); have NB340_339 := Aside0.mk (neR BK339.out hg); replace BK339 := Aside0.mk (blk_below BK339.out hb); clear hb hbox hg) | ((with_reducible refine gate_dst (N := 4) rfl ?_); (try (refine gate_guard (by rfl) ?_; dsimp only)); refine box_event ?hg (N := 4) ?hd (cs := #[.bool false, .slice none 0 0]) (t := 24) ?hr ?_; (case hd => rfl); (case hg => rfl); (case hr => first | (go_simp; done) | (go_simp; rfl)); intro gb341 hg w10 hbox hb; have BK341 := Aside0.mk (hbox); have GW341 := Aside0.mk (bxLe HB.out hg); have GE341 := GW341; replace HB := Aside0.mk (below_step HB.out hb); have NB339_341 := Aside0.mk (neL BK339.out hg); have NB341_339 := Aside0.mk (neR BK339.out hg); replace BK339 := Aside0.mk (blk_below BK339.out hb); have NB340_341 := Aside0.mk (neL BK340.out hg); have NB341_340 := Aside0.mk (neR BK340.out hg); replace BK340 := Aside0.mk (blk_below BK340.out hb); clear hb hbox hg) | ((with_reducible refine gate_dst (N := 5) rfl ?_); (try (refine gate_guard (by rfl) ?_; dsimp only)); refine box_event ?hg (N := 5) ?hd (cs := #[.bool false, .slice none 0 0]) (t := 24) ?hr ?_; (case hd => rfl); (case hg => rfl); (case hr => first | (go_simp; done) | (go_simp; rfl)); intro gb342 hg w11 hbox hb; have BK342 := Aside0.mk (hbox); have GW342 := Aside0.mk (bxLe HB.out hg); have GE342 := GW342; replace HB := Aside0.mk (below_step HB.out hb); have NB339_342 := Aside0.mk (neL BK339.out hg); have NB342_339 := Aside0.mk (neR BK339.out hg); replace BK339 := Aside0.mk (blk_below BK339.out hb); have NB340_342 := Aside0.mk (neL BK340.out hg); have NB342_340 := Aside0.mk (neR BK340.out hg); replace BK340 := Aside0.mk (blk_below BK340.out hb); have NB341_342 := Aside0.mk (neL BK341.out hg); have NB342_341 := Aside0.mk (neR BK341.out hg); replace BK341 := Aside0.mk (blk_below BK341.out hb); clear hb hbox hg))
  replace BK339 := Aside0.mk (blk_drew BK339.out)
  replace BK340 := Aside0.mk (blk_drew BK340.out)
  replace BK341 := Aside0.mk (blk_drew BK341.out)
  replace BK342 := Aside0.mk (blk_drew BK342.out)
  replace HB := Aside0.mk (below_drew1 HB.out)
  refine start_ (n := 6) (S := fun w' => w'.cell? ⟨gb339, 0, none⟩ = some (.bool a0_0) ∧ w'.cell? ⟨gb339, 1, none⟩ = some (.slice A0_1 l0_1.length c0_1) ∧ w'.cell? ⟨gb340, 0, none⟩ = some (.bool a1_0) ∧ w'.cell? ⟨gb340, 1, none⟩ = some (.slice A1_1 l1_1.length c1_1)) (ds := [4, 5]) #[false, false, false, false, false, false] (by kernel_rfl) rfl rfl ⟨bc0 BK339.out, bc1 BK339.out, bc0 BK340.out, bc1 BK340.out⟩ (fun hHeld => ?_)
  generalize w11.drew = w12 at BK339 BK340 BK341 BK342 HB hHeld ⊢
  refine take_ (i := 0) (N := some 13) (v := ?_) (a' := ?_) #[true, false, false, false, false, false] rfl rfl (by kernel_rfl) (fun _ _ _ h => h) (Or.inl ⟨by rfl, ?_⟩) hHeld ?_ ?_
  rotate_left
  ·rintro w' ⟨s0, s1, s2, s3⟩
   go_simp
   with_reducible rfl
  rotate_left
  ·simp only [Act.put, List.setIfInBounds_toArray, List.set_cons_zero, List.set_cons_succ, i64_w, i32_w]
   rfl
  refine take_ (i := 2) (N := some 15) (v := ?_) (a' := ?_) #[true, false, true, false, false, false] rfl rfl (by kernel_rfl) (fun _ _ _ h => h) (Or.inl ⟨by rfl, ?_⟩) hHeld ?_ ?_
  rotate_left
  ·rintro w' ⟨s0, s1, s2, s3⟩
   go_simp
   with_reducible rfl
  rotate_left
  ·simp only [Act.put, List.setIfInBounds_toArray, List.set_cons_zero, List.set_cons_succ, i64_w, i32_w]
   rfl
  refine one_ (i := 1) (N := some 14) #[true, true, true, false, false, false] rfl rfl (by kernel_rfl) (by decide) (fun K hK => ?_)
  refine goR Try.func51 [.agg #[.bool a0_0, .slice A0_1 l0_1.length c0_1]] ?_
  with_reducible refine (whole_Norm.calls a0_0 _ _ l0_1 t343 t344 _ ?side1 ?side2 A3.out).mono ?_
  (case side1 => exact (Kd.C_below HR0_1.out HB.out))
  (case side2 => exact HC0_1.out)
  rintro e w13 ⟨v345, rfl, ho0, hb⟩
  refine ⟨_, rfl, ?_⟩
  have HO346 := Aside0.mk (Kd.R_lower ho0 (below_size HB.out))
  replace BK339 := Aside0.mk (blk_below BK339.out hb)
  replace BK340 := Aside0.mk (blk_below BK340.out hb)
  replace BK341 := Aside0.mk (blk_below BK341.out hb)
  replace BK342 := Aside0.mk (blk_below BK342.out hb)
  replace HB := Aside0.mk (below_step HB.out hb)
  (try clear hb)
  (try clear hb2)
  (try clear hk)
  (try clear hi)
  (try clear ho0)
  refine hK.out _ _ ⟨bc0 BK339.out, bc1 BK339.out, bc0 BK340.out, bc1 BK340.out⟩ (fun hHeld => ?_)
  clear hK K
  refine norm_ (a' := ?_) ?_ ?_
  rotate_left
  ·show Act.put _ (some 14) _ = _
   simp only [Act.put, List.setIfInBounds_toArray, List.set_cons_zero, List.set_cons_succ, i64_w, i32_w]
   rfl
  refine one_ (i := 3) (N := some 16) #[true, true, true, true, false, false] rfl rfl (by kernel_rfl) (by decide) (fun K hK => ?_)
  refine goR Try.func51 [.agg #[.bool a1_0, .slice A1_1 l1_1.length c1_1]] ?_
  with_reducible refine (whole_Norm.calls a1_0 _ _ l1_1 t347 t348 _ ?side1 ?side2 A4.out).mono ?_
  (case side1 => exact (Kd.C_below HR1_1.out HB.out))
  (case side2 => exact HC1_1.out)
  rintro e w14 ⟨v349, rfl, ho0, hb⟩
  refine ⟨_, rfl, ?_⟩
  have HO350 := Aside0.mk (Kd.R_lower (Kd.R_new' ho0 (Kd.R_lt HO346.out)) (below_size HB.out))
  replace HO346 := Aside0.mk (Kd.R_elder' HO346.out (Kd.R_base ho0) hb)
  replace BK339 := Aside0.mk (blk_below BK339.out hb)
  replace BK340 := Aside0.mk (blk_below BK340.out hb)
  replace BK341 := Aside0.mk (blk_below BK341.out hb)
  replace BK342 := Aside0.mk (blk_below BK342.out hb)
  replace HB := Aside0.mk (below_step HB.out hb)
  (try clear hb)
  (try clear hb2)
  (try clear hk)
  (try clear hi)
  (try clear ho0)
  obtain ⟨Ao16, co16, eo16⟩ := Kd.R_slice HO346.out
  subst eo16
  obtain ⟨Ao19, co19, eo19⟩ := Kd.R_slice HO350.out
  subst eo19
  refine hK.out _ _ ⟨bc0 BK339.out, bc1 BK339.out, bc0 BK340.out, bc1 BK340.out⟩ (fun hHeld => ?_)
  clear hK K
  refine norm_ (a' := ?_) ?_ ?_
  rotate_left
  ·show Act.put _ (some 16) _ = _
   simp only [Act.put, List.setIfInBounds_toArray, List.set_cons_zero, List.set_cons_succ, i64_w, i32_w]
   rfl
  refine last_ (i := 4) (N := none) #[true, true, true, true, true, false] rfl rfl (by kernel_rfl) (by decide) (fun K hK => ?_)
  have hs15 : w14.cell? ⟨gb339, 0, none⟩ = some (.bool a0_0) := bc0 BK339.out
  have hfs15 := blk_frozen BK339.out 0
  have hns15_1 := NB340_339.out
  have hns15_2 := NB341_339.out
  have hns15_3 := NB342_339.out
  have hms15_1 := NB339_340.out
  have hms15_2 := NB339_341.out
  have hms15_3 := NB339_342.out
  have hs17 : w14.cell? ⟨gb339, 1, none⟩ = some (.slice A0_1 l0_1.length c0_1) := bc1 BK339.out
  have hfs17 := blk_frozen BK339.out 1
  have hns17_1 := NB340_339.out
  have hns17_2 := NB341_339.out
  have hns17_3 := NB342_339.out
  have hms17_1 := NB339_340.out
  have hms17_2 := NB339_341.out
  have hms17_3 := NB339_342.out
  refine skip_ (w1 := ?_) (by rfl) rfl ?_ ?_
  rotate_left
  ·go_simp
   rfl
  refine hK.out _ _ ?_
  clear hK K
  refine last_ (i := 5) (N := none) #[true, true, true, true, true, true] rfl rfl (by kernel_rfl) (by decide) (fun K hK => ?_)
  have hs18 : w14.cell? ⟨gb340, 0, none⟩ = some (.bool a1_0) := bc0 BK340.out
  have hfs18 := blk_frozen BK340.out 0
  have hns18_0 := NB339_340.out
  have hns18_2 := NB341_340.out
  have hns18_3 := NB342_340.out
  have hms18_0 := NB340_339.out
  have hms18_2 := NB340_341.out
  have hms18_3 := NB340_342.out
  have hs20 : w14.cell? ⟨gb340, 1, none⟩ = some (.slice A1_1 l1_1.length c1_1) := bc1 BK340.out
  have hfs20 := blk_frozen BK340.out 1
  have hns20_0 := NB339_340.out
  have hns20_2 := NB341_340.out
  have hns20_3 := NB342_340.out
  have hms20_0 := NB340_339.out
  have hms20_2 := NB340_341.out
  have hms20_3 := NB340_342.out
  refine skip_ (w1 := ?_) (by rfl) rfl ?_ ?_
  rotate_left
  ·go_simp
   rfl
  refine hK.out _ _ ?_
  clear hK K
  refine done_ (by kernel_rfl) ?_
  have hnb21 := NB339_340.out
  have hnc21 := NB340_339.out
  have hnb22 := NB339_341.out
  have hnc22 := NB341_339.out
  have hnb23 := NB339_342.out
  have hnc23 := NB342_339.out
  have hcz24_0 : w14.cell? ⟨gb339, 0, none⟩ = some (.bool a0_0) := bc0 BK339.out
  have hcz24_1 : w14.cell? ⟨gb339, 1, none⟩ = some (.slice A0_1 l0_1.length c0_1) := bc1 BK339.out
  have hfz24_0 := blk_frozen BK339.out 0
  have hfz24_1 := blk_frozen BK339.out 1
  have hnb25 := NB340_341.out
  have hnc25 := NB341_340.out
  have hnb26 := NB340_342.out
  have hnc26 := NB342_340.out
  have hcz27_0 : w14.cell? ⟨gb340, 0, none⟩ = some (.bool a1_0) := bc0 BK340.out
  have hcz27_1 : w14.cell? ⟨gb340, 1, none⟩ = some (.slice A1_1 l1_1.length c1_1) := bc1 BK340.out
  have hfz27_0 := blk_frozen BK340.out 0
  have hfz27_1 := blk_frozen BK340.out 1
  go_upto_region 6 with (first | ((with_reducible refine gate_callee (f := 72) rfl ?_); refine goL (some 22) Try.func72 [.slice Ao16 t344.length co16, .slice Ao19 t348.length co19] ?_; (with_reducible refine (nat_DivMod.calls k _ _ t344 _ _ t348 t351 t352 t353 _ ?side1 ?side2 ?side3 ?side4 A5.out).mono ?_); (case side1 => refine (Kd.R_reads' (e := 81) (base := w.heap.size) (ok := fun k_ => (True ∧ some k_ ≠ (.slice Ao19 t348.length co19 : Value).ownBlock)) (n := t344.length) (c := co16) ?_).2.2; exact (Kd.R_mono (Kd.R_mono (Kd.R_far (p := ⟨gb340, 1, none⟩) (Kd.R_far (p := ⟨gb340, 0, none⟩) (Kd.R_far (p := ⟨gb339, 1, none⟩) (Kd.R_far (p := ⟨gb339, 0, none⟩) (Kd.R_types (Kd.R_types HO346.out BK339.out (by decide)) BK340.out (by decide)) (fun _ hk => hk.1.2) (.bool t343)) (fun _ hk => hk.1.2) (.slice Ao16 t344.length co16)) (fun _ hk => hk.2) (.bool t347)) (fun _ hk => hk.2) (.slice Ao19 t348.length co19)) (fun _ h_ => h_.1)) (fun _ h_ => h_.1))); (case side2 => exact (Kd.R_reads' HO346.out).2.1); (case side3 => refine (Kd.R_reads' (e := 81) (base := w.heap.size) (ok := fun k_ => (True ∧ some k_ ≠ (.slice Ao16 t344.length co16 : Value).ownBlock)) (n := t348.length) (c := co19) ?_).2.2; exact (Kd.R_mono (Kd.R_mono (Kd.R_far (p := ⟨gb340, 1, none⟩) (Kd.R_far (p := ⟨gb340, 0, none⟩) (Kd.R_far (p := ⟨gb339, 1, none⟩) (Kd.R_far (p := ⟨gb339, 0, none⟩) (Kd.R_types (Kd.R_types HO350.out BK339.out (by decide)) BK340.out (by decide)) (fun _ hk => hk.1.2) (.bool t343)) (fun _ hk => hk.1.2) (.slice Ao16 t344.length co16)) (fun _ hk => hk.2) (.bool t347)) (fun _ hk => hk.2) (.slice Ao19 t348.length co19)) (fun _ h_ => h_.1)) (fun _ h_ => h_.1))); (case side4 => exact (Kd.R_reads' HO350.out).2.1); rintro e w28 ⟨v354, v356, rfl, ho0, ho1, hb⟩; refine ⟨_, rfl, ?_⟩; have HO355 := Aside0.mk (Kd.R_lower (Kd.R_new' (Kd.R_new' ho0 (Kd.R_lt (Kd.R_mono (Kd.R_mono (Kd.R_far (p := ⟨gb340, 1, none⟩) (Kd.R_far (p := ⟨gb340, 0, none⟩) (Kd.R_far (p := ⟨gb339, 1, none⟩) (Kd.R_far (p := ⟨gb339, 0, none⟩) (Kd.R_types (Kd.R_types HO346.out BK339.out (by decide)) BK340.out (by decide)) (fun _ hk => hk.1.2) (.bool t343)) (fun _ hk => hk.1.2) (.slice Ao16 t344.length co16)) (fun _ hk => hk.2) (.bool t347)) (fun _ hk => hk.2) (.slice Ao19 t348.length co19)) (fun _ h_ => h_.1)) (fun _ h_ => h_.1)))) (Kd.R_lt (Kd.R_mono (Kd.R_mono (Kd.R_far (p := ⟨gb340, 1, none⟩) (Kd.R_far (p := ⟨gb340, 0, none⟩) (Kd.R_far (p := ⟨gb339, 1, none⟩) (Kd.R_far (p := ⟨gb339, 0, none⟩) (Kd.R_types (Kd.R_types HO350.out BK339.out (by decide)) BK340.out (by decide)) (fun _ hk => hk.1.2) (.bool t343)) (fun _ hk => hk.1.2) (.slice Ao16 t344.length co16)) (fun _ hk => hk.2) (.bool t347)) (fun _ hk => hk.2) (.slice Ao19 t348.length co19)) (fun _ h_ => h_.1)) (fun _ h_ => h_.1)))) (below_size (by repeat first | exact HB.out | refine bxSet ?_ (by assumption) | apply below_alloc | apply pw_below_drewN))); have HO357 := Aside0.mk (Kd.R_lower (Kd.R_new' (Kd.R_new' ho1 (Kd.R_lt (Kd.R_mono (Kd.R_mono (Kd.R_far (p := ⟨gb340, 1, none⟩) (Kd.R_far (p := ⟨gb340, 0, none⟩) (Kd.R_far (p := ⟨gb339, 1, none⟩) (Kd.R_far (p := ⟨gb339, 0, none⟩) (Kd.R_types (Kd.R_types HO346.out BK339.out (by decide)) BK340.out (by decide)) (fun _ hk => hk.1.2) (.bool t343)) (fun _ hk => hk.1.2) (.slice Ao16 t344.length co16)) (fun _ hk => hk.2) (.bool t347)) (fun _ hk => hk.2) (.slice Ao19 t348.length co19)) (fun _ h_ => h_.1)) (fun _ h_ => h_.1)))) (Kd.R_lt (Kd.R_mono (Kd.R_mono (Kd.R_far (p := ⟨gb340, 1, none⟩) (Kd.R_far (p := ⟨gb340, 0, none⟩) (Kd.R_far (p := ⟨gb339, 1, none⟩) (Kd.R_far (p := ⟨gb339, 0, none⟩) (Kd.R_types (Kd.R_types HO350.out BK339.out (by decide)) BK340.out (by decide)) (fun _ hk => hk.1.2) (.bool t343)) (fun _ hk => hk.1.2) (.slice Ao16 t344.length co16)) (fun _ hk => hk.2) (.bool t347)) (fun _ hk => hk.2) (.slice Ao19 t348.length co19)) (fun _ h_ => h_.1)) (fun _ h_ => h_.1)))) (below_size (by repeat first | exact HB.out | refine bxSet ?_ (by assumption) | apply below_alloc | apply pw_below_drewN))); replace HO346 := Aside0.mk (Kd.R_mono (Kd.R_told (Kd.R_told (Kd.R_old (Kd.R_mono (Kd.R_mono (Kd.R_far (p := ⟨gb340, 1, none⟩) (Kd.R_far (p := ⟨gb340, 0, none⟩) (Kd.R_far (p := ⟨gb339, 1, none⟩) (Kd.R_far (p := ⟨gb339, 0, none⟩) (Kd.R_types (Kd.R_types HO346.out BK339.out (by decide)) BK340.out (by decide)) (fun _ hk => hk.1.2) (.bool t343)) (fun _ hk => hk.1.2) (.slice Ao16 t344.length co16)) (fun _ hk => hk.2) (.bool t347)) (fun _ hk => hk.2) (.slice Ao19 t348.length co19)) (fun _ h_ => h_.1)) (fun _ h_ => h_.1)) hb) (Kd.R_base ho0)) (Kd.R_base ho1)) (fun _ h_ => h_.1)); replace HO350 := Aside0.mk (Kd.R_mono (Kd.R_told (Kd.R_told (Kd.R_old (Kd.R_mono (Kd.R_mono (Kd.R_far (p := ⟨gb340, 1, none⟩) (Kd.R_far (p := ⟨gb340, 0, none⟩) (Kd.R_far (p := ⟨gb339, 1, none⟩) (Kd.R_far (p := ⟨gb339, 0, none⟩) (Kd.R_types (Kd.R_types HO350.out BK339.out (by decide)) BK340.out (by decide)) (fun _ hk => hk.1.2) (.bool t343)) (fun _ hk => hk.1.2) (.slice Ao16 t344.length co16)) (fun _ hk => hk.2) (.bool t347)) (fun _ hk => hk.2) (.slice Ao19 t348.length co19)) (fun _ h_ => h_.1)) (fun _ h_ => h_.1)) hb) (Kd.R_base ho0)) (Kd.R_base ho1)) (fun _ h_ => h_.1)); replace BK339 := Aside0.mk (blk_below (g := gb339) (o := .cells #[.bool t343, .slice Ao16 t344.length co16] 24 (0, 0)) (by refine blk_far ?_ NB339_340.out _; refine blk_far ?_ NB339_340.out _; refine blk_put (cs := #[.bool t343, .slice A0_1 l0_1.length c0_1]) ?_ 1 _ rfl; refine blk_put (cs := #[.bool a0_0, .slice A0_1 l0_1.length c0_1]) ?_ 0 _ rfl; exact BK339.out) hb); replace BK340 := Aside0.mk (blk_below (g := gb340) (o := .cells #[.bool t347, .slice Ao19 t348.length co19] 24 (0, 0)) (by refine blk_put (cs := #[.bool t347, .slice A1_1 l1_1.length c1_1]) ?_ 1 _ rfl; refine blk_put (cs := #[.bool a1_0, .slice A1_1 l1_1.length c1_1]) ?_ 0 _ rfl; refine blk_far ?_ NB340_339.out _; refine blk_far ?_ NB340_339.out _; exact BK340.out) hb); replace BK341 := Aside0.mk (blk_below (g := gb341) (o := .cells #[.bool false, .slice none 0 0] 24 (0, 0)) (by refine blk_far ?_ NB341_340.out _; refine blk_far ?_ NB341_340.out _; refine blk_far ?_ NB341_339.out _; refine blk_far ?_ NB341_339.out _; exact BK341.out) hb); replace BK342 := Aside0.mk (blk_below (g := gb342) (o := .cells #[.bool false, .slice none 0 0] 24 (0, 0)) (by refine blk_far ?_ NB342_340.out _; refine blk_far ?_ NB342_340.out _; refine blk_far ?_ NB342_339.out _; refine blk_far ?_ NB342_339.out _; exact BK342.out) hb); replace HB := Aside0.mk (below_step (by repeat first | exact HB.out | refine bxSet ?_ (by assumption) | apply below_alloc | apply pw_below_drewN) hb); (try clear ho1)))
  (try simp only [Act.put, List.setIfInBounds_toArray, List.set_cons_zero, List.set_cons_succ])
  go_cut [39] (fun v39 wc => ∃ (kq : Nat) (x39_6 : Bool), v39 = .bool x39_6 ∧ Aside0 (whole_DivMod.j0 kq t351 t352 x39_6 t343 t344 t347 t348 = some (r1, r2, r3, r4, r5)) ∧ Aside0 (kq ≤ k) ∧ Aside0 (Kd.R (Kd.int .u32) 81 wc w.heap.size (fun k_ => some k_ ≠ (v356 : Value).ownBlock ∧ some k_ ≠ ((.slice Ao16 t344.length co16) : Value).ownBlock ∧ some k_ ≠ ((.slice Ao19 t348.length co19) : Value).ownBlock) v354 t351) ∧ Aside0 (Kd.R (Kd.int .u32) 81 wc w.heap.size (fun k_ => some k_ ≠ (v354 : Value).ownBlock ∧ some k_ ≠ ((.slice Ao16 t344.length co16) : Value).ownBlock ∧ some k_ ≠ ((.slice Ao19 t348.length co19) : Value).ownBlock) v356 t352) ∧ Aside0 (Kd.R (Kd.int .u32) 81 wc w.heap.size (fun k_ => some k_ ≠ (v354 : Value).ownBlock ∧ some k_ ≠ (v356 : Value).ownBlock ∧ some k_ ≠ ((.slice Ao19 t348.length co19) : Value).ownBlock) (.slice Ao16 t344.length co16) t344) ∧ Aside0 (Kd.R (Kd.int .u32) 81 wc w.heap.size (fun k_ => some k_ ≠ (v354 : Value).ownBlock ∧ some k_ ≠ (v356 : Value).ownBlock ∧ some k_ ≠ ((.slice Ao16 t344.length co16) : Value).ownBlock) (.slice Ao19 t348.length co19) t348) ∧ Aside0 (wc.heap[gb339]? = some (.cells #[.bool t343, (.slice Ao16 t344.length co16)] 24 (0, 0))) ∧ Aside0 (wc.heap[gb340]? = some (.cells #[.bool t347, (.slice Ao19 t348.length co19)] 24 (0, 0))) ∧ Aside0 (wc.heap[gb341]? = some (.cells #[.bool false, (.slice none 0 0)] 24 (0, 0))) ∧ Aside0 (wc.heap[gb342]? = some (.cells #[.bool false, (.slice none 0 0)] 24 (0, 0))) ∧ Aside0 (Below w.heap.size w wc))
  case first =>
   have H := HC7.out
   clear HC7
   by_cases c29 : t343 = true
   ·subst c29
    rw [if_pos rfl] at H
    have H' := Aside0.mk H
    clear H
    have hnb30 := NB339_340.out
    have hnc30 := NB340_339.out
    have hnb31 := NB339_341.out
    have hnc31 := NB341_339.out
    have hnb32 := NB339_342.out
    have hnc32 := NB342_339.out
    have hcz33_0 : w28.cell? ⟨gb339, 0, none⟩ = some (.bool true) := bc0 BK339.out
    have hcz33_1 : w28.cell? ⟨gb339, 1, none⟩ = some (.slice Ao16 t344.length co16) := bc1 BK339.out
    have hfz33_0 := blk_frozen BK339.out 0
    have hfz33_1 := blk_frozen BK339.out 1
    obtain ⟨Ao34, co34, eo34⟩ := Kd.R_slice HO357.out
    subst eo34
    go_wp2
    go_meet
    case rel => exact ⟨_, (((t352.length : Int) == 0)), (by first | rfl | (simp; done)), H', ⟨by first | omega | exact Nat.le_refl _⟩, ⟨Kd.R_mono HO355.out (fun _ hk => ⟨hk.1.1, ⟨hk.1.2, hk.2⟩⟩)⟩, ⟨Kd.R_mono HO357.out (fun _ hk => ⟨hk.1.1, ⟨hk.1.2, hk.2⟩⟩)⟩, ⟨Kd.R_mono HO346.out (fun _ hk => ⟨hk.1.2, ⟨hk.2, hk.1.1.2⟩⟩)⟩, ⟨Kd.R_mono HO350.out (fun _ hk => ⟨hk.1.2, ⟨hk.2, hk.1.1.2⟩⟩)⟩, ⟨BK339.out⟩, ⟨BK340.out⟩, ⟨BK341.out⟩, ⟨BK342.out⟩, ⟨HB.out⟩⟩
   ·replace c29 := Bool.eq_false_iff.mpr c29
    subst c29
    rw [if_neg (show ¬ (false = true) by decide)] at H
    have H' := Aside0.mk H
    clear H
    have hnb35 := NB339_340.out
    have hnc35 := NB340_339.out
    have hnb36 := NB339_341.out
    have hnc36 := NB341_339.out
    have hnb37 := NB339_342.out
    have hnc37 := NB342_339.out
    have hcz38_0 : w28.cell? ⟨gb339, 0, none⟩ = some (.bool false) := bc0 BK339.out
    have hcz38_1 : w28.cell? ⟨gb339, 1, none⟩ = some (.slice Ao16 t344.length co16) := bc1 BK339.out
    have hfz38_0 := blk_frozen BK339.out 0
    have hfz38_1 := blk_frozen BK339.out 1
    go_wp2
    go_meet
    case rel => exact ⟨_, (true), (by first | rfl | (simp; done)), H', ⟨by first | omega | exact Nat.le_refl _⟩, ⟨Kd.R_mono HO355.out (fun _ hk => ⟨hk.1.1, ⟨hk.1.2, hk.2⟩⟩)⟩, ⟨Kd.R_mono HO357.out (fun _ hk => ⟨hk.1.1, ⟨hk.1.2, hk.2⟩⟩)⟩, ⟨Kd.R_mono HO346.out (fun _ hk => ⟨hk.1.2, ⟨hk.2, hk.1.1.2⟩⟩)⟩, ⟨Kd.R_mono HO350.out (fun _ hk => ⟨hk.1.2, ⟨hk.2, hk.1.1.2⟩⟩)⟩, ⟨BK339.out⟩, ⟨BK340.out⟩, ⟨BK341.out⟩, ⟨BK342.out⟩, ⟨HB.out⟩⟩
  case rest =>
   clear HC7
   try clear c1
   try clear c2
   try clear p2
   try clear c3
   try clear c4
   try clear c5
   try clear c6
   try clear c6b0
   try clear c6b1
   try clear c7
   try clear c21
   try clear c22
   try clear c23
   try clear c25
   try clear c26
   try clear c29
   try clear c30
   try clear c31
   try clear c32
   try clear c35
   try clear c36
   try clear c37
   try clear hcz24_0
   try clear hcz24_1
   try clear hcz27_0
   try clear hcz27_1
   try clear hcz33_0
   try clear hcz33_1
   try clear hcz38_0
   try clear hcz38_1
   try clear hfz24_0
   try clear hfz24_1
   try clear hfz27_0
   try clear hfz27_1
   try clear hfz33_0
   try clear hfz33_1
   try clear hfz38_0
   try clear hfz38_1
   obtain ⟨kq, x39_6, rfl, HA, HJ6, HO_7, HO_8, HO_340001, HO_341001, BK339, BK340, BK341, BK342, HB⟩ := hcut
   cases kq with
   | zero => exact absurd HA.out (by simp [whole_DivMod.j0])
   | succ kj6 =>
    have H := HA.out
    clear HA
    simp only [whole_DivMod.j0] at H
    by_cases c39 : x39_6 = true
    ·subst c39
     rw [if_pos rfl] at H
     obtain ⟨⟨t359, t360⟩, A400, H⟩ := Option.bind_eq_some_iff.mp H
     try dsimp only at H
     have A40 := Aside0.mk A400
     clear A400
     obtain ⟨⟨t363, t364⟩, A410, H⟩ := Option.bind_eq_some_iff.mp H
     try dsimp only at H
     have A41 := Aside0.mk A410
     clear A410
     simp only [Option.some.injEq, Prod.mk.injEq] at H
     obtain ⟨rfl, rfl, rfl, rfl, rfl⟩ := H
     obtain ⟨Ao42, co42, eo42⟩ := Kd.R_slice HO_7.out
     subst eo42
     go_wp2_with (first | (go_at_call 73; (with_reducible refine (whole_DivMod_1.calls gb339 gb340 t343 t347 _ _ t351 t359 t360 _ ?side1 ?side2 A40.out ?side3 ?side4).mono ?_); (case side1 => exact (Kd.R_reads' HO_7.out).2.2); (case side2 => exact (Kd.R_reads' HO_7.out).2.1); (case side3 => exact bc0 BK339.out); (case side4 => exact bc0 BK340.out); rintro e w43 ⟨v361, rfl, ho0, hb⟩; have n0_ := Aside0.mk (Kd.R_elder' HO_7.out (Kd.R_base ho0) hb); have n1_ := Aside0.mk (Kd.R_elder' HO_8.out (Kd.R_base ho0) hb); have n2_ := Aside0.mk (Kd.R_elder' HO_340001.out (Kd.R_base ho0) hb); have n3_ := Aside0.mk (Kd.R_elder' HO_341001.out (Kd.R_base ho0) hb); have n4_ := Aside0.mk (Kd.R_lower (Kd.R_new' (Kd.R_new' (Kd.R_new' (Kd.R_new' ho0 (Kd.R_lt HO_7.out)) (Kd.R_lt HO_8.out)) (Kd.R_lt HO_340001.out)) (Kd.R_lt HO_341001.out)) (below_size HB.out)); have n5_ := Aside0.mk (blk_below BK339.out hb); have n6_ := Aside0.mk (blk_below BK340.out hb); have n7_ := Aside0.mk (blk_below BK341.out hb); have n8_ := Aside0.mk (blk_below BK342.out hb); have n9_ := Aside0.mk (below_step HB.out hb); clear HO_7; clear HO_8; clear HO_340001; clear HO_341001; clear BK339; clear BK340; clear BK341; clear BK342; clear HB; have HO_7 := n0_; have HO_8 := n1_; have HO_340001 := n2_; have HO_341001 := n3_; have HO362 := n4_; have BK339 := n5_; have BK340 := n6_; have BK341 := n7_; have BK342 := n8_; have HB := n9_; clear n0_ n1_ n2_ n3_ n4_ n5_ n6_ n7_ n8_ n9_; obtain ⟨Ao44, co44, eo44⟩ := Kd.R_slice HO_8.out; subst eo44) | ((with_reducible refine gate_callee (f := 63) rfl ?_); refine goL (some 44) Try.func63 [.bool false, .slice Ao44 t352.length co44] ?_; (with_reducible refine (whole_made.calls false _ _ t352 t363 t364 _ ?side1 ?side2 A41.out).mono ?_); (case side1 => exact (Kd.R_reads' HO_8.out).2.2); (case side2 => exact (Kd.R_reads' HO_8.out).2.1); rintro e w45 ⟨v365, rfl, ho0, hb⟩; refine ⟨_, rfl, ?_⟩; have HO366 := Aside0.mk (Kd.R_lower (Kd.R_new' (Kd.R_new' (Kd.R_new' (Kd.R_new' (Kd.R_new' ho0 (Kd.R_lt HO_7.out)) (Kd.R_lt HO_8.out)) (Kd.R_lt HO_340001.out)) (Kd.R_lt HO_341001.out)) (Kd.R_lt HO362.out)) (below_size HB.out)); replace HO362 := Aside0.mk (Kd.R_elder' HO362.out (Kd.R_base ho0) hb); replace BK341 := Aside0.mk (blk_below BK341.out hb); replace BK342 := Aside0.mk (blk_below BK342.out hb); replace HB := Aside0.mk (below_step HB.out hb); have hnb46 := NB341_339.out; have hnc46 := NB339_341.out; have hnb47 := NB341_340.out; have hnc47 := NB340_341.out; have hnb48 := NB341_342.out; have hnc48 := NB342_341.out; have hcz49_0 : w45.cell? ⟨gb341, 0, none⟩ = some (.bool false) := bc0 BK341.out; have hcz49_1 : w45.cell? ⟨gb341, 1, none⟩ = some (.slice none 0 0) := bc1 BK341.out; have hfz49_0 := blk_frozen BK341.out 0; have hfz49_1 := blk_frozen BK341.out 1; obtain ⟨Ao50, co50, eo50⟩ := Kd.R_slice HO362.out; subst eo50; have hnb51 := NB342_339.out; have hnc51 := NB339_342.out; have hnb52 := NB342_340.out; have hnc52 := NB340_342.out; have hcz53_0 : w45.cell? ⟨gb342, 0, none⟩ = some (.bool false) := bc0 BK342.out; have hcz53_1 : w45.cell? ⟨gb342, 1, none⟩ = some (.slice none 0 0) := bc1 BK342.out; have hfz53_0 := blk_frozen BK342.out 0; have hfz53_1 := blk_frozen BK342.out 1; obtain ⟨Ao54, co54, eo54⟩ := Kd.R_slice HO366.out; subst eo54))
     refine bodyPost_ret (results_list (rs := [.cell 4 24, .cell 5 24, .tmp 6]) rfl (by simp) (.cell gb341 24 #[.bool t359, .slice Ao50 t360.length co50] (0, 0) _ rfl (by refine blk_far ?_ NB341_342.out _; refine blk_far ?_ NB341_342.out _; refine blk_put (cs := #[.bool t359, .slice none 0 0]) ?_ 1 _ rfl; refine blk_put (cs := #[.bool false, .slice none 0 0]) ?_ 0 _ rfl; exact BK341.out) Try.underlying24 rfl (by kernel_rfl) (.cell gb342 24 #[.bool t363, .slice Ao54 t364.length co54] (0, 0) _ rfl (by refine blk_put (cs := #[.bool t363, .slice none 0 0]) ?_ 1 _ rfl; refine blk_put (cs := #[.bool false, .slice none 0 0]) ?_ 0 _ rfl; refine blk_far ?_ NB342_341.out _; refine blk_far ?_ NB342_341.out _; exact BK342.out) Try.underlying24 rfl (by kernel_rfl) (.tmp .nil)))) rfl ?_
     exact ⟨_, _, rfl, Kd.R_mono (Kd.R_far (p := ⟨gb342, 1, none⟩) (Kd.R_far (p := ⟨gb342, 0, none⟩) (Kd.R_far (p := ⟨gb341, 1, none⟩) (Kd.R_far (p := ⟨gb341, 0, none⟩) (Kd.R_types (Kd.R_types HO362.out BK341.out (by decide)) BK342.out (by decide)) (fun _ hk => hk.1.2) (.bool t359)) (fun _ hk => hk.1.2) (.slice Ao50 t360.length co50)) (fun _ hk => hk.2) (.bool t363)) (fun _ hk => hk.2) (.slice Ao54 t364.length co54)) (fun _ hk => hk.1.1.2), Kd.R_mono (Kd.R_far (p := ⟨gb342, 1, none⟩) (Kd.R_far (p := ⟨gb342, 0, none⟩) (Kd.R_far (p := ⟨gb341, 1, none⟩) (Kd.R_far (p := ⟨gb341, 0, none⟩) (Kd.R_types (Kd.R_types HO366.out BK341.out (by decide)) BK342.out (by decide)) (fun _ hk => hk.1.2) (.bool t359)) (fun _ hk => hk.1.2) (.slice Ao50 t360.length co50)) (fun _ hk => hk.2) (.bool t363)) (fun _ hk => hk.2) (.slice Ao54 t364.length co54)) (fun _ hk => hk.1.1.2), by repeat first | exact HB.out | refine bxSet ?_ (by assumption) | apply below_alloc | apply pw_below_drewN⟩
    ·replace c39 := Bool.eq_false_iff.mpr c39
     subst c39
     rw [if_neg (show ¬ (false = true) by decide)] at H
     obtain ⟨⟨t367, t368⟩, A550, H⟩ := Option.bind_eq_some_iff.mp H
     try dsimp only at H
     have A55 := Aside0.mk A550
     clear A550
     obtain ⟨y371, hy371⟩ : ∃ y_ : List Int, y_ = (([1] : List Int)) := ⟨_, rfl⟩
     replace H : ((nat_Add.f kj6 t351 y371).bind fun t374 => ((whole_made.f (t343 != t347) t374).bind fun bt377 => ((whole_made.f false t367).bind fun bt381 => (some (bt377.1, bt377.2, bt381.1, bt381.2, 0))))) = some (r1, r2, r3, r4, r5) := by first | (rw [hy371]; with_reducible exact H) | (have H2_ := (Option.bind_some _ _).symm.trans H; rw [hy371]; with_reducible exact H2_) | (have H2_ := (Option.bind_some _ _).symm.trans H; with_reducible exact H2_) | with_reducible exact H | (rw [hy371]; exact H) | exact H
     have Ny371 := Aside0.mk hy371
     clear hy371
     obtain ⟨t374, A560, H⟩ := Option.bind_eq_some_iff.mp H
     try dsimp only at H
     have A56 := Aside0.mk A560
     clear A560
     obtain ⟨⟨t377, t378⟩, A570, H⟩ := Option.bind_eq_some_iff.mp H
     try dsimp only at H
     have A57 := Aside0.mk A570
     clear A570
     obtain ⟨⟨t381, t382⟩, A580, H⟩ := Option.bind_eq_some_iff.mp H
     try dsimp only at H
     have A58 := Aside0.mk A580
     clear A580
     simp only [Option.some.injEq, Prod.mk.injEq] at H
     obtain ⟨rfl, rfl, rfl, rfl, rfl⟩ := H
     have hnb59 := NB340_339.out
     have hnc59 := NB339_340.out
     have hnb60 := NB340_341.out
     have hnc60 := NB341_340.out
     have hnb61 := NB340_342.out
     have hnc61 := NB342_340.out
     have hcz62_0 : wc.cell? ⟨gb340, 0, none⟩ = some (.bool t347) := bc0 BK340.out
     have hcz62_1 : wc.cell? ⟨gb340, 1, none⟩ = some (.slice Ao19 t348.length co19) := bc1 BK340.out
     have hfz62_0 := blk_frozen BK340.out 0
     have hfz62_1 := blk_frozen BK340.out 1
     obtain ⟨Ao63, co63, eo63⟩ := Kd.R_slice HO_8.out
     subst eo63
     go_wp2_with (first | ((with_reducible refine gate_callee (f := 68) rfl ?_); refine goL (some 49) Try.func68 [.slice Ao19 t348.length co19, .slice Ao63 t352.length co63] ?_; (with_reducible refine (nat_Sub.calls kj6 _ _ t348 _ _ t352 t367 t368 _ ?side1 ?side2 ?side3 ?side4 A55.out).mono ?_); (case side1 => exact (Kd.R_reads' HO_341001.out).2.2); (case side2 => exact (Kd.R_reads' HO_341001.out).2.1); (case side3 => exact (Kd.R_reads' HO_8.out).2.2); (case side4 => exact (Kd.R_reads' HO_8.out).2.1); rintro e w64 ⟨v369, rfl, ho0, hb⟩; refine ⟨_, rfl, ?_⟩; have HO370 := Aside0.mk (Kd.R_lower (Kd.R_new' (Kd.R_new' (Kd.R_new' (Kd.R_new' ho0 (Kd.R_lt HO_7.out)) (Kd.R_lt HO_8.out)) (Kd.R_lt HO_340001.out)) (Kd.R_lt HO_341001.out)) (below_size HB.out)); replace HO_7 := Aside0.mk (Kd.R_elder' HO_7.out (Kd.R_base ho0) hb); replace HO_8 := Aside0.mk (Kd.R_elder' HO_8.out (Kd.R_base ho0) hb); replace HO_340001 := Aside0.mk (Kd.R_elder' HO_340001.out (Kd.R_base ho0) hb); replace HO_341001 := Aside0.mk (Kd.R_elder' HO_341001.out (Kd.R_base ho0) hb); replace BK339 := Aside0.mk (blk_below BK339.out hb); replace BK340 := Aside0.mk (blk_below BK340.out hb); replace BK341 := Aside0.mk (blk_below BK341.out hb); replace BK342 := Aside0.mk (blk_below BK342.out hb); replace HB := Aside0.mk (below_step HB.out hb)) | ((with_reducible refine gate_dst (N := 54) rfl ?_); (try (refine gate_guard (by rfl) ?_; dsimp only)); refine Kd.R_lit (Kd.int .u32) _ 81 ?hg (N := 54) ?hd (xs := ([1] : List Int)) (inner := [.int .u32 1]) (ok := fun _ => True) (okp := fun _ => True) ?hr ?hp (fun _ hk => hk) trivial (Below.refl _ _) (Nat.le_refl _) (by simp) ?_; (case hd => rfl); (case hg => rfl); (case hr => first | (go_simp; done) | (go_simp; rfl)); (case hp => exact (Reps.one (show Kd.M (Kd.int .u32) _ _ _ 1 [.int .u32 1] from rfl) (Reps.none _ _))); intro v372 w65 ho66 hb hg_ hnew_; clear hg_ hnew_; (first | rw [← Ny371.out] at ho66 | (simp only [Int.reduceToNat] at ho66; rw [← Ny371.out] at ho66)); have HO373 := Aside0.mk (Kd.R_lower (Kd.R_new' (Kd.R_new' (Kd.R_new' (Kd.R_new' (Kd.R_new' ho66 (Kd.R_lt HO_7.out)) (Kd.R_lt HO_8.out)) (Kd.R_lt HO_340001.out)) (Kd.R_lt HO_341001.out)) (Kd.R_lt HO370.out)) (below_size HB.out)); replace HO_7 := Aside0.mk (Kd.R_elder' HO_7.out (Kd.R_base ho66) hb); replace HO_8 := Aside0.mk (Kd.R_elder' HO_8.out (Kd.R_base ho66) hb); replace HO_340001 := Aside0.mk (Kd.R_elder' HO_340001.out (Kd.R_base ho66) hb); replace HO_341001 := Aside0.mk (Kd.R_elder' HO_341001.out (Kd.R_base ho66) hb); replace HO370 := Aside0.mk (Kd.R_elder' HO370.out (Kd.R_base ho66) hb); replace BK339 := Aside0.mk (blk_below BK339.out hb); replace BK340 := Aside0.mk (blk_below BK340.out hb); replace BK341 := Aside0.mk (blk_below BK341.out hb); replace BK342 := Aside0.mk (blk_below BK342.out hb); replace HB := Aside0.mk (below_step HB.out hb); clear hb ho66; obtain ⟨Ao67, co67, eo67⟩ := Kd.R_slice HO_7.out; subst eo67; obtain ⟨Ao68, co68, eo68⟩ := Kd.R_slice HO373.out; subst eo68) | ((with_reducible refine gate_callee (f := 66) rfl ?_); refine goL (some 55) Try.func66 [.slice Ao67 t351.length co67, .slice Ao68 y371.length co68] ?_; (with_reducible refine (nat_Add.calls kj6 _ _ t351 _ _ y371 t374 _ ?side1 ?side2 ?side3 ?side4 A56.out).mono ?_); (case side1 => exact (Kd.R_reads' HO_7.out).2.2); (case side2 => exact (Kd.R_reads' HO_7.out).2.1); (case side3 => exact (Kd.R_reads' HO373.out).2.2); (case side4 => exact (Kd.R_reads' HO373.out).2.1); rintro e w69 ⟨v375, rfl, ho0, hb⟩; refine ⟨_, rfl, ?_⟩; have HO376 := Aside0.mk (Kd.R_lower (Kd.R_new' (Kd.R_new' (Kd.R_new' (Kd.R_new' (Kd.R_new' (Kd.R_new' ho0 (Kd.R_lt HO_7.out)) (Kd.R_lt HO_8.out)) (Kd.R_lt HO_340001.out)) (Kd.R_lt HO_341001.out)) (Kd.R_lt HO370.out)) (Kd.R_lt HO373.out)) (below_size HB.out)); replace HO_7 := Aside0.mk (Kd.R_elder' HO_7.out (Kd.R_base ho0) hb); replace HO_8 := Aside0.mk (Kd.R_elder' HO_8.out (Kd.R_base ho0) hb); replace HO_340001 := Aside0.mk (Kd.R_elder' HO_340001.out (Kd.R_base ho0) hb); replace HO_341001 := Aside0.mk (Kd.R_elder' HO_341001.out (Kd.R_base ho0) hb); replace HO370 := Aside0.mk (Kd.R_elder' HO370.out (Kd.R_base ho0) hb); replace HO373 := Aside0.mk (Kd.R_elder' HO373.out (Kd.R_base ho0) hb); replace BK339 := Aside0.mk (blk_below BK339.out hb); replace BK340 := Aside0.mk (blk_below BK340.out hb); replace BK341 := Aside0.mk (blk_below BK341.out hb); replace BK342 := Aside0.mk (blk_below BK342.out hb); replace HB := Aside0.mk (below_step HB.out hb); obtain ⟨Ao70, co70, eo70⟩ := Kd.R_slice HO376.out; subst eo70) | (go_at_call 73; (with_reducible refine (whole_DivMod_1.calls gb339 gb340 t343 t347 _ _ t374 t377 t378 _ ?side1 ?side2 A57.out ?side3 ?side4).mono ?_); (case side1 => exact (Kd.R_reads' HO376.out).2.2); (case side2 => exact (Kd.R_reads' HO376.out).2.1); (case side3 => exact bc0 BK339.out); (case side4 => exact bc0 BK340.out); rintro e w71 ⟨v379, rfl, ho0, hb⟩; have n0_ := Aside0.mk (Kd.R_elder' HO_7.out (Kd.R_base ho0) hb); have n1_ := Aside0.mk (Kd.R_elder' HO_8.out (Kd.R_base ho0) hb); have n2_ := Aside0.mk (Kd.R_elder' HO_340001.out (Kd.R_base ho0) hb); have n3_ := Aside0.mk (Kd.R_elder' HO_341001.out (Kd.R_base ho0) hb); have n4_ := Aside0.mk (Kd.R_elder' HO370.out (Kd.R_base ho0) hb); have n5_ := Aside0.mk (Kd.R_elder' HO373.out (Kd.R_base ho0) hb); have n6_ := Aside0.mk (Kd.R_elder' HO376.out (Kd.R_base ho0) hb); have n7_ := Aside0.mk (Kd.R_lower (Kd.R_new' (Kd.R_new' (Kd.R_new' (Kd.R_new' (Kd.R_new' (Kd.R_new' (Kd.R_new' ho0 (Kd.R_lt HO_7.out)) (Kd.R_lt HO_8.out)) (Kd.R_lt HO_340001.out)) (Kd.R_lt HO_341001.out)) (Kd.R_lt HO370.out)) (Kd.R_lt HO373.out)) (Kd.R_lt HO376.out)) (below_size HB.out)); have n8_ := Aside0.mk (blk_below BK339.out hb); have n9_ := Aside0.mk (blk_below BK340.out hb); have n10_ := Aside0.mk (blk_below BK341.out hb); have n11_ := Aside0.mk (blk_below BK342.out hb); have n12_ := Aside0.mk (below_step HB.out hb); clear HO_7; clear HO_8; clear HO_340001; clear HO_341001; clear HO370; clear HO373; clear HO376; clear BK339; clear BK340; clear BK341; clear BK342; clear HB; have HO_7 := n0_; have HO_8 := n1_; have HO_340001 := n2_; have HO_341001 := n3_; have HO370 := n4_; have HO373 := n5_; have HO376 := n6_; have HO380 := n7_; have BK339 := n8_; have BK340 := n9_; have BK341 := n10_; have BK342 := n11_; have HB := n12_; clear n0_ n1_ n2_ n3_ n4_ n5_ n6_ n7_ n8_ n9_ n10_ n11_ n12_; obtain ⟨Ao72, co72, eo72⟩ := Kd.R_slice HO370.out; subst eo72) | ((with_reducible refine gate_callee (f := 63) rfl ?_); refine goL (some 58) Try.func63 [.bool false, .slice Ao72 t367.length co72] ?_; (with_reducible refine (whole_made.calls false _ _ t367 t381 t382 _ ?side1 ?side2 A58.out).mono ?_); (case side1 => exact (Kd.R_reads' HO370.out).2.2); (case side2 => exact (Kd.R_reads' HO370.out).2.1); rintro e w73 ⟨v383, rfl, ho0, hb⟩; refine ⟨_, rfl, ?_⟩; have HO384 := Aside0.mk (Kd.R_lower (Kd.R_new' (Kd.R_new' (Kd.R_new' (Kd.R_new' (Kd.R_new' (Kd.R_new' (Kd.R_new' (Kd.R_new' ho0 (Kd.R_lt HO_7.out)) (Kd.R_lt HO_8.out)) (Kd.R_lt HO_340001.out)) (Kd.R_lt HO_341001.out)) (Kd.R_lt HO370.out)) (Kd.R_lt HO373.out)) (Kd.R_lt HO376.out)) (Kd.R_lt HO380.out)) (below_size HB.out)); replace HO380 := Aside0.mk (Kd.R_elder' HO380.out (Kd.R_base ho0) hb); replace BK341 := Aside0.mk (blk_below BK341.out hb); replace BK342 := Aside0.mk (blk_below BK342.out hb); replace HB := Aside0.mk (below_step HB.out hb); have hnb74 := NB341_339.out; have hnc74 := NB339_341.out; have hnb75 := NB341_342.out; have hnc75 := NB342_341.out; have hcz76_0 : w73.cell? ⟨gb341, 0, none⟩ = some (.bool false) := bc0 BK341.out; have hcz76_1 : w73.cell? ⟨gb341, 1, none⟩ = some (.slice none 0 0) := bc1 BK341.out; have hfz76_0 := blk_frozen BK341.out 0; have hfz76_1 := blk_frozen BK341.out 1; obtain ⟨Ao77, co77, eo77⟩ := Kd.R_slice HO380.out; subst eo77; have hnb78 := NB342_339.out; have hnc78 := NB339_342.out; have hcz79_0 : w73.cell? ⟨gb342, 0, none⟩ = some (.bool false) := bc0 BK342.out; have hcz79_1 : w73.cell? ⟨gb342, 1, none⟩ = some (.slice none 0 0) := bc1 BK342.out; have hfz79_0 := blk_frozen BK342.out 0; have hfz79_1 := blk_frozen BK342.out 1; obtain ⟨Ao80, co80, eo80⟩ := Kd.R_slice HO384.out; subst eo80))
     refine bodyPost_ret (results_list (rs := [.cell 4 24, .cell 5 24, .tmp 6]) rfl (by simp) (.cell gb341 24 #[.bool t377, .slice Ao77 t378.length co77] (0, 0) _ rfl (by refine blk_far ?_ NB341_342.out _; refine blk_far ?_ NB341_342.out _; refine blk_put (cs := #[.bool t377, .slice none 0 0]) ?_ 1 _ rfl; refine blk_put (cs := #[.bool false, .slice none 0 0]) ?_ 0 _ rfl; exact BK341.out) Try.underlying24 rfl (by kernel_rfl) (.cell gb342 24 #[.bool t381, .slice Ao80 t382.length co80] (0, 0) _ rfl (by refine blk_put (cs := #[.bool t381, .slice none 0 0]) ?_ 1 _ rfl; refine blk_put (cs := #[.bool false, .slice none 0 0]) ?_ 0 _ rfl; refine blk_far ?_ NB342_341.out _; refine blk_far ?_ NB342_341.out _; exact BK342.out) Try.underlying24 rfl (by kernel_rfl) (.tmp .nil)))) rfl ?_
     exact ⟨_, _, rfl, Kd.R_mono (Kd.R_far (p := ⟨gb342, 1, none⟩) (Kd.R_far (p := ⟨gb342, 0, none⟩) (Kd.R_far (p := ⟨gb341, 1, none⟩) (Kd.R_far (p := ⟨gb341, 0, none⟩) (Kd.R_types (Kd.R_types HO380.out BK341.out (by decide)) BK342.out (by decide)) (fun _ hk => hk.1.2) (.bool t377)) (fun _ hk => hk.1.2) (.slice Ao77 t378.length co77)) (fun _ hk => hk.2) (.bool t381)) (fun _ hk => hk.2) (.slice Ao80 t382.length co80)) (fun _ hk => hk.1.1.2), Kd.R_mono (Kd.R_far (p := ⟨gb342, 1, none⟩) (Kd.R_far (p := ⟨gb342, 0, none⟩) (Kd.R_far (p := ⟨gb341, 1, none⟩) (Kd.R_far (p := ⟨gb341, 0, none⟩) (Kd.R_types (Kd.R_types HO384.out BK341.out (by decide)) BK342.out (by decide)) (fun _ hk => hk.1.2) (.bool t377)) (fun _ hk => hk.1.2) (.slice Ao77 t378.length co77)) (fun _ hk => hk.2) (.bool t381)) (fun _ hk => hk.2) (.slice Ao80 t382.length co80)) (fun _ hk => hk.1.1.2), by repeat first | exact HB.out | refine bxSet ?_ (by assumption) | apply below_alloc | apply pw_below_drewN⟩
 ·rw [if_neg c6] at H
  have c6b0 : (t353 == 0) = false := beq_eq_false_iff_ne.mpr c6
  have c6b1 : (t353 != 0) = true := bne_iff_ne.mpr c6
  simp only [Option.some.injEq, Prod.mk.injEq] at H
  obtain ⟨rfl, rfl, rfl, rfl, rfl⟩ := H
  go_enter Try.func48, Try.ntmps48
  try go_wp2_with (first | ((with_reducible refine gate_dst (N := 2) rfl ?_); (try (refine gate_guard (by rfl) ?_; dsimp only)); refine box_event ?hg (N := 2) ?hd (cs := #[.bool a0_0, .slice A0_1 l0_1.length c0_1]) (t := 24) ?hr ?_; (case hd => rfl); (case hg => rfl); (case hr => first | (go_simp; done) | (go_simp; rfl)); intro gb339 hg w81 hbox hb; have BK339 := Aside0.mk (hbox); have GW339 := Aside0.mk (bxLe HB.out hg); have GE339 := GW339; replace HB := Aside0.mk (below_step HB.out hb); clear hb hbox hg) | ((with_reducible refine gate_dst (N := 3) rfl ?_); (try (refine gate_guard (by rfl) ?_; dsimp only)); refine box_event ?hg (N := 3) ?hd (cs := #[.bool a1_0, .slice A1_1 l1_1.length c1_1]) (t := 24) ?hr ?_; (case hd => rfl); (case hg => rfl); (case hr => first | (go_simp; done) | (go_simp; rfl)); intro gb340 hg w82 hbox hb; have BK340 := Aside0.mk (hbox); have GW340 := Aside0.mk (bxLe HB.out hg); have GE340 := GW340; replace HB := Aside0.mk (below_step HB.out hb); have NB339_340 := Aside0.mk (neL BK339.out hg); have NB340_339 := Aside0.mk (neR BK339.out hg); replace BK339 := Aside0.mk (blk_below BK339.out hb); clear hb hbox hg) | ((with_reducible refine gate_dst (N := 4) rfl ?_); (try (refine gate_guard (by rfl) ?_; dsimp only)); refine box_event ?hg (N := 4) ?hd (cs := #[.bool false, .slice none 0 0]) (t := 24) ?hr ?_; (case hd => rfl); (case hg => rfl); (case hr => first | (go_simp; done) | (go_simp; rfl)); intro gb341 hg w83 hbox hb; have BK341 := Aside0.mk (hbox); have GW341 := Aside0.mk (bxLe HB.out hg); have GE341 := GW341; replace HB := Aside0.mk (below_step HB.out hb); have NB339_341 := Aside0.mk (neL BK339.out hg); have NB341_339 := Aside0.mk (neR BK339.out hg); replace BK339 := Aside0.mk (blk_below BK339.out hb); have NB340_341 := Aside0.mk (neL BK340.out hg); have NB341_340 := Aside0.mk (neR BK340.out hg); replace BK340 := Aside0.mk (blk_below BK340.out hb); clear hb hbox hg) | ((with_reducible refine gate_dst (N := 5) rfl ?_); (try (refine gate_guard (by rfl) ?_; dsimp only)); refine box_event ?hg (N := 5) ?hd (cs := #[.bool false, .slice none 0 0]) (t := 24) ?hr ?_; (case hd => rfl); (case hg => rfl); (case hr => first | (go_simp; done) | (go_simp; rfl)); intro gb342 hg w84 hbox hb; have BK342 := Aside0.mk (hbox); have GW342 := Aside0.mk (bxLe HB.out hg); have GE342 := GW342; replace HB := Aside0.mk (below_step HB.out hb); have NB339_342 := Aside0.mk (neL BK339.out hg); have NB342_339 := Aside0.mk (neR BK339.out hg); replace BK339 := Aside0.mk (blk_below BK339.out hb); have NB340_342 := Aside0.mk (neL BK340.out hg); have NB342_340 := Aside0.mk (neR BK340.out hg); replace BK340 := Aside0.mk (blk_below BK340.out hb); have NB341_342 := Aside0.mk (neL BK341.out hg); have NB342_341 := Aside0.mk (neR BK341.out hg); replace BK341 := Aside0.mk (blk_below BK341.out hb); clear hb hbox hg))
  replace BK339 := Aside0.mk (blk_drew BK339.out)
  replace BK340 := Aside0.mk (blk_drew BK340.out)
  replace BK341 := Aside0.mk (blk_drew BK341.out)
  replace BK342 := Aside0.mk (blk_drew BK342.out)
  replace HB := Aside0.mk (below_drew1 HB.out)
  refine start_ (n := 6) (S := fun w' => w'.cell? ⟨gb339, 0, none⟩ = some (.bool a0_0) ∧ w'.cell? ⟨gb339, 1, none⟩ = some (.slice A0_1 l0_1.length c0_1) ∧ w'.cell? ⟨gb340, 0, none⟩ = some (.bool a1_0) ∧ w'.cell? ⟨gb340, 1, none⟩ = some (.slice A1_1 l1_1.length c1_1)) (ds := [4, 5]) #[false, false, false, false, false, false] (by kernel_rfl) rfl rfl ⟨bc0 BK339.out, bc1 BK339.out, bc0 BK340.out, bc1 BK340.out⟩ (fun hHeld => ?_)
  generalize w84.drew = w85 at BK339 BK340 BK341 BK342 HB hHeld ⊢
  refine take_ (i := 0) (N := some 13) (v := ?_) (a' := ?_) #[true, false, false, false, false, false] rfl rfl (by kernel_rfl) (fun _ _ _ h => h) (Or.inl ⟨by rfl, ?_⟩) hHeld ?_ ?_
  rotate_left
  ·rintro w' ⟨s0, s1, s2, s3⟩
   go_simp
   with_reducible rfl
  rotate_left
  ·simp only [Act.put, List.setIfInBounds_toArray, List.set_cons_zero, List.set_cons_succ, i64_w, i32_w]
   rfl
  refine take_ (i := 2) (N := some 15) (v := ?_) (a' := ?_) #[true, false, true, false, false, false] rfl rfl (by kernel_rfl) (fun _ _ _ h => h) (Or.inl ⟨by rfl, ?_⟩) hHeld ?_ ?_
  rotate_left
  ·rintro w' ⟨s0, s1, s2, s3⟩
   go_simp
   with_reducible rfl
  rotate_left
  ·simp only [Act.put, List.setIfInBounds_toArray, List.set_cons_zero, List.set_cons_succ, i64_w, i32_w]
   rfl
  refine one_ (i := 1) (N := some 14) #[true, true, true, false, false, false] rfl rfl (by kernel_rfl) (by decide) (fun K hK => ?_)
  refine goR Try.func51 [.agg #[.bool a0_0, .slice A0_1 l0_1.length c0_1]] ?_
  with_reducible refine (whole_Norm.calls a0_0 _ _ l0_1 t343 t344 _ ?side1 ?side2 A3.out).mono ?_
  (case side1 => exact (Kd.C_below HR0_1.out HB.out))
  (case side2 => exact HC0_1.out)
  rintro e w86 ⟨v345, rfl, ho0, hb⟩
  refine ⟨_, rfl, ?_⟩
  have HO346 := Aside0.mk (Kd.R_lower ho0 (below_size HB.out))
  replace BK339 := Aside0.mk (blk_below BK339.out hb)
  replace BK340 := Aside0.mk (blk_below BK340.out hb)
  replace BK341 := Aside0.mk (blk_below BK341.out hb)
  replace BK342 := Aside0.mk (blk_below BK342.out hb)
  replace HB := Aside0.mk (below_step HB.out hb)
  (try clear hb)
  (try clear hb2)
  (try clear hk)
  (try clear hi)
  (try clear ho0)
  refine hK.out _ _ ⟨bc0 BK339.out, bc1 BK339.out, bc0 BK340.out, bc1 BK340.out⟩ (fun hHeld => ?_)
  clear hK K
  refine norm_ (a' := ?_) ?_ ?_
  rotate_left
  ·show Act.put _ (some 14) _ = _
   simp only [Act.put, List.setIfInBounds_toArray, List.set_cons_zero, List.set_cons_succ, i64_w, i32_w]
   rfl
  refine one_ (i := 3) (N := some 16) #[true, true, true, true, false, false] rfl rfl (by kernel_rfl) (by decide) (fun K hK => ?_)
  refine goR Try.func51 [.agg #[.bool a1_0, .slice A1_1 l1_1.length c1_1]] ?_
  with_reducible refine (whole_Norm.calls a1_0 _ _ l1_1 t347 t348 _ ?side1 ?side2 A4.out).mono ?_
  (case side1 => exact (Kd.C_below HR1_1.out HB.out))
  (case side2 => exact HC1_1.out)
  rintro e w87 ⟨v349, rfl, ho0, hb⟩
  refine ⟨_, rfl, ?_⟩
  have HO350 := Aside0.mk (Kd.R_lower (Kd.R_new' ho0 (Kd.R_lt HO346.out)) (below_size HB.out))
  replace HO346 := Aside0.mk (Kd.R_elder' HO346.out (Kd.R_base ho0) hb)
  replace BK339 := Aside0.mk (blk_below BK339.out hb)
  replace BK340 := Aside0.mk (blk_below BK340.out hb)
  replace BK341 := Aside0.mk (blk_below BK341.out hb)
  replace BK342 := Aside0.mk (blk_below BK342.out hb)
  replace HB := Aside0.mk (below_step HB.out hb)
  (try clear hb)
  (try clear hb2)
  (try clear hk)
  (try clear hi)
  (try clear ho0)
  obtain ⟨Ao89, co89, eo89⟩ := Kd.R_slice HO346.out
  subst eo89
  obtain ⟨Ao92, co92, eo92⟩ := Kd.R_slice HO350.out
  subst eo92
  refine hK.out _ _ ⟨bc0 BK339.out, bc1 BK339.out, bc0 BK340.out, bc1 BK340.out⟩ (fun hHeld => ?_)
  clear hK K
  refine norm_ (a' := ?_) ?_ ?_
  rotate_left
  ·show Act.put _ (some 16) _ = _
   simp only [Act.put, List.setIfInBounds_toArray, List.set_cons_zero, List.set_cons_succ, i64_w, i32_w]
   rfl
  refine last_ (i := 4) (N := none) #[true, true, true, true, true, false] rfl rfl (by kernel_rfl) (by decide) (fun K hK => ?_)
  have hs88 : w87.cell? ⟨gb339, 0, none⟩ = some (.bool a0_0) := bc0 BK339.out
  have hfs88 := blk_frozen BK339.out 0
  have hns88_1 := NB340_339.out
  have hns88_2 := NB341_339.out
  have hns88_3 := NB342_339.out
  have hms88_1 := NB339_340.out
  have hms88_2 := NB339_341.out
  have hms88_3 := NB339_342.out
  have hs90 : w87.cell? ⟨gb339, 1, none⟩ = some (.slice A0_1 l0_1.length c0_1) := bc1 BK339.out
  have hfs90 := blk_frozen BK339.out 1
  have hns90_1 := NB340_339.out
  have hns90_2 := NB341_339.out
  have hns90_3 := NB342_339.out
  have hms90_1 := NB339_340.out
  have hms90_2 := NB339_341.out
  have hms90_3 := NB339_342.out
  refine skip_ (w1 := ?_) (by rfl) rfl ?_ ?_
  rotate_left
  ·go_simp
   rfl
  refine hK.out _ _ ?_
  clear hK K
  refine last_ (i := 5) (N := none) #[true, true, true, true, true, true] rfl rfl (by kernel_rfl) (by decide) (fun K hK => ?_)
  have hs91 : w87.cell? ⟨gb340, 0, none⟩ = some (.bool a1_0) := bc0 BK340.out
  have hfs91 := blk_frozen BK340.out 0
  have hns91_0 := NB339_340.out
  have hns91_2 := NB341_340.out
  have hns91_3 := NB342_340.out
  have hms91_0 := NB340_339.out
  have hms91_2 := NB340_341.out
  have hms91_3 := NB340_342.out
  have hs93 : w87.cell? ⟨gb340, 1, none⟩ = some (.slice A1_1 l1_1.length c1_1) := bc1 BK340.out
  have hfs93 := blk_frozen BK340.out 1
  have hns93_0 := NB339_340.out
  have hns93_2 := NB341_340.out
  have hns93_3 := NB342_340.out
  have hms93_0 := NB340_339.out
  have hms93_2 := NB340_341.out
  have hms93_3 := NB340_342.out
  refine skip_ (w1 := ?_) (by rfl) rfl ?_ ?_
  rotate_left
  ·go_simp
   rfl
  refine hK.out _ _ ?_
  clear hK K
  refine done_ (by kernel_rfl) ?_
  have hnb94 := NB339_340.out
  have hnc94 := NB340_339.out
  have hnb95 := NB339_341.out
  have hnc95 := NB341_339.out
  have hnb96 := NB339_342.out
  have hnc96 := NB342_339.out
  have hcz97_0 : w87.cell? ⟨gb339, 0, none⟩ = some (.bool a0_0) := bc0 BK339.out
  have hcz97_1 : w87.cell? ⟨gb339, 1, none⟩ = some (.slice A0_1 l0_1.length c0_1) := bc1 BK339.out
  have hfz97_0 := blk_frozen BK339.out 0
  have hfz97_1 := blk_frozen BK339.out 1
  have hnb98 := NB340_341.out
  have hnc98 := NB341_340.out
  have hnb99 := NB340_342.out
  have hnc99 := NB342_340.out
  have hcz100_0 : w87.cell? ⟨gb340, 0, none⟩ = some (.bool a1_0) := bc0 BK340.out
  have hcz100_1 : w87.cell? ⟨gb340, 1, none⟩ = some (.slice A1_1 l1_1.length c1_1) := bc1 BK340.out
  have hfz100_0 := blk_frozen BK340.out 0
  have hfz100_1 := blk_frozen BK340.out 1
  try go_wp2_with (first | ((with_reducible refine gate_callee (f := 72) rfl ?_); refine goL (some 22) Try.func72 [.slice Ao89 t344.length co89, .slice Ao92 t348.length co92] ?_; (with_reducible refine (nat_DivMod.calls k _ _ t344 _ _ t348 t351 t352 t353 _ ?side1 ?side2 ?side3 ?side4 A5.out).mono ?_); (case side1 => refine (Kd.R_reads' (e := 81) (base := w.heap.size) (ok := fun k_ => (True ∧ some k_ ≠ (.slice Ao92 t348.length co92 : Value).ownBlock)) (n := t344.length) (c := co89) ?_).2.2; exact (Kd.R_mono (Kd.R_mono (Kd.R_far (p := ⟨gb340, 1, none⟩) (Kd.R_far (p := ⟨gb340, 0, none⟩) (Kd.R_far (p := ⟨gb339, 1, none⟩) (Kd.R_far (p := ⟨gb339, 0, none⟩) (Kd.R_types (Kd.R_types HO346.out BK339.out (by decide)) BK340.out (by decide)) (fun _ hk => hk.1.2) (.bool t343)) (fun _ hk => hk.1.2) (.slice Ao89 t344.length co89)) (fun _ hk => hk.2) (.bool t347)) (fun _ hk => hk.2) (.slice Ao92 t348.length co92)) (fun _ h_ => h_.1)) (fun _ h_ => h_.1))); (case side2 => exact (Kd.R_reads' HO346.out).2.1); (case side3 => refine (Kd.R_reads' (e := 81) (base := w.heap.size) (ok := fun k_ => (True ∧ some k_ ≠ (.slice Ao89 t344.length co89 : Value).ownBlock)) (n := t348.length) (c := co92) ?_).2.2; exact (Kd.R_mono (Kd.R_mono (Kd.R_far (p := ⟨gb340, 1, none⟩) (Kd.R_far (p := ⟨gb340, 0, none⟩) (Kd.R_far (p := ⟨gb339, 1, none⟩) (Kd.R_far (p := ⟨gb339, 0, none⟩) (Kd.R_types (Kd.R_types HO350.out BK339.out (by decide)) BK340.out (by decide)) (fun _ hk => hk.1.2) (.bool t343)) (fun _ hk => hk.1.2) (.slice Ao89 t344.length co89)) (fun _ hk => hk.2) (.bool t347)) (fun _ hk => hk.2) (.slice Ao92 t348.length co92)) (fun _ h_ => h_.1)) (fun _ h_ => h_.1))); (case side4 => exact (Kd.R_reads' HO350.out).2.1); rintro e w101 ⟨v354, v356, rfl, ho0, ho1, hb⟩; refine ⟨_, rfl, ?_⟩; replace BK341 := Aside0.mk (blk_below (g := gb341) (o := .cells #[.bool false, .slice none 0 0] 24 (0, 0)) (by refine blk_far ?_ NB341_340.out _; refine blk_far ?_ NB341_340.out _; refine blk_far ?_ NB341_339.out _; refine blk_far ?_ NB341_339.out _; exact BK341.out) hb); replace BK342 := Aside0.mk (blk_below (g := gb342) (o := .cells #[.bool false, .slice none 0 0] 24 (0, 0)) (by refine blk_far ?_ NB342_340.out _; refine blk_far ?_ NB342_340.out _; refine blk_far ?_ NB342_339.out _; refine blk_far ?_ NB342_339.out _; exact BK342.out) hb); replace HB := Aside0.mk (below_step (by repeat first | exact HB.out | refine bxSet ?_ (by assumption) | apply below_alloc | apply pw_below_drewN) hb); (try clear ho1); have hnb102 := NB341_342.out; have hnc102 := NB342_341.out; have hcz103_0 : w101.cell? ⟨gb341, 0, none⟩ = some (.bool false) := bc0 BK341.out; have hcz103_1 : w101.cell? ⟨gb341, 1, none⟩ = some (.slice none 0 0) := bc1 BK341.out; have hfz103_0 := blk_frozen BK341.out 0; have hfz103_1 := blk_frozen BK341.out 1; have hcz104_0 : w101.cell? ⟨gb342, 0, none⟩ = some (.bool false) := bc0 BK342.out; have hcz104_1 : w101.cell? ⟨gb342, 1, none⟩ = some (.slice none 0 0) := bc1 BK342.out; have hfz104_0 := blk_frozen BK342.out 0; have hfz104_1 := blk_frozen BK342.out 1))
  refine bodyPost_ret (results_list (rs := [.cell 4 24, .cell 5 24, .tmp 6]) rfl (by simp) (.cell gb341 24 #[.bool false, .slice none 0 0] (0, 0) _ rfl (by refine blk_far ?_ NB341_342.out _; refine blk_far ?_ NB341_342.out _; refine blk_put (cs := #[.bool false, .slice none 0 0]) ?_ 1 _ rfl; refine blk_put (cs := #[.bool false, .slice none 0 0]) ?_ 0 _ rfl; exact BK341.out) Try.underlying24 rfl (by kernel_rfl) (.cell gb342 24 #[.bool false, .slice none 0 0] (0, 0) _ rfl (by refine blk_put (cs := #[.bool false, .slice none 0 0]) ?_ 1 _ rfl; refine blk_put (cs := #[.bool false, .slice none 0 0]) ?_ 0 _ rfl; refine blk_far ?_ NB342_341.out _; refine blk_far ?_ NB342_341.out _; exact BK342.out) Try.underlying24 rfl (by kernel_rfl) (.tmp .nil)))) rfl ?_
  exact ⟨_, _, by first | rfl | (simp [errW_none, errW_some] <;> rfl), by first | exact Kd.R_nil _ _ _ _ _ | exact Kd.N_nil _ _ _ _ _ | exact Kd.V_nil _ _ _ _ _ | exact Kd.Q_nil _ _ _ _ _ | exact Kd.S_nil _ _ _ _ _, by first | exact Kd.R_nil _ _ _ _ _ | exact Kd.N_nil _ _ _ _ _ | exact Kd.V_nil _ _ _ _ _ | exact Kd.Q_nil _ _ _ _ _ | exact Kd.S_nil _ _ _ _ _, by repeat first | exact HB.out | refine bxSet ?_ (by assumption) | apply below_alloc | apply pw_below_drewN⟩

/-! ### whole_Floor: function 42 -/
def whole_Floor.f (k : Nat) (a0_0 : Bool) (l0_1 : List Int) (a1_0 : Bool) (l1_1 : List Int) : Option (Bool × List Int × Int) := (whole_Sign.f a1_0 l1_1).bind fun t388 => (if t388 < 0 then ((whole_Neg.f a0_0 l0_1).bind fun bt389 => ((whole_Neg.f a1_0 l1_1).bind fun bt393 => ((whole_DivMod.f k bt389.1 bt389.2 bt393.1 bt393.2).bind fun bt397 => (some (bt397.1, bt397.2.1, bt397.2.2.2.2))))) else ((whole_DivMod.f k a0_0 l0_1 a1_0 l1_1).bind fun bt408 => (some (bt408.1, bt408.2.1, bt408.2.2.2.2))))
set_option maxHeartbeats 8000000 in
set_option maxRecDepth 100000 in
theorem whole_Floor.calls (k : Nat) (a0_0 : Bool) (A0_1 : Option Addr) (c0_1 : Nat) (l0_1 : List Int) (a1_0 : Bool) (A1_1 : Option Addr) (c1_1 : Nat) (l1_1 : List Int) (r1 : Bool) (r2 : List Int) (r3 : Int) (w : World) (hr0_1 : Kd.C (Kd.int .u32) w A0_1 l0_1.length l0_1) (hc0_1 : l0_1.length ≤ c0_1) (hr1_1 : Kd.C (Kd.int .u32) w A1_1 l1_1.length l1_1) (hc1_1 : l1_1.length ≤ c1_1) (h : whole_Floor.f k a0_0 l0_1 a1_0 l1_1 = some (r1, r2, r3)) :
  Calls Try.prog 42 #[.agg #[.bool a0_0, .slice A0_1 l0_1.length c0_1], .agg #[.bool a1_0, .slice A1_1 l1_1.length c1_1]] w fun e w' => ∃ v1_ : Value, e = .returned (.tuple #[.agg #[.bool r1, v1_], .int .i64 r3]) ∧ Kd.R (Kd.int .u32) 81 w' w.heap.size (fun _ => True) v1_ r2 ∧ Below w.heap.size w w' := by
 have hu24 := Try.underlying24
 have HR0_1 := Aside0.mk hr0_1
 have HC0_1 := Aside0.mk hc0_1
 clear hr0_1 hc0_1
 have HR1_1 := Aside0.mk hr1_1
 have HC1_1 := Aside0.mk hc1_1
 clear hr1_1 hc1_1
 have HB := Aside0.mk (Below.refl w.heap.size w)
 have H : ((whole_Sign.f a1_0 l1_1).bind fun t388 => (if t388 < 0 then ((whole_Neg.f a0_0 l0_1).bind fun bt389 => ((whole_Neg.f a1_0 l1_1).bind fun bt393 => ((whole_DivMod.f k bt389.1 bt389.2 bt393.1 bt393.2).bind fun bt397 => (some (bt397.1, bt397.2.1, bt397.2.2.2.2))))) else ((whole_DivMod.f k a0_0 l0_1 a1_0 l1_1).bind fun bt408 => (some (bt408.1, bt408.2.1, bt408.2.2.2.2))))) = some (r1, r2, r3) := h
 clear h
 obtain ⟨t388, A30, H⟩ := Option.bind_eq_some_iff.mp H
 try dsimp only at H
 have A3 := Aside0.mk A30
 clear A30
 by_cases c4 : t388 < 0
 ·rw [if_pos c4] at H
  have c4b0 : decide (t388 < 0) = true := decide_eq_true c4
  clear c4
  obtain ⟨⟨t389, t390⟩, A50, H⟩ := Option.bind_eq_some_iff.mp H
  try dsimp only at H
  have A5 := Aside0.mk A50
  clear A50
  obtain ⟨⟨t393, t394⟩, A60, H⟩ := Option.bind_eq_some_iff.mp H
  try dsimp only at H
  have A6 := Aside0.mk A60
  clear A60
  obtain ⟨⟨t397, t398, t401, t402, t405⟩, A70, H⟩ := Option.bind_eq_some_iff.mp H
  try dsimp only at H
  have A7 := Aside0.mk A70
  clear A70
  simp only [Option.some.injEq, Prod.mk.injEq] at H
  obtain ⟨rfl, rfl, rfl⟩ := H
  go_enter Try.func42, Try.ntmps42
  try go_wp2_with (first | ((with_reducible refine gate_dst (N := 2) rfl ?_); refine box_event ?hg (N := 2) ?hd (cs := #[.bool a0_0, .slice A0_1 l0_1.length c0_1]) (t := 24) ?hr ?_; (case hd => rfl); (case hg => rfl); (case hr => first | (go_simp; done) | (go_simp; rfl)); intro gb385 hg w8 hbox hb; have BK385 := Aside0.mk (hbox); have GW385 := Aside0.mk (bxLe HB.out hg); have GE385 := GW385; replace HB := Aside0.mk (below_step HB.out hb); clear hb hbox hg) | ((with_reducible refine gate_dst (N := 3) rfl ?_); refine box_event ?hg (N := 3) ?hd (cs := #[.bool a1_0, .slice A1_1 l1_1.length c1_1]) (t := 24) ?hr ?_; (case hd => rfl); (case hg => rfl); (case hr => first | (go_simp; done) | (go_simp; rfl)); intro gb386 hg w9 hbox hb; have BK386 := Aside0.mk (hbox); have GW386 := Aside0.mk (bxLe HB.out hg); have GE386 := GW386; replace HB := Aside0.mk (below_step HB.out hb); have NB385_386 := Aside0.mk (neL BK385.out hg); have NB386_385 := Aside0.mk (neR BK385.out hg); replace BK385 := Aside0.mk (blk_below BK385.out hb); clear hb hbox hg) | ((with_reducible refine gate_dst (N := 4) rfl ?_); refine box_event ?hg (N := 4) ?hd (cs := #[.bool false, .slice none 0 0]) (t := 24) ?hr ?_; (case hd => rfl); (case hg => rfl); (case hr => first | (go_simp; done) | (go_simp; rfl)); intro gb387 hg w10 hbox hb; have BK387 := Aside0.mk (hbox); have GW387 := Aside0.mk (bxLe HB.out hg); have GE387 := GW387; replace HB := Aside0.mk (below_step HB.out hb); have NB385_387 := Aside0.mk (neL BK385.out hg); have NB387_385 := Aside0.mk (neR BK385.out hg); replace BK385 := Aside0.mk (blk_below BK385.out hb); have NB386_387 := Aside0.mk (neL BK386.out hg); have NB387_386 := Aside0.mk (neR BK386.out hg); replace BK386 := Aside0.mk (blk_below BK386.out hb); clear hb hbox hg; have hnb11 := NB386_385.out; have hnc11 := NB385_386.out; have hnb12 := NB386_387.out; have hnc12 := NB387_386.out; have hcz13_0 : w10.cell? ⟨gb386, 0, none⟩ = some (.bool a1_0) := bc0 BK386.out; have hcz13_1 : w10.cell? ⟨gb386, 1, none⟩ = some (.slice A1_1 l1_1.length c1_1) := bc1 BK386.out; have hfz13_0 := blk_frozen BK386.out 0; have hfz13_1 := blk_frozen BK386.out 1) | ((with_reducible refine gate_callee (f := 19) rfl ?_); refine goL (some 10) Try.func19 [.agg #[.bool a1_0, .slice A1_1 l1_1.length c1_1]] ?_; (with_reducible refine (whole_Sign.calls a1_0 _ _ l1_1 t388 _ ?side1 ?side2 A3.out).mono ?_); (case side1 => exact (Kd.C_below HR1_1.out HB.out)); (case side2 => exact HC1_1.out); rintro e w14 ⟨rfl, hb⟩; refine ⟨_, rfl, ?_⟩; replace BK385 := Aside0.mk (blk_below BK385.out hb); replace BK386 := Aside0.mk (blk_below BK386.out hb); replace BK387 := Aside0.mk (blk_below BK387.out hb); replace HB := Aside0.mk (below_step HB.out hb); (try clear hb); (try clear hb2); (try clear hk); (try clear hi)))
  replace BK385 := Aside0.mk (blk_drew BK385.out)
  replace BK386 := Aside0.mk (blk_drew BK386.out)
  replace BK387 := Aside0.mk (blk_drew BK387.out)
  replace HB := Aside0.mk (below_drew1 HB.out)
  refine start_ (n := 6) (S := fun w' => w'.cell? ⟨gb385, 0, none⟩ = some (.bool a0_0) ∧ w'.cell? ⟨gb385, 1, none⟩ = some (.slice A0_1 l0_1.length c0_1) ∧ w'.cell? ⟨gb386, 0, none⟩ = some (.bool a1_0) ∧ w'.cell? ⟨gb386, 1, none⟩ = some (.slice A1_1 l1_1.length c1_1)) (ds := [4, 5]) #[false, false, false, false, false, false] (by kernel_rfl) rfl rfl ⟨bc0 BK385.out, bc1 BK385.out, bc0 BK386.out, bc1 BK386.out⟩ (fun hHeld => ?_)
  generalize w14.drew = w15 at BK385 BK386 BK387 HB hHeld ⊢
  refine take_ (i := 0) (N := some 12) (v := ?_) (a' := ?_) #[true, false, false, false, false, false] rfl rfl (by kernel_rfl) (fun _ _ _ h => h) (Or.inl ⟨by rfl, ?_⟩) hHeld ?_ ?_
  rotate_left
  ·rintro w' ⟨s0, s1, s2, s3⟩
   go_simp
   with_reducible rfl
  rotate_left
  ·simp only [Act.put, List.setIfInBounds_toArray, List.set_cons_zero, List.set_cons_succ, i64_w, i32_w]
   rfl
  refine take_ (i := 2) (N := some 14) (v := ?_) (a' := ?_) #[true, false, true, false, false, false] rfl rfl (by kernel_rfl) (fun _ _ _ h => h) (Or.inl ⟨by rfl, ?_⟩) hHeld ?_ ?_
  rotate_left
  ·rintro w' ⟨s0, s1, s2, s3⟩
   go_simp
   with_reducible rfl
  rotate_left
  ·simp only [Act.put, List.setIfInBounds_toArray, List.set_cons_zero, List.set_cons_succ, i64_w, i32_w]
   rfl
  refine one_ (i := 1) (N := some 13) #[true, true, true, false, false, false] rfl rfl (by kernel_rfl) (by decide) (fun K hK => ?_)
  refine goR Try.func69 [.agg #[.bool a0_0, .slice A0_1 l0_1.length c0_1]] ?_
  with_reducible refine (whole_Neg.calls a0_0 _ _ l0_1 t389 t390 _ ?side1 ?side2 A5.out).mono ?_
  (case side1 => exact (Kd.C_below HR0_1.out HB.out))
  (case side2 => exact HC0_1.out)
  rintro e w16 ⟨v391, rfl, ho0, hb⟩
  refine ⟨_, rfl, ?_⟩
  have HO392 := Aside0.mk (Kd.R_lower ho0 (below_size HB.out))
  replace BK385 := Aside0.mk (blk_below BK385.out hb)
  replace BK386 := Aside0.mk (blk_below BK386.out hb)
  replace BK387 := Aside0.mk (blk_below BK387.out hb)
  replace HB := Aside0.mk (below_step HB.out hb)
  (try clear hb)
  (try clear hb2)
  (try clear hk)
  (try clear hi)
  (try clear ho0)
  refine hK.out _ _ ⟨bc0 BK385.out, bc1 BK385.out, bc0 BK386.out, bc1 BK386.out⟩ (fun hHeld => ?_)
  clear hK K
  refine norm_ (a' := ?_) ?_ ?_
  rotate_left
  ·show Act.put _ (some 13) _ = _
   simp only [Act.put, List.setIfInBounds_toArray, List.set_cons_zero, List.set_cons_succ, i64_w, i32_w]
   rfl
  refine one_ (i := 3) (N := some 15) #[true, true, true, true, false, false] rfl rfl (by kernel_rfl) (by decide) (fun K hK => ?_)
  refine goR Try.func69 [.agg #[.bool a1_0, .slice A1_1 l1_1.length c1_1]] ?_
  with_reducible refine (whole_Neg.calls a1_0 _ _ l1_1 t393 t394 _ ?side1 ?side2 A6.out).mono ?_
  (case side1 => exact (Kd.C_below HR1_1.out HB.out))
  (case side2 => exact HC1_1.out)
  rintro e w17 ⟨v395, rfl, ho0, hb⟩
  refine ⟨_, rfl, ?_⟩
  have HO396 := Aside0.mk (Kd.R_lower (Kd.R_new' ho0 (Kd.R_lt HO392.out)) (below_size HB.out))
  replace HO392 := Aside0.mk (Kd.R_elder' HO392.out (Kd.R_base ho0) hb)
  replace BK385 := Aside0.mk (blk_below BK385.out hb)
  replace BK386 := Aside0.mk (blk_below BK386.out hb)
  replace BK387 := Aside0.mk (blk_below BK387.out hb)
  replace HB := Aside0.mk (below_step HB.out hb)
  (try clear hb)
  (try clear hb2)
  (try clear hk)
  (try clear hi)
  (try clear ho0)
  obtain ⟨Ao19, co19, eo19⟩ := Kd.R_slice HO392.out
  subst eo19
  obtain ⟨Ao22, co22, eo22⟩ := Kd.R_slice HO396.out
  subst eo22
  refine hK.out _ _ ⟨bc0 BK385.out, bc1 BK385.out, bc0 BK386.out, bc1 BK386.out⟩ (fun hHeld => ?_)
  clear hK K
  refine norm_ (a' := ?_) ?_ ?_
  rotate_left
  ·show Act.put _ (some 15) _ = _
   simp only [Act.put, List.setIfInBounds_toArray, List.set_cons_zero, List.set_cons_succ, i64_w, i32_w]
   rfl
  refine last_ (i := 4) (N := none) #[true, true, true, true, true, false] rfl rfl (by kernel_rfl) (by decide) (fun K hK => ?_)
  have hs18 : w17.cell? ⟨gb385, 0, none⟩ = some (.bool a0_0) := bc0 BK385.out
  have hfs18 := blk_frozen BK385.out 0
  have hns18_1 := NB386_385.out
  have hns18_2 := NB387_385.out
  have hms18_1 := NB385_386.out
  have hms18_2 := NB385_387.out
  have hs20 : w17.cell? ⟨gb385, 1, none⟩ = some (.slice A0_1 l0_1.length c0_1) := bc1 BK385.out
  have hfs20 := blk_frozen BK385.out 1
  have hns20_1 := NB386_385.out
  have hns20_2 := NB387_385.out
  have hms20_1 := NB385_386.out
  have hms20_2 := NB385_387.out
  refine skip_ (w1 := ?_) (by rfl) rfl ?_ ?_
  rotate_left
  ·go_simp
   rfl
  refine hK.out _ _ ?_
  clear hK K
  refine last_ (i := 5) (N := none) #[true, true, true, true, true, true] rfl rfl (by kernel_rfl) (by decide) (fun K hK => ?_)
  have hs21 : w17.cell? ⟨gb386, 0, none⟩ = some (.bool a1_0) := bc0 BK386.out
  have hfs21 := blk_frozen BK386.out 0
  have hns21_0 := NB385_386.out
  have hns21_2 := NB387_386.out
  have hms21_0 := NB386_385.out
  have hms21_2 := NB386_387.out
  have hs23 : w17.cell? ⟨gb386, 1, none⟩ = some (.slice A1_1 l1_1.length c1_1) := bc1 BK386.out
  have hfs23 := blk_frozen BK386.out 1
  have hns23_0 := NB385_386.out
  have hns23_2 := NB387_386.out
  have hms23_0 := NB386_385.out
  have hms23_2 := NB386_387.out
  refine skip_ (w1 := ?_) (by rfl) rfl ?_ ?_
  rotate_left
  ·go_simp
   rfl
  refine hK.out _ _ ?_
  clear hK K
  refine done_ (by kernel_rfl) ?_
  have hnb24 := NB385_387.out
  have hnc24 := NB387_385.out
  have hcz25_0 : w17.cell? ⟨gb385, 0, none⟩ = some (.bool a0_0) := bc0 BK385.out
  have hcz25_1 : w17.cell? ⟨gb385, 1, none⟩ = some (.slice A0_1 l0_1.length c0_1) := bc1 BK385.out
  have hfz25_0 := blk_frozen BK385.out 0
  have hfz25_1 := blk_frozen BK385.out 1
  have hcz26_0 : w17.cell? ⟨gb386, 0, none⟩ = some (.bool a1_0) := bc0 BK386.out
  have hcz26_1 : w17.cell? ⟨gb386, 1, none⟩ = some (.slice A1_1 l1_1.length c1_1) := bc1 BK386.out
  have hfz26_0 := blk_frozen BK386.out 0
  have hfz26_1 := blk_frozen BK386.out 1
  try go_wp2_with (first | ((with_reducible refine gate_callee (f := 48) rfl ?_); refine goL (some 19) Try.func48 [.agg #[.bool t389, .slice Ao19 t390.length co19], .agg #[.bool t393, .slice Ao22 t394.length co22]] ?_; (with_reducible refine (whole_DivMod.calls k t389 _ _ t390 t393 _ _ t394 t397 t398 t401 t402 t405 _ ?side1 ?side2 ?side3 ?side4 A7.out).mono ?_); (case side1 => refine (Kd.R_reads' (e := 81) (base := w.heap.size) (ok := fun k_ => (True ∧ some k_ ≠ (.slice Ao22 t394.length co22 : Value).ownBlock)) (n := t390.length) (c := co19) ?_).2.2; exact (Kd.R_mono (Kd.R_mono (Kd.R_far (p := ⟨gb386, 1, none⟩) (Kd.R_far (p := ⟨gb386, 0, none⟩) (Kd.R_far (p := ⟨gb385, 1, none⟩) (Kd.R_far (p := ⟨gb385, 0, none⟩) (Kd.R_types (Kd.R_types HO392.out BK385.out (by decide)) BK386.out (by decide)) (fun _ hk => hk.1.2) (.bool t389)) (fun _ hk => hk.1.2) (.slice Ao19 t390.length co19)) (fun _ hk => hk.2) (.bool t393)) (fun _ hk => hk.2) (.slice Ao22 t394.length co22)) (fun _ h_ => h_.1)) (fun _ h_ => h_.1))); (case side2 => exact (Kd.R_reads' HO392.out).2.1); (case side3 => refine (Kd.R_reads' (e := 81) (base := w.heap.size) (ok := fun k_ => (True ∧ some k_ ≠ (.slice Ao19 t390.length co19 : Value).ownBlock)) (n := t394.length) (c := co22) ?_).2.2; exact (Kd.R_mono (Kd.R_mono (Kd.R_far (p := ⟨gb386, 1, none⟩) (Kd.R_far (p := ⟨gb386, 0, none⟩) (Kd.R_far (p := ⟨gb385, 1, none⟩) (Kd.R_far (p := ⟨gb385, 0, none⟩) (Kd.R_types (Kd.R_types HO396.out BK385.out (by decide)) BK386.out (by decide)) (fun _ hk => hk.1.2) (.bool t389)) (fun _ hk => hk.1.2) (.slice Ao19 t390.length co19)) (fun _ hk => hk.2) (.bool t393)) (fun _ hk => hk.2) (.slice Ao22 t394.length co22)) (fun _ h_ => h_.1)) (fun _ h_ => h_.1))); (case side4 => exact (Kd.R_reads' HO396.out).2.1); rintro e w27 ⟨v399, v403, rfl, ho0, ho1, hb⟩; refine ⟨_, rfl, ?_⟩; have HO400 := Aside0.mk (Kd.R_lower (Kd.R_new' (Kd.R_new' ho0 (Kd.R_lt (Kd.R_mono (Kd.R_mono (Kd.R_far (p := ⟨gb386, 1, none⟩) (Kd.R_far (p := ⟨gb386, 0, none⟩) (Kd.R_far (p := ⟨gb385, 1, none⟩) (Kd.R_far (p := ⟨gb385, 0, none⟩) (Kd.R_types (Kd.R_types HO392.out BK385.out (by decide)) BK386.out (by decide)) (fun _ hk => hk.1.2) (.bool t389)) (fun _ hk => hk.1.2) (.slice Ao19 t390.length co19)) (fun _ hk => hk.2) (.bool t393)) (fun _ hk => hk.2) (.slice Ao22 t394.length co22)) (fun _ h_ => h_.1)) (fun _ h_ => h_.1)))) (Kd.R_lt (Kd.R_mono (Kd.R_mono (Kd.R_far (p := ⟨gb386, 1, none⟩) (Kd.R_far (p := ⟨gb386, 0, none⟩) (Kd.R_far (p := ⟨gb385, 1, none⟩) (Kd.R_far (p := ⟨gb385, 0, none⟩) (Kd.R_types (Kd.R_types HO396.out BK385.out (by decide)) BK386.out (by decide)) (fun _ hk => hk.1.2) (.bool t389)) (fun _ hk => hk.1.2) (.slice Ao19 t390.length co19)) (fun _ hk => hk.2) (.bool t393)) (fun _ hk => hk.2) (.slice Ao22 t394.length co22)) (fun _ h_ => h_.1)) (fun _ h_ => h_.1)))) (below_size (by repeat first | exact HB.out | refine bxSet ?_ (by assumption) | apply below_alloc | apply pw_below_drewN))); have HO404 := Aside0.mk (Kd.R_lower (Kd.R_new' (Kd.R_new' ho1 (Kd.R_lt (Kd.R_mono (Kd.R_mono (Kd.R_far (p := ⟨gb386, 1, none⟩) (Kd.R_far (p := ⟨gb386, 0, none⟩) (Kd.R_far (p := ⟨gb385, 1, none⟩) (Kd.R_far (p := ⟨gb385, 0, none⟩) (Kd.R_types (Kd.R_types HO392.out BK385.out (by decide)) BK386.out (by decide)) (fun _ hk => hk.1.2) (.bool t389)) (fun _ hk => hk.1.2) (.slice Ao19 t390.length co19)) (fun _ hk => hk.2) (.bool t393)) (fun _ hk => hk.2) (.slice Ao22 t394.length co22)) (fun _ h_ => h_.1)) (fun _ h_ => h_.1)))) (Kd.R_lt (Kd.R_mono (Kd.R_mono (Kd.R_far (p := ⟨gb386, 1, none⟩) (Kd.R_far (p := ⟨gb386, 0, none⟩) (Kd.R_far (p := ⟨gb385, 1, none⟩) (Kd.R_far (p := ⟨gb385, 0, none⟩) (Kd.R_types (Kd.R_types HO396.out BK385.out (by decide)) BK386.out (by decide)) (fun _ hk => hk.1.2) (.bool t389)) (fun _ hk => hk.1.2) (.slice Ao19 t390.length co19)) (fun _ hk => hk.2) (.bool t393)) (fun _ hk => hk.2) (.slice Ao22 t394.length co22)) (fun _ h_ => h_.1)) (fun _ h_ => h_.1)))) (below_size (by repeat first | exact HB.out | refine bxSet ?_ (by assumption) | apply below_alloc | apply pw_below_drewN))); replace BK385 := Aside0.mk (blk_below (g := gb385) (o := .cells #[.bool t389, .slice Ao19 t390.length co19] 24 (0, 0)) (by refine blk_far ?_ NB385_386.out _; refine blk_far ?_ NB385_386.out _; refine blk_put (cs := #[.bool t389, .slice A0_1 l0_1.length c0_1]) ?_ 1 _ rfl; refine blk_put (cs := #[.bool a0_0, .slice A0_1 l0_1.length c0_1]) ?_ 0 _ rfl; exact BK385.out) hb); replace BK386 := Aside0.mk (blk_below (g := gb386) (o := .cells #[.bool t393, .slice Ao22 t394.length co22] 24 (0, 0)) (by refine blk_put (cs := #[.bool t393, .slice A1_1 l1_1.length c1_1]) ?_ 1 _ rfl; refine blk_put (cs := #[.bool a1_0, .slice A1_1 l1_1.length c1_1]) ?_ 0 _ rfl; refine blk_far ?_ NB386_385.out _; refine blk_far ?_ NB386_385.out _; exact BK386.out) hb); replace BK387 := Aside0.mk (blk_below (g := gb387) (o := .cells #[.bool false, .slice none 0 0] 24 (0, 0)) (by refine blk_far ?_ NB387_386.out _; refine blk_far ?_ NB387_386.out _; refine blk_far ?_ NB387_385.out _; refine blk_far ?_ NB387_385.out _; exact BK387.out) hb); replace HB := Aside0.mk (below_step (by repeat first | exact HB.out | refine bxSet ?_ (by assumption) | apply below_alloc | apply pw_below_drewN) hb); (try clear ho1)) | ((with_reducible refine gate_dst (N := 6) rfl ?_); refine box_event ?hg (N := 6) ?hd (cs := #[.bool false, .slice none 0 0]) (t := 24) ?hr ?_; (case hd => rfl); (case hg => rfl); (case hr => first | (go_simp; done) | (go_simp; rfl)); intro gb406 hg w28 hbox hb; replace HO400 := Aside0.mk (Kd.R_below HO400.out hb); replace HO404 := Aside0.mk (Kd.R_below HO404.out hb); have BK406 := Aside0.mk (hbox); have GW406 := Aside0.mk (bxLe HB.out hg); have GE406 := GW406; replace HB := Aside0.mk (below_step HB.out hb); have NB385_406 := Aside0.mk (neL BK385.out hg); have NB406_385 := Aside0.mk (neR BK385.out hg); replace BK385 := Aside0.mk (blk_below BK385.out hb); have NB386_406 := Aside0.mk (neL BK386.out hg); have NB406_386 := Aside0.mk (neR BK386.out hg); replace BK386 := Aside0.mk (blk_below BK386.out hb); have NB387_406 := Aside0.mk (neL BK387.out hg); have NB406_387 := Aside0.mk (neR BK387.out hg); replace BK387 := Aside0.mk (blk_below BK387.out hb); clear hb hbox hg) | ((with_reducible refine gate_dst (N := 7) rfl ?_); refine box_event ?hg (N := 7) ?hd (cs := #[.bool false, .slice none 0 0]) (t := 24) ?hr ?_; (case hd => rfl); (case hg => rfl); (case hr => first | (go_simp; done) | (go_simp; rfl)); intro gb407 hg w29 hbox hb; replace HO400 := Aside0.mk (Kd.R_below HO400.out hb); replace HO404 := Aside0.mk (Kd.R_below HO404.out hb); have BK407 := Aside0.mk (hbox); have GW407 := Aside0.mk (bxLe HB.out hg); have GE407 := GW407; replace HB := Aside0.mk (below_step HB.out hb); have NB385_407 := Aside0.mk (neL BK385.out hg); have NB407_385 := Aside0.mk (neR BK385.out hg); have NB386_407 := Aside0.mk (neL BK386.out hg); have NB407_386 := Aside0.mk (neR BK386.out hg); have NB387_407 := Aside0.mk (neL BK387.out hg); have NB407_387 := Aside0.mk (neR BK387.out hg); replace BK387 := Aside0.mk (blk_below BK387.out hb); have NB406_407 := Aside0.mk (neL BK406.out hg); have NB407_406 := Aside0.mk (neR BK406.out hg); replace BK406 := Aside0.mk (blk_below BK406.out hb); clear hb hbox hg; have hnb30 := NB406_385.out; have hnc30 := NB385_406.out; have hnb31 := NB406_386.out; have hnc31 := NB386_406.out; have hnb32 := NB406_387.out; have hnc32 := NB387_406.out; have hnb33 := NB406_407.out; have hnc33 := NB407_406.out; have hcz34_0 : w29.cell? ⟨gb406, 0, none⟩ = some (.bool false) := bc0 BK406.out; have hcz34_1 : w29.cell? ⟨gb406, 1, none⟩ = some (.slice none 0 0) := bc1 BK406.out; have hfz34_0 := blk_frozen BK406.out 0; have hfz34_1 := blk_frozen BK406.out 1; obtain ⟨Ao35, co35, eo35⟩ := Kd.R_slice HO400.out; subst eo35; have hnb36 := NB407_385.out; have hnc36 := NB385_407.out; have hnb37 := NB407_386.out; have hnc37 := NB386_407.out; have hnb38 := NB407_387.out; have hnc38 := NB387_407.out; have hcz39_0 : w29.cell? ⟨gb407, 0, none⟩ = some (.bool false) := bc0 BK407.out; have hcz39_1 : w29.cell? ⟨gb407, 1, none⟩ = some (.slice none 0 0) := bc1 BK407.out; have hfz39_0 := blk_frozen BK407.out 0; have hfz39_1 := blk_frozen BK407.out 1; obtain ⟨Ao40, co40, eo40⟩ := Kd.R_slice HO404.out; subst eo40; have hcz41_0 : w29.cell? ⟨gb387, 0, none⟩ = some (.bool false) := bc0 BK387.out; have hcz41_1 : w29.cell? ⟨gb387, 1, none⟩ = some (.slice none 0 0) := bc1 BK387.out; have hfz41_0 := blk_frozen BK387.out 0; have hfz41_1 := blk_frozen BK387.out 1))
  refine bodyPost_ret (results_ct rfl _ _ gb387 24 #[.bool t397, .slice Ao35 t398.length co35] (0, 0) _ rfl (by refine blk_put (cs := #[.bool t397, .slice none 0 0]) ?_ 1 _ rfl; refine blk_put (cs := #[.bool false, .slice none 0 0]) ?_ 0 _ rfl; refine blk_far ?_ NB387_407.out _; refine blk_far ?_ NB387_407.out _; refine blk_far ?_ NB387_406.out _; refine blk_far ?_ NB387_406.out _; exact BK387.out) Try.underlying24 rfl (by kernel_rfl)) rfl ?_
  exact ⟨_, rfl, Kd.R_mono (Kd.R_far (p := ⟨gb387, 1, none⟩) (Kd.R_far (p := ⟨gb387, 0, none⟩) (Kd.R_far (p := ⟨gb407, 1, none⟩) (Kd.R_far (p := ⟨gb407, 0, none⟩) (Kd.R_far (p := ⟨gb406, 1, none⟩) (Kd.R_far (p := ⟨gb406, 0, none⟩) (Kd.R_types (Kd.R_types (Kd.R_types HO400.out BK406.out (by decide)) BK407.out (by decide)) BK387.out (by decide)) (fun _ hk => hk.1.1.2) (.bool t397)) (fun _ hk => hk.1.1.2) (.slice Ao35 t398.length co35)) (fun _ hk => hk.1.2) (.bool t401)) (fun _ hk => hk.1.2) (.slice Ao40 t402.length co40)) (fun _ hk => hk.2) (.bool t397)) (fun _ hk => hk.2) (.slice Ao35 t398.length co35)) (fun _ hk => trivial), by repeat first | exact HB.out | refine bxSet ?_ (by assumption) | apply below_alloc | apply pw_below_drewN⟩
 ·rw [if_neg c4] at H
  have c4b0 : decide (t388 < 0) = false := decide_eq_false c4
  clear c4
  obtain ⟨⟨t408, t409, t412, t413, t416⟩, A420, H⟩ := Option.bind_eq_some_iff.mp H
  try dsimp only at H
  have A42 := Aside0.mk A420
  clear A420
  simp only [Option.some.injEq, Prod.mk.injEq] at H
  obtain ⟨rfl, rfl, rfl⟩ := H
  go_enter Try.func42, Try.ntmps42
  go_wp2_with (first | ((with_reducible refine gate_dst (N := 2) rfl ?_); refine box_event ?hg (N := 2) ?hd (cs := #[.bool a0_0, .slice A0_1 l0_1.length c0_1]) (t := 24) ?hr ?_; (case hd => rfl); (case hg => rfl); (case hr => first | (go_simp; done) | (go_simp; rfl)); intro gb385 hg w43 hbox hb; have BK385 := Aside0.mk (hbox); have GW385 := Aside0.mk (bxLe HB.out hg); have GE385 := GW385; replace HB := Aside0.mk (below_step HB.out hb); clear hb hbox hg) | ((with_reducible refine gate_dst (N := 3) rfl ?_); refine box_event ?hg (N := 3) ?hd (cs := #[.bool a1_0, .slice A1_1 l1_1.length c1_1]) (t := 24) ?hr ?_; (case hd => rfl); (case hg => rfl); (case hr => first | (go_simp; done) | (go_simp; rfl)); intro gb386 hg w44 hbox hb; have BK386 := Aside0.mk (hbox); have GW386 := Aside0.mk (bxLe HB.out hg); have GE386 := GW386; replace HB := Aside0.mk (below_step HB.out hb); have NB385_386 := Aside0.mk (neL BK385.out hg); have NB386_385 := Aside0.mk (neR BK385.out hg); replace BK385 := Aside0.mk (blk_below BK385.out hb); clear hb hbox hg) | ((with_reducible refine gate_dst (N := 4) rfl ?_); refine box_event ?hg (N := 4) ?hd (cs := #[.bool false, .slice none 0 0]) (t := 24) ?hr ?_; (case hd => rfl); (case hg => rfl); (case hr => first | (go_simp; done) | (go_simp; rfl)); intro gb387 hg w45 hbox hb; have BK387 := Aside0.mk (hbox); have GW387 := Aside0.mk (bxLe HB.out hg); have GE387 := GW387; replace HB := Aside0.mk (below_step HB.out hb); have NB385_387 := Aside0.mk (neL BK385.out hg); have NB387_385 := Aside0.mk (neR BK385.out hg); replace BK385 := Aside0.mk (blk_below BK385.out hb); have NB386_387 := Aside0.mk (neL BK386.out hg); have NB387_386 := Aside0.mk (neR BK386.out hg); replace BK386 := Aside0.mk (blk_below BK386.out hb); clear hb hbox hg; have hnb46 := NB386_385.out; have hnc46 := NB385_386.out; have hnb47 := NB386_387.out; have hnc47 := NB387_386.out; have hcz48_0 : w45.cell? ⟨gb386, 0, none⟩ = some (.bool a1_0) := bc0 BK386.out; have hcz48_1 : w45.cell? ⟨gb386, 1, none⟩ = some (.slice A1_1 l1_1.length c1_1) := bc1 BK386.out; have hfz48_0 := blk_frozen BK386.out 0; have hfz48_1 := blk_frozen BK386.out 1) | ((with_reducible refine gate_callee (f := 19) rfl ?_); refine goL (some 10) Try.func19 [.agg #[.bool a1_0, .slice A1_1 l1_1.length c1_1]] ?_; (with_reducible refine (whole_Sign.calls a1_0 _ _ l1_1 t388 _ ?side1 ?side2 A3.out).mono ?_); (case side1 => exact (Kd.C_below HR1_1.out HB.out)); (case side2 => exact HC1_1.out); rintro e w49 ⟨rfl, hb⟩; refine ⟨_, rfl, ?_⟩; replace BK385 := Aside0.mk (blk_below BK385.out hb); replace BK386 := Aside0.mk (blk_below BK386.out hb); replace BK387 := Aside0.mk (blk_below BK387.out hb); replace HB := Aside0.mk (below_step HB.out hb); (try clear hb); (try clear hb2); (try clear hk); (try clear hi); have hnb50 := NB385_387.out; have hnc50 := NB387_385.out; have hcz51_0 : w49.cell? ⟨gb385, 0, none⟩ = some (.bool a0_0) := bc0 BK385.out; have hcz51_1 : w49.cell? ⟨gb385, 1, none⟩ = some (.slice A0_1 l0_1.length c0_1) := bc1 BK385.out; have hfz51_0 := blk_frozen BK385.out 0; have hfz51_1 := blk_frozen BK385.out 1; have hcz52_0 : w49.cell? ⟨gb386, 0, none⟩ = some (.bool a1_0) := bc0 BK386.out; have hcz52_1 : w49.cell? ⟨gb386, 1, none⟩ = some (.slice A1_1 l1_1.length c1_1) := bc1 BK386.out; have hfz52_0 := blk_frozen BK386.out 0; have hfz52_1 := blk_frozen BK386.out 1) | ((with_reducible refine gate_callee (f := 48) rfl ?_); refine goL (some 19) Try.func48 [.agg #[.bool a0_0, .slice A0_1 l0_1.length c0_1], .agg #[.bool a1_0, .slice A1_1 l1_1.length c1_1]] ?_; (with_reducible refine (whole_DivMod.calls k a0_0 _ _ l0_1 a1_0 _ _ l1_1 t408 t409 t412 t413 t416 _ ?side1 ?side2 ?side3 ?side4 A42.out).mono ?_); (case side1 => exact (Kd.C_below HR0_1.out HB.out)); (case side2 => exact HC0_1.out); (case side3 => exact (Kd.C_below HR1_1.out HB.out)); (case side4 => exact HC1_1.out); rintro e w53 ⟨v410, v414, rfl, ho0, ho1, hb⟩; refine ⟨_, rfl, ?_⟩; have HO411 := Aside0.mk (Kd.R_lower ho0 (below_size HB.out)); have HO415 := Aside0.mk (Kd.R_lower ho1 (below_size HB.out)); replace BK385 := Aside0.mk (blk_below BK385.out hb); replace BK386 := Aside0.mk (blk_below BK386.out hb); replace BK387 := Aside0.mk (blk_below BK387.out hb); replace HB := Aside0.mk (below_step HB.out hb); (try clear ho1)) | ((with_reducible refine gate_dst (N := 6) rfl ?_); refine box_event ?hg (N := 6) ?hd (cs := #[.bool false, .slice none 0 0]) (t := 24) ?hr ?_; (case hd => rfl); (case hg => rfl); (case hr => first | (go_simp; done) | (go_simp; rfl)); intro gb417 hg w54 hbox hb; replace HO411 := Aside0.mk (Kd.R_below HO411.out hb); replace HO415 := Aside0.mk (Kd.R_below HO415.out hb); have BK417 := Aside0.mk (hbox); have GW417 := Aside0.mk (bxLe HB.out hg); have GE417 := GW417; replace HB := Aside0.mk (below_step HB.out hb); have NB385_417 := Aside0.mk (neL BK385.out hg); have NB417_385 := Aside0.mk (neR BK385.out hg); replace BK385 := Aside0.mk (blk_below BK385.out hb); have NB386_417 := Aside0.mk (neL BK386.out hg); have NB417_386 := Aside0.mk (neR BK386.out hg); replace BK386 := Aside0.mk (blk_below BK386.out hb); have NB387_417 := Aside0.mk (neL BK387.out hg); have NB417_387 := Aside0.mk (neR BK387.out hg); replace BK387 := Aside0.mk (blk_below BK387.out hb); clear hb hbox hg) | ((with_reducible refine gate_dst (N := 7) rfl ?_); refine box_event ?hg (N := 7) ?hd (cs := #[.bool false, .slice none 0 0]) (t := 24) ?hr ?_; (case hd => rfl); (case hg => rfl); (case hr => first | (go_simp; done) | (go_simp; rfl)); intro gb418 hg w55 hbox hb; replace HO411 := Aside0.mk (Kd.R_below HO411.out hb); replace HO415 := Aside0.mk (Kd.R_below HO415.out hb); have BK418 := Aside0.mk (hbox); have GW418 := Aside0.mk (bxLe HB.out hg); have GE418 := GW418; replace HB := Aside0.mk (below_step HB.out hb); have NB385_418 := Aside0.mk (neL BK385.out hg); have NB418_385 := Aside0.mk (neR BK385.out hg); have NB386_418 := Aside0.mk (neL BK386.out hg); have NB418_386 := Aside0.mk (neR BK386.out hg); have NB387_418 := Aside0.mk (neL BK387.out hg); have NB418_387 := Aside0.mk (neR BK387.out hg); replace BK387 := Aside0.mk (blk_below BK387.out hb); have NB417_418 := Aside0.mk (neL BK417.out hg); have NB418_417 := Aside0.mk (neR BK417.out hg); replace BK417 := Aside0.mk (blk_below BK417.out hb); clear hb hbox hg; have hnb56 := NB417_385.out; have hnc56 := NB385_417.out; have hnb57 := NB417_386.out; have hnc57 := NB386_417.out; have hnb58 := NB417_387.out; have hnc58 := NB387_417.out; have hnb59 := NB417_418.out; have hnc59 := NB418_417.out; have hcz60_0 : w55.cell? ⟨gb417, 0, none⟩ = some (.bool false) := bc0 BK417.out; have hcz60_1 : w55.cell? ⟨gb417, 1, none⟩ = some (.slice none 0 0) := bc1 BK417.out; have hfz60_0 := blk_frozen BK417.out 0; have hfz60_1 := blk_frozen BK417.out 1; obtain ⟨Ao61, co61, eo61⟩ := Kd.R_slice HO411.out; subst eo61; have hnb62 := NB418_385.out; have hnc62 := NB385_418.out; have hnb63 := NB418_386.out; have hnc63 := NB386_418.out; have hnb64 := NB418_387.out; have hnc64 := NB387_418.out; have hcz65_0 : w55.cell? ⟨gb418, 0, none⟩ = some (.bool false) := bc0 BK418.out; have hcz65_1 : w55.cell? ⟨gb418, 1, none⟩ = some (.slice none 0 0) := bc1 BK418.out; have hfz65_0 := blk_frozen BK418.out 0; have hfz65_1 := blk_frozen BK418.out 1; obtain ⟨Ao66, co66, eo66⟩ := Kd.R_slice HO415.out; subst eo66; have hcz67_0 : w55.cell? ⟨gb387, 0, none⟩ = some (.bool false) := bc0 BK387.out; have hcz67_1 : w55.cell? ⟨gb387, 1, none⟩ = some (.slice none 0 0) := bc1 BK387.out; have hfz67_0 := blk_frozen BK387.out 0; have hfz67_1 := blk_frozen BK387.out 1))
  refine bodyPost_ret (results_ct rfl _ _ gb387 24 #[.bool t408, .slice Ao61 t409.length co61] (0, 0) _ rfl (by refine blk_put (cs := #[.bool t408, .slice none 0 0]) ?_ 1 _ rfl; refine blk_put (cs := #[.bool false, .slice none 0 0]) ?_ 0 _ rfl; refine blk_far ?_ NB387_418.out _; refine blk_far ?_ NB387_418.out _; refine blk_far ?_ NB387_417.out _; refine blk_far ?_ NB387_417.out _; exact BK387.out) Try.underlying24 rfl (by kernel_rfl)) rfl ?_
  exact ⟨_, rfl, Kd.R_mono (Kd.R_far (p := ⟨gb387, 1, none⟩) (Kd.R_far (p := ⟨gb387, 0, none⟩) (Kd.R_far (p := ⟨gb418, 1, none⟩) (Kd.R_far (p := ⟨gb418, 0, none⟩) (Kd.R_far (p := ⟨gb417, 1, none⟩) (Kd.R_far (p := ⟨gb417, 0, none⟩) (Kd.R_types (Kd.R_types (Kd.R_types HO411.out BK417.out (by decide)) BK418.out (by decide)) BK387.out (by decide)) (fun _ hk => hk.1.1.2) (.bool t408)) (fun _ hk => hk.1.1.2) (.slice Ao61 t409.length co61)) (fun _ hk => hk.1.2) (.bool t412)) (fun _ hk => hk.1.2) (.slice Ao66 t413.length co66)) (fun _ hk => hk.2) (.bool t408)) (fun _ hk => hk.2) (.slice Ao61 t409.length co61)) (fun _ hk => trivial), by repeat first | exact HB.out | refine bxSet ?_ (by assumption) | apply below_alloc | apply pw_below_drewN⟩

end Go.Proofs.Ytdicjemjmlbmlaa.PA
/- What the functions of whole are, as numbers. -/
namespace Go.Proofs.Ytdicjemjmlbmlaa.S
set_option linter.unusedVariables false
set_option linter.unusedSimpArgs false
open Go.RowKit Go.Proofs.Ytdicjemjmlbmlaa.V Go.Proofs.Ytdicjemjmlbmlaa.PA Go.Proofs.Ytdicjemjmlbmlaa.H Go.Proofs.YtdicjemjmlbmlaaW.PrintWords Go.Proofs.YtdicjemjmlbmlaaW.PrintLast Go.Proofs.YtdicjemjmlbmlaaW.PrintMore

theorem evC {α β : Type} {o : Option α} {f : Nat → α → Option β} {a : α} {r : β} (h : o = some a) (k : Ev (fun n => f n a) r) : Ev (fun n => o.bind (f n)) r := by
 subst h; exact k
theorem evP {α : Type} {c : Prop} [Decidable c] {f g : Nat → Option α} {r : α} (h : c) (k : Ev f r) : Ev (fun n => if c then f n else g n) r := by
 simp only [if_pos h]; exact k
theorem evN {α : Type} {c : Prop} [Decidable c] {f g : Nat → Option α} {r : α} (h : ¬ c) (k : Ev g r) : Ev (fun n => if c then f n else g n) r := by
 simp only [if_neg h]; exact k
theorem evR {α : Type} {a r : α} (h : a = r) : Ev (fun _ => some a) r := by subst h; exact Ev.now _
theorem lim_wf {l : List Int} (h : ∀ x ∈ l, (Lit.int .u32 x).wf = true) : Lim l := fun x hx => by have := bounds_u32 (h x hx); omega
theorem len_add {x y : Int} (hx : 0 ≤ x) (hy : 0 ≤ y) : (dig (x + y)).length ≤ max (dig x).length (dig y).length + 1 := by
 refine dig_length_le (by omega) ?_
 have h1 := lt_of_dig_length (k := max (dig x).length (dig y).length) hx (by omega)
 have h2 := lt_of_dig_length (k := max (dig x).length (dig y).length) hy (by omega)
 rw [pw_succ]; have := pw_pos (max (dig x).length (dig y).length); omega
theorem len_mul {x y : Int} (hx : 0 ≤ x) (hy : 0 ≤ y) : (dig (x * y)).length ≤ (dig x).length + (dig y).length := by
 have h1 := lt_of_dig_length (k := (dig x).length) hx (Nat.le_refl _)
 have h2 := lt_of_dig_length (k := (dig y).length) hy (Nat.le_refl _)
 refine dig_length_le (Int.mul_nonneg hx hy) ?_
 rw [pw_add]
 have p1 := pw_pos (dig x).length
 exact Int.lt_of_le_of_lt (Int.mul_le_mul_of_nonneg_right (Int.le_of_lt h1) hy) (Int.mul_lt_mul_of_pos_left h2 p1)
theorem len_le {x y : Int} (hx : 0 ≤ x) (h : x ≤ y) : (dig x).length ≤ (dig y).length := by
 have h2 := lt_of_dig_length (k := (dig y).length) (Int.le_trans hx h) (Nat.le_refl _)
 exact dig_length_le hx (Int.lt_of_le_of_lt h h2)

/-- The number of a sign and limbs. -/
def wv (n : Bool) (l : List Int) : Int := if n then -val l else val l
def az (z : Int) : Int := if z < 0 then -z else z
theorem az_nonneg (z : Int) : 0 ≤ az z := by unfold az; split <;> omega
theorem az_neg (z : Int) : az (-z) = az z := by unfold az; split <;> split <;> omega
/-- A number in its own form. -/
def W (z : Int) : Bool × List Int := (decide (z < 0), dig (az z))
theorem W_lim (z : Int) : Lim (W z).2 := dig_lim _
theorem wv_W (z : Int) : wv (W z).1 (W z).2 = z := by
 unfold wv W az
 by_cases h : z < 0
 ·rw [decide_eq_true h, if_pos rfl, if_pos h, val_dig (by omega)]; omega
 ·rw [decide_eq_false h, if_neg Bool.false_ne_true, if_neg h, val_dig (by omega)]
theorem val_W (z : Int) : val (W z).2 = az z := val_dig (az_nonneg z)
theorem az_wv (n : Bool) {l : List Int} (h : Lim l) : az (wv n l) = val l := by
 have := val_nonneg h
 unfold az wv; cases n <;> simp <;> omega
/-- At most so many limbs. -/
def B (n : Nat) (z : Int) : Prop := (dig (az z)).length ≤ n
theorem B_in (n : Bool) {l : List Int} (h : Lim l) : B l.length (wv n l) := by unfold B; rw [az_wv n h]; exact dig_length l h
theorem B.mono {m n : Nat} {z : Int} (h : B m z) (hmn : m ≤ n) : B n z := Nat.le_trans h hmn
theorem B.neg {n : Nat} {z : Int} (h : B n z) : B n (-z) := by unfold B; rw [az_neg]; exact h
theorem B.add {m : Nat} {x y : Int} (hx : B m x) (hy : B m y) : B (m + 1) (x + y) := by
 have hl : az (x + y) ≤ az x + az y := by unfold az; split <;> split <;> split <;> omega
 have h1 := len_le (az_nonneg _) hl
 have h2 := len_add (az_nonneg x) (az_nonneg y)
 unfold B at *; omega
theorem B.sub {m : Nat} {x y : Int} (hx : B m x) (hy : B m y) : B (m + 1) (x - y) := by rw [Int.sub_eq_add_neg]; exact hx.add hy.neg
theorem az_mul (x y : Int) : az (x * y) = az x * az y := by
 unfold az
 rcases Int.lt_trichotomy x 0 with hx | hx | hx
 ·rcases Int.lt_trichotomy y 0 with hy | hy | hy
  ·have := Int.mul_pos_of_neg_of_neg hx hy
   rw [if_neg (by omega), if_pos hx, if_pos hy, Int.neg_mul_neg]
  ·subst hy; simp
  ·have := Int.mul_neg_of_neg_of_pos hx hy
   rw [if_pos this, if_pos hx, if_neg (by omega), Int.neg_mul]
 ·subst hx; simp
 ·rcases Int.lt_trichotomy y 0 with hy | hy | hy
  ·have := Int.mul_neg_of_pos_of_neg hx hy
   rw [if_pos this, if_neg (by omega), if_pos hy, Int.mul_neg]
  ·subst hy; simp
  ·have := Int.mul_pos hx hy
   rw [if_neg (by omega), if_neg (by omega), if_neg (by omega)]
theorem B.mul {m n : Nat} {x y : Int} (hx : B m x) (hy : B n y) : B (m + n) (x * y) := by
 have h2 := len_mul (az_nonneg x) (az_nonneg y)
 unfold B at *; rw [az_mul]; omega
theorem B.le {n : Nat} {x y : Int} (hy : B n y) (h : az x ≤ az y) : B n x := by
 have h1 := len_le (az_nonneg _) h
 unfold B at *; omega
theorem B.len {n : Nat} {z : Int} (h : B n z) : (W z).2.length ≤ n := h

theorem made_ev (b : Bool) (l : List Int) (h : Lim l) (hn : l.length ≤ 1000000000000) : whole_made.f b l = some (W (wv b l)) := by
 have v := val_nonneg h
 unfold whole_made.f W
 rw [norm_ev l h hn, Option.bind_some, az_wv b h]
 cases b with
 | true =>
  rw [if_pos rfl]
  congr 2
  refine decide_eq_decide.2 ?_
  have := dig_eq_nil v
  unfold wv; rw [if_pos rfl]
  constructor
  ·intro z
   have hne : ¬ val l = 0 := fun y => by rw [this.2 y] at z; simp at z
   omega
  ·intro z
   have hne : dig (val l) ≠ [] := fun y => by have := this.1 y; omega
   have := List.length_pos_iff.2 hne
   omega
 | false =>
  rw [if_neg (by decide)]
  congr 2
  unfold wv; rw [if_neg (by decide)]
  exact (decide_eq_false (by omega)).symm
theorem made2 (b : Bool) (l : List Int) (h : Lim l) (hn : l.length ≤ 1000000000000) : ((whole_made.f b l).bind fun bt => some (bt.1, bt.2)) = some (W (wv b l)) := by
 rw [made_ev b l h hn]; rfl
theorem wNorm_ev (b : Bool) (l : List Int) (h : Lim l) (hn : l.length ≤ 1000000000000) : whole_Norm.f b l = some (W (wv b l)) := made2 b l h hn
theorem wNeg_ev (b : Bool) (l : List Int) (h : Lim l) (hn : l.length ≤ 1000000000000) : whole_Neg.f b l = some (W (-wv b l)) := by
 unfold whole_Neg.f
 rw [made2 _ l h hn]
 congr 2; unfold wv; cases b <;> simp
def sg (z : Int) : Int := if z < 0 then -1 else if z > 0 then 1 else 0
theorem dig_az (z : Int) : ((dig (az z)).length : Int) > 0 ↔ z ≠ 0 := by
 have := dig_eq_nil (az_nonneg z)
 have e : az z = 0 ↔ z = 0 := by unfold az; split <;> omega
 constructor
 ·intro h hz
  rw [this.2 (e.2 hz)] at h; simp at h
 ·intro h
  have hne : dig (az z) ≠ [] := fun y => h (e.1 (this.1 y))
  have := List.length_pos_iff.2 hne
  omega
theorem wSign_ev (b : Bool) (l : List Int) (h : Lim l) (hn : l.length ≤ 1000000000000) : whole_Sign.f b l = some (sg (wv b l)) := by
 unfold whole_Sign.f
 rw [wNorm_ev b l h hn, Option.bind_some]
 generalize wv b l = z
 unfold W sg
 by_cases h1 : z < 0
 ·rw [decide_eq_true h1, if_pos rfl, if_pos h1]
 ·rw [decide_eq_false h1, if_neg Bool.false_ne_true, if_neg h1]
  by_cases h2 : z > 0
  ·rw [if_pos ((dig_az z).2 (by omega)), if_pos h2]
  ·rw [if_neg (fun y => (dig_az z).1 y (by omega)), if_neg h2]
theorem wOf_ev (n : Int) (h0 : -9223372036854775808 ≤ n) (h1 : n ≤ 9223372036854775807) : whole_Of.f n = some (W n) := by
 unfold whole_Of.f
 by_cases h : n < 0
 ·have e : IntKind.u64.wrap (-(IntKind.u64.wrap n)) = -n := by rw [u64e, u64e]; omega
  have hl : (dig (-n)).length ≤ 2 := dig_length_le (by omega) (by rw [show pw 2 = 18446744073709551616 from rfl]; omega)
  rw [if_pos h, e, of_ev (-n) (by omega) (by omega), Option.bind_some, made2 true _ (dig_lim _) (by omega)]
  congr 2; unfold wv; rw [if_pos rfl, val_dig (by omega)]; omega
 ·have e : IntKind.u64.wrap n = n := by rw [u64e]; omega
  have hl : (dig n).length ≤ 2 := dig_length_le (by omega) (by rw [show pw 2 = 18446744073709551616 from rfl]; omega)
  rw [if_neg h, e, of_ev n (by omega) (by omega), Option.bind_some, made2 false _ (dig_lim _) (by omega)]
  congr 2; unfold wv; rw [if_neg (by decide), val_dig (by omega)]
theorem wAdd_ev (a b : Bool) (x y : List Int) (hx : Lim x) (hy : Lim y) (nx : x.length < 1000000000) (ny : y.length < 1000000000) : Ev (fun k => whole_Add.f k a x b y) (W (wv a x + wv b y)) := by
 have vx := val_nonneg hx
 have vy := val_nonneg hy
 have dx := dig_length x hx
 have dy := dig_length y hy
 have lxy := len_add vx vy
 by_cases h : a = b
 ·subst h
  refine Ev.congr (fun k => rfl) (evP (by simp) (Ev.bind (add_ev x y hx hy nx ny) ?_))
  refine Ev.congr (fun k => made2 a _ (dig_lim _) (by omega)) (evR ?_)
  congr 1; unfold wv; rw [val_dig (by omega)]; cases a <;> simp <;> omega
 ·have hb : b = !a := by cases a <;> cases b <;> simp_all
  refine Ev.congr (fun k => rfl) (evN (by simpa using h) (Ev.bind (cmp_ev x y hx hy (by omega) (by omega)) ?_))
  by_cases hlt : val x < val y
  ·have l1 := len_le (x := val y - val x) (y := val y) (by omega) (by omega)
   refine evP (by unfold cmpI; rw [if_pos hlt]; decide) (Ev.bind (sub_ev y x hy hx ny nx) ?_)
   rw [if_neg (by omega)]
   refine Ev.congr (fun k => made2 b _ (dig_lim _) (by show (dig (val y - val x)).length ≤ _; omega)) (evR ?_)
   congr 1; show wv b (dig (val y - val x)) = _; rw [hb]; unfold wv; rw [val_dig (by omega)]; cases a <;> simp <;> omega
  ·have l1 := len_le (x := val x - val y) (y := val x) (by omega) (by omega)
   refine evN (by unfold cmpI; rw [if_neg hlt]; split <;> decide) (Ev.bind (sub_ev x y hx hy nx ny) ?_)
   rw [if_neg (by omega)]
   refine Ev.congr (fun k => made2 a _ (dig_lim _) (by show (dig (val x - val y)).length ≤ _; omega)) (evR ?_)
   congr 1; show wv a (dig (val x - val y)) = _; rw [hb]; unfold wv; rw [val_dig (by omega)]; cases a <;> simp <;> omega
theorem pair_ev {α β : Type} {f : Nat → Option (α × β)} {r : α × β} (h : Ev f r) : Ev (fun k => (f k).bind fun bt => some (bt.1, bt.2)) r := Ev.bind h (evR rfl)
theorem wSub_ev (a b : Bool) (x y : List Int) (hx : Lim x) (hy : Lim y) (nx : x.length < 1000000000) (ny : y.length < 1000000000) : Ev (fun k => whole_Sub.f k a x b y) (W (wv a x - wv b y)) := by
 have bl := (B_in b hy).neg.len
 refine Ev.congr (fun k => rfl) (evC (wNeg_ev b y hy (by omega)) (pair_ev ?_))
 have := wAdd_ev a (W (-wv b y)).1 x (W (-wv b y)).2 hx (W_lim _) nx (by omega)
 rw [wv_W, ← Int.sub_eq_add_neg] at this
 exact this
theorem wMul_ev (a b : Bool) (x y : List Int) (hx : Lim x) (hy : Lim y) (nx : x.length < 100000000) (ny : y.length < 100000000) : Ev (fun k => whole_Mul.f k a x b y) (W (wv a x * wv b y)) := by
 have vx := val_nonneg hx
 have vy := val_nonneg hy
 have dx := dig_length x hx
 have dy := dig_length y hy
 have lxy := len_mul vx vy
 refine Ev.congr (fun k => rfl) (Ev.bind (mul_ev x y hx hy (by omega) (by omega)) ?_)
 refine Ev.congr (fun k => made2 _ _ (dig_lim _) (by omega)) (evR ?_)
 congr 1; unfold wv; rw [val_dig (Int.mul_nonneg vx vy)]; cases a <;> cases b <;> simp [Int.neg_mul, Int.mul_neg]
theorem wCmp_ev (a b : Bool) (x y : List Int) (hx : Lim x) (hy : Lim y) (nx : x.length < 100000000) (ny : y.length < 100000000) : Ev (fun k => whole_Cmp.f k a x b y) (sg (wv a x - wv b y)) := by
 have h1 := ((B_in a hx).mono (Nat.le_max_left x.length y.length)).sub ((B_in b hy).mono (Nat.le_max_right x.length y.length))
 have := h1.len
 refine Ev.congr (fun k => rfl) (Ev.bind (wSub_ev a b x y hx hy (by omega) (by omega)) ?_)
 refine evC (wSign_ev _ _ (W_lim _) (by omega)) (evR ?_)
 rw [wv_W]
theorem euclid {a b q r : Int} (hb : b ≠ 0) (h : b * q + r = a) (h0 : 0 ≤ r) (h1 : r < b.natAbs) : a / b = q ∧ a % b = r := by
 by_cases hp : 0 < b
 ·exact div_unique hp (by rw [Int.mul_comm]; exact h) h0 (by omega)
 ·have := div_unique (a := a) (b := -b) (q := -q) (r := r) (by omega) (by rw [Int.neg_mul_neg, Int.mul_comm]; exact h) h0 (by omega)
  rw [Int.ediv_neg, Int.emod_neg] at this
  exact ⟨by omega, this.2⟩
theorem lim1 : Lim [1] := lim_one (by omega) (by omega)
theorem wDivMod_ev (a b : Bool) (x y : List Int) (hx : Lim x) (hy : Lim y) (nx : x.length < 100000000) (ny : y.length < 100000000) (h1y : az (wv b y) < 4294967296) :
  Ev (fun k => whole_DivMod.f k a x b y) (if wv b y = 0 then (false, [], false, [], 7) else ((W (wv a x / wv b y)).1, (W (wv a x / wv b y)).2, (W (wv a x % wv b y)).1, (W (wv a x % wv b y)).2, 0)) := by
 have bx := B_in a hx
 have by' := B_in b hy
 refine Ev.congr (fun k => rfl) (evC (wNorm_ev a x hx (by omega)) (evC (wNorm_ev b y hy (by omega)) ?_))
 generalize wv a x = p at *
 generalize wv b y = q at *
 have lp := bx.len
 have lq := by'.len
 refine Ev.bind (divmod_ev _ _ (W_lim p) (W_lim q) (by omega) (by omega) (by rw [val_W]; exact h1y)) ?_
 rw [val_W, val_W]
 by_cases h0 : q = 0
 ·subst h0
  rw [show az 0 = 0 from rfl, if_pos rfl, if_pos rfl]
  exact evN (by decide) (evR rfl)
 have hq : az q ≠ 0 := by unfold az; split <;> omega
 have hq0 := az_nonneg q
 have hp0 := az_nonneg p
 rw [if_neg hq, if_neg h0]
 refine evP rfl ?_
 have d0 : 0 ≤ az p / az q := Int.ediv_nonneg hp0 hq0
 have m0 : 0 ≤ az p % az q := Int.emod_nonneg _ hq
 have m1 : az p % az q < az q := Int.emod_lt_of_pos _ (by omega)
 have dm : az q * (az p / az q) + az p % az q = az p := Int.mul_ediv_add_emod _ _
 have dle : az p / az q ≤ az p := Int.ediv_le_self _ hp0
 have l1 := len_le d0 dle
 have l2 := len_le m0 (Int.le_of_lt m1)
 have lW : ∀ z : Int, (W z).2.length = (dig (az z)).length := fun z => rfl
 rw [lW] at lp lq
 have plain : (p < 0 → az p % az q = 0) → p / q = wv (decide (p < 0) != decide (q < 0)) (dig (az p / az q)) ∧ p % q = az p % az q := by
  intro hs
  have hu : q * wv (decide (p < 0) != decide (q < 0)) (dig (az p / az q)) + az p % az q = p := by
   unfold wv
   rw [val_dig d0]
   generalize az p / az q = D at *
   unfold az at *
   by_cases h1 : p < 0
   ·have := hs h1
    by_cases h2 : q < 0
    ·simp only [h1, h2, decide_true, bne_self_eq_false, Bool.false_eq_true, if_false, if_true] at *
     grind
    ·simp only [h1, h2, decide_true, decide_false, if_false, if_true] at *
     simp at *
     grind
   ·by_cases h2 : q < 0
    ·simp only [h1, h2, decide_true, decide_false, if_false, if_true] at *
     simp at *
     grind
    ·simp only [h1, h2, decide_false, bne_self_eq_false, Bool.false_eq_true, if_false] at *
     exact dm
  have hr : az p % az q < q.natAbs := by
   have : az q = q.natAbs := by unfold az; split <;> omega
   omega
  exact euclid h0 hu m0 hr
 have hlen : ((dig (az p % az q)).length : Int) = 0 ↔ az p % az q = 0 := by
  have := dig_eq_nil m0
  rw [← this, ← List.length_eq_zero_iff]; omega
 have pos : (p < 0 → az p % az q = 0) → Ev (fun k => whole_DivMod.j0 k (dig (az p / az q)) (dig (az p % az q)) true (W p).1 (W p).2 (W q).1 (W q).2) ((W (p / q)).1, (W (p / q)).2, (W (p % q)).1, (W (p % q)).2, 0) := by
  intro hs
  obtain ⟨e1, e2⟩ := plain hs
  refine Ev.step (fun k => by rw [whole_DivMod.j0]) (evP rfl ?_)
  refine evC (made_ev _ _ (dig_lim _) (by omega)) (evC (made_ev _ _ (dig_lim _) (by omega)) (evR ?_))
  have e3 : wv false (dig (az p % az q)) = p % q := by unfold wv; rw [if_neg (by decide), val_dig m0, e2]
  show ((W (wv (decide (p < 0) != decide (q < 0)) (dig (az p / az q)))).1, (W (wv (decide (p < 0) != decide (q < 0)) (dig (az p / az q)))).2, (W (wv false (dig (az p % az q)))).1, (W (wv false (dig (az p % az q)))).2, (0 : Int)) = _
  rw [e3, ← e1]
 by_cases h1 : p < 0
 ·have hW : (W p).1 = true := decide_eq_true h1
  refine evP hW ?_
  by_cases h2 : az p % az q = 0
  ·have e : (((dig (az p % az q)).length : Int) == 0) = true := beq_iff_eq.2 (hlen.2 h2)
   simp only [e]
   exact pos (fun _ => h2)
  ·have e : (((dig (az p % az q)).length : Int) == 0) = false := by rw [beq_eq_false_iff_ne]; exact fun z => h2 (hlen.1 z)
   simp only [e]
   have l3 := len_le (x := az q - az p % az q) (y := az q) (by omega) (by omega)
   have l4 := len_add d0 (show (0 : Int) ≤ 1 by omega)
   have l5 : (dig 1).length ≤ 1 := dig_length_le (by omega) (by rw [show pw 1 = 4294967296 from rfl]; omega)
   have Sb := sub_ev (W q).2 (dig (az p % az q)) (W_lim q) (dig_lim _) (by rw [lW]; omega) (by omega)
   rw [val_W, val_dig m0, if_neg (by omega)] at Sb
   have Ad := add_ev (dig (az p / az q)) [1] (dig_lim _) lim1 (by omega) (by decide)
   rw [val_dig d0, val_one] at Ad
   refine Ev.step (fun k => by rw [whole_DivMod.j0]) (evN (by decide) ?_)
   refine Ev.bind Sb (Ev.bind Ad (evC (made_ev _ _ (dig_lim _) (by omega)) (evC (made_ev _ _ (dig_lim _) (by show (dig (az q - az p % az q)).length ≤ _; omega)) (evR ?_))))
   have e3 : wv false (dig (az q - az p % az q)) = az q - az p % az q := by unfold wv; rw [if_neg (by decide), val_dig (by omega)]
   have hu : q * wv ((W p).1 != (W q).1) (dig (az p / az q + 1)) + (az q - az p % az q) = p := by
    unfold wv
    rw [val_dig (by omega)]
    generalize az p / az q = D at *
    unfold W
    unfold az at *
    by_cases h2 : q < 0
    ·simp only [h1, h2, decide_true, bne_self_eq_false, Bool.false_eq_true, if_false, if_true] at *
     grind
    ·simp only [h1, h2, decide_true, decide_false, if_false, if_true] at *
     simp at *
     grind
   have hr : az q = q.natAbs := by unfold az; split <;> omega
   obtain ⟨z1, z2⟩ := euclid h0 hu (by omega) (by omega)
   show (_, _, (W (wv false (dig (az q - az p % az q)))).1, (W (wv false (dig (az q - az p % az q)))).2, (0 : Int)) = _
   rw [e3, z1, z2]
 ·have hW : (W p).1 = false := decide_eq_false h1
  exact evN (by rw [hW]; decide) (pos (fun y => absurd y h1))
/-- Rounded down. -/
def fl (a b : Int) : Int := if b < 0 then -a / -b else a / b
theorem sg_neg (z : Int) : sg z < 0 ↔ z < 0 := by unfold sg; split <;> (try split) <;> omega
theorem wFloor_ev (a b : Bool) (x y : List Int) (hx : Lim x) (hy : Lim y) (nx : x.length < 100000000) (ny : y.length < 100000000) (h1y : az (wv b y) < 4294967296) :
  Ev (fun k => whole_Floor.f k a x b y) (if wv b y = 0 then (false, [], 7) else ((W (fl (wv a x) (wv b y))).1, (W (fl (wv a x) (wv b y))).2, 0)) := by
 have bx := (B_in a hx).neg.len
 have by' := (B_in b hy).neg.len
 refine Ev.congr (fun k => rfl) (evC (wSign_ev b y hy (by omega)) ?_)
 by_cases h : wv b y < 0
 ·refine evP ((sg_neg _).2 h) (evC (wNeg_ev a x hx (by omega)) (evC (wNeg_ev b y hy (by omega)) ?_))
  have D := wDivMod_ev (W (-wv a x)).1 (W (-wv b y)).1 (W (-wv a x)).2 (W (-wv b y)).2 (W_lim _) (W_lim _) (by omega) (by omega) (by rw [wv_W, az_neg]; exact h1y)
  rw [wv_W, wv_W, if_neg (by omega)] at D
  refine Ev.bind D (evR ?_)
  rw [if_neg (by omega)]; unfold fl; rw [if_pos h]
 ·refine evN (fun z => h ((sg_neg _).1 z)) (Ev.bind (wDivMod_ev a b x y hx hy nx ny h1y) (evR ?_))
  unfold fl; rw [if_neg h]
  split <;> rfl
end Go.Proofs.Ytdicjemjmlbmlaa.S
/- lin.Norm: a sum's own form, by its numbers. -/
namespace Go.Proofs.Ytdicjemjmlbmlaa.H
set_option linter.unusedSimpArgs false
set_option linter.unusedVariables false
open Go.RowKit Go.Proofs.YtdicjemjmlbmlaaW.PrintWords Go.Proofs.YtdicjemjmlbmlaaW.PrintLast Go.Proofs.YtdicjemjmlbmlaaW.PrintMore Go.Proofs.Ytdicjemjmlbmlaa.PA Go.Proofs.Ytdicjemjmlbmlaa.V Go.Proofs.Ytdicjemjmlbmlaa.S
attribute [local go_sem] box_twice
/-- Limbs alone, and not too many. -/
def limB (l : List Int) : Bool := decide (l.length ≤ 1000000) && l.all (fun x => decide (0 ≤ x) && decide (x < 4294967296))
theorem limB_of {l : List Int} (h : limB l = true) : l.length ≤ 1000000 ∧ Lim l := by
  unfold limB at h
  simp only [Bool.and_eq_true, decide_eq_true_eq, List.all_eq_true] at h
  exact h
def guardL (l1 : List Int) (l2 : List S46) : Bool := limB l1 && decide (l2.length ≤ 1000000) && l2.all (fun x => limB x.f1.f1)
def prM (x : S46) : Int × Int := (x.f0, wv x.f1.f0 x.f1.f1)
def enP (q : Int × Int) : S46 := ⟨q.1, ⟨(W q.2).1, (W q.2).2⟩⟩
def prR (x : RM) : Int × Int := (x.v, wv x.ng x.xs)
theorem pr_toM (rs : List RM) : (rs.map toM).map prM = rs.map prR := by rw [List.map_map]; rfl
def lin_Norm.f (b : Bool) (l1 : List Int) (l2 : List S46) : Option (Bool × List Int × List S46) := if guardL l1 l2 = true then some ((W (wv b l1)).1, (W (wv b l1)).2, (normP (l2.map prM)).map enP) else none
/-- The sum of a group. -/
def sumR (g : List RM) : Int := (g.map (fun x => wv x.ng x.xs)).sum
theorem sumR_snoc (g : List RM) (x : RM) : sumR (g ++ [x]) = sumR g + wv x.ng x.xs := by simp [sumR]
theorem B_sum : ∀ (g : List RM), (∀ x ∈ g, limB x.xs = true) → B (1000000 + g.length) (sumR g)
  | [], _ => by unfold B sumR az; simp [dig, digN]
  | x :: r, h => by
    have h1 := B_sum r (fun y hy => h y (List.mem_cons_of_mem _ hy))
    obtain ⟨h2, h3⟩ := limB_of (h x List.mem_cons_self)
    have h4 := (B_in x.ng h3).mono (n := 1000000 + r.length) (by omega)
    have := h4.add h1
    have e : sumR (x :: r) = wv x.ng x.xs + sumR r := by simp [sumR]
    rw [e]
    exact this.mono (by simp only [List.length_cons]; omega)
/-- A group's own form behind what is less. -/
theorem norm_group (v : Int) : ∀ (g : List RM) (p : List (Int × Int)), (∀ x ∈ p, x.1 < v) → (∀ x ∈ g, x.v = v) → normP (p ++ g.map prR) = normP p ++ onev v (sumR g) := by
  intro g p hp hg
  suffices h : ∀ (g : List RM) (s : Int), (∀ x ∈ g, x.v = v) → (g.map prR).foldl (fun a q => ins q.1 q.2 a) (normP p ++ onev v s) = normP p ++ onev v (s + sumR g) by
    have := h g 0 hg
    rw [Int.zero_add, show onev v 0 = [] from rfl, List.append_nil] at this
    rw [← this]
    unfold normP
    rw [List.foldl_append]
  intro g
  induction g with
  | nil => intro s _; simp [sumR]
  | cons x r ih =>
    intro s h
    have hx := h x List.mem_cons_self
    rw [List.map_cons, List.foldl_cons]
    rw [show (prR x).1 = v from hx, ins_behind v (prR x).2 s (normP p) (fun y hy => by obtain ⟨z, hz, e⟩ := mem_norm hy; have := hp z hz; omega), ih _ (fun y hy => h y (List.mem_cons_of_mem _ hy))]
    congr 2
    have e : sumR (x :: r) = wv x.ng x.xs + sumR r := by simp [sumR]
    rw [e]
    show s + wv x.ng x.xs + sumR r = _
    omega
theorem cM_head {w : World} {A : Option Addr} {x : RM} {r : List RM} (h : Kd.C kM w A (x :: r).length (x :: r)) : ∃ ad, A = some ad ∧ w.cell? ad = some (.int .i64 x.v) ∧ w.cell? ⟨ad.block, ad.off + 1, none⟩ = some (.bool x.ng) ∧ w.cell? ⟨ad.block, ad.off + 2, none⟩ = some (.slice x.A x.xs.length x.c) := by
  obtain ⟨_, _, hc⟩ := h
  obtain ⟨ad, rfl, hcs⟩ := hc (by simp)
  obtain ⟨c, _, hk, hcc⟩ := hcs 0 x rfl
  have hk : c = encM x := hk
  subst hk
  have h0 := hcc 0 _ rfl
  have h1 := hcc 1 _ rfl
  have h2 := hcc 2 _ rfl
  refine ⟨ad, rfl, ?_, ?_, ?_⟩
  · have e : ad.add (0 * kM.sz + 0) = ad := by cases ad; simp [Addr.add]
    rw [e] at h0; exact h0
  · rw [show 0 * kM.sz + 1 = 0 + 1 from rfl, add_field _ 0 1 (by omega)] at h1
    have e : ad.add 0 = ad := by cases ad; rfl
    rw [e] at h1; exact h1
  · rw [show 0 * kM.sz + 2 = 0 + 2 from rfl, add_field _ 0 2 (by omega)] at h2
    have e : ad.add 0 = ad := by cases ad; rfl
    rw [e] at h2; exact h2
theorem cM_at {w : World} {A : Option Addr} {n : Nat} {rs : List RM} (h : Kd.C kM w A n rs) (i : Int) (h0 : 0 ≤ i) (h1 : i < n) : ∃ ad x, A = some ad ∧ rs[i.toNat]? = some x ∧ w.cell? (ad.add (i.toNat * 3)) = some (.int .i64 x.v) ∧ w.cell? ⟨(ad.add (i.toNat * 3)).block, (ad.add (i.toNat * 3)).off + 1, none⟩ = some (.bool x.ng) ∧ w.cell? ⟨(ad.add (i.toNat * 3)).block, (ad.add (i.toNat * 3)).off + 2, none⟩ = some (.slice x.A x.xs.length x.c) := by
  obtain ⟨hl, _, hc⟩ := h
  obtain ⟨ad, rfl, hcs⟩ := hc (by omega)
  have hi : i.toNat < rs.length := by omega
  obtain ⟨c, _, hk, hcc⟩ := hcs i.toNat rs[i.toNat] (List.getElem?_eq_getElem hi)
  have hk : c = encM rs[i.toNat] := hk
  subst hk
  have g0 := hcc 0 _ rfl
  have g1 := hcc 1 _ rfl
  have g2 := hcc 2 _ rfl
  refine ⟨ad, rs[i.toNat], rfl, List.getElem?_eq_getElem hi, g0, ?_, ?_⟩
  · rw [add_field _ _ 1 (by omega)] at g1; exact g1
  · rw [add_field _ _ 2 (by omega)] at g2; exact g2
theorem drop_at {α β : Type} (f : α → β) (l : List α) (i : Int) (h0 : 0 ≤ i) (x : α) (hx : l[i.toNat]? = some x) : (l.take (i + 1).toNat).map f = (l.take i.toNat).map f ++ [f x] := by
  rw [show (i + 1).toNat = i.toNat + 1 by omega, List.take_add_one, hx]; simp
theorem cM_tail {w : World} {ad : Addr} {y : RM} {r : List RM} (h : Kd.C kM w (some ad) (y :: r).length (y :: r)) : Kd.C kM w (some ⟨ad.block, ad.off + 3, none⟩) r.length r := by
  obtain ⟨_, hn, hc⟩ := h
  obtain ⟨ad', e, hcs⟩ := hc (by simp)
  cases e
  refine ⟨rfl, by simp only [List.length_cons] at hn; omega, fun hp => ⟨_, rfl, fun j p hj => ?_⟩⟩
  obtain ⟨c, hl, hk, hcc⟩ := hcs (j + 1) p hj
  refine ⟨c, hl, hk, fun i u hu => ?_⟩
  have h3 := hcc i u hu
  have e1 : (⟨ad.block, ad.off + 3, none⟩ : Addr).add (j * kM.sz + i) = ad.add ((j + 1) * kM.sz + i) := by
    show (⟨ad.block, ad.off + 3, none⟩ : Addr).add (j * 3 + i) = ad.add ((j + 1) * 3 + i)
    have this := add_field ad 0 3 (by omega)
    rw [show ad.add 0 = ad by cases ad; rfl, Nat.zero_add] at this
    rw [show (j + 1) * 3 + i = 3 + (j * 3 + i) by omega, ← Go.Deep.add_add ad 3, this]
  rw [e1]; exact h3
theorem cM_none (w : World) (A : Option Addr) : Kd.C kM w A ([] : List RM).length [] := ⟨rfl, Nat.zero_le _, fun h => absurd h (Nat.lt_irrefl 0)⟩
theorem set2_other (W : World) (g a b : Nat) (u v : Value) (k : Nat) (h : k ≠ g) : ((W.setCell ⟨g, a, none⟩ u).setCell ⟨g, b, none⟩ v).heap[k]? = W.heap[k]? := (Below.heap_setCell _ _ _ k h).trans (Below.heap_setCell _ _ _ k h)
set_option maxHeartbeats 8000000 in
set_option maxRecDepth 100000 in
theorem lin_Norm.calls (a0_0 : Bool) (A0_1 : Option Addr) (c0_1 : Nat) (l0_1 : List Int) (A0_2 : Option Addr) (c0_2 : Nat) (l0_2 : List (S46)) (r1 : Bool) (r2 : List Int) (r3 : List (S46)) (w : World) (hr0_1 : Kd.C (Kd.int .u32) w A0_1 l0_1.length l0_1) (hc0_1 : l0_1.length ≤ c0_1) (hr0_2 : Kd.C k46 w A0_2 l0_2.length l0_2) (hc0_2 : l0_2.length ≤ c0_2) (h : lin_Norm.f a0_0 l0_1 l0_2 = some (r1, r2, r3)) :
    Calls Try.prog 20 #[.agg #[.bool a0_0, .slice A0_1 l0_1.length c0_1, .slice A0_2 l0_2.length c0_2]] w fun e w' => ∃ v1_ v2_ : Value, e = .returned (.agg #[.bool r1, v1_, v2_]) ∧ Kd.R (Kd.int .u32) 81 w' w.heap.size (fun _ => True) v1_ r2 ∧ Kd.S k46 46 w' w.heap.size (fun k_ => some k_ ≠ (v1_ : Value).ownBlock) v2_ r3 ∧ Below w.heap.size w w' := by
  have mixed : Try.prog.follows Departure.mixedOrders = true := by kernel_rfl
  have hu27 := Try.underlying27
  have hu24 := Try.underlying24
  have hu46 := Try.underlying46
  unfold lin_Norm.f at h
  split at h
  case isFalse => cases h
  case isTrue hg =>
  unfold guardL at hg
  rw [Bool.and_eq_true, Bool.and_eq_true, decide_eq_true_eq, List.all_eq_true] at hg
  obtain ⟨⟨hg1, hg2⟩, hg3⟩ := hg
  obtain ⟨hn1, hl1⟩ := limB_of hg1
  have hN := wNorm_ev a0_0 l0_1 hl1 (by omega)
  obtain ⟨rs, rfl, hrs, hld⟩ := raws hr0_2
  rw [List.length_map] at hrs hc0_2 hg2 ⊢
  rw [pr_toM] at h
  simp only [Option.some.injEq, Prod.mk.injEq] at h
  obtain ⟨rfl, rfl, hr3⟩ := h
  have hlm : ∀ x ∈ rs, limB x.xs = true := fun x hx => hg3 (toM x) (List.mem_map_of_mem hx)
  have HR1 := Aside0.mk hr0_1
  have HC1 := Aside0.mk hc0_1
  have HRS := Aside0.mk hrs
  have HLD := Aside0.mk hld
  have HLM := Aside0.mk hlm
  have HLEN := Aside0.mk hg2
  have HR3 := Aside0.mk hr3
  generalize hWn : W (wv a0_0 l0_1) = Wn at hN ⊢
  obtain ⟨nb, nl⟩ := Wn
  have HN := Aside0.mk hN
  clear hr0_1 hc0_1 hrs hld hlm hg2 hr3 hN hWn hg1 hg3 hn1 hl1 hc0_2 hr0_2
  go_enter Try.func20, Try.ntmps20
  go_wp2_with (first
    | ((with_reducible refine gate_dst (N := 1) rfl ?_); refine box_event ?hg (N := 1) ?hd (cs := #[.bool a0_0, .slice A0_1 l0_1.length c0_1, .slice A0_2 rs.length c0_2]) (t := 27) ?hr ?_; (case hd => rfl); (case hg => rfl); (case hr => first | (go_simp; done) | (go_simp; rfl)); intro gA hgA w1 hbox hb; have BA1 := Aside0.mk hbox; have GA := Aside0.mk (show w.heap.size ≤ gA by rw [hgA]; exact Nat.le_refl _); have HB1 := Aside0.mk hb; clear hgA hbox hb)
    | ((with_reducible refine gate_dst (N := 2) rfl ?_); refine box_event ?hg (N := 2) ?hd (cs := #[.bool false, .slice none 0 0, .slice none 0 0]) (t := 27) ?hr ?_; (case hd => rfl); (case hg => rfl); (case hr => first | (go_simp; done) | (go_simp; rfl)); intro gR hgR w2 hbox hb; have BR2 := Aside0.mk hbox; have BA2 := Aside0.mk (blk_below BA1.out hb); have GR := Aside0.mk (show w.heap.size ≤ gR by rw [hgR]; exact below_size HB1.out); have GRA := Aside0.mk (show gA ≠ gR by rw [hgR]; exact Nat.ne_of_lt (Array.getElem?_eq_some_iff.1 BA1.out).1); have HB2 := Aside0.mk (below_step HB1.out hb); clear hgR hbox hb; have hcA2 : w2.cell? ⟨gA, 2, none⟩ = some (.slice A0_2 rs.length c0_2) := (blk_cell BA2.out 2).trans rfl)
    | (go_at_call 57; (with_reducible refine (clone_mono _ _ rs _ ?s1 ?s2).mono ?_); (case s1 => exact Kd.C_below HRS.out HB2.out); (case s2 => have := HLEN.out; omega); rintro e w3 ⟨vl, rfl, ho, hb⟩; have HO3 := Aside0.mk ho; have HB23 := Aside0.mk hb; clear ho hb)
    | (go_at_call 58; refine (sort_mono w2.heap.size vl rs _ HO3.out ?s3).mono ?_; (case s3 => have := HLEN.out; omega); rintro e w4 ⟨rfl, ts, hp, hs, ho, hgr⟩; have HP := Aside0.mk hp; have HS := Aside0.mk hs; have HO4 := Aside0.mk ho; have HB24 := Aside0.mk (Below.grown HB23.out hgr (below_size HB23.out) (fun k hk => Kd.R_base HO3.out k hk)); clear hp hs ho hgr; have BA4 := Aside0.mk (blk_below BA2.out HB24.out); have BR4 := Aside0.mk (blk_below BR2.out HB24.out); have hcA0 : w4.cell? ⟨gA, 0, none⟩ = some (.bool a0_0) := (blk_cell BA4.out 0).trans rfl; have hcA1 : w4.cell? ⟨gA, 1, none⟩ = some (.slice A0_1 l0_1.length c0_1) := (blk_cell BA4.out 1).trans rfl; have HB4 := Aside0.mk (below_step HB2.out HB24.out))
    | (go_at_call 51; (with_reducible refine (whole_Norm.calls a0_0 _ _ l0_1 nb nl _ ?s4 HC1.out HN.out).mono ?_); (case s4 => exact Kd.C_below HR1.out HB4.out); rintro e w5 ⟨vC, rfl, ho, hb⟩; have HOC := Aside0.mk ho; have HB45 := Aside0.mk hb; have HB5 := Aside0.mk (below_step HB4.out hb); have BA5 := Aside0.mk (blk_below BA4.out hb); have BR5 := Aside0.mk (blk_below BR4.out hb); have HO5 := Aside0.mk (Kd.R_below HO4.out hb); clear ho hb; obtain ⟨AC, cC, eC⟩ := Kd.R_slice HOC.out; subst eC)
    | ((with_reducible refine gate_dst (N := 4) rfl ?_); refine box_event ?hg (N := 4) ?hd (cs := #[.bool false, .slice none 0 0, .slice none 0 0]) (t := 27) ?hr ?_; (case hd => rfl); (case hg => rfl); (case hr => first | (go_simp; done) | (go_simp; rfl)); intro gO hgO w6 hbox hb; have BO6 := Aside0.mk hbox; have BA6 := Aside0.mk (blk_below BA5.out hb); have BR6 := Aside0.mk (blk_below BR5.out hb); have GO := Aside0.mk (show w5.heap.size ≤ gO by rw [hgO]; exact Nat.le_refl _); have HB56 := Aside0.mk hb; clear hgO hbox hb; have hcz0 : w6.cell? ⟨gO, 0, none⟩ = some (.bool false) := (blk_cell BO6.out 0).trans rfl; have hcz1 : w6.cell? ⟨gO, 1, none⟩ = some (.slice none 0 0) := (blk_cell BO6.out 1).trans rfl; have hcz2 : w6.cell? ⟨gO, 2, none⟩ = some (.slice none 0 0) := (blk_cell BO6.out 2).trans rfl; have hfz0 := blk_frozen BO6.out 0; have hfz1 := blk_frozen BO6.out 1; have hfz2 := blk_frozen BO6.out 2))
  obtain ⟨AL, cL, eL⟩ := Kd.R_slice HO5.out
  subst eL
  have HCL := Aside0.mk (Kd.R_reads' HO5.out)
  have HPL := Aside0.mk HP.out.length_eq
  have HM := Aside0.mk (fun y (hy : y ∈ ts) => (⟨HLM.out y ((HP.out.mem_iff).1 hy), HLD.out y ((HP.out.mem_iff).1 hy)⟩ : limB y.xs = true ∧ Leads w y))
  go_loopg [3] (ts.length + 1) (fun kq v3 wr => ∃ (A : Option Addr) (c : Nat) (u : Value) (done rest os : List RM), v3 = .slice A rest.length c ∧ Aside0 (ts = done ++ rest) ∧ Aside0 (rest.length < kq) ∧ Aside0 (rest.length ≤ c ∧ Kd.C kM w5 A rest.length rest) ∧ Aside0 (∀ x ∈ done, ∀ y ∈ rest, x.v < y.v) ∧ Aside0 (os.map toM = (normP (done.map prR)).map enP) ∧ Aside0 (wr.heap[gO]? = some (.cells #[.bool nb, .slice AC nl.length cC, u] 27 (0, 0))) ∧ Aside0 (Kd.R kM 46 wr w5.heap.size (fun _ => True) u os) ∧ Aside0 (∀ x ∈ os, OwnK wr w5.heap.size x) ∧ Aside0 (Apart os) ∧ Aside0 (Below w5.heap.size w5 wr))
  case atStart =>
    refine ⟨AL, cL, .slice none 0 0, [], ts, [], rfl, ⟨rfl⟩, ⟨Nat.lt_succ_self _⟩, ⟨HCL.out.2⟩, ⟨by simp⟩, ⟨rfl⟩, ⟨?_⟩, ⟨Kd.R_nil _ _ _ _ _⟩, ⟨by simp⟩, ⟨List.Pairwise.nil⟩, ⟨?_⟩⟩
    · refine blk_put (cs := #[.bool nb, .slice AC nl.length cC, .slice none 0 0]) ?_ 2 _ rfl
      refine blk_put (cs := #[.bool nb, .slice none 0 0, .slice none 0 0]) ?_ 1 _ rfl
      refine blk_put (cs := #[.bool false, .slice none 0 0, .slice none 0 0]) ?_ 0 _ rfl
      exact BO6.out
    · repeat first | exact HB56.out | refine below_set ?_ GO.out
  case round =>
    clear hcz0 hcz1 hcz2 hfz0 hfz1 hfz2 hcA0 hcA1 hcA2
    obtain ⟨A, c, u, done, rest, os, rfl, HT, HQ, HC, HD, HO, BO, HU, HK, HA, HB⟩ := hrel
    obtain ⟨Au, cu, eu⟩ := Kd.R_slice HU.out
    subst eu
    have hco0 : wr.cell? ⟨gO, 0, none⟩ = some (.bool nb) := (blk_cell BO.out 0).trans rfl
    have hco1 : wr.cell? ⟨gO, 1, none⟩ = some (.slice AC nl.length cC) := (blk_cell BO.out 1).trans rfl
    have hco2 : wr.cell? ⟨gO, 2, none⟩ = some (.slice Au os.length cu) := (blk_cell BO.out 2).trans rfl
    cases gk with
    | zero => exact absurd HQ.out (Nat.not_lt_zero _)
    | succ k1 =>
    cases rest with
    | nil =>
      have BR := Aside0.mk (blk_below BR5.out HB.out)
      have hcr0 : wr.cell? ⟨gR, 0, none⟩ = some (.bool false) := (blk_cell BR.out 0).trans rfl
      have hcr1 : wr.cell? ⟨gR, 1, none⟩ = some (.slice none 0 0) := (blk_cell BR.out 1).trans rfl
      have hcr2 : wr.cell? ⟨gR, 2, none⟩ = some (.slice none 0 0) := (blk_cell BR.out 2).trans rfl
      have hfr0 := blk_frozen BR.out 0
      have hfr1 := blk_frozen BR.out 1
      have hfr2 := blk_frozen BR.out 2
      go_wp2
      have hd : done = ts := by have := HT.out; rw [List.append_nil] at this; exact this.symm
      have hne : ∀ (k : Nat) (cells : Array Value) (t : Nat), wr.heap[k]? = some (Obj.cells cells t (0, 0)) → t ≠ 27 → k ≠ gR := fun k cells t hk ht => box_ne BR.out hk (fun e => ht e.symm)
      have hfin : (normP (done.map prR)).map enP = r3 := by rw [hd, norm_perm (HP.out.map prR)]; exact HR3.out
      have hlb : w.heap.size ≤ w5.heap.size := HB5.out.size
      have hclt : ∀ k, (Value.slice AC nl.length cC).ownBlock = some k → k < w5.heap.size := Kd.R_lt HOC.out
      have hcown : OwnK w5 w.heap.size ⟨0, false, AC, cC, nl⟩ := Kd.R_lower HOC.out HB4.out.size
      refine bodyPost_ret (results_cell_row rfl _ _ gR 27 #[.bool nb, .slice AC nl.length cC, .slice Au os.length cu] (0, 0) _ rfl (by refine blk_put (cs := #[.bool nb, .slice AC nl.length cC, .slice none 0 0]) ?_ 2 _ rfl; refine blk_put (cs := #[.bool nb, .slice none 0 0, .slice none 0 0]) ?_ 1 _ rfl; refine blk_put (cs := #[.bool false, .slice none 0 0, .slice none 0 0]) ?_ 0 _ rfl; exact BR.out) Try.underlying27 rfl (by kernel_rfl)) rfl ?_
      refine ⟨_, _, rfl, ?_, ?_, ?_⟩
      · exact (hcown.below HB.out).move (fun k cells hk => set3_other _ _ _ _ _ _ _ _ k (hne k cells _ hk (by decide)))
      · rw [← hfin, ← HO.out]
        refine S_of_outs (Kd.R_lower (kM_move HU.out (fun k cells hk => set3_other _ _ _ _ _ _ _ _ k (hne k cells _ hk (by decide)))) hlb) (fun y hy => ((HK.out y hy).lower hlb).move (fun k cells hk => set3_other _ _ _ _ _ _ _ _ k (hne k cells _ hk (by decide)))) HA.out (fun k hk e => ?_) (fun y hy k hk e => ?_)
        · have h1 := Kd.R_base HU.out k hk
          have h2 := hclt k e.symm
          omega
        · have h1 := ((HK.out y hy).lt k hk).1
          have h2 := hclt k e.symm
          omega
      · repeat first | exact below_step HB5.out HB.out | refine below_set ?_ GR.out
    | cons x r =>
      obtain ⟨wo, rfl⟩ : ∃ wo : World, wo = wr := ⟨_, rfl⟩
      obtain ⟨ad, rfl, hx0, hx1, hx2⟩ := cM_head HC.out.2
      have hy0 := (HB.out.cell (World.block_lt_of_cell? w5 _ hx0)).trans hx0
      have d1 : decide (0 < (x :: r).length) = true := decide_eq_true (by simp)
      have d2 : decide ((0 : Int) < ((x :: r).length : Int)) = true := decide_eq_true (by simp only [List.length_cons]; omega)
      have p1 : (0 < (x :: r).length) = True := eq_true (by simp)
      have p2 : ((0 : Int) < ((x :: r).length : Int)) = True := eq_true (by simp only [List.length_cons]; omega)
      clear hx0 hx1 hx2
      go_wp2_with (first
        | ((with_reducible refine gate_dst (N := 5) rfl ?_); refine box_event ?hg (N := 5) ?hd (cs := #[.int .i64 0, .bool false, .slice none 0 0]) (t := 46) ?hr ?_; (case hd => rfl); (case hg => rfl); (case hr => first | (go_simp; done) | (go_simp; rfl)); intro gX hgX w7 hbox hb; have BX7 := Aside0.mk hbox; have GX := Aside0.mk (show wo.heap.size ≤ gX by rw [hgX]; exact Nat.le_refl _); have HB7 := Aside0.mk hb; clear hgX hbox hb; have hcz0 : w7.cell? ⟨gX, 0, none⟩ = some (.int .i64 0) := (blk_cell BX7.out 0).trans rfl; have hcz1 : w7.cell? ⟨gX, 1, none⟩ = some (.bool false) := (blk_cell BX7.out 1).trans rfl; have hcz2 : w7.cell? ⟨gX, 2, none⟩ = some (.slice none 0 0) := (blk_cell BX7.out 2).trans rfl; have hfz0 := blk_frozen BX7.out 0; have hfz1 := blk_frozen BX7.out 1; have hfz2 := blk_frozen BX7.out 2))
      clear d1 d2 p1 p2 hco0 hco1 hco2 hy0
      go_loopg [3] (r.length + 2) (fun kq v3 w' => ∃ (A2 : Option Addr) (c2 : Nat) (grp rest2 : List RM) (b : Bool) (xs : List Int) (A4 : Option Addr) (c4 : Nat), v3 = .slice A2 rest2.length c2 ∧ Aside0 (x :: r = grp ++ rest2) ∧ Aside0 (rest2.length < kq) ∧ Aside0 (rest2.length ≤ c2 ∧ Kd.C kM w5 A2 rest2.length rest2) ∧ Aside0 (∀ y ∈ grp, y.v = x.v) ∧ Aside0 ((grp = [] ∧ b = false ∧ xs = []) ∨ (grp ≠ [] ∧ (b, xs) = W (sumR grp))) ∧ Aside0 (w'.heap[gX]? = some (.cells #[.int .i64 x.v, .bool b, .slice A4 xs.length c4] 46 (0, 0))) ∧ Aside0 (Kd.R (Kd.int .u32) 81 w' wo.heap.size (fun _ => True) (.slice A4 xs.length c4) xs) ∧ Aside0 (Below wo.heap.size wo w'))
      case atStart =>
        refine ⟨some ad, c, [], x :: r, false, [], none, 0, rfl, ⟨rfl⟩, ⟨by simp⟩, ⟨HC.out⟩, ⟨by simp⟩, ⟨.inl ⟨rfl, rfl, rfl⟩⟩, ⟨?_⟩, ⟨Kd.R_nil _ _ _ _ _⟩, ⟨?_⟩⟩
        · refine blk_put (cs := #[.int .i64 x.v, .bool false, .slice none 0 0]) ?_ 2 _ rfl
          refine blk_put (cs := #[.int .i64 x.v, .bool false, .slice none 0 0]) ?_ 1 _ rfl
          refine blk_put (cs := #[.int .i64 0, .bool false, .slice none 0 0]) ?_ 0 _ rfl
          exact BX7.out
        · repeat first | exact HB7.out | refine below_set ?_ GX.out
      case round =>
        clear hcz0 hcz1 hcz2 hfz0 hfz1 hfz2
        obtain ⟨A2, c2, grp, rest2, b, xs, A4, c4, rfl, HT2, HQ2, HC2, HG, HW, BX, HV, HB2'⟩ := hrel
        have hcx0 : wr.cell? ⟨gX, 0, none⟩ = some (.int .i64 x.v) := (blk_cell BX.out 0).trans rfl
        have hcx1 : wr.cell? ⟨gX, 1, none⟩ = some (.bool b) := (blk_cell BX.out 1).trans rfl
        have hcx2 : wr.cell? ⟨gX, 2, none⟩ = some (.slice A4 xs.length c4) := (blk_cell BX.out 2).trans rfl
        have hfx1 := blk_frozen BX.out 1
        have hfx2 := blk_frozen BX.out 2
        have hts : ts = done ++ (grp ++ rest2) := by rw [← HT2.out]; exact HT.out
        have HTS := Aside0.mk hts
        have hgl : grp.length ≤ 1000000 := by have h1 := congrArg List.length hts; have h2 := HPL.out; have h3 := HLEN.out; rw [List.length_append, List.length_append] at h1; omega
        have hsum : wv b xs = sumR grp ∧ Lim xs ∧ xs.length ≤ 3000000 := by
          rcases HW.out with ⟨rfl, rfl, rfl⟩ | ⟨_, hw⟩
          · exact ⟨rfl, (fun _ h => absurd h List.not_mem_nil), by simp⟩
          · have h1 : b = (W (sumR grp)).1 := congrArg Prod.fst hw
            have h2 : xs = (W (sumR grp)).2 := congrArg Prod.snd hw
            have h3 := (B_sum grp (fun y hy => (HM.out y (by rw [hts]; simp [hy])).1)).len
            rw [h1, h2]
            exact ⟨wv_W _, W_lim _, by omega⟩
        have HSUM := Aside0.mk hsum
        clear hts hsum
        cases gk with
        | zero => exact absurd HQ2.out (Nat.not_lt_zero _)
        | succ k2 =>
        by_cases hex : ∃ y r2, rest2 = y :: r2 ∧ y.v = x.v
        · obtain ⟨y, r2, rfl, hyv⟩ := hex
          obtain ⟨ad2, rfl, hx0, hx1, hx2⟩ := cM_head HC2.out.2
          have hb5 := below_step HB.out HB2'.out
          have hy0 := (hb5.cell (World.block_lt_of_cell? w5 _ hx0)).trans hx0
          have hy1 := (hb5.cell (World.block_lt_of_cell? w5 _ hx1)).trans hx1
          have hy2 := (hb5.cell (World.block_lt_of_cell? w5 _ hx2)).trans hx2
          have d1 : decide (0 < (y :: r2).length) = true := decide_eq_true (by simp)
          have d2 : decide ((0 : Int) < ((y :: r2).length : Int)) = true := decide_eq_true (by simp only [List.length_cons]; omega)
          have p1 : (0 < (y :: r2).length) = True := eq_true (by simp)
          have p2 : ((0 : Int) < ((y :: r2).length : Int)) = True := eq_true (by simp only [List.length_cons]; omega)
          have b1 : (y.v == x.v) = true := beq_iff_eq.2 hyv
          have p3 : (1 ≤ (r2.length : Int) + 1) = True := eq_true (by omega)
          obtain ⟨hyl, hyd⟩ := HM.out y (by rw [HTS.out]; simp)
          obtain ⟨hyn, hyL⟩ := limB_of hyl
          obtain ⟨kA, hkA⟩ := (wAdd_ev b y.ng xs y.xs HSUM.out.2.1 hyL (by have := HSUM.out.2.2; omega) (by omega)).rounds
          rw [HSUM.out.1, ← sumR_snoc] at hkA
          generalize hWE' : W (sumR (grp ++ [y])) = Wn at hkA
          obtain ⟨nb2, nl2⟩ := Wn
          have HKA := Aside0.mk hkA
          have HWE := Aside0.mk hWE'
          have HYD := Aside0.mk (hyd.below (below_step HB5.out hb5))
          have HYV := Aside0.mk hyv
          clear hx0 hx1 hx2 hb5 hyl hyd hyn hyL hkA hWE' hyv
          go_wp2_with fail
          go_big_region_o
          go_wp2_with fail
          refine start_ (n := 12) (S := fun w' => w'.cell? ⟨gX, 1, none⟩ = some (.bool b) ∧ w'.cell? ⟨gX, 2, none⟩ = some (.slice A4 xs.length c4) ∧ w'.cell? ⟨ad2.block, ad2.off + 1, none⟩ = some (.bool y.ng) ∧ w'.cell? ⟨ad2.block, ad2.off + 2, none⟩ = some (.slice y.A y.xs.length y.c)) (ds := [10]) #[false, false, false, false, false, false, false, false, false, false, false, false] (by kernel_rfl) rfl rfl ⟨hcx1, hcx2, hy1, hy2⟩ (fun hHeld => ?_)
          refine pure_ (i := 0) (N := some 35) (v := ?_) (a' := ?_) #[true, false, false, false, false, false, false, false, false, false, false, false] rfl rfl (by kernel_rfl) (fun _ _ _ h => h) (Or.inl ⟨by rfl, ?_⟩) ?_ ?_
          rotate_left
          · intro w'
            go_simp
            with_reducible rfl
          rotate_left
          · simp only [Act.put, List.setIfInBounds_toArray, List.set_cons_zero, List.set_cons_succ, i64_w, i32_w]
            rfl
          refine pure_ (i := 2) (N := some 37) (v := ?_) (a' := ?_) #[true, false, true, false, false, false, false, false, false, false, false, false] rfl rfl (by kernel_rfl) (fun _ _ _ h => h) (Or.inl ⟨by rfl, ?_⟩) ?_ ?_
          rotate_left
          · intro w'
            go_simp
            with_reducible rfl
          rotate_left
          · simp only [Act.put, List.setIfInBounds_toArray, List.set_cons_zero, List.set_cons_succ, i64_w, i32_w]
            rfl
          refine pure_ (i := 3) (N := some 38) (v := ?_) (a' := ?_) #[true, false, true, true, false, false, false, false, false, false, false, false] rfl rfl (by kernel_rfl) (fun _ _ _ h => h) (Or.inl ⟨by rfl, ?_⟩) ?_ ?_
          rotate_left
          · intro w'
            go_simp
            with_reducible rfl
          rotate_left
          · simp only [Act.put, List.setIfInBounds_toArray, List.set_cons_zero, List.set_cons_succ, i64_w, i32_w]
            rfl
          refine pure_ (i := 4) (N := some 39) (v := ?_) (a' := ?_) #[true, false, true, true, true, false, false, false, false, false, false, false] rfl rfl (by kernel_rfl) (fun _ _ _ h => h) (Or.inl ⟨by rfl, ?_⟩) ?_ ?_
          rotate_left
          · intro w'
            go_simp
            with_reducible rfl
          rotate_left
          · simp only [Act.put, List.setIfInBounds_toArray, List.set_cons_zero, List.set_cons_succ, i64_w, i32_w]
            rfl
          refine pure_ (i := 7) (N := some 42) (v := ?_) (a' := ?_) #[true, false, true, true, true, false, false, true, false, false, false, false] rfl rfl (by kernel_rfl) (fun _ _ _ h => h) (Or.inl ⟨by rfl, ?_⟩) ?_ ?_
          rotate_left
          · intro w'
            go_simp
            with_reducible rfl
          rotate_left
          · simp only [Act.put, List.setIfInBounds_toArray, List.set_cons_zero, List.set_cons_succ, i64_w, i32_w]
            rfl
          refine pure_ (i := 8) (N := some 43) (v := ?_) (a' := ?_) #[true, false, true, true, true, false, false, true, true, false, false, false] rfl rfl (by kernel_rfl) (fun _ _ _ h => h) (Or.inl ⟨by rfl, ?_⟩) ?_ ?_
          rotate_left
          · intro w'
            go_simp
            with_reducible rfl
          rotate_left
          · simp only [Act.put, List.setIfInBounds_toArray, List.set_cons_zero, List.set_cons_succ, i64_w, i32_w]
            rfl
          refine take_ (i := 1) (N := some 36) (v := ?_) (a' := ?_) #[true, true, true, true, true, false, false, true, true, false, false, false] rfl rfl (by kernel_rfl) (fun _ _ _ h => h) (Or.inl ⟨by rfl, ?_⟩) hHeld ?_ ?_
          rotate_left
          · rintro w' ⟨s0, s1, s2, s3⟩
            go_simp
            with_reducible rfl
          rotate_left
          · simp only [Act.put, List.setIfInBounds_toArray, List.set_cons_zero, List.set_cons_succ, i64_w, i32_w]
            rfl
          refine take_ (i := 5) (N := some 40) (v := ?_) (a' := ?_) #[true, true, true, true, true, true, false, true, true, false, false, false] rfl rfl (by kernel_rfl) (fun _ _ _ h => h) (Or.inl ⟨by rfl, ?_⟩) hHeld ?_ ?_
          rotate_left
          · rintro w' ⟨s0, s1, s2, s3⟩
            go_simp
            with_reducible rfl
          rotate_left
          · simp only [Act.put, List.setIfInBounds_toArray, List.set_cons_zero, List.set_cons_succ, i64_w, i32_w]
            rfl
          refine one_ (i := 6) (N := some 41) #[true, true, true, true, true, true, true, true, true, false, false, false] rfl rfl (by kernel_rfl) (by decide) (fun K hK => ?_)
          refine goes_ Try.func36 (by kernel_rfl) rfl #[.agg #[.bool b, .slice A4 xs.length c4], .agg #[.bool y.ng, .slice y.A y.xs.length y.c]] (by rfl) rfl rfl (by simp only [List.map_toArray, List.map_cons, List.map_nil]; rfl) ?_
          with_reducible refine (whole_Add.calls kA b _ _ xs y.ng _ _ y.xs nb2 nl2 _ ?s1 ?s2 ?s3 ?s4 HKA.out).mono ?_
          (case s1 => exact (Kd.R_reads' HV.out).2.2)
          (case s2 => exact (Kd.R_reads' HV.out).2.1)
          (case s3 => exact HYD.out.2)
          (case s4 => exact HYD.out.1)
          rintro e w8 ⟨v8, rfl, ho, hb⟩
          obtain ⟨A8, c8, e8⟩ := Kd.R_slice ho
          subst e8
          have HV8 := Aside0.mk ho
          have HB8 := Aside0.mk (below_step (show Below wo.heap.size wo wr.drew.drew by repeat first | exact HB2'.out | apply below_drew1) hb)
          have BX8 := Aside0.mk (blk_below (show wr.drew.drew.heap[gX]? = _ from BX.out) hb)
          have hz1 := (hb.cell (World.block_lt_of_cell? wr _ hy1)).trans hy1
          have hz2 := (hb.cell (World.block_lt_of_cell? wr _ hy2)).trans hy2
          have hcx3 : w8.cell? ⟨gX, 1, none⟩ = some (.bool b) := (blk_cell BX8.out 1).trans rfl
          have hcx4 : w8.cell? ⟨gX, 2, none⟩ = some (.slice A4 xs.length c4) := (blk_cell BX8.out 2).trans rfl
          have hfx3 := blk_frozen BX8.out 1
          have hfx4 := blk_frozen BX8.out 2
          clear ho hb
          refine ⟨_, rfl, ?_⟩
          refine hK.out _ _ ⟨hcx3, hcx4, hz1, hz2⟩ (fun hHeld => ?_)
          clear hK K
          refine norm_ (a' := ?_) ?_ ?_
          rotate_left
          · show Act.put _ (some 41) _ = _
            simp only [Act.put, List.setIfInBounds_toArray, List.set_cons_zero, List.set_cons_succ, i64_w, i32_w]
            rfl
          refine pure_ (i := 9) (N := some 44) (v := ?_) (a' := ?_) #[true, true, true, true, true, true, true, true, true, true, false, false] rfl rfl (by kernel_rfl) (fun _ _ _ h => h) (Or.inl ⟨by rfl, ?_⟩) ?_ ?_
          rotate_left
          · intro w'
            go_simp
            with_reducible rfl
          rotate_left
          · simp only [Act.put, List.setIfInBounds_toArray, List.set_cons_zero, List.set_cons_succ, i64_w, i32_w]
            rfl
          refine last_ (i := 10) (N := none) #[true, true, true, true, true, true, true, true, true, true, true, false] rfl rfl (by kernel_rfl) (by decide) (fun K hK => ?_)
          refine skip_ (w1 := ?_) (by rfl) rfl ?_ ?_
          rotate_left
          · go_simp
            rfl
          refine hK.out _ _ ?_
          clear hK K
          refine pure_ (i := 11) (N := some 3) (v := ?_) (a' := ?_) #[true, true, true, true, true, true, true, true, true, true, true, true] rfl rfl (by kernel_rfl) (fun _ _ _ h => h) (Or.inl ⟨by rfl, ?_⟩) ?_ ?_
          rotate_left
          · intro w'
            go_simp
            with_reducible rfl
          rotate_left
          · simp only [Act.put, List.setIfInBounds_toArray, List.set_cons_zero, List.set_cons_succ, i64_w, i32_w]
            rfl
          refine done_ (by kernel_rfl) ?_
          go_wp2_with fail
          all_goals (
            have hKX : OwnK ((w8.setCell ⟨gX, 1, none⟩ (.bool nb2)).setCell ⟨gX, 2, none⟩ (.slice A8 nl2.length c8)) wo.heap.size ⟨0, false, A8, c8, nl2⟩ :=
              OwnK.move (x := ⟨0, false, A8, c8, nl2⟩) (Kd.R_lower HV8.out HB2'.out.size) (fun k cells hk => set2_other _ _ _ _ _ _ k (box_ne BX8.out hk (by decide)))
            have hBX : ((w8.setCell ⟨gX, 1, none⟩ (.bool nb2)).setCell ⟨gX, 2, none⟩ (.slice A8 nl2.length c8)).heap[gX]? = some (.cells #[.int .i64 x.v, .bool nb2, .slice A8 nl2.length c8] 46 (0, 0)) := by
              refine blk_put (cs := #[.int .i64 x.v, .bool nb2, .slice A4 xs.length c4]) ?_ 2 _ rfl
              refine blk_put (cs := #[.int .i64 x.v, .bool b, .slice A4 xs.length c4]) ?_ 1 _ rfl
              exact BX8.out
            have hBB : Below wo.heap.size wo ((w8.setCell ⟨gX, 1, none⟩ (.bool nb2)).setCell ⟨gX, 2, none⟩ (.slice A8 nl2.length c8)) := by repeat first | exact HB8.out | refine below_set ?_ GX.out
            have hq : r2.length < k2 := by have := HQ2.out; simp only [List.length_cons] at this; omega
            have hg2 : ∀ z ∈ grp ++ [y], z.v = x.v := fun z hz => (List.mem_append.1 hz).elim (HG.out z) (fun h => by rw [List.mem_singleton.1 h]; exact HYV.out)
            have hcap := HC2.out.1
            rw [List.length_cons] at hcap
            go_roundg k2
            case measure => omega
            case rel =>
              refine ⟨_, _, grp ++ [y], r2, nb2, nl2, A8, c8, rfl, ⟨by rw [HT2.out]; simp⟩, ⟨hq⟩, ⟨?_⟩, ⟨hg2⟩, ⟨.inr ⟨by simp, HWE.out.symm⟩⟩, ⟨hBX⟩, ⟨hKX⟩, ⟨hBB⟩⟩
              first
                | exact ⟨by omega, cM_tail HC2.out.2⟩
                | (have e0 : r2 = [] := List.eq_nil_of_length_eq_zero (by omega)
                   subst e0
                   exact ⟨Nat.le_refl _, cM_none _ _⟩))
        · have hwf : grp ≠ [] ∧ (b, xs) = W (sumR grp) := by
            rcases HW.out with ⟨rfl, _⟩ | hw
            · exact absurd ⟨x, r, HT2.out.symm, rfl⟩ hex
            · exact hw
          have HWF := Aside0.mk hwf
          have hrest : rest2 = [] ∨ ∃ y r2, rest2 = y :: r2 ∧ y.v ≠ x.v := by
            cases rest2 with
            | nil => exact .inl rfl
            | cons y r2 => exact .inr ⟨y, r2, rfl, fun e => hex ⟨y, r2, rfl, e⟩⟩
          have HREST := Aside0.mk hrest
          have hHD : ∀ a ∈ done ++ grp, ∀ z ∈ rest2, a.v < z.v := by
            have hsrt := HS.out
            rw [HTS.out, List.pairwise_append] at hsrt
            obtain ⟨_, hs2, _⟩ := hsrt
            rw [List.pairwise_append] at hs2
            obtain ⟨_, hs3, hs4⟩ := hs2
            intro a ha z hz
            rcases List.mem_append.1 ha with ha | ha
            · exact HD.out a ha z (by rw [HT2.out]; simp [hz])
            · have ev := HG.out a ha
              have h1 := hs4 a ha z hz
              rcases hrest with rfl | ⟨y, r2, rfl, hyv⟩
              · cases hz
              · have h2 := hs4 a ha y List.mem_cons_self
                rcases List.mem_cons.1 hz with rfl | hz
                · omega
                · have h3 := (List.pairwise_cons.1 hs3).1 z hz
                  omega
          have HHD := Aside0.mk hHD
          have hgrp := norm_group x.v grp (done.map prR) (fun q hq => by
            obtain ⟨a, ha, rfl⟩ := List.mem_map.1 hq
            exact HD.out a ha x List.mem_cons_self) HG.out
          rw [← List.map_append] at hgrp
          have hsgv := wSign_ev b xs HSUM.out.2.1 (by have := HSUM.out.2.2; omega)
          rw [HSUM.out.1] at hsgv
          have hq3 : rest2.length < k1 := by
            have h1 := HQ.out
            have h2 := congrArg List.length HT2.out
            have h3 : 0 < grp.length := List.length_pos_iff.2 hwf.1
            rw [List.length_append] at h2
            omega
          have HQ3 := Aside0.mk hq3
          clear hwf hex hHD hq3
          by_cases hz : sumR grp = 0
          · have hs0 : sg (sumR grp) = 0 := by rw [hz]; rfl
            rw [hs0] at hsgv
            rw [show onev x.v (sumR grp) = [] by unfold onev; rw [if_pos hz], List.append_nil] at hgrp
            have HGRP := Aside0.mk hgrp
            obtain ⟨s, hs⟩ : ∃ s : Int, s = 0 := ⟨0, rfl⟩
            rw [← hs] at hsgv
            have HSG := Aside0.mk hsgv
            have c1 : (s != 0) = false := by rw [hs]; rfl
            clear hgrp hsgv hs0 hz hs
            rcases hrest with rfl | ⟨y, r2, rfl, hyv⟩
            rotate_left
            obtain ⟨ad2, rfl, hx0, hx1, hx2⟩ := cM_head HC2.out.2
            have hb5 := below_step HB.out HB2'.out
            have hy0 := (hb5.cell (World.block_lt_of_cell? w5 _ hx0)).trans hx0
            have d1 : decide (0 < (y :: r2).length) = true := decide_eq_true (by simp)
            have d2 : decide ((0 : Int) < ((y :: r2).length : Int)) = true := decide_eq_true (by simp only [List.length_cons]; omega)
            have p1 : (0 < (y :: r2).length) = True := eq_true (by simp)
            have p2 : ((0 : Int) < ((y :: r2).length : Int)) = True := eq_true (by simp only [List.length_cons]; omega)
            have b1 : (y.v == x.v) = false := beq_eq_false_iff_ne.2 hyv
            clear hx0 hx1 hx2 hb5
            all_goals go_wp2_with fail
            all_goals go_big_region_o
            all_goals go_wp2_with (go_at_call 19; (with_reducible refine (whole_Sign.calls b _ _ xs s _ ?s1 ?s2 HSG.out).mono ?_); (case s1 => exact (Kd.R_reads' HV.out).2.2); (case s2 => exact (Kd.R_reads' HV.out).2.1); rintro e w9 ⟨rfl, hb⟩; have HB9 := Aside0.mk (below_step (show Below wo.heap.size wo wr.drew by repeat first | exact HB2'.out | apply below_drew1) hb); have BX9 := Aside0.mk (blk_below (show wr.drew.heap[gX]? = _ from BX.out) hb); have HV9 := Aside0.mk (Kd.R_below (show Kd.R (Kd.int .u32) 81 wr.drew wo.heap.size (fun _ => True) (.slice A4 xs.length c4) xs from HV.out) hb); clear hb)
            all_goals (go_roundg k1)
            all_goals (try (case measure => omega))
            all_goals (case rel => first
              | exact ⟨_, _, .slice Au os.length cu, done ++ grp, y :: r2, os, rfl, ⟨by rw [HTS.out, List.append_assoc]⟩, HQ3, HC2, HHD, ⟨by rw [HGRP.out]; exact HO.out⟩, ⟨blk_below BO.out HB9.out⟩, ⟨Kd.R_below HU.out HB9.out⟩, ⟨fun z hz => (HK.out z hz).below HB9.out⟩, HA, ⟨below_step HB.out HB9.out⟩⟩
              | exact ⟨_, _, .slice Au os.length cu, done ++ grp, [], os, rfl, ⟨by rw [HTS.out, List.append_assoc]⟩, HQ3, HC2, HHD, ⟨by rw [HGRP.out]; exact HO.out⟩, ⟨blk_below BO.out HB9.out⟩, ⟨Kd.R_below HU.out HB9.out⟩, ⟨fun z hz => (HK.out z hz).below HB9.out⟩, HA, ⟨below_step HB.out HB9.out⟩⟩)
          · have hs0 : sg (sumR grp) ≠ 0 := by unfold sg; split <;> (try split) <;> omega
            rw [show onev x.v (sumR grp) = [(x.v, sumR grp)] by unfold onev; rw [if_neg hz]] at hgrp
            have HGRP := Aside0.mk hgrp
            obtain ⟨s, hs⟩ : ∃ s : Int, s = sg (sumR grp) := ⟨_, rfl⟩
            rw [← hs] at hsgv hs0
            have HSG := Aside0.mk hsgv
            have c1 : (s != 0) = true := bne_iff_ne.2 hs0
            have HOL := Aside0.mk (show os.length ≤ 1000000 by
              have h1 := congrArg List.length HO.out
              have h2 := norm_len (done.map prR)
              have h3 := congrArg List.length HTS.out
              have h4 := HPL.out
              have h5 := HLEN.out
              rw [List.length_map, List.length_map] at h1
              rw [List.length_map] at h2
              rw [List.length_append] at h3
              omega)
            have hmap : (os ++ [(⟨x.v, b, A4, c4, xs⟩ : RM)]).map toM = (normP ((done ++ grp).map prR)).map enP := by
              rw [HGRP.out, List.map_append, List.map_append, HO.out]
              have e1 : b = (W (sumR grp)).1 := congrArg Prod.fst HWF.out.2
              have e2 : xs = (W (sumR grp)).2 := congrArg Prod.snd HWF.out.2
              rw [e1, e2]; rfl
            have HMAP := Aside0.mk hmap
            clear hmap
            clear hgrp hsgv hs0 hz hs
            rcases hrest with rfl | ⟨y, r2, rfl, hyv⟩
            rotate_left
            obtain ⟨ad2, rfl, hx0, hx1, hx2⟩ := cM_head HC2.out.2
            have hb5 := below_step HB.out HB2'.out
            have hy0 := (hb5.cell (World.block_lt_of_cell? w5 _ hx0)).trans hx0
            have d1 : decide (0 < (y :: r2).length) = true := decide_eq_true (by simp)
            have d2 : decide ((0 : Int) < ((y :: r2).length : Int)) = true := decide_eq_true (by simp only [List.length_cons]; omega)
            have p1 : (0 < (y :: r2).length) = True := eq_true (by simp)
            have p2 : ((0 : Int) < ((y :: r2).length : Int)) = True := eq_true (by simp only [List.length_cons]; omega)
            have b1 : (y.v == x.v) = false := beq_eq_false_iff_ne.2 hyv
            clear hx0 hx1 hx2 hb5
            all_goals go_wp2_with fail
            all_goals go_big_region_o
            all_goals go_wp2_with (first
              | (go_at_call 19; (with_reducible refine (whole_Sign.calls b _ _ xs s _ ?s1 ?s2 HSG.out).mono ?_); (case s1 => exact (Kd.R_reads' HV.out).2.2); (case s2 => exact (Kd.R_reads' HV.out).2.1); rintro e w9 ⟨rfl, hb⟩; have HB9 := Aside0.mk (below_step (show Below wo.heap.size wo wr.drew by repeat first | exact HB2'.out | apply below_drew1) hb); have BX9 := Aside0.mk (blk_below (show wr.drew.heap[gX]? = _ from BX.out) hb); have HV9 := Aside0.mk (Kd.R_below (show Kd.R (Kd.int .u32) 81 wr.drew wo.heap.size (fun _ => True) (.slice A4 xs.length c4) xs from HV.out) hb); have BO9 := Aside0.mk (blk_below BO.out HB9.out); have hcx0 : w9.cell? ⟨gX, 0, none⟩ = some (.int .i64 x.v) := (blk_cell BX9.out 0).trans rfl; have hcx1 : w9.cell? ⟨gX, 1, none⟩ = some (.bool b) := (blk_cell BX9.out 1).trans rfl; have hcx2 : w9.cell? ⟨gX, 2, none⟩ = some (.slice A4 xs.length c4) := (blk_cell BX9.out 2).trans rfl; have hco2 : w9.cell? ⟨gO, 2, none⟩ = some (.slice Au os.length cu) := (blk_cell BO9.out 2).trans rfl; clear hb)
              | ((with_reducible refine gate_builtin (b := .append) (xs := #[.tmp 50, .tmp 52]) rfl ?_); at_builtin; refine Kd.R_append kM (w0 := w5) w5.heap.size rfl (.tmp 50) (.tmp 52) 25 46 (.agg #[.int .i64 0, .bool false, .slice none 0 0]) 40 rfl Try.underlying25 infoM rfl (by decide) (by decide) (.slice Au os.length cu) os ⟨x.v, b, A4, c4, xs⟩ (encM ⟨x.v, b, A4, c4, xs⟩) (fun _ => True) (fun _ => False) rfl rfl rfl (fun _ h => h.elim) (fun _ _ => trivial) ?aO ?aB ?aS ?aL ?_; (case aO => exact Kd.R_below HU.out HB9.out); (case aB => exact below_step HB.out HB9.out); (case aS => exact (below_step HB.out HB9.out).size); (case aL => have := HOL.out; omega); intro v10 w10 ho hb hg hat; obtain ⟨A10, c10, e10⟩ := Kd.R_slice ho; subst e10; rw [List.length_append, List.length_singleton] at ho; have HO10 := Aside0.mk ho; have HB10 := Aside0.mk hb; have HG10 := Aside0.mk hg; have BO10 := Aside0.mk ((hg.block gO (Array.getElem?_eq_some_iff.1 BO9.out).1 (fun e => by obtain ⟨cs, hc⟩ := Kd.R_typed (Kd.R_below HU.out HB9.out) gO e.symm; exact absurd rfl (box_ne BO9.out hc (by decide)))).trans BO9.out); clear ho hb hg hat; have hcp2 : w10.cell? ⟨gO, 2, none⟩ = some (.slice Au os.length cu) := (blk_cell BO10.out 2).trans rfl; have hfp2 := blk_frozen BO10.out 2))
            all_goals (go_roundg k1)
            all_goals (try (case measure => omega))
            all_goals (have hkg := keeps_grown HG10.out (Kd.R_typed (Kd.R_below HU.out HB9.out)) (by decide))
            all_goals (have hks := fun (k : Nat) (cells : Array Value) (t : Nat) (ht : t ≠ 27) (hk : w10.heap[k]? = some (Obj.cells cells t (0, 0))) => Below.heap_setCell w10 ⟨gO, 2, none⟩ (.slice A10 (os.length + 1) c10) k (box_ne BO10.out hk (fun e => ht e.symm)))
            all_goals (have hbo : (w10.setCell ⟨gO, 2, none⟩ (.slice A10 (os.length + 1) c10)).heap[gO]? = some (.cells #[.bool nb, .slice AC nl.length cC, .slice A10 (os.length + 1) c10] 27 (0, 0)) := blk_put (cs := #[.bool nb, .slice AC nl.length cC, .slice Au os.length cu]) BO10.out 2 _ rfl)
            all_goals (have hkk : ∀ z ∈ os ++ [(⟨x.v, b, A4, c4, xs⟩ : RM)], OwnK (w10.setCell ⟨gO, 2, none⟩ (.slice A10 (os.length + 1) c10)) w5.heap.size z := fun z hz => (List.mem_append.1 hz).elim (fun h => (((HK.out z h).below HB9.out).move hkg).move (fun k cells hk => hks k cells _ (by decide) hk)) (fun h => by rw [List.mem_singleton.1 h]; exact ((OwnK.lower (x := ⟨x.v, b, A4, c4, xs⟩) HV9.out HB.out.size).move hkg).move (fun k cells hk => hks k cells _ (by decide) hk)))
            all_goals (have hap : Apart (os ++ [(⟨x.v, b, A4, c4, xs⟩ : RM)]) := apart_snoc HA.out (fun z hz k hk e => by have h1 := ((HK.out z hz).lt k hk).2; have h2 := Kd.R_base HV9.out k e; omega))
            all_goals (case rel => first
              | exact ⟨_, _, _, done ++ grp, y :: r2, os ++ [⟨x.v, b, A4, c4, xs⟩], rfl, ⟨by rw [HTS.out, List.append_assoc]⟩, HQ3, HC2, HHD, HMAP, ⟨hbo⟩, ⟨kM_move HO10.out (fun k cells hk => hks k cells _ (by decide) hk)⟩, ⟨hkk⟩, ⟨hap⟩, ⟨below_set HB10.out GO.out⟩⟩
              | exact ⟨_, _, _, done ++ grp, [], os ++ [⟨x.v, b, A4, c4, xs⟩], rfl, ⟨by rw [HTS.out, List.append_assoc]⟩, HQ3, HC2, HHD, HMAP, ⟨hbo⟩, ⟨kM_move HO10.out (fun k cells hk => hks k cells _ (by decide) hk)⟩, ⟨hkk⟩, ⟨hap⟩, ⟨below_set HB10.out GO.out⟩⟩)
end Go.Proofs.Ytdicjemjmlbmlaa.H
/- lin.Value: what a sum is under an assignment, by its numbers. -/
namespace Go.Proofs.Ytdicjemjmlbmlaa.H
set_option linter.unusedSimpArgs false
set_option linter.unusedVariables false
open Go.RowKit Go.Proofs.YtdicjemjmlbmlaaW.PrintWords Go.Proofs.YtdicjemjmlbmlaaW.PrintLast Go.Proofs.YtdicjemjmlbmlaaW.PrintMore Go.Proofs.Ytdicjemjmlbmlaa.PA Go.Proofs.Ytdicjemjmlbmlaa.V Go.Proofs.Ytdicjemjmlbmlaa.S
attribute [local go_sem] box_twice
def idxM (v : Int) : List RM → Int → Int
  | [], _ => -1
  | x :: r, i => if x.v = v then i else idxM v r (i + 1)
theorem idxM_step (v : Int) (l : List RM) (i : Nat) (x : RM) (h : l[i]? = some x) : idxM v (l.drop i) (i : Int) = if x.v = v then (i : Int) else idxM v (l.drop (i + 1)) ((i + 1 : Nat) : Int) := by
  obtain ⟨hi, e⟩ := List.getElem?_eq_some_iff.1 h
  rw [List.drop_eq_getElem_cons hi, e]
  rfl
/-- What an assignment says of a variable. -/
def lookV (v : Int) : List (Int × Int) → Int
  | [] => 0
  | q :: r => if q.1 = v then q.2 else lookV v r
theorem idx_look (v : Int) : ∀ (l : List RM) (i : Int), 0 ≤ i → (idxM v l i = -1 ∧ lookV v (l.map prR) = 0) ∨ (∃ x : RM, i ≤ idxM v l i ∧ idxM v l i < i + l.length ∧ l[(idxM v l i - i).toNat]? = some x ∧ lookV v (l.map prR) = wv x.ng x.xs)
  | [], i, _ => .inl ⟨rfl, rfl⟩
  | x :: r, i, h0 => by
    unfold idxM
    by_cases h : x.v = v
    · rw [if_pos h]
      right
      refine ⟨x, Int.le_refl i, by simp only [List.length_cons]; omega, by simp, ?_⟩
      rw [List.map_cons]; unfold lookV; rw [if_pos (show (prR x).1 = v from h)]; rfl
    · rw [if_neg h]
      rw [List.map_cons, show lookV v (prR x :: r.map prR) = lookV v (r.map prR) from if_neg (show ¬(prR x).1 = v from h)]
      rcases idx_look v r (i + 1) (by omega) with ⟨h1, h2⟩ | ⟨y, h1, h2, h3, h4⟩
      · exact .inl ⟨h1, h2⟩
      · right
        refine ⟨y, by omega, by simp only [List.length_cons]; omega, ?_, h4⟩
        rw [show (idxM v r (i + 1) - i).toNat = (idxM v r (i + 1) - (i + 1)).toNat + 1 by omega, List.getElem?_cons_succ]
        exact h3
/-- What a sum is under an assignment. -/
def valP (c : Int) (l : List (Int × Int)) : List (Int × Int) → Int
  | [] => c
  | q :: r => valP (c + q.2 * lookV q.1 l) l r
theorem valP_snoc (l : List (Int × Int)) (q : Int × Int) : ∀ (p : List (Int × Int)) (c : Int), valP c l (p ++ [q]) = valP c l p + q.2 * lookV q.1 l
  | [], c => rfl
  | x :: r, c => valP_snoc l q r _
def guardV (l1 : List Int) (l2 : List S46) (l : List S46) : Bool := guardL l1 l2 && decide (l.length ≤ 1000000) && l.all (fun x => limB x.f1.f1)
def lin_Value.f (b : Bool) (l1 : List Int) (l2 : List S46) (l : List S46) : Option (Bool × List Int) := if guardV l1 l2 l = true then some (W (valP (wv b l1) (l.map prM) (l2.map prM))) else none
theorem B_look (v : Int) : ∀ (l : List RM), (∀ x ∈ l, limB x.xs = true) → B 1000000 (lookV v (l.map prR))
  | [], _ => by show B 1000000 0; unfold B az; simp [dig, digN]
  | x :: r, h => by
    rw [List.map_cons]; unfold lookV
    split
    · obtain ⟨h2, h3⟩ := limB_of (h x List.mem_cons_self)
      exact (B_in x.ng h3).mono (by omega)
    · exact B_look v r (fun y hy => h y (List.mem_cons_of_mem _ hy))
set_option maxHeartbeats 1000000 in
theorem clo_val (v x0 : Int) (b : Bool) (A1 : Option Addr) (n1 c1 g : Nat) (w : World) (hg : w.cell? ⟨g, 0, none⟩ = some (.int .i64 v)) :
    Calls Try.prog 53 #[.agg #[.int .i64 x0, .bool b, .slice A1 n1 c1], .pointer (some ⟨g, 0, none⟩)] w fun e w' => e = .returned (.bool (x0 == v)) ∧ Below w.heap.size w w' := by
  have hlt := World.block_lt_of_cell? w _ hg
  have hu := Try.underlying46
  have hu2 := Try.underlying24
  go_enter Try.func53, Try.ntmps53
  go_wp2
  go_ret
  exact ⟨rfl, by repeat first | exact Below.refl _ _ | apply below_drew1 | apply below_alloc⟩
set_option maxHeartbeats 4000000 in
set_option maxRecDepth 100000 in
theorem index_mono (v : Int) (g : Nat) (A0 : Option Addr) (c0 : Nat) (l : List RM) (w : World) (hr : Kd.C kM w A0 l.length l) (hl : l.length ≤ 1000000000) (hg : w.cell? ⟨g, 0, none⟩ = some (.int .i64 v)) :
    Calls Try.prog 52 #[.slice A0 l.length c0, .func (.func 53) #[] #[.pointer (some ⟨g, 0, none⟩)]] w fun e w' => e = .returned (.int .i64 (idxM v l 0)) ∧ Below w.heap.size w w' := by
  have HR := Aside0.mk hr
  have HL := Aside0.mk hl
  have HG := Aside0.mk hg
  have hu := Try.underlying46
  have hu2 := Try.underlying24
  clear hr hl hg
  go_enter Try.func52, Try.ntmps52
  go_wp2
  go_loopw [8] (fun v8 wr => ∃ i : Nat, v8 = .int .i64 (i : Int) ∧ Aside0 (i ≤ l.length) ∧ Aside0 (idxM v (l.drop i) (i : Int) = idxM v l 0) ∧ Aside0 (Below w.heap.size w wr)) (fun v8 _ => l.length - (RowKit.intOf v8).toNat)
  case atStart => exact ⟨0, rfl, ⟨Nat.zero_le _⟩, ⟨rfl⟩, ⟨Below.refl _ _⟩⟩
  case round =>
    obtain ⟨i, rfl, HI, HE, HB⟩ := hrel
    by_cases hlt : i < l.length
    · have hL := HL.out
      have hw : wrap64 ((i : Int) + 1) = ((i + 1 : Nat) : Int) := by unfold wrap64; omega
      have HW := Aside0.mk hw
      clear hw
      obtain ⟨ad, x, e, hx, hx0, hx1, hx2⟩ := cM_at (Kd.C_below HR.out HB.out) (i : Int) (by omega) (by omega)
      cases e
      rw [Int.toNat_natCast] at hx hx0 hx1 hx2
      have hst := idxM_step v l i x hx
      rw [HE.out] at hst
      have hgc := Aside0.mk ((HB.out.cell (World.block_lt_of_cell? w _ HG.out)).trans HG.out)
      have c1' : decide ((i : Int) < (l.length : Int)) = true := decide_eq_true (by omega)
      have c2' : decide (i < l.length) = true := decide_eq_true hlt
      have p1 : (0 ≤ (i : Int)) = True := eq_true (by omega)
      have q1 : ((i : Int) < (l.length : Int)) = True := eq_true (by omega)
      by_cases hv : x.v = v
      · rw [if_pos hv] at hst
        have HST := Aside0.mk hst
        have hb : (x.v == v) = true := beq_iff_eq.2 hv
        have HBE := Aside0.mk hb
        clear hst hv hb hx
        go_wp2_with (go_at_call 53; (with_reducible refine (clo_val v _ _ _ _ _ g _ ?side).mono ?_); (case side => exact hgc.out); rw [HBE.out]; rintro e w1 ⟨rfl, hb1⟩; have HB1 := Aside0.mk (below_step HB.out hb1); clear hb1)
        go_ret
        exact ⟨by first | (rw [HST.out]; done) | (rw [HST.out]; rfl), by repeat first | exact HB1.out | apply below_drew1⟩
      · rw [if_neg hv] at hst
        have HST := Aside0.mk hst
        have hb : (x.v == v) = false := beq_eq_false_iff_ne.2 hv
        have HBE := Aside0.mk hb
        clear hst hv hb hx
        go_wp2_with (go_at_call 53; (with_reducible refine (clo_val v _ _ _ _ _ g _ ?side).mono ?_); (case side => exact hgc.out); rw [HBE.out]; rintro e w1 ⟨rfl, hb1⟩; have HB1 := Aside0.mk (below_step HB.out hb1); clear hb1)
        go_roundw
        case rel => exact ⟨i + 1, by go_num, ⟨by omega⟩, ⟨HST.out.symm⟩, ⟨by repeat first | exact HB1.out | apply below_drew1⟩⟩
        case measure => simp [RowKit.intOf, HW.out]; omega
    · have hi := HI.out
      have he : i = l.length := by omega
      subst he
      have hE : idxM v l 0 = -1 := by rw [← HE.out, List.drop_eq_nil_of_le (Nat.le_refl _)]; rfl
      have HE2 := Aside0.mk hE
      have c1' : decide ((l.length : Int) < (l.length : Int)) = false := decide_eq_false (by omega)
      have c2' : decide (l.length < l.length) = false := decide_eq_false (by omega)
      clear hE hlt
      go_wp2
      go_ret
      exact ⟨by rw [HE2.out]; rfl, HB.out⟩
theorem B_valP (l : List RM) (hl : ∀ x ∈ l, limB x.xs = true) : ∀ (p : List RM) (c : Int) (n : Nat), (∀ x ∈ p, limB x.xs = true) → 2000000 ≤ n → B n c → B (n + p.length) (valP c (l.map prR) (p.map prR))
  | [], c, n, _, _, hc => hc
  | x :: r, c, n, hp, hn, hc => by
    rw [List.map_cons]; unfold valP
    obtain ⟨h2, h3⟩ := limB_of (hp x List.mem_cons_self)
    have h4 : B 2000000 ((prR x).2 * lookV (prR x).1 (l.map prR)) := ((B_in x.ng h3).mul (B_look _ l hl)).mono (by omega)
    have := B_valP l hl r _ (n + 1) (fun y hy => hp y (List.mem_cons_of_mem _ hy)) (by omega) (hc.add (h4.mono hn))
    exact this.mono (by simp only [List.length_cons]; omega)
set_option maxHeartbeats 8000000 in
set_option maxRecDepth 100000 in
theorem lin_Value.calls (a0_0 : Bool) (A0_1 : Option Addr) (c0_1 : Nat) (l0_1 : List Int) (A0_2 : Option Addr) (c0_2 : Nat) (l0_2 : List (S46)) (A1 : Option Addr) (c1 : Nat) (l1 : List (S46)) (r1 : Bool) (r2 : List Int) (w : World) (hr0_1 : Kd.C (Kd.int .u32) w A0_1 l0_1.length l0_1) (hc0_1 : l0_1.length ≤ c0_1) (hr0_2 : Kd.C k46 w A0_2 l0_2.length l0_2) (hc0_2 : l0_2.length ≤ c0_2) (hr1 : Kd.C k46 w A1 l1.length l1) (hc1 : l1.length ≤ c1) (h : lin_Value.f a0_0 l0_1 l0_2 l1 = some (r1, r2)) :
    Calls Try.prog 17 #[.agg #[.bool a0_0, .slice A0_1 l0_1.length c0_1, .slice A0_2 l0_2.length c0_2], .slice A1 l1.length c1] w fun e w' => ∃ v1_ : Value, e = .returned (.agg #[.bool r1, v1_]) ∧ Kd.R (Kd.int .u32) 81 w' w.heap.size (fun _ => True) v1_ r2 ∧ Below w.heap.size w w' := by
  have mixed : Try.prog.follows Departure.mixedOrders = true := by kernel_rfl
  have hu27 := Try.underlying27
  have hu24 := Try.underlying24
  have hu46 := Try.underlying46
  unfold lin_Value.f at h
  split at h
  case isFalse => cases h
  case isTrue hg =>
  unfold guardV guardL at hg
  rw [Bool.and_eq_true, Bool.and_eq_true, Bool.and_eq_true, Bool.and_eq_true, decide_eq_true_eq, decide_eq_true_eq, List.all_eq_true, List.all_eq_true] at hg
  obtain ⟨⟨⟨⟨hg1, hg2⟩, hg3⟩, hg4⟩, hg5⟩ := hg
  obtain ⟨hn1, hl1⟩ := limB_of hg1
  have hN := wNorm_ev a0_0 l0_1 hl1 (by omega)
  have hB0 := (B_in a0_0 hl1).mono (n := 2000000) (by omega)
  obtain ⟨rs, rfl, hrs, hld⟩ := raws hr0_2
  obtain ⟨ls, rfl, hls, hle⟩ := raws hr1
  rw [List.length_map] at hrs hls hc0_2 hc1 hg2 hg4 ⊢
  rw [List.length_map]
  rw [pr_toM, pr_toM] at h
  have hlm : ∀ x ∈ rs, limB x.xs = true := fun x hx => hg3 (toM x) (List.mem_map_of_mem hx)
  have hlm2 : ∀ x ∈ ls, limB x.xs = true := fun x hx => hg5 (toM x) (List.mem_map_of_mem hx)
  have hres : (r1, r2) = W (valP (wv a0_0 l0_1) (ls.map prR) (rs.map prR)) := (Option.some.inj h).symm
  have HR1 := Aside0.mk hr0_1
  have HC1 := Aside0.mk hc0_1
  have HRS := Aside0.mk hrs
  have HLD := Aside0.mk hld
  have HLM := Aside0.mk hlm
  have HLS := Aside0.mk hls
  have HLE := Aside0.mk hle
  have HLM2 := Aside0.mk hlm2
  have HLEN := Aside0.mk (show rs.length ≤ 1000000 ∧ ls.length ≤ 1000000 from ⟨hg2, hg4⟩)
  have HRES := Aside0.mk hres
  generalize hcv : wv a0_0 l0_1 = cv at hN hB0 HRES
  generalize hWn : W cv = Wn at hN
  obtain ⟨nb, nl⟩ := Wn
  have HN := Aside0.mk hN
  have HW0 := Aside0.mk hWn
  have HB0 := Aside0.mk hB0
  clear hr0_1 hc0_1 hrs hld hlm hls hle hlm2 hg2 hg4 hg1 hg3 hg5 hn1 hl1 hN hB0 hres h hcv hWn hc0_2 hr0_2 hr1 hc1
  go_enter Try.func17, Try.ntmps17
  go_wp2_with (first
    | ((with_reducible refine gate_dst (N := 2) rfl ?_); refine box_event ?hg (N := 2) ?hd (cs := #[.bool a0_0, .slice A0_1 l0_1.length c0_1, .slice A0_2 rs.length c0_2]) (t := 27) ?hr ?_; (case hd => rfl); (case hg => rfl); (case hr => first | (go_simp; done) | (go_simp; rfl)); intro gA hgA w1 hbox hb; have BA1 := Aside0.mk hbox; have HB1 := Aside0.mk hb; clear hgA hbox hb)
    | ((with_reducible refine gate_dst (N := 4) rfl ?_); refine box_event ?hg (N := 4) ?hd (cs := #[.bool false, .slice none 0 0]) (t := 24) ?hr ?_; (case hd => rfl); (case hg => rfl); (case hr => first | (go_simp; done) | (go_simp; rfl)); intro gR hgR w2 hbox hb; have BR2 := Aside0.mk hbox; have BA2 := Aside0.mk (blk_below BA1.out hb); have GR := Aside0.mk (show w.heap.size ≤ gR by rw [hgR]; exact below_size HB1.out); have HB2 := Aside0.mk (below_step HB1.out hb); clear hgR hbox hb; have hcA0 : w2.cell? ⟨gA, 0, none⟩ = some (.bool a0_0) := (blk_cell BA2.out 0).trans rfl; have hcA1 : w2.cell? ⟨gA, 1, none⟩ = some (.slice A0_1 l0_1.length c0_1) := (blk_cell BA2.out 1).trans rfl)
    | (go_at_call 51; (with_reducible refine (whole_Norm.calls a0_0 _ _ l0_1 nb nl _ ?s4 HC1.out HN.out).mono ?_); (case s4 => exact Kd.C_below HR1.out HB2.out); rintro e w3 ⟨vC, rfl, ho, hb⟩; obtain ⟨AC, cC, eC⟩ := Kd.R_slice ho; subst eC; have HO3 := Aside0.mk ho; have HB23 := Aside0.mk hb; clear ho hb)
    | ((with_reducible refine gate_dst (N := 5) rfl ?_); refine box_event ?hg (N := 5) ?hd (cs := #[.bool false, .slice none 0 0]) (t := 24) ?hr ?_; (case hd => rfl); (case hg => rfl); (case hr => first | (go_simp; done) | (go_simp; rfl)); intro gN hgN w4 hbox hb; have BN4 := Aside0.mk hbox; have GN := Aside0.mk (show w2.heap.size ≤ gN by rw [hgN]; exact HB23.out.size); have HB24 := Aside0.mk (below_step HB23.out hb); have HO4 := Aside0.mk (Kd.R_below HO3.out hb); have BA4 := Aside0.mk (blk_below BA2.out HB24.out); have hcA2 : w4.cell? ⟨gA, 2, none⟩ = some (.slice A0_2 rs.length c0_2) := (blk_cell BA4.out 2).trans rfl; have nAN : gA ≠ gN := (hgN ▸ Nat.ne_of_lt (blk_lt (blk_below BA2.out HB23.out))); have nNA : gN ≠ gA := (fun e => nAN e.symm); clear hgN hbox hb; have hcz0 : w4.cell? ⟨gN, 0, none⟩ = some (.bool false) := (blk_cell BN4.out 0).trans rfl; have hcz1 : w4.cell? ⟨gN, 1, none⟩ = some (.slice none 0 0) := (blk_cell BN4.out 1).trans rfl; have hfz0 := blk_frozen BN4.out 0; have hfz1 := blk_frozen BN4.out 1))
  go_loopg [15] (rs.length + 1) (fun kq v15 wr => ∃ (i : Int) (b : Bool) (xs : List Int) (An : Option Addr) (cn : Nat), v15 = .int .i64 i ∧ Aside0 (0 ≤ i ∧ i ≤ (rs.length : Int)) ∧ Aside0 ((rs.length : Int) - i < (kq : Int)) ∧ Aside0 ((b, xs) = W (valP cv (ls.map prR) ((rs.take i.toNat).map prR))) ∧ Aside0 (wr.heap[gN]? = some (.cells #[.bool b, .slice An xs.length cn] 24 (0, 0))) ∧ Aside0 (Kd.R (Kd.int .u32) 81 wr w2.heap.size (fun _ => True) (.slice An xs.length cn) xs) ∧ Aside0 (Below w2.heap.size w2 wr))
  case atStart =>
    have hne : ∀ (k : Nat) (cells : Array Value), w4.heap[k]? = some (Obj.cells cells 81 (0, 0)) → k ≠ gN := fun k cells hk => box_ne BN4.out hk (by decide)
    refine ⟨0, nb, nl, AC, cC, rfl, ⟨Int.le_refl 0, by omega⟩, ⟨by omega⟩, ⟨HW0.out.symm⟩, ⟨?_⟩, ⟨?_⟩, ⟨?_⟩⟩
    · refine blk_put (cs := #[.bool nb, .slice none 0 0]) ?_ 1 _ rfl
      refine blk_put (cs := #[.bool false, .slice none 0 0]) ?_ 0 _ rfl
      exact BN4.out
    · exact OwnK.move (x := ⟨0, false, AC, cC, nl⟩) HO4.out (fun k cells hk => set2_other _ _ _ _ _ _ k (hne k cells hk))
    · repeat first | exact HB24.out | refine below_set ?_ GN.out
  case round =>
    clear hcz0 hcz1 hfz0 hfz1 hcA0 hcA1 hcA2 nAN nNA
    obtain ⟨i, b, xs, An, cn, rfl, HI, HQ, HW, BN, HV, HB⟩ := hrel
    have hcn0 : wr.cell? ⟨gN, 0, none⟩ = some (.bool b) := (blk_cell BN.out 0).trans rfl
    have hcn1 : wr.cell? ⟨gN, 1, none⟩ = some (.slice An xs.length cn) := (blk_cell BN.out 1).trans rfl
    cases gk with
    | zero => exact absurd HQ.out (by have := HI.out; omega)
    | succ k1 =>
    by_cases hc : i < (rs.length : Int)
    · obtain ⟨ad, x, eA, hx, hx0, hx1, hx2⟩ := cM_at HRS.out i HI.out.1 hc
      cases eA
      have hwr := below_step HB2.out HB.out
      have hy0 := (hwr.cell (World.block_lt_of_cell? w _ hx0)).trans hx0
      have hy1 := (hwr.cell (World.block_lt_of_cell? w _ hx1)).trans hx1
      have hy2 := (hwr.cell (World.block_lt_of_cell? w _ hx2)).trans hx2
      have hmem := List.mem_of_getElem? hx
      have HXL := Aside0.mk (HLM.out x hmem)
      have HXD := Aside0.mk ((HLD.out x hmem).below hwr)
      have HX := Aside0.mk hx
      have HLw := Aside0.mk (Kd.C_below HLS.out hwr)
      have d1 : decide (i < (rs.length : Int)) = true := decide_eq_true hc
      have d2 : decide (0 ≤ i) = true := decide_eq_true HI.out.1
      have p1 : (0 ≤ i) = True := eq_true HI.out.1
      have p2 : (i < (rs.length : Int)) = True := eq_true hc
      have HC := Aside0.mk hc
      have hpre : B (2000000 + i.toNat) (valP cv (ls.map prR) ((rs.take i.toNat).map prR)) := by
        have h1 := B_valP ls HLM2.out (rs.take i.toNat) cv 2000000 (fun y hy => HLM.out y (List.mem_of_mem_take hy)) (Nat.le_refl _) HB0.out
        rw [List.length_take] at h1
        exact h1.mono (by omega)
      have HPRE := Aside0.mk hpre
      have hsn : valP cv (ls.map prR) ((rs.take (i + 1).toNat).map prR) = valP cv (ls.map prR) ((rs.take i.toNat).map prR) + wv x.ng x.xs * lookV x.v (ls.map prR) := by
        rw [drop_at prR rs i HI.out.1 x hx, valP_snoc]; rfl
      have HSN := Aside0.mk hsn
      have hjj := idx_look x.v ls 0 (Int.le_refl 0)
      have HIX := Aside0.mk (fun g W hr hg => index_mono x.v g A1 c1 ls W hr (by have := HLEN.out.2; omega) hg)
      generalize hj : idxM x.v ls 0 = j at hjj HIX
      clear hx0 hx1 hx2 hwr hmem hx hc hpre hsn hj
      rcases hjj with ⟨hjn, hl0⟩ | ⟨y, hj0, hj1, hy, hly⟩
      · have c3 : decide (j ≥ 0) = false := decide_eq_false (by omega)
        have c4 : decide (0 ≤ j) = false := decide_eq_false (by omega)
        have HL0 := Aside0.mk hl0
        clear hjn hl0
        go_wp2_with (first
          | ((with_reducible refine gate_dst (N := 7) rfl ?_); refine box_event ?hg (N := 7) ?hd (cs := #[.int .i64 0, .bool false, .slice none 0 0]) (t := 46) ?hr ?_; (case hd => rfl); (case hg => rfl); (case hr => first | (go_simp; done) | (go_simp; rfl)); intro gX hgX w7 hbox hb; have BX7 := Aside0.mk hbox; have GX := Aside0.mk (show wr.heap.size ≤ gX by rw [hgX]; exact Nat.le_refl _); have HB7 := Aside0.mk hb; clear hgX hbox hb; have hcz0 : w7.cell? ⟨gX, 0, none⟩ = some (.int .i64 0) := (blk_cell BX7.out 0).trans rfl; have hcz1 : w7.cell? ⟨gX, 1, none⟩ = some (.bool false) := (blk_cell BX7.out 1).trans rfl; have hcz2 : w7.cell? ⟨gX, 2, none⟩ = some (.slice none 0 0) := (blk_cell BX7.out 2).trans rfl; have hfz0 := blk_frozen BX7.out 0; have hfz1 := blk_frozen BX7.out 1; have hfz2 := blk_frozen BX7.out 2)
          | (go_at_call 52; (with_reducible refine (HIX.out gX _ ?sb ?sc).mono ?_); (case sb => exact Kd.C_below HLw.out (by repeat first | exact HB7.out | refine below_set ?_ GX.out | apply below_drew1)); (case sc => go_simp); rintro e w8 ⟨rfl, hb⟩; have HB8 := Aside0.mk (below_step (by repeat first | exact HB7.out | refine below_set ?_ GX.out | apply below_drew1) hb); clear hb))
        have hwi : wrap64 (i + 1) = i + 1 := by
          have h1 := HI.out
          have h2 := HLEN.out
          unfold wrap64; omega
        rw [hwi]
        have hi1 : 0 ≤ i + 1 ∧ i + 1 ≤ (rs.length : Int) := by have h1 := HI.out; have h2 := HC.out; omega
        have hq1 : (rs.length : Int) - (i + 1) < (k1 : Int) := by have h1 := HQ.out; omega
        have hw1 : (b, xs) = W (valP cv (ls.map prR) ((rs.take (i + 1).toNat).map prR)) := by rw [HSN.out, HL0.out, Int.mul_zero, Int.add_zero]; exact HW.out
        go_roundg k1
        case measure => omega
        case rel => exact ⟨i + 1, b, xs, An, cn, rfl, ⟨hi1⟩, ⟨hq1⟩, ⟨hw1⟩, ⟨blk_below BN.out HB8.out⟩, ⟨Kd.R_below HV.out HB8.out⟩, ⟨below_step HB.out HB8.out⟩⟩
      · have c3 : decide (j ≥ 0) = true := decide_eq_true (by omega)
        have c4 : decide (0 ≤ j) = true := decide_eq_true (by omega)
        rw [Int.zero_add] at hj1
        rw [Int.sub_zero] at hy
        obtain ⟨ad2, y', eA, hy2', hq0, hq1, hq2⟩ := cM_at HLw.out j hj0 hj1
        cases eA
        obtain rfl : y' = y := Option.some.inj (hy2'.symm.trans hy)
        have hmem := List.mem_of_getElem? hy
        obtain ⟨hyn, hyL⟩ := limB_of (HLM2.out y' hmem)
        obtain ⟨hxn, hxL⟩ := limB_of HXL.out
        have HYD := Aside0.mk ((HLE.out y' hmem).below (below_step HB2.out HB.out))
        rw [hly] at HSN
        obtain ⟨kM1, hkM⟩ := (wMul_ev x.ng y'.ng x.xs y'.xs hxL hyL (by omega) (by omega)).rounds
        have hbm : B 2000000 (wv x.ng x.xs * wv y'.ng y'.xs) := ((B_in x.ng hxL).mul (B_in y'.ng hyL)).mono (by omega)
        have hbp := HPRE.out
        have hsz : i.toNat ≤ 1000000 := by have h1 := HC.out; have h2 := HLEN.out.1; omega
        generalize hpz : valP cv (ls.map prR) ((rs.take i.toNat).map prR) = pz at hbp HW HSN
        generalize hmz : wv x.ng x.xs * wv y'.ng y'.xs = mz at hkM hbm HSN
        have hb1 : b = (W pz).1 := congrArg Prod.fst HW.out
        have hb2 : xs = (W pz).2 := congrArg Prod.snd HW.out
        have hxl : xs.length ≤ 4000000 := by rw [hb2]; have := hbp.len; omega
        have hxlim : Lim xs := by rw [hb2]; exact W_lim _
        have hwvp : wv b xs = pz := by rw [hb1, hb2]; exact wv_W _
        have hml : (W mz).2.length ≤ 2000000 := hbm.len
        obtain ⟨kA1, hkA⟩ := (wAdd_ev b (W mz).1 xs (W mz).2 hxlim (W_lim _) (by omega) (by omega)).rounds
        rw [hwvp, wv_W] at hkA
        generalize hWm : W mz = Wm at hkM hkA
        obtain ⟨mb, ml⟩ := Wm
        generalize hWs : W (pz + mz) = Ws at hkA
        obtain ⟨sb, sl⟩ := Ws
        have HKM := Aside0.mk hkM
        have HKA := Aside0.mk hkA
        have HWS := Aside0.mk hWs
        have p3 : (0 ≤ j) = True := eq_true hj0
        have p4 : (j < (ls.length : Int)) = True := eq_true hj1
        clear hj0 hj1 hy hly hy2' hmem hyn hyL hxn hxL hkM hbm hbp hsz hpz hmz hb1 hb2 hxl hxlim hwvp hml hkA hWm hWs
        obtain ⟨y, rfl⟩ : ∃ y : RM, y = y' := ⟨_, rfl⟩
        go_wp2_with (first
          | ((with_reducible refine gate_dst (N := 7) rfl ?_); refine box_event ?hg (N := 7) ?hd (cs := #[.int .i64 0, .bool false, .slice none 0 0]) (t := 46) ?hr ?_; (case hd => rfl); (case hg => rfl); (case hr => first | (go_simp; done) | (go_simp; rfl)); intro gX hgX w7 hbox hb; have BX7 := Aside0.mk hbox; have GX := Aside0.mk (show wr.heap.size ≤ gX by rw [hgX]; exact Nat.le_refl _); have HB7 := Aside0.mk hb; clear hgX hbox hb; have hcz0 : w7.cell? ⟨gX, 0, none⟩ = some (.int .i64 0) := (blk_cell BX7.out 0).trans rfl; have hcz1 : w7.cell? ⟨gX, 1, none⟩ = some (.bool false) := (blk_cell BX7.out 1).trans rfl; have hcz2 : w7.cell? ⟨gX, 2, none⟩ = some (.slice none 0 0) := (blk_cell BX7.out 2).trans rfl; have hfz0 := blk_frozen BX7.out 0; have hfz1 := blk_frozen BX7.out 1; have hfz2 := blk_frozen BX7.out 2)
          | (go_at_call 52; (with_reducible refine (HIX.out gX _ ?sb ?sc).mono ?_); (case sb => exact Kd.C_below HLw.out (by repeat first | exact HB7.out | refine below_set ?_ GX.out | apply below_drew1)); (case sc => go_simp); rintro e w8 ⟨rfl, hb⟩; have HB8 := Aside0.mk (below_step (by repeat first | exact HB7.out | refine below_set ?_ GX.out | apply below_drew1) hb); have BX8 := Aside0.mk (blk_below (g := gX) (o := .cells #[.int .i64 x.v, .bool x.ng, .slice x.A x.xs.length x.c] 46 (0, 0)) (by (with_reducible repeat (first | refine blk_drewN ?_ _ | refine blk_drew ?_ | refine blk_alloc ?_ _)); refine blk_put (cs := #[.int .i64 x.v, .bool x.ng, .slice none 0 0]) ?_ 2 _ rfl; refine blk_put (cs := #[.int .i64 x.v, .bool false, .slice none 0 0]) ?_ 1 _ rfl; refine blk_put (cs := #[.int .i64 0, .bool false, .slice none 0 0]) ?_ 0 _ rfl; exact BX7.out) hb); have HX8 := Aside0.mk (HXD.out.below HB8.out); have HY8 := Aside0.mk (HYD.out.below HB8.out); replace hq1 := (HB8.out.cell (World.block_lt_of_cell? wr _ hq1)).trans hq1; replace hq2 := (HB8.out.cell (World.block_lt_of_cell? wr _ hq2)).trans hq2; have BN8 := Aside0.mk (blk_below BN.out HB8.out); have hn0 : w8.cell? ⟨gN, 0, none⟩ = some (.bool b) := (blk_cell BN8.out 0).trans rfl; have hn0' : w8.cell? ⟨gN, 1, none⟩ = some (.slice An xs.length cn) := (blk_cell BN8.out 1).trans rfl; have hx0 : w8.cell? ⟨gX, 1, none⟩ = some (.bool x.ng) := (blk_cell BX8.out 1).trans rfl; have hx0' : w8.cell? ⟨gX, 2, none⟩ = some (.slice x.A x.xs.length x.c) := (blk_cell BX8.out 2).trans rfl; clear hb))
        refine start_ (n := 11) (S := fun w' => w'.cell? ⟨gN, 0, none⟩ = some (.bool b) ∧ w'.cell? ⟨gN, 1, none⟩ = some (.slice An xs.length cn) ∧ w'.cell? ⟨gX, 1, none⟩ = some (.bool x.ng) ∧ w'.cell? ⟨gX, 2, none⟩ = some (.slice x.A x.xs.length x.c) ∧ w'.cell? ⟨(ad2.add (j.toNat * 3)).block, (ad2.add (j.toNat * 3)).off + 1, none⟩ = some (.bool y.ng) ∧ w'.cell? ⟨(ad2.add (j.toNat * 3)).block, (ad2.add (j.toNat * 3)).off + 2, none⟩ = some (.slice y.A y.xs.length y.c)) (ds := [10]) #[false, false, false, false, false, false, false, false, false, false, false] (by kernel_rfl) rfl rfl ⟨hn0, hn0', hx0, hx0', hq1, hq2⟩ (fun hHeld => ?_)
        refine pure_ (i := 1) (N := some 25) (v := ?_) (a' := ?_) #[false, true, false, false, false, false, false, false, false, false, false] rfl rfl (by kernel_rfl) (fun _ _ _ h => h) (Or.inl ⟨by rfl, ?_⟩) ?_ ?_
        rotate_left
        · intro w'
          go_simp
          with_reducible rfl
        rotate_left
        · simp only [Act.put, List.setIfInBounds_toArray, List.set_cons_zero, List.set_cons_succ, i64_w, i32_w]
          rfl
        refine pure_ (i := 3) (N := some 27) (v := ?_) (a' := ?_) #[false, true, false, true, false, false, false, false, false, false, false] rfl rfl (by kernel_rfl) (fun _ _ _ h => h) (Or.inl ⟨by rfl, ?_⟩) ?_ ?_
        rotate_left
        · intro w'
          go_simp
          with_reducible rfl
        rotate_left
        · simp only [Act.put, List.setIfInBounds_toArray, List.set_cons_zero, List.set_cons_succ, i64_w, i32_w]
          rfl
        refine pure_ (i := 4) (N := some 28) (v := ?_) (a' := ?_) #[false, true, false, true, true, false, false, false, false, false, false] rfl rfl (by kernel_rfl) (fun _ _ _ h => h) (Or.inl ⟨by rfl, ?_⟩) ?_ ?_
        rotate_left
        · intro w'
          go_simp
          with_reducible rfl
        rotate_left
        · simp only [Act.put, List.setIfInBounds_toArray, List.set_cons_zero, List.set_cons_succ, i64_w, i32_w]
          rfl
        refine pure_ (i := 5) (N := some 29) (v := ?_) (a' := ?_) #[false, true, false, true, true, true, false, false, false, false, false] rfl rfl (by kernel_rfl) (fun _ _ _ h => h) (Or.inl ⟨by rfl, ?_⟩) ?_ ?_
        rotate_left
        · intro w'
          go_simp
          with_reducible rfl
        rotate_left
        · simp only [Act.put, List.setIfInBounds_toArray, List.set_cons_zero, List.set_cons_succ, i64_w, i32_w]
          rfl
        refine pure_ (i := 6) (N := some 30) (v := ?_) (a' := ?_) #[false, true, false, true, true, true, true, false, false, false, false] rfl rfl (by kernel_rfl) (fun _ _ _ h => h) (Or.inl ⟨by rfl, ?_⟩) ?_ ?_
        rotate_left
        · intro w'
          go_simp
          with_reducible rfl
        rotate_left
        · simp only [Act.put, List.setIfInBounds_toArray, List.set_cons_zero, List.set_cons_succ, i64_w, i32_w]
          rfl
        refine take_ (i := 0) (N := some 24) (v := ?_) (a' := ?_) #[true, true, false, true, true, true, true, false, false, false, false] rfl rfl (by kernel_rfl) (fun _ _ _ h => h) (Or.inl ⟨by rfl, ?_⟩) hHeld ?_ ?_
        rotate_left
        · rintro w' ⟨s0, s1, s2, s3, s4, s5⟩
          go_simp
          with_reducible rfl
        rotate_left
        · simp only [Act.put, List.setIfInBounds_toArray, List.set_cons_zero, List.set_cons_succ, i64_w, i32_w]
          rfl
        refine take_ (i := 2) (N := some 26) (v := ?_) (a' := ?_) #[true, true, true, true, true, true, true, false, false, false, false] rfl rfl (by kernel_rfl) (fun _ _ _ h => h) (Or.inl ⟨by rfl, ?_⟩) hHeld ?_ ?_
        rotate_left
        · rintro w' ⟨s0, s1, s2, s3, s4, s5⟩
          go_simp
          with_reducible rfl
        rotate_left
        · simp only [Act.put, List.setIfInBounds_toArray, List.set_cons_zero, List.set_cons_succ, i64_w, i32_w]
          rfl
        refine take_ (i := 7) (N := some 31) (v := ?_) (a' := ?_) #[true, true, true, true, true, true, true, true, false, false, false] rfl rfl (by kernel_rfl) (fun _ _ _ h => h) (Or.inl ⟨by rfl, ?_⟩) hHeld ?_ ?_
        rotate_left
        · rintro w' ⟨s0, s1, s2, s3, s4, s5⟩
          go_simp
          with_reducible rfl
        rotate_left
        · simp only [Act.put, List.setIfInBounds_toArray, List.set_cons_zero, List.set_cons_succ, i64_w, i32_w]
          rfl
        refine one_ (i := 8) (N := some 32) #[true, true, true, true, true, true, true, true, true, false, false] rfl rfl (by kernel_rfl) (by decide) (fun K hK => ?_)
        refine goes_ Try.func35 (by kernel_rfl) rfl #[.agg #[.bool x.ng, .slice x.A x.xs.length x.c], .agg #[.bool y.ng, .slice y.A y.xs.length y.c]] (by rfl) rfl rfl (by simp only [List.map_toArray, List.map_cons, List.map_nil]; rfl) ?_
        with_reducible refine (whole_Mul.calls kM1 x.ng _ _ x.xs y.ng _ _ y.xs mb ml _ ?s1 ?s2 ?s3 ?s4 HKM.out).mono ?_
        (case s1 => exact HX8.out.2)
        (case s2 => exact HX8.out.1)
        (case s3 => exact HY8.out.2)
        (case s4 => exact HY8.out.1)
        rintro e w9 ⟨v9, rfl, ho, hb⟩
        obtain ⟨A9, c9, e9⟩ := Kd.R_slice ho
        subst e9
        have HV9 := Aside0.mk ho
        have HB9 := Aside0.mk (below_step (show Below wr.heap.size wr w8.drew by repeat first | exact HB8.out | apply below_drew1) hb)
        have BN9 := Aside0.mk (blk_below BN.out HB9.out)
        have BX9 := Aside0.mk (blk_below (show w8.drew.heap[gX]? = _ from BX8.out) hb)
        have hz1 := (hb.cell (World.block_lt_of_cell? w8 _ hq1)).trans hq1
        have hz2 := (hb.cell (World.block_lt_of_cell? w8 _ hq2)).trans hq2
        have hn1 : w9.cell? ⟨gN, 0, none⟩ = some (.bool b) := (blk_cell BN9.out 0).trans rfl
        have hn2 : w9.cell? ⟨gN, 1, none⟩ = some (.slice An xs.length cn) := (blk_cell BN9.out 1).trans rfl
        have hx1 : w9.cell? ⟨gX, 1, none⟩ = some (.bool x.ng) := (blk_cell BX9.out 1).trans rfl
        have hx2 : w9.cell? ⟨gX, 2, none⟩ = some (.slice x.A x.xs.length x.c) := (blk_cell BX9.out 2).trans rfl
        clear ho hb
        refine ⟨_, rfl, ?_⟩
        refine hK.out _ _ ⟨hn1, hn2, hx1, hx2, hz1, hz2⟩ (fun hHeld => ?_)
        clear hK K
        refine norm_ (a' := ?_) ?_ ?_
        rotate_left
        · show Act.put _ (some 32) _ = _
          simp only [Act.put, List.setIfInBounds_toArray, List.set_cons_zero, List.set_cons_succ, i64_w, i32_w]
          rfl
        refine one_ (i := 9) (N := some 33) #[true, true, true, true, true, true, true, true, true, true, false] rfl rfl (by kernel_rfl) (by decide) (fun K hK => ?_)
        refine goes_ Try.func36 (by kernel_rfl) rfl #[.agg #[.bool b, .slice An xs.length cn], .agg #[.bool mb, .slice A9 ml.length c9]] (by rfl) rfl rfl (by simp only [List.map_toArray, List.map_cons, List.map_nil]; rfl) ?_
        with_reducible refine (whole_Add.calls kA1 b _ _ xs mb _ _ ml sb sl _ ?s1 ?s2 ?s3 ?s4 HKA.out).mono ?_
        (case s1 => exact (Kd.R_reads' (Kd.R_below HV.out HB9.out)).2.2)
        (case s2 => exact (Kd.R_reads' HV.out).2.1)
        (case s3 => exact (Kd.R_reads' HV9.out).2.2)
        (case s4 => exact (Kd.R_reads' HV9.out).2.1)
        rintro e w10 ⟨v10, rfl, ho, hb⟩
        obtain ⟨A10, c10, e10⟩ := Kd.R_slice ho
        subst e10
        have HV10 := Aside0.mk ho
        have HB10 := Aside0.mk (below_step (show Below wr.heap.size wr w9 by exact HB9.out) hb)
        have BN10 := Aside0.mk (blk_below BN.out HB10.out)
        have BX10 := Aside0.mk (blk_below (show w9.heap[gX]? = _ from BX9.out) hb)
        have hz3 := (hb.cell (World.block_lt_of_cell? w9 _ hz1)).trans hz1
        have hz4 := (hb.cell (World.block_lt_of_cell? w9 _ hz2)).trans hz2
        have hn3 : w10.cell? ⟨gN, 0, none⟩ = some (.bool b) := (blk_cell BN10.out 0).trans rfl
        have hn4 : w10.cell? ⟨gN, 1, none⟩ = some (.slice An xs.length cn) := (blk_cell BN10.out 1).trans rfl
        have hx3 : w10.cell? ⟨gX, 1, none⟩ = some (.bool x.ng) := (blk_cell BX10.out 1).trans rfl
        have hx4 : w10.cell? ⟨gX, 2, none⟩ = some (.slice x.A x.xs.length x.c) := (blk_cell BX10.out 2).trans rfl
        have hfn3 := blk_frozen BN10.out 0
        have hfn4 := blk_frozen BN10.out 1
        clear ho hb
        refine ⟨_, rfl, ?_⟩
        refine hK.out _ _ ⟨hn3, hn4, hx3, hx4, hz3, hz4⟩ (fun hHeld => ?_)
        clear hK K
        refine norm_ (a' := ?_) ?_ ?_
        rotate_left
        · show Act.put _ (some 33) _ = _
          simp only [Act.put, List.setIfInBounds_toArray, List.set_cons_zero, List.set_cons_succ, i64_w, i32_w]
          rfl
        refine last_ (i := 10) (N := none) #[true, true, true, true, true, true, true, true, true, true, true] rfl rfl (by kernel_rfl) (by decide) (fun K hK => ?_)
        refine skip_ (w1 := ?_) (by rfl) rfl ?_ ?_
        rotate_left
        · go_simp
          rfl
        refine hK.out _ _ ?_
        clear hK K
        refine done_ (by kernel_rfl) ?_
        go_wp2_with fail
        have hwi : wrap64 (i + 1) = i + 1 := by
          have h1 := HI.out
          have h2 := HLEN.out
          unfold wrap64; omega
        rw [hwi]
        have hi1 : 0 ≤ i + 1 ∧ i + 1 ≤ (rs.length : Int) := by have h1 := HI.out; have h2 := HC.out; omega
        have hqm : (rs.length : Int) - (i + 1) < (k1 : Int) := by have h1 := HQ.out; omega
        have hw1 : (sb, sl) = W (valP cv (ls.map prR) ((rs.take (i + 1).toNat).map prR)) := by rw [HSN.out]; exact HWS.out.symm
        have hbn : ((w10.setCell ⟨gN, 0, none⟩ (.bool sb)).setCell ⟨gN, 1, none⟩ (.slice A10 sl.length c10)).heap[gN]? = some (.cells #[.bool sb, .slice A10 sl.length c10] 24 (0, 0)) := by
          refine blk_put (cs := #[.bool sb, .slice An xs.length cn]) ?_ 1 _ rfl
          refine blk_put (cs := #[.bool b, .slice An xs.length cn]) ?_ 0 _ rfl
          exact BN10.out
        have hlb : w2.heap.size ≤ w9.heap.size := (below_step HB.out HB9.out).size
        go_roundg k1
        case measure => omega
        case rel => exact ⟨i + 1, sb, sl, A10, c10, rfl, ⟨hi1⟩, ⟨hqm⟩, ⟨hw1⟩, ⟨hbn⟩, ⟨OwnK.move (x := ⟨0, false, A10, c10, sl⟩) (Kd.R_lower HV10.out hlb) (fun k cells hk => set2_other _ _ _ _ _ _ k (box_ne BN10.out hk (by decide)))⟩, ⟨by repeat first | exact below_step HB.out HB10.out | refine below_set ?_ GN.out⟩⟩
    · have hi : i.toNat = rs.length := by have := HI.out; omega
      have d1 : decide (i < (rs.length : Int)) = false := decide_eq_false hc
      have BR := Aside0.mk (blk_below BR2.out HB.out)
      have hcr0 : wr.cell? ⟨gR, 0, none⟩ = some (.bool false) := (blk_cell BR.out 0).trans rfl
      have hcr1 : wr.cell? ⟨gR, 1, none⟩ = some (.slice none 0 0) := (blk_cell BR.out 1).trans rfl
      have hfr0 := blk_frozen BR.out 0
      have hfr1 := blk_frozen BR.out 1
      have HF := Aside0.mk hi
      clear hc hi
      go_wp2
      have hfin : (b, xs) = (r1, r2) := by rw [HW.out, HRES.out, HF.out, List.take_length]
      obtain ⟨rfl, rfl⟩ := Prod.mk.inj hfin
      refine bodyPost_ret (results_cell_row rfl _ _ gR 24 #[.bool b, .slice An xs.length cn] (0, 0) _ rfl (by refine blk_put (cs := #[.bool b, .slice none 0 0]) ?_ 1 _ rfl; refine blk_put (cs := #[.bool false, .slice none 0 0]) ?_ 0 _ rfl; exact BR.out) Try.underlying24 rfl (by kernel_rfl)) rfl ?_
      refine ⟨_, rfl, ?_, ?_⟩
      · exact OwnK.move (x := ⟨0, false, An, cn, xs⟩) (Kd.R_lower HV.out HB2.out.size) (fun k cells hk => set2_other _ _ _ _ _ _ k (box_ne BR.out hk (by decide)))
      · repeat first | exact below_step HB2.out HB.out | refine below_set ?_ GR.out
end Go.Proofs.Ytdicjemjmlbmlaa.H
/- lin.by: a sum's parts taken a g-th part as often, by their numbers. -/
namespace Go.Proofs.Ytdicjemjmlbmlaa.H
set_option linter.unusedSimpArgs false
set_option linter.unusedVariables false
open Go.RowKit Go.Proofs.YtdicjemjmlbmlaaW.PrintWords Go.Proofs.YtdicjemjmlbmlaaW.PrintLast Go.Proofs.YtdicjemjmlbmlaaW.PrintMore Go.Proofs.Ytdicjemjmlbmlaa.PA Go.Proofs.Ytdicjemjmlbmlaa.V Go.Proofs.Ytdicjemjmlbmlaa.S
attribute [local go_sem] box_twice
def guardB (l2 : List S46) (b : Bool) (l1 : List Int) : Bool := limB l1 && decide (wv b l1 ≠ 0) && decide (l2.length ≤ 1000000) && l2.all (fun x => limB x.f1.f1) && decide (az (wv b l1) < 4294967296)
def quoM (d : Int) (q : Int × Int) : S46 := enP (q.1, q.2 / d)
def lin_by.f (_ : Bool) (_ : List Int) (l2 : List S46) (b : Bool) (l1 : List Int) (b2 : Bool) (l3 : List Int) : Option (Bool × List Int × List S46) := if guardB l2 b l1 = true then some (b2, l3, l2.map (fun x => quoM (wv b l1) (prM x))) else none
set_option maxHeartbeats 8000000 in
set_option maxRecDepth 100000 in
theorem lin_by.calls (a0_0 : Bool) (A0_1 : Option Addr) (c0_1 : Nat) (l0_1 : List Int) (A0_2 : Option Addr) (c0_2 : Nat) (l0_2 : List (S46)) (a1_0 : Bool) (A1_1 : Option Addr) (c1_1 : Nat) (l1_1 : List Int) (a2_0 : Bool) (P2_1_ : Nat → Prop) (A2_1 : Option Addr) (c2_1 : Nat) (l2_1 : List Int) (r1 : Bool) (r2 : List Int) (r3 : List (S46)) (w : World) (hr0_1 : Kd.C (Kd.int .u32) w A0_1 l0_1.length l0_1) (hc0_1 : l0_1.length ≤ c0_1) (hr0_2 : Kd.C k46 w A0_2 l0_2.length l0_2) (hc0_2 : l0_2.length ≤ c0_2) (hr1_1 : Kd.C (Kd.int .u32) w A1_1 l1_1.length l1_1) (hc1_1 : l1_1.length ≤ c1_1) (hs2_1 : Kd.V (Kd.int .u32) 81 w w.heap.size (fun k_ => P2_1_ k_) (.slice A2_1 l2_1.length c2_1) l2_1) (h : lin_by.f a0_0 l0_1 l0_2 a1_0 l1_1 a2_0 l2_1 = some (r1, r2, r3)) :
    Calls Try.prog 43 #[.agg #[.bool a0_0, .slice A0_1 l0_1.length c0_1, .slice A0_2 l0_2.length c0_2], .agg #[.bool a1_0, .slice A1_1 l1_1.length c1_1], .agg #[.bool a2_0, .slice A2_1 l2_1.length c2_1]] w fun e w' => ∃ v1_ v2_ : Value, e = .returned (.agg #[.bool r1, v1_, v2_]) ∧ Kd.V (Kd.int .u32) 81 w' w.heap.size (fun k_ => (P2_1_ k_ ∨ w.heap.size ≤ k_) ∧ some k_ ≠ (v2_ : Value).ownBlock) v1_ r2 ∧ Kd.S k46 46 w' w.heap.size (fun k_ => w.heap.size ≤ k_) v2_ r3 ∧ Below w.heap.size w w' := by
  have mixed : Try.prog.follows Departure.mixedOrders = true := by kernel_rfl
  have hu27 := Try.underlying27
  have hu24 := Try.underlying24
  have hu46 := Try.underlying46
  unfold lin_by.f at h
  split at h
  case isFalse => cases h
  case isTrue hg =>
  unfold guardB at hg
  rw [Bool.and_eq_true] at hg
  obtain ⟨hg, h1g⟩ := hg
  have H1G := Aside0.mk (of_decide_eq_true h1g)
  clear h1g
  rw [Bool.and_eq_true, Bool.and_eq_true, Bool.and_eq_true, decide_eq_true_eq, decide_eq_true_eq, List.all_eq_true] at hg
  obtain ⟨⟨⟨hg1, hg0⟩, hg2⟩, hg3⟩ := hg
  obtain ⟨hn1, hl1⟩ := limB_of hg1
  obtain ⟨rs, rfl, hrs, hld⟩ := raws hr0_2
  rw [List.length_map] at hrs hc0_2 hg2 ⊢
  rw [List.map_map] at h
  simp only [Option.some.injEq, Prod.mk.injEq] at h
  obtain ⟨rfl, rfl, hr3⟩ := h
  have hr3 : rs.map (fun x => quoM (wv a1_0 l1_1) (prR x)) = r3 := hr3
  have hlm : ∀ x ∈ rs, limB x.xs = true := fun x hx => hg3 (toM x) (List.mem_map_of_mem hx)
  have HR1 := Aside0.mk hr1_1
  have HC1 := Aside0.mk hc1_1
  have HS2 := Aside0.mk hs2_1
  have HRS := Aside0.mk hrs
  have HLD := Aside0.mk hld
  have HLM := Aside0.mk hlm
  have HLEN := Aside0.mk hg2
  have HR3 := Aside0.mk hr3
  have HG := Aside0.mk (show Lim l1_1 ∧ l1_1.length ≤ 1000000 ∧ wv a1_0 l1_1 ≠ 0 from ⟨hl1, hn1, hg0⟩)
  clear hr0_1 hc0_1 hrs hld hlm hg2 hr3 hg1 hg3 hn1 hl1 hc0_2 hr0_2 hr1_1 hc1_1 hs2_1 hg0
  go_enter Try.func43, Try.ntmps43
  go_wp2_with (first
    | ((with_reducible refine gate_dst (N := 3) rfl ?_); refine box_event ?hg (N := 3) ?hd (cs := #[.bool a0_0, .slice A0_1 l0_1.length c0_1, .slice A0_2 rs.length c0_2]) (t := 27) ?hr ?_; (case hd => rfl); (case hg => rfl); (case hr => first | (go_simp; done) | (go_simp; rfl)); intro gA hgA w1 hbox hb; have BA1 := Aside0.mk hbox; have HB1 := Aside0.mk hb; clear hgA hbox hb)
    | ((with_reducible refine gate_dst (N := 4) rfl ?_); refine box_event ?hg (N := 4) ?hd (cs := #[.bool a1_0, .slice A1_1 l1_1.length c1_1]) (t := 24) ?hr ?_; (case hd => rfl); (case hg => rfl); (case hr => first | (go_simp; done) | (go_simp; rfl)); intro gG hgG w2 hbox hb; have BG2 := Aside0.mk hbox; have BA2 := Aside0.mk (blk_below BA1.out hb); have HB2 := Aside0.mk (below_step HB1.out hb); clear hgG hbox hb)
    | ((with_reducible refine gate_dst (N := 5) rfl ?_); refine box_event ?hg (N := 5) ?hd (cs := #[.bool a2_0, .slice A2_1 l2_1.length c2_1]) (t := 24) ?hr ?_; (case hd => rfl); (case hg => rfl); (case hr => first | (go_simp; done) | (go_simp; rfl)); intro gC hgC w3 hbox hb; have BC3 := Aside0.mk hbox; have BA3 := Aside0.mk (blk_below BA2.out hb); have BG3 := Aside0.mk (blk_below BG2.out hb); have HB3 := Aside0.mk (below_step HB2.out hb); clear hgC hbox hb)
    | ((with_reducible refine gate_dst (N := 6) rfl ?_); refine box_event ?hg (N := 6) ?hd (cs := #[.bool false, .slice none 0 0, .slice none 0 0]) (t := 27) ?hr ?_; (case hd => rfl); (case hg => rfl); (case hr => first | (go_simp; done) | (go_simp; rfl)); intro gR hgR w4 hbox hb; have BR4 := Aside0.mk hbox; have BA4 := Aside0.mk (blk_below BA3.out hb); have BG4 := Aside0.mk (blk_below BG3.out hb); have BC4 := Aside0.mk (blk_below BC3.out hb); have GR := Aside0.mk (show w.heap.size ≤ gR by rw [hgR]; exact below_size HB3.out); have HB4 := Aside0.mk (below_step HB3.out hb); clear hgR hbox hb; have hcC0 : w4.cell? ⟨gC, 0, none⟩ = some (.bool a2_0) := (blk_cell BC4.out 0).trans rfl; have hcC1 : w4.cell? ⟨gC, 1, none⟩ = some (.slice A2_1 l2_1.length c2_1) := (blk_cell BC4.out 1).trans rfl)
    | ((with_reducible refine gate_dst (N := 7) rfl ?_); refine box_event ?hg (N := 7) ?hd (cs := #[.bool false, .slice none 0 0, .slice none 0 0]) (t := 27) ?hr ?_; (case hd => rfl); (case hg => rfl); (case hr => first | (go_simp; done) | (go_simp; rfl)); intro gO hgO w5 hbox hb; have BO5 := Aside0.mk hbox; have BA5 := Aside0.mk (blk_below BA4.out hb); have BG5 := Aside0.mk (blk_below BG4.out hb); have BR5 := Aside0.mk (blk_below BR4.out hb); have GO := Aside0.mk (show w4.heap.size ≤ gO by rw [hgO]; exact Nat.le_refl _); have HB45 := Aside0.mk hb; have hcA2 : w5.cell? ⟨gA, 2, none⟩ = some (.slice A0_2 rs.length c0_2) := (blk_cell BA5.out 2).trans rfl; have NAO := Aside0.mk (show gA ≠ gO by rw [hgO]; exact Nat.ne_of_lt (blk_lt BA4.out)); have nAO : gA ≠ gO := NAO.out; have nOA : gO ≠ gA := fun e => NAO.out e.symm; clear hgO hbox hb; have hcz0 : w5.cell? ⟨gO, 0, none⟩ = some (.bool false) := (blk_cell BO5.out 0).trans rfl; have hcz1 : w5.cell? ⟨gO, 1, none⟩ = some (.slice none 0 0) := (blk_cell BO5.out 1).trans rfl; have hcz2 : w5.cell? ⟨gO, 2, none⟩ = some (.slice none 0 0) := (blk_cell BO5.out 2).trans rfl; have hfz0 := blk_frozen BO5.out 0; have hfz1 := blk_frozen BO5.out 1; have hfz2 := blk_frozen BO5.out 2))
  go_loopg [18] (rs.length + 1) (fun kq v18 wr => ∃ (i : Int) (u : Value) (os : List RM), v18 = .int .i64 i ∧ Aside0 (0 ≤ i ∧ i ≤ (rs.length : Int)) ∧ Aside0 ((rs.length : Int) - i < (kq : Int)) ∧ Aside0 (os.map toM = (rs.take i.toNat).map (fun x => quoM (wv a1_0 l1_1) (prR x))) ∧ Aside0 (wr.heap[gO]? = some (.cells #[.bool a2_0, .slice A2_1 l2_1.length c2_1, u] 27 (0, 0))) ∧ Aside0 (Kd.R kM 46 wr w4.heap.size (fun _ => True) u os) ∧ Aside0 (∀ x ∈ os, OwnK wr w4.heap.size x) ∧ Aside0 (Apart os) ∧ Aside0 (Below w4.heap.size w4 wr))
  case atStart =>
    refine ⟨0, .slice none 0 0, [], rfl, ⟨Int.le_refl 0, by omega⟩, ⟨by omega⟩, ⟨rfl⟩, ⟨?_⟩, ⟨Kd.R_nil _ _ _ _ _⟩, ⟨by simp⟩, ⟨List.Pairwise.nil⟩, ⟨?_⟩⟩
    · refine blk_put (cs := #[.bool a2_0, .slice A2_1 l2_1.length c2_1, .slice none 0 0]) ?_ 2 _ rfl
      refine blk_put (cs := #[.bool a2_0, .slice none 0 0, .slice none 0 0]) ?_ 1 _ rfl
      refine blk_put (cs := #[.bool false, .slice none 0 0, .slice none 0 0]) ?_ 0 _ rfl
      exact BO5.out
    · repeat first | exact HB45.out | refine below_set ?_ GO.out
  case round =>
    clear hcz0 hcz1 hcz2 hfz0 hfz1 hfz2 hcA2 hcC0 hcC1 nAO nOA
    obtain ⟨i, u, os, rfl, HI, HQ, HO, BO, HU, HK, HA, HB⟩ := hrel
    obtain ⟨Au, cu, eu⟩ := Kd.R_slice HU.out
    subst eu
    have hco0 : wr.cell? ⟨gO, 0, none⟩ = some (.bool a2_0) := (blk_cell BO.out 0).trans rfl
    have hco1 : wr.cell? ⟨gO, 1, none⟩ = some (.slice A2_1 l2_1.length c2_1) := (blk_cell BO.out 1).trans rfl
    have hco2 : wr.cell? ⟨gO, 2, none⟩ = some (.slice Au os.length cu) := (blk_cell BO.out 2).trans rfl
    cases gk with
    | zero => exact absurd HQ.out (by have := HI.out; omega)
    | succ k1 =>
    by_cases hc : i < (rs.length : Int)
    · obtain ⟨ad, x, eA, hx, hx0, hx1, hx2⟩ := cM_at HRS.out i HI.out.1 hc
      cases eA
      have hwr := below_step HB4.out HB.out
      have hy0 := (hwr.cell (World.block_lt_of_cell? w _ hx0)).trans hx0
      have hy1 := (hwr.cell (World.block_lt_of_cell? w _ hx1)).trans hx1
      have hy2 := (hwr.cell (World.block_lt_of_cell? w _ hx2)).trans hx2
      have hmem := List.mem_of_getElem? hx
      obtain ⟨hxn, hxL⟩ := limB_of (HLM.out x hmem)
      obtain ⟨kD, hkD⟩ := (wDivMod_ev x.ng a1_0 x.xs l1_1 hxL HG.out.1 (by omega) (by have := HG.out.2.1; omega) H1G.out).rounds
      rw [if_neg HG.out.2.2] at hkD
      generalize hWE' : W (wv x.ng x.xs / wv a1_0 l1_1) = Wq at hkD
      generalize hWR' : W (wv x.ng x.xs % wv a1_0 l1_1) = Wr at hkD
      obtain ⟨qb, ql⟩ := Wq
      obtain ⟨sb, sl⟩ := Wr
      have HKD := Aside0.mk hkD
      have HWE := Aside0.mk hWE'
      have HXD := Aside0.mk ((HLD.out x hmem).below hwr)
      have HX := Aside0.mk hx
      have BG := Aside0.mk (blk_below BG4.out HB.out)
      have hcg0 : wr.cell? ⟨gG, 0, none⟩ = some (.bool a1_0) := (blk_cell BG.out 0).trans rfl
      have hcg1 : wr.cell? ⟨gG, 1, none⟩ = some (.slice A1_1 l1_1.length c1_1) := (blk_cell BG.out 1).trans rfl
      have HR1w := Aside0.mk (Kd.C_below HR1.out hwr)
      have d1 : decide (i < (rs.length : Int)) = true := decide_eq_true hc
      have d2 : decide (0 ≤ i) = true := decide_eq_true HI.out.1
      have p1 : (0 ≤ i) = True := eq_true HI.out.1
      have p2 : (i < (rs.length : Int)) = True := eq_true hc
      have HC := Aside0.mk hc
      have HOL := Aside0.mk (show os.length ≤ 1000000 by
        have h1 := congrArg List.length HO.out
        rw [List.length_map, List.length_map, List.length_take] at h1
        have := HLEN.out
        omega)
      clear hx0 hx1 hx2 hwr hmem hxn hxL hkD hWE' hWR' hx hc
      go_wp2_with (first
        | ((with_reducible refine gate_dst (N := 9) rfl ?_); refine box_event ?hg (N := 9) ?hd (cs := #[.int .i64 0, .bool false, .slice none 0 0]) (t := 46) ?hr ?_; (case hd => rfl); (case hg => rfl); (case hr => first | (go_simp; done) | (go_simp; rfl)); intro gX hgX w7 hbox hb; have BX7 := Aside0.mk hbox; have GX := Aside0.mk (show wr.heap.size ≤ gX by rw [hgX]; exact Nat.le_refl _); have HB7 := Aside0.mk hb; have nGX : gG ≠ gX := (hgX ▸ Nat.ne_of_lt (blk_lt BG.out)); have nXG : gX ≠ gG := (fun e => nGX e.symm); have BG7 := Aside0.mk (blk_below BG.out hb); clear hgX hbox hb; have hcg7 : w7.cell? ⟨gG, 0, none⟩ = some (.bool a1_0) := (blk_cell BG7.out 0).trans rfl; have hcg8 : w7.cell? ⟨gG, 1, none⟩ = some (.slice A1_1 l1_1.length c1_1) := (blk_cell BG7.out 1).trans rfl; have hcz0 : w7.cell? ⟨gX, 0, none⟩ = some (.int .i64 0) := (blk_cell BX7.out 0).trans rfl; have hcz1 : w7.cell? ⟨gX, 1, none⟩ = some (.bool false) := (blk_cell BX7.out 1).trans rfl; have hcz2 : w7.cell? ⟨gX, 2, none⟩ = some (.slice none 0 0) := (blk_cell BX7.out 2).trans rfl; have hfz0 := blk_frozen BX7.out 0; have hfz1 := blk_frozen BX7.out 1; have hfz2 := blk_frozen BX7.out 2)
        | (go_at_call 48; (with_reducible refine (whole_DivMod.calls kD x.ng _ _ x.xs a1_0 _ _ l1_1 qb ql sb sl 0 _ ?s1 ?s2 ?s3 ?s4 HKD.out).mono ?_); (case s1 => exact Kd.C_below HXD.out.2 (by repeat first | exact HB7.out | refine below_set ?_ GX.out | apply below_drew1)); (case s2 => exact HXD.out.1); (case s3 => exact Kd.C_below HR1w.out (by repeat first | exact HB7.out | refine below_set ?_ GX.out | apply below_drew1)); (case s4 => exact HC1.out); rintro e w8 ⟨vq, vs, rfl, ho, ho2, hb⟩; obtain ⟨Aq, cq, eq⟩ := Kd.R_slice ho; subst eq; obtain ⟨As, cs, es⟩ := Kd.R_slice ho2; subst es; have HOQ := Aside0.mk (show OwnK ((w8.alloc (.cells #[.bool qb, .slice Aq ql.length cq] 24 (0, 0))).alloc (.cells #[.bool sb, .slice As sl.length cs] 24 (0, 0))) wr.heap.size ⟨x.v, qb, Aq, cq, ql⟩ from Kd.R_alloc (Kd.R_alloc (Kd.R_mono (Kd.R_lower ho (Below.size (by repeat first | exact HB7.out | refine below_set ?_ GX.out | apply below_drew1))) (fun _ _ => trivial)) _) _); have HB8 := Aside0.mk (below_step (by repeat first | exact HB7.out | refine below_set ?_ GX.out | apply below_drew1) hb); have BX8 := Aside0.mk (blk_below (g := gX) (o := .cells #[.int .i64 x.v, .bool x.ng, .slice x.A x.xs.length x.c] 46 (0, 0)) (by (with_reducible repeat (first | refine blk_drewN ?_ _ | refine blk_drew ?_ | refine blk_alloc ?_ _)); refine blk_put (cs := #[.int .i64 x.v, .bool x.ng, .slice none 0 0]) ?_ 2 _ rfl; refine blk_put (cs := #[.int .i64 x.v, .bool false, .slice none 0 0]) ?_ 1 _ rfl; refine blk_put (cs := #[.int .i64 0, .bool false, .slice none 0 0]) ?_ 0 _ rfl; exact BX7.out) hb); have BO8 := Aside0.mk (blk_below BO.out HB8.out); have BX9 := Aside0.mk (show ((w8.alloc (.cells #[.bool qb, .slice Aq ql.length cq] 24 (0, 0))).alloc (.cells #[.bool sb, .slice As sl.length cs] 24 (0, 0))).heap[gX]? = _ from blk_alloc (blk_alloc BX8.out _) _); have BO9 := Aside0.mk (show ((w8.alloc (.cells #[.bool qb, .slice Aq ql.length cq] 24 (0, 0))).alloc (.cells #[.bool sb, .slice As sl.length cs] 24 (0, 0))).heap[gO]? = _ from blk_alloc (blk_alloc BO8.out _) _); have hw0 : ((w8.alloc (.cells #[.bool qb, .slice Aq ql.length cq] 24 (0, 0))).alloc (.cells #[.bool sb, .slice As sl.length cs] 24 (0, 0))).cell? ⟨gX, 0, none⟩ = some (.int .i64 x.v) := (blk_cell BX9.out 0).trans rfl; have hw1 : ((w8.alloc (.cells #[.bool qb, .slice Aq ql.length cq] 24 (0, 0))).alloc (.cells #[.bool sb, .slice As sl.length cs] 24 (0, 0))).cell? ⟨gO, 2, none⟩ = some (.slice Au os.length cu) := (blk_cell BO9.out 2).trans rfl; have HB9 := Aside0.mk (below_alloc (below_alloc HB8.out (.cells #[.bool qb, .slice Aq ql.length cq] 24 (0, 0))) (.cells #[.bool sb, .slice As sl.length cs] 24 (0, 0))); clear ho ho2 hb)
        | ((with_reducible refine gate_builtin (b := .append) (xs := #[.tmp 31, .tmp 36]) rfl ?_); at_builtin; refine Kd.R_append kM (w0 := w4) w4.heap.size rfl (.tmp 31) (.tmp 36) 25 46 (.agg #[.int .i64 0, .bool false, .slice none 0 0]) 40 rfl Try.underlying25 infoM rfl (by decide) (by decide) (.slice Au os.length cu) os ⟨x.v, qb, Aq, cq, ql⟩ (encM ⟨x.v, qb, Aq, cq, ql⟩) (fun _ => True) (fun _ => False) rfl ?aX rfl (fun _ h => h.elim) (fun _ _ => trivial) ?aO ?aB ?aS ?aL ?_; (case aX => simp only [World.alloc, Array.size_push]; rfl); (case aO => exact Kd.R_below HU.out HB9.out); (case aB => exact below_step HB.out HB9.out); (case aS => exact (below_step HB.out HB9.out).size); (case aL => have := HOL.out; omega); intro v10 w10 ho hb hg hat; obtain ⟨A10, c10, e10⟩ := Kd.R_slice ho; subst e10; rw [List.length_append, List.length_singleton] at ho; have HO10 := Aside0.mk ho; have HB10 := Aside0.mk hb; have HG10 := Aside0.mk hg; have BO10 := Aside0.mk ((hg.block gO (Array.getElem?_eq_some_iff.1 BO9.out).1 (fun e => by obtain ⟨cs, hc⟩ := Kd.R_typed (Kd.R_below HU.out HB9.out) gO e.symm; exact absurd rfl (box_ne BO9.out hc (by decide)))).trans BO9.out); clear ho hb hg hat; have hcp2 : w10.cell? ⟨gO, 2, none⟩ = some (.slice Au os.length cu) := (blk_cell BO10.out 2).trans rfl; have hfp2 := blk_frozen BO10.out 2))
      have hwi : wrap64 (i + 1) = i + 1 := by
        have h1 := HI.out
        have h2 := HLEN.out
        unfold wrap64; omega
      rw [hwi]
      have hi1 : 0 ≤ i + 1 ∧ i + 1 ≤ (rs.length : Int) := by have h1 := HI.out; have h2 := HC.out; omega
      have hq1 : (rs.length : Int) - (i + 1) < (k1 : Int) := by have h1 := HQ.out; omega
      have hkg := keeps_grown HG10.out (Kd.R_typed (Kd.R_below HU.out HB9.out)) (by decide)
      have hks := fun (k : Nat) (cells : Array Value) (t : Nat) (ht : t ≠ 27) (hk : w10.heap[k]? = some (Obj.cells cells t (0, 0))) => Below.heap_setCell w10 ⟨gO, 2, none⟩ (.slice A10 (os.length + 1) c10) k (box_ne BO10.out hk (fun e => ht e.symm))
      have hbo : (w10.setCell ⟨gO, 2, none⟩ (.slice A10 (os.length + 1) c10)).heap[gO]? = some (.cells #[.bool a2_0, .slice A2_1 l2_1.length c2_1, .slice A10 (os.length + 1) c10] 27 (0, 0)) := blk_put (cs := #[.bool a2_0, .slice A2_1 l2_1.length c2_1, .slice Au os.length cu]) BO10.out 2 _ rfl
      have hkk : ∀ z ∈ os ++ [(⟨x.v, qb, Aq, cq, ql⟩ : RM)], OwnK (w10.setCell ⟨gO, 2, none⟩ (.slice A10 (os.length + 1) c10)) w4.heap.size z := fun z hz => (List.mem_append.1 hz).elim (fun h => (((HK.out z h).below HB9.out).move hkg).move (fun k cells hk => hks k cells _ (by decide) hk)) (fun h => by rw [List.mem_singleton.1 h]; exact ((OwnK.lower HOQ.out HB.out.size).move hkg).move (fun k cells hk => hks k cells _ (by decide) hk))
      have hap : Apart (os ++ [(⟨x.v, qb, Aq, cq, ql⟩ : RM)]) := apart_snoc HA.out (fun z hz k hk e => by have h1 := ((HK.out z hz).lt k hk).2; have h2 := (HOQ.out.lt k e).1; omega)
      have hos : (os ++ [(⟨x.v, qb, Aq, cq, ql⟩ : RM)]).map toM = (rs.take (i + 1).toNat).map (fun x => quoM (wv a1_0 l1_1) (prR x)) := by
        rw [drop_at _ rs i HI.out.1 x HX.out, List.map_append, HO.out]
        have e1 : quoM (wv a1_0 l1_1) (prR x) = ⟨x.v, ⟨qb, ql⟩⟩ := by
          show enP (x.v, wv x.ng x.xs / wv a1_0 l1_1) = _
          unfold enP
          rw [HWE.out]
        rw [e1]; rfl
      go_roundg k1
      case measure => omega
      case rel => exact ⟨i + 1, _, os ++ [⟨x.v, qb, Aq, cq, ql⟩], rfl, ⟨hi1⟩, ⟨hq1⟩, ⟨hos⟩, ⟨hbo⟩, ⟨kM_move HO10.out (fun k cells hk => hks k cells _ (by decide) hk)⟩, ⟨hkk⟩, ⟨hap⟩, ⟨below_set HB10.out GO.out⟩⟩
    · have hi : i.toNat = rs.length := by have := HI.out; omega
      have d1 : decide (i < (rs.length : Int)) = false := decide_eq_false hc
      have BR := Aside0.mk (blk_below BR4.out HB.out)
      have hcr0 : wr.cell? ⟨gR, 0, none⟩ = some (.bool false) := (blk_cell BR.out 0).trans rfl
      have hcr1 : wr.cell? ⟨gR, 1, none⟩ = some (.slice none 0 0) := (blk_cell BR.out 1).trans rfl
      have hcr2 : wr.cell? ⟨gR, 2, none⟩ = some (.slice none 0 0) := (blk_cell BR.out 2).trans rfl
      have hfr0 := blk_frozen BR.out 0
      have hfr1 := blk_frozen BR.out 1
      have hfr2 := blk_frozen BR.out 2
      have HF := Aside0.mk hi
      clear hc hi
      go_wp2
      have hne : ∀ (k : Nat) (cells : Array Value) (t : Nat), wr.heap[k]? = some (Obj.cells cells t (0, 0)) → t ≠ 27 → k ≠ gR := fun k cells t hk ht => box_ne BR.out hk (fun e => ht e.symm)
      have hfin : os.map toM = r3 := by rw [HO.out, HF.out, List.take_length]; exact HR3.out
      have hlb : w.heap.size ≤ w4.heap.size := HB4.out.size
      refine bodyPost_ret (results_cell_row rfl _ _ gR 27 #[.bool a2_0, .slice A2_1 l2_1.length c2_1, .slice Au os.length cu] (0, 0) _ rfl (by refine blk_put (cs := #[.bool a2_0, .slice A2_1 l2_1.length c2_1, .slice none 0 0]) ?_ 2 _ rfl; refine blk_put (cs := #[.bool a2_0, .slice none 0 0, .slice none 0 0]) ?_ 1 _ rfl; refine blk_put (cs := #[.bool false, .slice none 0 0, .slice none 0 0]) ?_ 0 _ rfl; exact BR.out) Try.underlying27 rfl (by kernel_rfl)) rfl ?_
      have hB : Below w.heap.size w (((wr.setCell ⟨gR, 0, none⟩ (.bool a2_0)).setCell ⟨gR, 1, none⟩ (.slice A2_1 l2_1.length c2_1)).setCell ⟨gR, 2, none⟩ (.slice Au os.length cu)) := by
        repeat first | exact below_step HB4.out HB.out | refine below_set ?_ GR.out
      refine ⟨_, _, rfl, ?_, ?_, hB⟩
      · refine Kd.V_mono (Kd.V_below (Kd.V_bound HS2.out) hB) (fun k hk => ⟨.inl hk.1, fun e => ?_⟩)
        have h1 := Kd.R_base HU.out k e.symm
        have h2 := hk.2
        omega
      · rw [← hfin]
        exact S_of_outs (Kd.R_lower (kM_move HU.out (fun k cells hk => set3_other _ _ _ _ _ _ _ _ k (hne k cells _ hk (by decide)))) hlb) (fun y hy => ((HK.out y hy).lower hlb).move (fun k cells hk => set3_other _ _ _ _ _ _ _ _ k (hne k cells _ hk (by decide)))) HA.out (fun k hk => Nat.le_trans hlb (Kd.R_base HU.out k hk)) (fun y hy k hk => Nat.le_trans hlb ((HK.out y hy).lt k hk).1)
end Go.Proofs.Ytdicjemjmlbmlaa.H
