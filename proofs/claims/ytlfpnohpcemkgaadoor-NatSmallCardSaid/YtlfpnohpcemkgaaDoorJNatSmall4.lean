/- Joined by wip/tools/bundle.py for the claim of NatSmall: PAx24, NatT, NatI, NatLSmall, PureNatSmall, LawNatSmall. -/
import Derived.Test.YtlfpnohpcemkgaaDoorJNatSmall1
import Derived.Test.YtlfpnohpcemkgaaDoorJNatSmall2
import Derived.Test.YtlfpnohpcemkgaaDoorJNatSmall3
import Derived.Test.YtlfpnohpcemkgaaDoorRows
import Derived.WalkKit
import Derived.Test.YtlfpnohpcemkgaaDoorTie
import Derived.Test.YtlfpnohpcemkgaaDoorCards
import Derived.SevenTiedAt
import Derived.Handed
import Derived.Lib.LaidIn
import Derived.Lib.LaidU8
import Derived.ProofKit
import Derived.OpenShut
import Derived.ShutString
import Derived.ChangeOld
import Derived.Below
import Derived.SizedLaws
import Derived.Test.YtlfpnohpcemkgaaDoorWSized
/- Written by a program of this session, wip/tools/patch_print.py, over the kit's print of the loaded functions. -/
namespace Go.Proofs.YtlfpnohpcemkgaaDoor.H
end Go.Proofs.YtlfpnohpcemkgaaDoor.H
namespace Go.Proofs.YtlfpnohpcemkgaaDoor.PA
open Go.RowKit Go.Proofs.YtlfpnohpcemkgaaDoorW.PrintWords Go.Proofs.YtlfpnohpcemkgaaDoorW.PrintLast Go.Proofs.YtlfpnohpcemkgaaDoorW.PrintMore Go.Proofs.YtlfpnohpcemkgaaDoor.H
attribute [local go_sem] max2_int min2_int max_two min_two max_three min_three max_four min_four   -- for this text's walks alone
set_option linter.unusedVariables false
set_option linter.unusedSimpArgs false

/-! ### gudgeonref01_Add: function 27 -/
def gudgeonref01_Add.f (k : Nat) (l0 : List Int) (l1 : List Int) : Option (List Int) := (gudgeonref01_Bits.f k l0).bind fun t649 => ((gudgeonref01_Bits.f k l1).bind fun t652 => ((gudgeonref01_add.f k t649 t652).bind fun t655 => ((gudgeonref01_Limbs.f k t655).bind fun t658 => (some t658))))
theorem gudgeonref01_Add.mono : ∀ a0 a1 k, LeO (gudgeonref01_Add.f k a0 a1) (gudgeonref01_Add.f (k + 1) a0 a1) := by
  intro a0 a1 k
  unfold gudgeonref01_Add.f
  repeat' first
      | (with_reducible exact gudgeonref01_Bits.mono _ _)
      | (with_reducible exact gudgeonref01_Limbs.mono _ _)
      | (with_reducible exact gudgeonref01_add.mono _ _ _)
      | (with_reducible exact LeO.refl _)
      | (with_reducible exact LeO.none _)
      | (with_reducible refine LeO.ite ?_ ?_)
      | (with_reducible refine LeO.bind ?_ (fun _ => ?_))
      | exact gudgeonref01_Bits.mono _ _
      | exact gudgeonref01_Limbs.mono _ _
      | exact gudgeonref01_add.mono _ _ _
      | exact LeO.none _
      | refine LeO.ite ?_ ?_
      | refine LeO.bind ?_ (fun _ => ?_)
set_option maxHeartbeats 8000000 in
set_option maxRecDepth 100000 in
theorem gudgeonref01_Add.calls (k : Nat) (A0 : Option Addr) (c0 : Nat) (l0 : List Int) (A1 : Option Addr) (c1 : Nat) (l1 : List Int) (r : List Int) (w : World) (hr0 : Kd.C (Kd.int .u32) w A0 l0.length l0) (hc0 : l0.length ≤ c0) (hr1 : Kd.C (Kd.int .u32) w A1 l1.length l1) (hc1 : l1.length ≤ c1) (h : gudgeonref01_Add.f k l0 l1 = some r) :
    Calls Tryd.prog 27 #[.slice A0 l0.length c0, .slice A1 l1.length c1] w fun e w' => ∃ v0_ : Value, e = .returned (v0_) ∧ Kd.R (Kd.int .u32) 43 w' w.heap.size (fun _ => True) v0_ r ∧ Below w.heap.size w w' := by
  have HR0 := Aside0.mk hr0
  have HC0 := Aside0.mk hc0
  clear hr0 hc0
  have HR1 := Aside0.mk hr1
  have HC1 := Aside0.mk hc1
  clear hr1 hc1
  have HB := Aside0.mk (Below.refl w.heap.size w)
  have H : ((gudgeonref01_Bits.f k l0).bind fun t649 => ((gudgeonref01_Bits.f k l1).bind fun t652 => ((gudgeonref01_add.f k t649 t652).bind fun t655 => ((gudgeonref01_Limbs.f k t655).bind fun t658 => (some t658))))) = some r := h
  clear h
  replace H := Option.bind_eq_some_iff.mp H
  obtain ⟨t649, A30, H⟩ := H
  replace H : ((gudgeonref01_Bits.f k l1).bind fun t652 => ((gudgeonref01_add.f k t649 t652).bind fun t655 => ((gudgeonref01_Limbs.f k t655).bind fun t658 => (some t658)))) = some r := H
  have A3 := Aside0.mk A30
  clear A30
  replace H := Option.bind_eq_some_iff.mp H
  obtain ⟨t652, A40, H⟩ := H
  replace H : ((gudgeonref01_add.f k t649 t652).bind fun t655 => ((gudgeonref01_Limbs.f k t655).bind fun t658 => (some t658))) = some r := H
  have A4 := Aside0.mk A40
  clear A40
  replace H := Option.bind_eq_some_iff.mp H
  obtain ⟨t655, A50, H⟩ := H
  replace H : ((gudgeonref01_Limbs.f k t655).bind fun t658 => (some t658)) = some r := H
  have A5 := Aside0.mk A50
  clear A50
  replace H := Option.bind_eq_some_iff.mp H
  obtain ⟨t658, A60, H⟩ := H
  replace H : (some t658) = some r := H
  have A6 := Aside0.mk A60
  clear A60
  obtain rfl := Option.some.inj H
  go_enter Tryd.func27, Tryd.ntmps27
  go_wp2_with (first | ((with_reducible refine gate_callee (f := 41) rfl ?_); refine goesL_ (some 6) rfl rfl Tryd.func41 (by kernel_rfl) rfl #[.slice A0 l0.length c0] rfl (by (try simp only [List.map_toArray, List.map_cons, List.map_nil]); first | done | rfl | (simp only [List.length_drop, List.length_take]; rfl)) ?_; (with_reducible refine (gudgeonref01_Bits.calls k _ _ l0 t649 _ ?side1 ?side2 A3.out).mono ?_); (case side1 => repeat (first | exact HR0.out | (with_reducible refine Kd.C_alloc ?_ _) | (with_reducible refine Kd.C_drewN ?_ _) | (with_reducible refine Kd.C_drew ?_))); (case side2 => exact HC0.out); rintro e w7 ⟨v650, rfl, ho0, hb⟩; refine ⟨_, rfl, ?_⟩; have n0_ := Aside0.mk (Kd.R_lower ho0 (below_size (by repeat (first | (with_reducible first | exact HB.out | apply below_alloc | apply pw_below_drewN | apply below_drew1) | exact HB.out)))); have n1_ := Aside0.mk (below_step (by repeat (first | (with_reducible first | exact HB.out | apply below_alloc | apply pw_below_drewN | apply below_drew1) | exact HB.out)) hb); clear HB; have HO651 := n0_; have HB := n1_; clear n0_ n1_; (try clear hb); (try clear hb2); (try clear hk); (try clear hi); (try clear ho0)) | ((with_reducible refine gate_callee (f := 41) rfl ?_); refine goesL_ (some 8) rfl rfl Tryd.func41 (by kernel_rfl) rfl #[.slice A1 l1.length c1] rfl (by (try simp only [List.map_toArray, List.map_cons, List.map_nil]); first | done | rfl | (simp only [List.length_drop, List.length_take]; rfl)) ?_; (with_reducible refine (gudgeonref01_Bits.calls k _ _ l1 t652 _ ?side1 ?side2 A4.out).mono ?_); (case side1 => repeat (first | exact (Kd.C_below HR1.out HB.out) | (with_reducible refine Kd.C_alloc ?_ _) | (with_reducible refine Kd.C_drewN ?_ _) | (with_reducible refine Kd.C_drew ?_))); (case side2 => exact HC1.out); rintro e w8 ⟨v653, rfl, ho0, hb⟩; refine ⟨_, rfl, ?_⟩; have n0_ := Aside0.mk (Kd.R_elder' (by (with_reducible repeat (first | apply Kd.R_alloc | apply Kd.R_drewN | apply Kd.R_drew)); exact HO651.out) (Kd.R_base ho0) hb); have n1_ := Aside0.mk (Kd.R_lower (Kd.R_new' ho0 (Kd.R_lt (by (with_reducible repeat (first | apply Kd.R_alloc | apply Kd.R_drewN | apply Kd.R_drew)); exact HO651.out))) (below_size (by repeat (first | (with_reducible first | exact HB.out | apply below_alloc | apply pw_below_drewN | apply below_drew1) | exact HB.out)))); have n2_ := Aside0.mk (below_step (by repeat (first | (with_reducible first | exact HB.out | apply below_alloc | apply pw_below_drewN | apply below_drew1) | exact HB.out)) hb); clear HO651; clear HB; have HO651 := n0_; have HO654 := n1_; have HB := n2_; clear n0_ n1_ n2_; (try clear hb); (try clear hb2); (try clear hk); (try clear hi); (try clear ho0); obtain ⟨Ao9, co9, eo9⟩ := Kd.R_slice HO651.out; subst eo9; obtain ⟨Ao10, co10, eo10⟩ := Kd.R_slice HO654.out; subst eo10) | ((with_reducible refine gate_callee (f := 44) rfl ?_); refine goesL_ (some 9) rfl rfl Tryd.func44 (by kernel_rfl) rfl #[.slice Ao9 t649.length co9, .slice Ao10 t652.length co10] rfl (by (try simp only [List.map_toArray, List.map_cons, List.map_nil]); first | done | rfl | (simp only [List.length_drop, List.length_take]; rfl)) ?_; (with_reducible refine (gudgeonref01_add.calls k _ _ t649 _ _ t652 t655 _ ?side1 ?side2 ?side3 ?side4 A5.out).mono ?_); (case side1 => repeat (first | exact (Kd.R_reads' HO651.out).2.2 | (with_reducible refine Kd.C_alloc ?_ _) | (with_reducible refine Kd.C_drewN ?_ _) | (with_reducible refine Kd.C_drew ?_))); (case side2 => exact (Kd.R_reads' HO651.out).2.1); (case side3 => repeat (first | exact (Kd.R_reads' HO654.out).2.2 | (with_reducible refine Kd.C_alloc ?_ _) | (with_reducible refine Kd.C_drewN ?_ _) | (with_reducible refine Kd.C_drew ?_))); (case side4 => exact (Kd.R_reads' HO654.out).2.1); rintro e w11 ⟨v656, rfl, ho0, hb⟩; refine ⟨_, rfl, ?_⟩; have n0_ := Aside0.mk (Kd.R_elder' (by (with_reducible repeat (first | apply Kd.R_alloc | apply Kd.R_drewN | apply Kd.R_drew)); exact HO651.out) (Kd.R_base ho0) hb); have n1_ := Aside0.mk (Kd.R_elder' (by (with_reducible repeat (first | apply Kd.R_alloc | apply Kd.R_drewN | apply Kd.R_drew)); exact HO654.out) (Kd.R_base ho0) hb); have n2_ := Aside0.mk (Kd.R_lower (Kd.R_new' (Kd.R_new' ho0 (Kd.R_lt (by (with_reducible repeat (first | apply Kd.R_alloc | apply Kd.R_drewN | apply Kd.R_drew)); exact HO651.out))) (Kd.R_lt (by (with_reducible repeat (first | apply Kd.R_alloc | apply Kd.R_drewN | apply Kd.R_drew)); exact HO654.out))) (below_size (by repeat (first | (with_reducible first | exact HB.out | apply below_alloc | apply pw_below_drewN | apply below_drew1) | exact HB.out)))); have n3_ := Aside0.mk (below_step (by repeat (first | (with_reducible first | exact HB.out | apply below_alloc | apply pw_below_drewN | apply below_drew1) | exact HB.out)) hb); clear HO651; clear HO654; clear HB; have HO651 := n0_; have HO654 := n1_; have HO657 := n2_; have HB := n3_; clear n0_ n1_ n2_ n3_; (try clear hb); (try clear hb2); (try clear hk); (try clear hi); (try clear ho0); obtain ⟨Ao12, co12, eo12⟩ := Kd.R_slice HO657.out; subst eo12) | ((with_reducible refine gate_callee (f := 43) rfl ?_); refine goesL_ (some 10) rfl rfl Tryd.func43 (by kernel_rfl) rfl #[.slice Ao12 t655.length co12] rfl (by (try simp only [List.map_toArray, List.map_cons, List.map_nil]); first | done | rfl | (simp only [List.length_drop, List.length_take]; rfl)) ?_; (with_reducible refine (gudgeonref01_Limbs.calls k _ _ t655 t658 _ ?side1 ?side2 A6.out).mono ?_); (case side1 => repeat (first | exact (Kd.R_reads' HO657.out).2.2 | (with_reducible refine Kd.C_alloc ?_ _) | (with_reducible refine Kd.C_drewN ?_ _) | (with_reducible refine Kd.C_drew ?_))); (case side2 => exact (Kd.R_reads' HO657.out).2.1); rintro e w13 ⟨v659, rfl, ho0, hb⟩; refine ⟨_, rfl, ?_⟩; have n0_ := Aside0.mk (Kd.R_below (by (with_reducible repeat (first | apply Kd.R_alloc | apply Kd.R_drewN | apply Kd.R_drew)); exact HO651.out) hb); have n1_ := Aside0.mk (Kd.R_below (by (with_reducible repeat (first | apply Kd.R_alloc | apply Kd.R_drewN | apply Kd.R_drew)); exact HO654.out) hb); have n2_ := Aside0.mk (Kd.R_below (by (with_reducible repeat (first | apply Kd.R_alloc | apply Kd.R_drewN | apply Kd.R_drew)); exact HO657.out) hb); have n3_ := Aside0.mk (Kd.R_lower ho0 (below_size (by repeat (first | (with_reducible first | exact HB.out | apply below_alloc | apply pw_below_drewN | apply below_drew1) | exact HB.out)))); have n4_ := Aside0.mk (below_step (by repeat (first | (with_reducible first | exact HB.out | apply below_alloc | apply pw_below_drewN | apply below_drew1) | exact HB.out)) hb); clear HO651; clear HO654; clear HO657; clear HB; have HO651 := n0_; have HO654 := n1_; have HO657 := n2_; have HO660 := n3_; have HB := n4_; clear n0_ n1_ n2_ n3_ n4_; (try clear hb); (try clear hb2); (try clear hk); (try clear hi); (try clear ho0)))
  go_ret
  exact ⟨_, by first | rfl | (simp [errW_none, errW_some] <;> rfl) | (simp [*, errW_none, errW_some] <;> rfl), by (with_reducible repeat (first | apply Kd.R_alloc | apply Kd.R_drewN | apply Kd.R_drew)); exact HO660.out, by repeat (first | (with_reducible first | exact HB.out | apply below_alloc | apply pw_below_drewN | apply below_drew1) | exact HB.out)⟩

/-! ### gudgeonref01_Mul: function 28 -/
def gudgeonref01_Mul.f (k : Nat) (l0 : List Int) (l1 : List Int) : Option (List Int) := (gudgeonref01_Bits.f k l0).bind fun t661 => ((gudgeonref01_Bits.f k l1).bind fun t664 => ((gudgeonref01_mul.f k t661 t664).bind fun t667 => ((gudgeonref01_Limbs.f k t667).bind fun t670 => (some t670))))
theorem gudgeonref01_Mul.mono : ∀ a0 a1 k, LeO (gudgeonref01_Mul.f k a0 a1) (gudgeonref01_Mul.f (k + 1) a0 a1) := by
  intro a0 a1 k
  unfold gudgeonref01_Mul.f
  repeat' first
      | (with_reducible exact gudgeonref01_Bits.mono _ _)
      | (with_reducible exact gudgeonref01_Limbs.mono _ _)
      | (with_reducible exact gudgeonref01_mul.mono _ _ _)
      | (with_reducible exact LeO.refl _)
      | (with_reducible exact LeO.none _)
      | (with_reducible refine LeO.ite ?_ ?_)
      | (with_reducible refine LeO.bind ?_ (fun _ => ?_))
      | exact gudgeonref01_Bits.mono _ _
      | exact gudgeonref01_Limbs.mono _ _
      | exact gudgeonref01_mul.mono _ _ _
      | exact LeO.none _
      | refine LeO.ite ?_ ?_
      | refine LeO.bind ?_ (fun _ => ?_)
set_option maxHeartbeats 8000000 in
set_option maxRecDepth 100000 in
theorem gudgeonref01_Mul.calls (k : Nat) (A0 : Option Addr) (c0 : Nat) (l0 : List Int) (A1 : Option Addr) (c1 : Nat) (l1 : List Int) (r : List Int) (w : World) (hr0 : Kd.C (Kd.int .u32) w A0 l0.length l0) (hc0 : l0.length ≤ c0) (hr1 : Kd.C (Kd.int .u32) w A1 l1.length l1) (hc1 : l1.length ≤ c1) (h : gudgeonref01_Mul.f k l0 l1 = some r) :
    Calls Tryd.prog 28 #[.slice A0 l0.length c0, .slice A1 l1.length c1] w fun e w' => ∃ v0_ : Value, e = .returned (v0_) ∧ Kd.R (Kd.int .u32) 43 w' w.heap.size (fun _ => True) v0_ r ∧ Below w.heap.size w w' := by
  have HR0 := Aside0.mk hr0
  have HC0 := Aside0.mk hc0
  clear hr0 hc0
  have HR1 := Aside0.mk hr1
  have HC1 := Aside0.mk hc1
  clear hr1 hc1
  have HB := Aside0.mk (Below.refl w.heap.size w)
  have H : ((gudgeonref01_Bits.f k l0).bind fun t661 => ((gudgeonref01_Bits.f k l1).bind fun t664 => ((gudgeonref01_mul.f k t661 t664).bind fun t667 => ((gudgeonref01_Limbs.f k t667).bind fun t670 => (some t670))))) = some r := h
  clear h
  replace H := Option.bind_eq_some_iff.mp H
  obtain ⟨t661, A30, H⟩ := H
  replace H : ((gudgeonref01_Bits.f k l1).bind fun t664 => ((gudgeonref01_mul.f k t661 t664).bind fun t667 => ((gudgeonref01_Limbs.f k t667).bind fun t670 => (some t670)))) = some r := H
  have A3 := Aside0.mk A30
  clear A30
  replace H := Option.bind_eq_some_iff.mp H
  obtain ⟨t664, A40, H⟩ := H
  replace H : ((gudgeonref01_mul.f k t661 t664).bind fun t667 => ((gudgeonref01_Limbs.f k t667).bind fun t670 => (some t670))) = some r := H
  have A4 := Aside0.mk A40
  clear A40
  replace H := Option.bind_eq_some_iff.mp H
  obtain ⟨t667, A50, H⟩ := H
  replace H : ((gudgeonref01_Limbs.f k t667).bind fun t670 => (some t670)) = some r := H
  have A5 := Aside0.mk A50
  clear A50
  replace H := Option.bind_eq_some_iff.mp H
  obtain ⟨t670, A60, H⟩ := H
  replace H : (some t670) = some r := H
  have A6 := Aside0.mk A60
  clear A60
  obtain rfl := Option.some.inj H
  go_enter Tryd.func28, Tryd.ntmps28
  go_wp2_with (first | ((with_reducible refine gate_callee (f := 41) rfl ?_); refine goesL_ (some 6) rfl rfl Tryd.func41 (by kernel_rfl) rfl #[.slice A0 l0.length c0] rfl (by (try simp only [List.map_toArray, List.map_cons, List.map_nil]); first | done | rfl | (simp only [List.length_drop, List.length_take]; rfl)) ?_; (with_reducible refine (gudgeonref01_Bits.calls k _ _ l0 t661 _ ?side1 ?side2 A3.out).mono ?_); (case side1 => repeat (first | exact HR0.out | (with_reducible refine Kd.C_alloc ?_ _) | (with_reducible refine Kd.C_drewN ?_ _) | (with_reducible refine Kd.C_drew ?_))); (case side2 => exact HC0.out); rintro e w7 ⟨v662, rfl, ho0, hb⟩; refine ⟨_, rfl, ?_⟩; have n0_ := Aside0.mk (Kd.R_lower ho0 (below_size (by repeat (first | (with_reducible first | exact HB.out | apply below_alloc | apply pw_below_drewN | apply below_drew1) | exact HB.out)))); have n1_ := Aside0.mk (below_step (by repeat (first | (with_reducible first | exact HB.out | apply below_alloc | apply pw_below_drewN | apply below_drew1) | exact HB.out)) hb); clear HB; have HO663 := n0_; have HB := n1_; clear n0_ n1_; (try clear hb); (try clear hb2); (try clear hk); (try clear hi); (try clear ho0)) | ((with_reducible refine gate_callee (f := 41) rfl ?_); refine goesL_ (some 8) rfl rfl Tryd.func41 (by kernel_rfl) rfl #[.slice A1 l1.length c1] rfl (by (try simp only [List.map_toArray, List.map_cons, List.map_nil]); first | done | rfl | (simp only [List.length_drop, List.length_take]; rfl)) ?_; (with_reducible refine (gudgeonref01_Bits.calls k _ _ l1 t664 _ ?side1 ?side2 A4.out).mono ?_); (case side1 => repeat (first | exact (Kd.C_below HR1.out HB.out) | (with_reducible refine Kd.C_alloc ?_ _) | (with_reducible refine Kd.C_drewN ?_ _) | (with_reducible refine Kd.C_drew ?_))); (case side2 => exact HC1.out); rintro e w8 ⟨v665, rfl, ho0, hb⟩; refine ⟨_, rfl, ?_⟩; have n0_ := Aside0.mk (Kd.R_elder' (by (with_reducible repeat (first | apply Kd.R_alloc | apply Kd.R_drewN | apply Kd.R_drew)); exact HO663.out) (Kd.R_base ho0) hb); have n1_ := Aside0.mk (Kd.R_lower (Kd.R_new' ho0 (Kd.R_lt (by (with_reducible repeat (first | apply Kd.R_alloc | apply Kd.R_drewN | apply Kd.R_drew)); exact HO663.out))) (below_size (by repeat (first | (with_reducible first | exact HB.out | apply below_alloc | apply pw_below_drewN | apply below_drew1) | exact HB.out)))); have n2_ := Aside0.mk (below_step (by repeat (first | (with_reducible first | exact HB.out | apply below_alloc | apply pw_below_drewN | apply below_drew1) | exact HB.out)) hb); clear HO663; clear HB; have HO663 := n0_; have HO666 := n1_; have HB := n2_; clear n0_ n1_ n2_; (try clear hb); (try clear hb2); (try clear hk); (try clear hi); (try clear ho0); obtain ⟨Ao9, co9, eo9⟩ := Kd.R_slice HO663.out; subst eo9; obtain ⟨Ao10, co10, eo10⟩ := Kd.R_slice HO666.out; subst eo10) | ((with_reducible refine gate_callee (f := 45) rfl ?_); refine goesL_ (some 9) rfl rfl Tryd.func45 (by kernel_rfl) rfl #[.slice Ao9 t661.length co9, .slice Ao10 t664.length co10] rfl (by (try simp only [List.map_toArray, List.map_cons, List.map_nil]); first | done | rfl | (simp only [List.length_drop, List.length_take]; rfl)) ?_; (with_reducible refine (gudgeonref01_mul.calls k _ _ t661 _ _ t664 t667 _ ?side1 ?side2 ?side3 ?side4 A5.out).mono ?_); (case side1 => repeat (first | exact (Kd.R_reads' HO663.out).2.2 | (with_reducible refine Kd.C_alloc ?_ _) | (with_reducible refine Kd.C_drewN ?_ _) | (with_reducible refine Kd.C_drew ?_))); (case side2 => exact (Kd.R_reads' HO663.out).2.1); (case side3 => repeat (first | exact (Kd.R_reads' HO666.out).2.2 | (with_reducible refine Kd.C_alloc ?_ _) | (with_reducible refine Kd.C_drewN ?_ _) | (with_reducible refine Kd.C_drew ?_))); (case side4 => exact (Kd.R_reads' HO666.out).2.1); rintro e w11 ⟨v668, rfl, ho0, hb⟩; refine ⟨_, rfl, ?_⟩; have n0_ := Aside0.mk (Kd.R_elder' (by (with_reducible repeat (first | apply Kd.R_alloc | apply Kd.R_drewN | apply Kd.R_drew)); exact HO663.out) (Kd.R_base ho0) hb); have n1_ := Aside0.mk (Kd.R_elder' (by (with_reducible repeat (first | apply Kd.R_alloc | apply Kd.R_drewN | apply Kd.R_drew)); exact HO666.out) (Kd.R_base ho0) hb); have n2_ := Aside0.mk (Kd.R_lower (Kd.R_new' (Kd.R_new' ho0 (Kd.R_lt (by (with_reducible repeat (first | apply Kd.R_alloc | apply Kd.R_drewN | apply Kd.R_drew)); exact HO663.out))) (Kd.R_lt (by (with_reducible repeat (first | apply Kd.R_alloc | apply Kd.R_drewN | apply Kd.R_drew)); exact HO666.out))) (below_size (by repeat (first | (with_reducible first | exact HB.out | apply below_alloc | apply pw_below_drewN | apply below_drew1) | exact HB.out)))); have n3_ := Aside0.mk (below_step (by repeat (first | (with_reducible first | exact HB.out | apply below_alloc | apply pw_below_drewN | apply below_drew1) | exact HB.out)) hb); clear HO663; clear HO666; clear HB; have HO663 := n0_; have HO666 := n1_; have HO669 := n2_; have HB := n3_; clear n0_ n1_ n2_ n3_; (try clear hb); (try clear hb2); (try clear hk); (try clear hi); (try clear ho0); obtain ⟨Ao12, co12, eo12⟩ := Kd.R_slice HO669.out; subst eo12) | ((with_reducible refine gate_callee (f := 43) rfl ?_); refine goesL_ (some 10) rfl rfl Tryd.func43 (by kernel_rfl) rfl #[.slice Ao12 t667.length co12] rfl (by (try simp only [List.map_toArray, List.map_cons, List.map_nil]); first | done | rfl | (simp only [List.length_drop, List.length_take]; rfl)) ?_; (with_reducible refine (gudgeonref01_Limbs.calls k _ _ t667 t670 _ ?side1 ?side2 A6.out).mono ?_); (case side1 => repeat (first | exact (Kd.R_reads' HO669.out).2.2 | (with_reducible refine Kd.C_alloc ?_ _) | (with_reducible refine Kd.C_drewN ?_ _) | (with_reducible refine Kd.C_drew ?_))); (case side2 => exact (Kd.R_reads' HO669.out).2.1); rintro e w13 ⟨v671, rfl, ho0, hb⟩; refine ⟨_, rfl, ?_⟩; have n0_ := Aside0.mk (Kd.R_below (by (with_reducible repeat (first | apply Kd.R_alloc | apply Kd.R_drewN | apply Kd.R_drew)); exact HO663.out) hb); have n1_ := Aside0.mk (Kd.R_below (by (with_reducible repeat (first | apply Kd.R_alloc | apply Kd.R_drewN | apply Kd.R_drew)); exact HO666.out) hb); have n2_ := Aside0.mk (Kd.R_below (by (with_reducible repeat (first | apply Kd.R_alloc | apply Kd.R_drewN | apply Kd.R_drew)); exact HO669.out) hb); have n3_ := Aside0.mk (Kd.R_lower ho0 (below_size (by repeat (first | (with_reducible first | exact HB.out | apply below_alloc | apply pw_below_drewN | apply below_drew1) | exact HB.out)))); have n4_ := Aside0.mk (below_step (by repeat (first | (with_reducible first | exact HB.out | apply below_alloc | apply pw_below_drewN | apply below_drew1) | exact HB.out)) hb); clear HO663; clear HO666; clear HO669; clear HB; have HO663 := n0_; have HO666 := n1_; have HO669 := n2_; have HO672 := n3_; have HB := n4_; clear n0_ n1_ n2_ n3_ n4_; (try clear hb); (try clear hb2); (try clear hk); (try clear hi); (try clear ho0)))
  go_ret
  exact ⟨_, by first | rfl | (simp [errW_none, errW_some] <;> rfl) | (simp [*, errW_none, errW_some] <;> rfl), by (with_reducible repeat (first | apply Kd.R_alloc | apply Kd.R_drewN | apply Kd.R_drew)); exact HO672.out, by repeat (first | (with_reducible first | exact HB.out | apply below_alloc | apply pw_below_drewN | apply below_drew1) | exact HB.out)⟩

/-! ### gudgeonref01_Sub: function 30 -/
def gudgeonref01_Sub.f (k : Nat) (l0 : List Int) (l1 : List Int) : Option (List Int × Int) := (gudgeonref01_Bits.f k l0).bind fun t673 => ((gudgeonref01_Bits.f k l1).bind fun t676 => ((gudgeonref01_cmp.f k t673 t676).bind fun t679 => (if t679 < 0 then (some (([] : List Int), 6)) else ((gudgeonref01_sub.f k t673 t676).bind fun t680 => ((gudgeonref01_Limbs.f k t680).bind fun t683 => (some (t683, 0)))))))
theorem gudgeonref01_Sub.mono : ∀ a0 a1 k, LeO (gudgeonref01_Sub.f k a0 a1) (gudgeonref01_Sub.f (k + 1) a0 a1) := by
  intro a0 a1 k
  unfold gudgeonref01_Sub.f
  repeat' first
      | (with_reducible exact gudgeonref01_Bits.mono _ _)
      | (with_reducible exact gudgeonref01_Limbs.mono _ _)
      | (with_reducible exact gudgeonref01_cmp.mono _ _ _)
      | (with_reducible exact gudgeonref01_sub.mono _ _ _)
      | (with_reducible exact LeO.refl _)
      | (with_reducible exact LeO.none _)
      | (with_reducible refine LeO.ite ?_ ?_)
      | (with_reducible refine LeO.bind ?_ (fun _ => ?_))
      | exact gudgeonref01_Bits.mono _ _
      | exact gudgeonref01_Limbs.mono _ _
      | exact gudgeonref01_cmp.mono _ _ _
      | exact gudgeonref01_sub.mono _ _ _
      | exact LeO.none _
      | refine LeO.ite ?_ ?_
      | refine LeO.bind ?_ (fun _ => ?_)
set_option maxHeartbeats 8000000 in
set_option maxRecDepth 100000 in
theorem gudgeonref01_Sub.calls (k : Nat) (A0 : Option Addr) (c0 : Nat) (l0 : List Int) (A1 : Option Addr) (c1 : Nat) (l1 : List Int) (r1 : List Int) (r2 : Int) (w : World) (hr0 : Kd.C (Kd.int .u32) w A0 l0.length l0) (hc0 : l0.length ≤ c0) (hr1 : Kd.C (Kd.int .u32) w A1 l1.length l1) (hc1 : l1.length ≤ c1) (h : gudgeonref01_Sub.f k l0 l1 = some (r1, r2)) :
    Calls Tryd.prog 30 #[.slice A0 l0.length c0, .slice A1 l1.length c1] w fun e w' => ∃ v0_ : Value, e = .returned (.tuple #[v0_, .int .i64 r2]) ∧ Kd.R (Kd.int .u32) 43 w' w.heap.size (fun _ => True) v0_ r1 ∧ Below w.heap.size w w' := by
  have HR0 := Aside0.mk hr0
  have HC0 := Aside0.mk hc0
  clear hr0 hc0
  have HR1 := Aside0.mk hr1
  have HC1 := Aside0.mk hc1
  clear hr1 hc1
  have HB := Aside0.mk (Below.refl w.heap.size w)
  have H : ((gudgeonref01_Bits.f k l0).bind fun t673 => ((gudgeonref01_Bits.f k l1).bind fun t676 => ((gudgeonref01_cmp.f k t673 t676).bind fun t679 => (if t679 < 0 then (some (([] : List Int), 6)) else ((gudgeonref01_sub.f k t673 t676).bind fun t680 => ((gudgeonref01_Limbs.f k t680).bind fun t683 => (some (t683, 0)))))))) = some (r1, r2) := h
  clear h
  replace H := Option.bind_eq_some_iff.mp H
  obtain ⟨t673, A30, H⟩ := H
  replace H : ((gudgeonref01_Bits.f k l1).bind fun t676 => ((gudgeonref01_cmp.f k t673 t676).bind fun t679 => (if t679 < 0 then (some (([] : List Int), 6)) else ((gudgeonref01_sub.f k t673 t676).bind fun t680 => ((gudgeonref01_Limbs.f k t680).bind fun t683 => (some (t683, 0))))))) = some (r1, r2) := H
  have A3 := Aside0.mk A30
  clear A30
  replace H := Option.bind_eq_some_iff.mp H
  obtain ⟨t676, A40, H⟩ := H
  replace H : ((gudgeonref01_cmp.f k t673 t676).bind fun t679 => (if t679 < 0 then (some (([] : List Int), 6)) else ((gudgeonref01_sub.f k t673 t676).bind fun t680 => ((gudgeonref01_Limbs.f k t680).bind fun t683 => (some (t683, 0)))))) = some (r1, r2) := H
  have A4 := Aside0.mk A40
  clear A40
  replace H := Option.bind_eq_some_iff.mp H
  obtain ⟨t679, A50, H⟩ := H
  replace H : (if t679 < 0 then (some (([] : List Int), 6)) else ((gudgeonref01_sub.f k t673 t676).bind fun t680 => ((gudgeonref01_Limbs.f k t680).bind fun t683 => (some (t683, 0))))) = some (r1, r2) := H
  have A5 := Aside0.mk A50
  clear A50
  by_cases c6 : t679 < 0
  · rw [if_pos c6] at H
    have c6b0 : decide (t679 < 0) = true := decide_eq_true c6
    clear c6
    simp only [Option.some.injEq, Prod.mk.injEq] at H
    obtain ⟨rfl, rfl⟩ := H
    go_enter Tryd.func30, Tryd.ntmps30
    go_wp2_with (first | ((with_reducible refine gate_callee (f := 41) rfl ?_); refine goesL_ (some 9) rfl rfl Tryd.func41 (by kernel_rfl) rfl #[.slice A0 l0.length c0] rfl (by (try simp only [List.map_toArray, List.map_cons, List.map_nil]); first | done | rfl | (simp only [List.length_drop, List.length_take]; rfl)) ?_; (with_reducible refine (gudgeonref01_Bits.calls k _ _ l0 t673 _ ?side1 ?side2 A3.out).mono ?_); (case side1 => repeat (first | exact HR0.out | (with_reducible refine Kd.C_alloc ?_ _) | (with_reducible refine Kd.C_drewN ?_ _) | (with_reducible refine Kd.C_drew ?_))); (case side2 => exact HC0.out); rintro e w7 ⟨v674, rfl, ho0, hb⟩; refine ⟨_, rfl, ?_⟩; have n0_ := Aside0.mk (Kd.R_lower ho0 (below_size (by repeat (first | (with_reducible first | exact HB.out | apply below_alloc | apply pw_below_drewN | apply below_drew1) | exact HB.out)))); have n1_ := Aside0.mk (below_step (by repeat (first | (with_reducible first | exact HB.out | apply below_alloc | apply pw_below_drewN | apply below_drew1) | exact HB.out)) hb); clear HB; have HO675 := n0_; have HB := n1_; clear n0_ n1_; (try clear hb); (try clear hb2); (try clear hk); (try clear hi); (try clear ho0)) | ((with_reducible refine gate_callee (f := 41) rfl ?_); refine goesL_ (some 11) rfl rfl Tryd.func41 (by kernel_rfl) rfl #[.slice A1 l1.length c1] rfl (by (try simp only [List.map_toArray, List.map_cons, List.map_nil]); first | done | rfl | (simp only [List.length_drop, List.length_take]; rfl)) ?_; (with_reducible refine (gudgeonref01_Bits.calls k _ _ l1 t676 _ ?side1 ?side2 A4.out).mono ?_); (case side1 => repeat (first | exact (Kd.C_below HR1.out HB.out) | (with_reducible refine Kd.C_alloc ?_ _) | (with_reducible refine Kd.C_drewN ?_ _) | (with_reducible refine Kd.C_drew ?_))); (case side2 => exact HC1.out); rintro e w8 ⟨v677, rfl, ho0, hb⟩; refine ⟨_, rfl, ?_⟩; have n0_ := Aside0.mk (Kd.R_elder' (by (with_reducible repeat (first | apply Kd.R_alloc | apply Kd.R_drewN | apply Kd.R_drew)); exact HO675.out) (Kd.R_base ho0) hb); have n1_ := Aside0.mk (Kd.R_lower (Kd.R_new' ho0 (Kd.R_lt (by (with_reducible repeat (first | apply Kd.R_alloc | apply Kd.R_drewN | apply Kd.R_drew)); exact HO675.out))) (below_size (by repeat (first | (with_reducible first | exact HB.out | apply below_alloc | apply pw_below_drewN | apply below_drew1) | exact HB.out)))); have n2_ := Aside0.mk (below_step (by repeat (first | (with_reducible first | exact HB.out | apply below_alloc | apply pw_below_drewN | apply below_drew1) | exact HB.out)) hb); clear HO675; clear HB; have HO675 := n0_; have HO678 := n1_; have HB := n2_; clear n0_ n1_ n2_; (try clear hb); (try clear hb2); (try clear hk); (try clear hi); (try clear ho0); obtain ⟨Ao9, co9, eo9⟩ := Kd.R_slice HO675.out; subst eo9; obtain ⟨Ao10, co10, eo10⟩ := Kd.R_slice HO678.out; subst eo10) | ((with_reducible refine gate_callee (f := 50) rfl ?_); refine goesL_ (some 14) rfl rfl Tryd.func50 (by kernel_rfl) rfl #[.slice Ao9 t673.length co9, .slice Ao10 t676.length co10] rfl (by (try simp only [List.map_toArray, List.map_cons, List.map_nil]); first | done | rfl | (simp only [List.length_drop, List.length_take]; rfl)) ?_; (with_reducible refine (gudgeonref01_cmp.calls k _ _ t673 _ _ t676 t679 _ ?side1 ?side2 ?side3 ?side4 A5.out).mono ?_); (case side1 => repeat (first | exact (Kd.R_reads' HO675.out).2.2 | (with_reducible refine Kd.C_alloc ?_ _) | (with_reducible refine Kd.C_drewN ?_ _) | (with_reducible refine Kd.C_drew ?_))); (case side2 => exact (Kd.R_reads' HO675.out).2.1); (case side3 => repeat (first | exact (Kd.R_reads' HO678.out).2.2 | (with_reducible refine Kd.C_alloc ?_ _) | (with_reducible refine Kd.C_drewN ?_ _) | (with_reducible refine Kd.C_drew ?_))); (case side4 => exact (Kd.R_reads' HO678.out).2.1); rintro e w' ⟨rfl, ⟨nd, rfl⟩⟩; refine ⟨_, rfl, ?_⟩))
    go_ret2
    exact ⟨_, by first | rfl | (simp [errW_none, errW_some] <;> rfl) | (simp [*, errW_none, errW_some] <;> rfl), by first | exact Kd.R_nil _ _ _ _ _ | exact Kd.N_nil _ _ _ _ _ | exact Kd.V_nil _ _ _ _ _ | exact Kd.Q_nil _ _ _ _ _ | exact Kd.S_nil _ _ _ _ _, by repeat (first | (with_reducible first | exact HB.out | apply below_alloc | apply pw_below_drewN | apply below_drew1) | exact HB.out)⟩
  · rw [if_neg c6] at H
    have c6b0 : decide (t679 < 0) = false := decide_eq_false c6
    clear c6
    replace H := Option.bind_eq_some_iff.mp H
    obtain ⟨t680, A110, H⟩ := H
    replace H : ((gudgeonref01_Limbs.f k t680).bind fun t683 => (some (t683, 0))) = some (r1, r2) := H
    have A11 := Aside0.mk A110
    clear A110
    replace H := Option.bind_eq_some_iff.mp H
    obtain ⟨t683, A120, H⟩ := H
    replace H : (some (t683, 0)) = some (r1, r2) := H
    have A12 := Aside0.mk A120
    clear A120
    simp only [Option.some.injEq, Prod.mk.injEq] at H
    obtain ⟨rfl, rfl⟩ := H
    go_enter Tryd.func30, Tryd.ntmps30
    go_wp2_with (first | ((with_reducible refine gate_callee (f := 41) rfl ?_); refine goesL_ (some 9) rfl rfl Tryd.func41 (by kernel_rfl) rfl #[.slice A0 l0.length c0] rfl (by (try simp only [List.map_toArray, List.map_cons, List.map_nil]); first | done | rfl | (simp only [List.length_drop, List.length_take]; rfl)) ?_; (with_reducible refine (gudgeonref01_Bits.calls k _ _ l0 t673 _ ?side1 ?side2 A3.out).mono ?_); (case side1 => repeat (first | exact HR0.out | (with_reducible refine Kd.C_alloc ?_ _) | (with_reducible refine Kd.C_drewN ?_ _) | (with_reducible refine Kd.C_drew ?_))); (case side2 => exact HC0.out); rintro e w13 ⟨v674, rfl, ho0, hb⟩; refine ⟨_, rfl, ?_⟩; have n0_ := Aside0.mk (Kd.R_lower ho0 (below_size (by repeat (first | (with_reducible first | exact HB.out | apply below_alloc | apply pw_below_drewN | apply below_drew1) | exact HB.out)))); have n1_ := Aside0.mk (below_step (by repeat (first | (with_reducible first | exact HB.out | apply below_alloc | apply pw_below_drewN | apply below_drew1) | exact HB.out)) hb); clear HB; have HO675 := n0_; have HB := n1_; clear n0_ n1_; (try clear hb); (try clear hb2); (try clear hk); (try clear hi); (try clear ho0)) | ((with_reducible refine gate_callee (f := 41) rfl ?_); refine goesL_ (some 11) rfl rfl Tryd.func41 (by kernel_rfl) rfl #[.slice A1 l1.length c1] rfl (by (try simp only [List.map_toArray, List.map_cons, List.map_nil]); first | done | rfl | (simp only [List.length_drop, List.length_take]; rfl)) ?_; (with_reducible refine (gudgeonref01_Bits.calls k _ _ l1 t676 _ ?side1 ?side2 A4.out).mono ?_); (case side1 => repeat (first | exact (Kd.C_below HR1.out HB.out) | (with_reducible refine Kd.C_alloc ?_ _) | (with_reducible refine Kd.C_drewN ?_ _) | (with_reducible refine Kd.C_drew ?_))); (case side2 => exact HC1.out); rintro e w14 ⟨v677, rfl, ho0, hb⟩; refine ⟨_, rfl, ?_⟩; have n0_ := Aside0.mk (Kd.R_elder' (by (with_reducible repeat (first | apply Kd.R_alloc | apply Kd.R_drewN | apply Kd.R_drew)); exact HO675.out) (Kd.R_base ho0) hb); have n1_ := Aside0.mk (Kd.R_lower (Kd.R_new' ho0 (Kd.R_lt (by (with_reducible repeat (first | apply Kd.R_alloc | apply Kd.R_drewN | apply Kd.R_drew)); exact HO675.out))) (below_size (by repeat (first | (with_reducible first | exact HB.out | apply below_alloc | apply pw_below_drewN | apply below_drew1) | exact HB.out)))); have n2_ := Aside0.mk (below_step (by repeat (first | (with_reducible first | exact HB.out | apply below_alloc | apply pw_below_drewN | apply below_drew1) | exact HB.out)) hb); clear HO675; clear HB; have HO675 := n0_; have HO678 := n1_; have HB := n2_; clear n0_ n1_ n2_; (try clear hb); (try clear hb2); (try clear hk); (try clear hi); (try clear ho0); obtain ⟨Ao15, co15, eo15⟩ := Kd.R_slice HO675.out; subst eo15; obtain ⟨Ao16, co16, eo16⟩ := Kd.R_slice HO678.out; subst eo16) | ((with_reducible refine gate_callee (f := 50) rfl ?_); refine goesL_ (some 14) rfl rfl Tryd.func50 (by kernel_rfl) rfl #[.slice Ao15 t673.length co15, .slice Ao16 t676.length co16] rfl (by (try simp only [List.map_toArray, List.map_cons, List.map_nil]); first | done | rfl | (simp only [List.length_drop, List.length_take]; rfl)) ?_; (with_reducible refine (gudgeonref01_cmp.calls k _ _ t673 _ _ t676 t679 _ ?side1 ?side2 ?side3 ?side4 A5.out).mono ?_); (case side1 => repeat (first | exact (Kd.R_reads' HO675.out).2.2 | (with_reducible refine Kd.C_alloc ?_ _) | (with_reducible refine Kd.C_drewN ?_ _) | (with_reducible refine Kd.C_drew ?_))); (case side2 => exact (Kd.R_reads' HO675.out).2.1); (case side3 => repeat (first | exact (Kd.R_reads' HO678.out).2.2 | (with_reducible refine Kd.C_alloc ?_ _) | (with_reducible refine Kd.C_drewN ?_ _) | (with_reducible refine Kd.C_drew ?_))); (case side4 => exact (Kd.R_reads' HO678.out).2.1); rintro e w' ⟨rfl, ⟨nd, rfl⟩⟩; refine ⟨_, rfl, ?_⟩) | ((with_reducible refine gate_callee (f := 51) rfl ?_); refine goesL_ (some 18) rfl rfl Tryd.func51 (by kernel_rfl) rfl #[.slice Ao15 t673.length co15, .slice Ao16 t676.length co16] rfl (by (try simp only [List.map_toArray, List.map_cons, List.map_nil]); first | done | rfl | (simp only [List.length_drop, List.length_take]; rfl)) ?_; (with_reducible refine (gudgeonref01_sub.calls k _ _ t673 _ _ t676 t680 _ ?side1 ?side2 ?side3 ?side4 A11.out).mono ?_); (case side1 => repeat (first | exact (Kd.R_reads' HO675.out).2.2 | (with_reducible refine Kd.C_alloc ?_ _) | (with_reducible refine Kd.C_drewN ?_ _) | (with_reducible refine Kd.C_drew ?_))); (case side2 => exact (Kd.R_reads' HO675.out).2.1); (case side3 => repeat (first | exact (Kd.R_reads' HO678.out).2.2 | (with_reducible refine Kd.C_alloc ?_ _) | (with_reducible refine Kd.C_drewN ?_ _) | (with_reducible refine Kd.C_drew ?_))); (case side4 => exact (Kd.R_reads' HO678.out).2.1); rintro e w17 ⟨v681, rfl, ho0, hb⟩; refine ⟨_, rfl, ?_⟩; have n0_ := Aside0.mk (Kd.R_elder' (by (with_reducible repeat (first | apply Kd.R_alloc | apply Kd.R_drewN | apply Kd.R_drew)); exact HO675.out) (Kd.R_base ho0) hb); have n1_ := Aside0.mk (Kd.R_elder' (by (with_reducible repeat (first | apply Kd.R_alloc | apply Kd.R_drewN | apply Kd.R_drew)); exact HO678.out) (Kd.R_base ho0) hb); have n2_ := Aside0.mk (Kd.R_lower (Kd.R_new' (Kd.R_new' ho0 (Kd.R_lt (by (with_reducible repeat (first | apply Kd.R_alloc | apply Kd.R_drewN | apply Kd.R_drew)); exact HO675.out))) (Kd.R_lt (by (with_reducible repeat (first | apply Kd.R_alloc | apply Kd.R_drewN | apply Kd.R_drew)); exact HO678.out))) (below_size (by repeat (first | (with_reducible first | exact HB.out | apply below_alloc | apply pw_below_drewN | apply below_drew1) | exact HB.out)))); have n3_ := Aside0.mk (below_step (by repeat (first | (with_reducible first | exact HB.out | apply below_alloc | apply pw_below_drewN | apply below_drew1) | exact HB.out)) hb); clear HO675; clear HO678; clear HB; have HO675 := n0_; have HO678 := n1_; have HO682 := n2_; have HB := n3_; clear n0_ n1_ n2_ n3_; (try clear hb); (try clear hb2); (try clear hk); (try clear hi); (try clear ho0); obtain ⟨Ao18, co18, eo18⟩ := Kd.R_slice HO682.out; subst eo18) | ((with_reducible refine gate_callee (f := 43) rfl ?_); refine goesL_ (some 19) rfl rfl Tryd.func43 (by kernel_rfl) rfl #[.slice Ao18 t680.length co18] rfl (by (try simp only [List.map_toArray, List.map_cons, List.map_nil]); first | done | rfl | (simp only [List.length_drop, List.length_take]; rfl)) ?_; (with_reducible refine (gudgeonref01_Limbs.calls k _ _ t680 t683 _ ?side1 ?side2 A12.out).mono ?_); (case side1 => repeat (first | exact (Kd.R_reads' HO682.out).2.2 | (with_reducible refine Kd.C_alloc ?_ _) | (with_reducible refine Kd.C_drewN ?_ _) | (with_reducible refine Kd.C_drew ?_))); (case side2 => exact (Kd.R_reads' HO682.out).2.1); rintro e w19 ⟨v684, rfl, ho0, hb⟩; refine ⟨_, rfl, ?_⟩; have n0_ := Aside0.mk (Kd.R_below (by (with_reducible repeat (first | apply Kd.R_alloc | apply Kd.R_drewN | apply Kd.R_drew)); exact HO675.out) hb); have n1_ := Aside0.mk (Kd.R_below (by (with_reducible repeat (first | apply Kd.R_alloc | apply Kd.R_drewN | apply Kd.R_drew)); exact HO678.out) hb); have n2_ := Aside0.mk (Kd.R_below (by (with_reducible repeat (first | apply Kd.R_alloc | apply Kd.R_drewN | apply Kd.R_drew)); exact HO682.out) hb); have n3_ := Aside0.mk (Kd.R_lower ho0 (below_size (by repeat (first | (with_reducible first | exact HB.out | apply below_alloc | apply pw_below_drewN | apply below_drew1) | exact HB.out)))); have n4_ := Aside0.mk (below_step (by repeat (first | (with_reducible first | exact HB.out | apply below_alloc | apply pw_below_drewN | apply below_drew1) | exact HB.out)) hb); clear HO675; clear HO678; clear HO682; clear HB; have HO675 := n0_; have HO678 := n1_; have HO682 := n2_; have HO685 := n3_; have HB := n4_; clear n0_ n1_ n2_ n3_ n4_; (try clear hb); (try clear hb2); (try clear hk); (try clear hi); (try clear ho0)))
    go_ret2
    exact ⟨_, by first | rfl | (simp [errW_none, errW_some] <;> rfl) | (simp [*, errW_none, errW_some] <;> rfl), by (with_reducible repeat (first | apply Kd.R_alloc | apply Kd.R_drewN | apply Kd.R_drew)); exact HO685.out, by repeat (first | (with_reducible first | exact HB.out | apply below_alloc | apply pw_below_drewN | apply below_drew1) | exact HB.out)⟩

/-! ### gudgeonref01_Cmp: function 31 -/
def gudgeonref01_Cmp.f (k : Nat) (l0 : List Int) (l1 : List Int) : Option (Int) := (gudgeonref01_Bits.f k l0).bind fun t686 => ((gudgeonref01_Bits.f k l1).bind fun t689 => ((gudgeonref01_cmp.f k t686 t689).bind fun t692 => (some t692)))
theorem gudgeonref01_Cmp.mono : ∀ a0 a1 k, LeO (gudgeonref01_Cmp.f k a0 a1) (gudgeonref01_Cmp.f (k + 1) a0 a1) := by
  intro a0 a1 k
  unfold gudgeonref01_Cmp.f
  repeat' first
      | (with_reducible exact gudgeonref01_Bits.mono _ _)
      | (with_reducible exact gudgeonref01_cmp.mono _ _ _)
      | (with_reducible exact LeO.refl _)
      | (with_reducible exact LeO.none _)
      | (with_reducible refine LeO.ite ?_ ?_)
      | (with_reducible refine LeO.bind ?_ (fun _ => ?_))
      | exact gudgeonref01_Bits.mono _ _
      | exact gudgeonref01_cmp.mono _ _ _
      | exact LeO.none _
      | refine LeO.ite ?_ ?_
      | refine LeO.bind ?_ (fun _ => ?_)
set_option maxHeartbeats 8000000 in
set_option maxRecDepth 100000 in
theorem gudgeonref01_Cmp.calls (k : Nat) (A0 : Option Addr) (c0 : Nat) (l0 : List Int) (A1 : Option Addr) (c1 : Nat) (l1 : List Int) (r : Int) (w : World) (hr0 : Kd.C (Kd.int .u32) w A0 l0.length l0) (hc0 : l0.length ≤ c0) (hr1 : Kd.C (Kd.int .u32) w A1 l1.length l1) (hc1 : l1.length ≤ c1) (h : gudgeonref01_Cmp.f k l0 l1 = some r) :
    Calls Tryd.prog 31 #[.slice A0 l0.length c0, .slice A1 l1.length c1] w fun e w' => e = .returned (.int .i64 r) ∧ Below w.heap.size w w' := by
  have HR0 := Aside0.mk hr0
  have HC0 := Aside0.mk hc0
  clear hr0 hc0
  have HR1 := Aside0.mk hr1
  have HC1 := Aside0.mk hc1
  clear hr1 hc1
  have HB := Aside0.mk (Below.refl w.heap.size w)
  have H : ((gudgeonref01_Bits.f k l0).bind fun t686 => ((gudgeonref01_Bits.f k l1).bind fun t689 => ((gudgeonref01_cmp.f k t686 t689).bind fun t692 => (some t692)))) = some r := h
  clear h
  replace H := Option.bind_eq_some_iff.mp H
  obtain ⟨t686, A30, H⟩ := H
  replace H : ((gudgeonref01_Bits.f k l1).bind fun t689 => ((gudgeonref01_cmp.f k t686 t689).bind fun t692 => (some t692))) = some r := H
  have A3 := Aside0.mk A30
  clear A30
  replace H := Option.bind_eq_some_iff.mp H
  obtain ⟨t689, A40, H⟩ := H
  replace H : ((gudgeonref01_cmp.f k t686 t689).bind fun t692 => (some t692)) = some r := H
  have A4 := Aside0.mk A40
  clear A40
  replace H := Option.bind_eq_some_iff.mp H
  obtain ⟨t692, A50, H⟩ := H
  replace H : (some t692) = some r := H
  have A5 := Aside0.mk A50
  clear A50
  obtain rfl := Option.some.inj H
  go_enter Tryd.func31, Tryd.ntmps31
  go_wp2_with (first | ((with_reducible refine gate_callee (f := 41) rfl ?_); refine goesL_ (some 6) rfl rfl Tryd.func41 (by kernel_rfl) rfl #[.slice A0 l0.length c0] rfl (by (try simp only [List.map_toArray, List.map_cons, List.map_nil]); first | done | rfl | (simp only [List.length_drop, List.length_take]; rfl)) ?_; (with_reducible refine (gudgeonref01_Bits.calls k _ _ l0 t686 _ ?side1 ?side2 A3.out).mono ?_); (case side1 => repeat (first | exact HR0.out | (with_reducible refine Kd.C_alloc ?_ _) | (with_reducible refine Kd.C_drewN ?_ _) | (with_reducible refine Kd.C_drew ?_))); (case side2 => exact HC0.out); rintro e w6 ⟨v687, rfl, ho0, hb⟩; refine ⟨_, rfl, ?_⟩; have n0_ := Aside0.mk (Kd.R_lower ho0 (below_size (by repeat (first | (with_reducible first | exact HB.out | apply below_alloc | apply pw_below_drewN | apply below_drew1) | exact HB.out)))); have n1_ := Aside0.mk (below_step (by repeat (first | (with_reducible first | exact HB.out | apply below_alloc | apply pw_below_drewN | apply below_drew1) | exact HB.out)) hb); clear HB; have HO688 := n0_; have HB := n1_; clear n0_ n1_; (try clear hb); (try clear hb2); (try clear hk); (try clear hi); (try clear ho0)) | ((with_reducible refine gate_callee (f := 41) rfl ?_); refine goesL_ (some 8) rfl rfl Tryd.func41 (by kernel_rfl) rfl #[.slice A1 l1.length c1] rfl (by (try simp only [List.map_toArray, List.map_cons, List.map_nil]); first | done | rfl | (simp only [List.length_drop, List.length_take]; rfl)) ?_; (with_reducible refine (gudgeonref01_Bits.calls k _ _ l1 t689 _ ?side1 ?side2 A4.out).mono ?_); (case side1 => repeat (first | exact (Kd.C_below HR1.out HB.out) | (with_reducible refine Kd.C_alloc ?_ _) | (with_reducible refine Kd.C_drewN ?_ _) | (with_reducible refine Kd.C_drew ?_))); (case side2 => exact HC1.out); rintro e w7 ⟨v690, rfl, ho0, hb⟩; refine ⟨_, rfl, ?_⟩; have n0_ := Aside0.mk (Kd.R_elder' (by (with_reducible repeat (first | apply Kd.R_alloc | apply Kd.R_drewN | apply Kd.R_drew)); exact HO688.out) (Kd.R_base ho0) hb); have n1_ := Aside0.mk (Kd.R_lower (Kd.R_new' ho0 (Kd.R_lt (by (with_reducible repeat (first | apply Kd.R_alloc | apply Kd.R_drewN | apply Kd.R_drew)); exact HO688.out))) (below_size (by repeat (first | (with_reducible first | exact HB.out | apply below_alloc | apply pw_below_drewN | apply below_drew1) | exact HB.out)))); have n2_ := Aside0.mk (below_step (by repeat (first | (with_reducible first | exact HB.out | apply below_alloc | apply pw_below_drewN | apply below_drew1) | exact HB.out)) hb); clear HO688; clear HB; have HO688 := n0_; have HO691 := n1_; have HB := n2_; clear n0_ n1_ n2_; (try clear hb); (try clear hb2); (try clear hk); (try clear hi); (try clear ho0); obtain ⟨Ao8, co8, eo8⟩ := Kd.R_slice HO688.out; subst eo8; obtain ⟨Ao9, co9, eo9⟩ := Kd.R_slice HO691.out; subst eo9) | ((with_reducible refine gate_callee (f := 50) rfl ?_); refine goesL_ (some 9) rfl rfl Tryd.func50 (by kernel_rfl) rfl #[.slice Ao8 t686.length co8, .slice Ao9 t689.length co9] rfl (by (try simp only [List.map_toArray, List.map_cons, List.map_nil]); first | done | rfl | (simp only [List.length_drop, List.length_take]; rfl)) ?_; (with_reducible refine (gudgeonref01_cmp.calls k _ _ t686 _ _ t689 t692 _ ?side1 ?side2 ?side3 ?side4 A5.out).mono ?_); (case side1 => repeat (first | exact (Kd.R_reads' HO688.out).2.2 | (with_reducible refine Kd.C_alloc ?_ _) | (with_reducible refine Kd.C_drewN ?_ _) | (with_reducible refine Kd.C_drew ?_))); (case side2 => exact (Kd.R_reads' HO688.out).2.1); (case side3 => repeat (first | exact (Kd.R_reads' HO691.out).2.2 | (with_reducible refine Kd.C_alloc ?_ _) | (with_reducible refine Kd.C_drewN ?_ _) | (with_reducible refine Kd.C_drew ?_))); (case side4 => exact (Kd.R_reads' HO691.out).2.1); rintro e w' ⟨rfl, ⟨nd, rfl⟩⟩; refine ⟨_, rfl, ?_⟩))
  go_ret
  exact ⟨by first | rfl | (simp [errW_none, errW_some] <;> rfl) | (simp [*, errW_none, errW_some] <;> rfl), by repeat (first | (with_reducible first | exact HB.out | apply below_alloc | apply pw_below_drewN | apply below_drew1) | exact HB.out)⟩

end Go.Proofs.YtlfpnohpcemkgaaDoor.PA
/- The reference's differences, products, and numbers by limbs again; its sums of limbs. -/
namespace Go.Proofs.YtlfpnohpcemkgaaDoor.V
set_option linter.unusedVariables false
set_option linter.unusedSimpArgs false
open Go.RowKit Go.Proofs.YtlfpnohpcemkgaaDoor.PA Go.Proofs.YtlfpnohpcemkgaaDoor.H Go.Proofs.YtlfpnohpcemkgaaDoorW.PrintWords Go.Proofs.YtlfpnohpcemkgaaDoorW.PrintLast Go.Proofs.YtlfpnohpcemkgaaDoorW.PrintMore

/-! ### differences -/
theorem step_bsub {V P c A B x y q r : Int} (h : V - P * c = A - B) (e : r - 2 * q = x - y - c) : V + P * r - (2 * P) * q = A + P * x - (B + P * y) := by grind
theorem bsub_j1 (a b out : List Bool) (c : Bool) (i : Nat) (x : Bool) (n : Int) (hn : n = b2i x) (ho : out.length ≤ 2000000000) (hi : i ≤ 2000000000) (r : List Bool)
    (h : Ev (fun k => gudgeonref01_sub.l0 k a b (out ++ [decide ((b2i x - b2i (b.getD i false) - b2i c) % 2 = 1)]) (decide (b2i x - b2i (b.getD i false) - b2i c < 0)) ((i + 1 : Nat) : Int)) r) : Ev (fun k => gudgeonref01_sub.j1 k a b out c (i : Int) n) r := by
  subst hn
  refine Ev.step (fun k => ?_) h
  simp only [gudgeonref01_sub.j1]
  rw [at_ev, Option.bind_some]
  have hlim : out.length < 140737488355328 := by omega
  cases b.getD i false <;> cases x <;> cases c <;> simp only [b2i, if_true, Bool.false_eq_true, if_false] <;> rw [w64 (x := (i : Int) + 1) (by omega) (by omega)] <;> simp [wm1, wm2, wm0, w01, hlim]
theorem bsub_l0 (a b : List Bool) (ha : LB a) (hb : LB b) (hab : bval b ≤ bval a) (d : Nat) : ∀ (i : Nat) (out : List Bool) (c : Bool), i + d = a.length → out.length = i → bval out - p2 i * b2i c = bval (a.take i) - bval (b.take i) →
    Ev (fun k => gudgeonref01_sub.l0 k a b out c (i : Int)) (bits (bval a - bval b)) := by
  unfold LB at ha hb
  induction d with
  | zero =>
    intro i out c hi ho hv
    obtain rfl : i = a.length := by omega
    rw [List.take_of_length_le (Nat.le_refl _)] at hv
    have hbt : bval (b.take a.length) = bval b := by
      by_cases hl : b.length ≤ a.length
      · rw [List.take_of_length_le hl]
      · have e := bval_take_drop b a.length (by omega)
        have h1 := bval_lt a
        have h2 := bval_nonneg (b.take a.length)
        have h3 := bval_nonneg (b.drop a.length)
        have h4 := p2_pos a.length
        by_cases hz : bval (b.drop a.length) = 0
        · rw [hz] at e; omega
        · have : p2 a.length * 1 ≤ p2 a.length * bval (b.drop a.length) := Int.mul_le_mul_of_nonneg_left (by omega) (by omega)
          omega
    rw [hbt] at hv
    have h1 := bval_lt out
    rw [ho] at h1
    have hc : c = false := by
      cases c
      · rfl
      · simp only [b2i, if_true] at hv; omega
    subst hc
    simp only [b2i, Bool.false_eq_true, if_false, Int.mul_zero, Int.sub_zero] at hv
    have ht := btrim_ev out (by omega)
    rw [hv] at ht
    refine Ev.step (fun k => ?_) (Ev.bind (f := fun _ t => some t) ht (Ev.now _))
    simp only [gudgeonref01_sub.l0]
    rw [if_neg (by omega)]
  | succ d ih =>
    intro i out c hi ho hv
    have hia : i < a.length := by omega
    have hnext := ih (i + 1) (out ++ [decide ((b2i (a.getD i false) - b2i (b.getD i false) - b2i c) % 2 = 1)]) (decide (b2i (a.getD i false) - b2i (b.getD i false) - b2i c < 0)) (by omega) (by simp [ho]) (by
      rw [bval_snoc, ho, p2_succ, bval_take_getD a, bval_take_getD b]
      apply step_bsub hv
      cases a.getD i false <;> cases b.getD i false <;> cases c <;> rfl)
    refine Ev.step (f := fun k => gudgeonref01_sub.j1 k a b out c (i : Int) (b2i (a.getD i false))) (fun k => ?_) (bsub_j1 a b out c i _ _ rfl (by omega) (by omega) _ hnext)
    simp only [gudgeonref01_sub.l0]
    rw [if_pos (by omega), if_pos (by omega), rdOf_D]
    cases a.getD i false
    · rw [if_neg (by decide)]; rfl
    · rw [if_pos rfl]; rfl
theorem bsub_ev (a b : List Bool) (ha : LB a) (hb : LB b) (hab : bval b ≤ bval a) : Ev (fun k => gudgeonref01_sub.f k a b) (bits (bval a - bval b)) :=
  Ev.congr (fun k => rfl) (bsub_l0 a b ha hb hab a.length 0 [] false (by omega) rfl (by simp [bval, b2i]))
/-! ### products -/
theorem bmul_bound {x y : Int} {m n : Nat} (h0 : 0 ≤ x) (h1 : x < p2 m) (g0 : 0 ≤ y) (g1 : y < p2 n) : x * y < p2 (m + n) := by
  rw [p2_add]
  have a1 : x * y ≤ x * p2 n := Int.mul_le_mul_of_nonneg_left (by omega) h0
  have a2 : x * p2 n < p2 m * p2 n := Int.mul_lt_mul_of_pos_right h1 (p2_pos n)
  omega
theorem bmul_l0 (a b : List Bool) (ha : a.length ≤ 400000000) (hb : b.length ≤ 400000000) (d : Nat) : ∀ (out : List Bool), d ≤ a.length → out.length ≤ (a.length - d) + b.length → bval out = bval (a.drop d) * bval b →
    Ev (fun k => gudgeonref01_mul.l0 k a b out ((d : Int) - 1)) (bits (bval a * bval b)) := by
  induction d with
  | zero =>
    intro out hd ho hv
    rw [List.drop_zero] at hv
    have ht := btrim_ev out (by omega)
    rw [hv] at ht
    refine Ev.step (fun k => ?_) (Ev.bind (f := fun _ t => some t) ht (Ev.now _))
    simp only [gudgeonref01_mul.l0]
    rw [if_neg (by omega)]
  | succ d ih =>
    intro out hd ho hv
    have hda : d < a.length := by omega
    have e0 : ((d + 1 : Nat) : Int) - 1 = (d : Int) := by omega
    have hdrop := bval_drop_getD a d
    have hv2 : bval (false :: out) = 2 * bval out := by simp [bval, b2i]
    rw [e0]
    cases hx : a.getD d false with
    | true =>
      rw [hx] at hdrop
      simp only [b2i, if_true] at hdrop
      have hadd := badd_ev (false :: out) b (by unfold LB; simp; omega) (by unfold LB; omega)
      have e1 : bval (false :: out) + bval b = bval (a.drop d) * bval b := by rw [hv2, hv, hdrop]; grind
      rw [e1] at hadd
      have hb1 := bmul_bound (bval_nonneg (a.drop d)) (bval_lt (a.drop d)) (bval_nonneg b) (bval_lt b)
      have h0 := Int.mul_nonneg (bval_nonneg (a.drop d)) (bval_nonneg b)
      have hl := bits_length_le h0 hb1
      rw [List.length_drop] at hl
      refine Ev.step (fun k => ?_) (Ev.bind (f := fun k t => gudgeonref01_mul.l0 k a b t ((d : Int) - 1)) hadd (ih _ (by omega) (by omega) (bval_bits h0)))
      simp only [gudgeonref01_mul.l0]
      rw [if_pos (by omega), Option.bind_some, if_pos (by simp; omega), Option.bind_some, if_pos (by omega), if_pos (by omega), rdOf_D, hx, if_pos rfl, w64 (by omega) (by omega)]
      rfl
    | false =>
      rw [hx] at hdrop
      simp only [b2i, Bool.false_eq_true, if_false, Int.zero_add] at hdrop
      refine Ev.step (fun k => ?_) (ih (false :: out) (by omega) (by simp; omega) (by rw [hv2, hv, hdrop]; grind))
      simp only [gudgeonref01_mul.l0]
      rw [if_pos (by omega), Option.bind_some, if_pos (by simp; omega), Option.bind_some, if_pos (by omega), if_pos (by omega), rdOf_D, hx, if_neg (by decide), w64 (by omega) (by omega)]
      rfl
theorem bmul_ev (a b : List Bool) (ha : a.length ≤ 400000000) (hb : b.length ≤ 400000000) : Ev (fun k => gudgeonref01_mul.f k a b) (bits (bval a * bval b)) := by
  refine Ev.congr (fun k => ?_) (bmul_l0 a b ha hb a.length [] (Nat.le_refl _) (by simp) (by rw [List.drop_eq_nil_of_le (Nat.le_refl _)]; simp [bval]))
  unfold gudgeonref01_mul.f
  rw [w64 (by omega) (by omega)]
/-! ### limbs -/
theorem lim_inj (a : List Int) : ∀ b, Lim a → Lim b → a.length = b.length → val a = val b → a = b := by
  induction a with
  | nil => intro b _ _ hl _; exact (List.eq_nil_of_length_eq_zero (by simpa using hl.symm)).symm
  | cons x a ih =>
    intro b ha hb hl hv
    cases b with
    | nil => simp at hl
    | cons y b =>
      have hx := ha.head
      have hy := hb.head
      simp only [val] at hv
      have e1 : x = y := by omega
      have e2 : val a = val b := by omega
      rw [e1, ih b ha.tail hb.tail (by simpa using hl) e2]
theorem getD_win (l : List Bool) (i j : Nat) (hj : j < 32) : ((l.drop i).take 32).getD j false = l.getD (i + j) false := by
  simp [List.getD_eq_getElem?_getD, List.getElem?_take, hj]
theorem Limbs_l1 (l : List Bool) (hl : l.length ≤ 1000000000) (m : Nat) (hm : m ≤ 100000000) (out : List Int) (ho : out.length ≤ 100000000) (r : List Int) (h : Ev (fun k => gudgeonref01_Limbs.l0 k l (out ++ [bval ((l.drop (32 * m)).take 32)]) ((32 * (m + 1) : Nat) : Int)) r) (j : Nat) (hj : j ≤ 32) :
    Ev (fun k => gudgeonref01_Limbs.l1 k l out ((32 * m : Nat) : Int) (bval (((l.drop (32 * m)).take 32).drop j)) (((32 * m + j : Nat) : Int) - 1)) r := by
  induction j with
  | zero =>
    rw [List.drop_zero]
    refine Ev.step (fun k => ?_) h
    simp only [gudgeonref01_Limbs.l1]
    rw [if_neg (by omega), if_pos (by omega), w64 (by omega) (by omega), show ((32 * m : Nat) : Int) + 32 = ((32 * (m + 1) : Nat) : Int) by omega]
  | succ j ih =>
    have hd := bval_drop_getD ((l.drop (32 * m)).take 32) j
    rw [getD_win l (32 * m) j (by omega)] at hd
    have h0 := bval_nonneg (((l.drop (32 * m)).take 32).drop (j + 1))
    have h1 : bval (((l.drop (32 * m)).take 32).drop (j + 1)) < p2 31 := by
      have := bval_lt (((l.drop (32 * m)).take 32).drop (j + 1))
      have h2 := p2_le (show (((l.drop (32 * m)).take 32).drop (j + 1)).length ≤ 31 by rw [List.length_drop, List.length_take]; omega)
      omega
    have e31 : p2 31 = 2147483648 := rfl
    have e0 : ((32 * m + (j + 1) : Nat) : Int) - 1 = ((32 * m + j : Nat) : Int) := by omega
    rw [e0]
    refine Ev.step (fun k => ?_) (ih (by omega))
    simp only [gudgeonref01_Limbs.l1]
    by_cases hlt : 32 * m + j < l.length
    · rw [if_pos (by omega), if_pos (by omega), if_pos (by omega), rdOf_D]
      cases hb : l.getD (32 * m + j) false with
      | true =>
        rw [hb] at hd
        simp only [b2i, if_true] at hd
        rw [if_pos rfl, w64 (by omega) (by omega), hd]
        congr 1
        omega
      | false =>
        rw [hb] at hd
        simp only [b2i, Bool.false_eq_true, if_false] at hd
        rw [if_neg (by decide), w64 (by omega) (by omega), hd]
        congr 1
        omega
    · have hb : l.getD (32 * m + j) false = false := by rw [List.getD_eq_getElem?_getD, List.getElem?_eq_none (by omega)]; rfl
      rw [hb] at hd
      simp only [b2i, Bool.false_eq_true, if_false] at hd
      rw [if_pos (by omega), if_neg (by omega), w64 (by omega) (by omega), hd]
      congr 1
      omega
theorem Limbs_l0 (x : Int) (h0 : 0 ≤ x) (hl : (bits x).length ≤ 1000000000) (d : Nat) : ∀ (m : Nat) (out : List Int), d + 32 * m = (bits x).length + 32 ∨ ((bits x).length ≤ 32 * m ∧ 32 * m < (bits x).length + 32) → d ≤ (bits x).length + 32 → 32 * m < (bits x).length + 32 → out.length = m → Lim out → val out = bval ((bits x).take (32 * m)) → Ev (fun k => gudgeonref01_Limbs.l0 k (bits x) out ((32 * m : Nat) : Int)) (dig x) := by
  induction d using Nat.strongRecOn with
  | _ d ih =>
    intro m out hd hd2 hm ho hL hv
    by_cases hend : (bits x).length ≤ 32 * m
    · rw [List.take_of_length_le hend, bval_bits h0] at hv
      have e : out = dig x := by
        refine lim_inj _ _ hL (dig_lim _) ?_ (by rw [hv, val_dig h0])
        have hlt : x < pw m := by
          rw [pw_p2]
          exact lt_of_bits_length h0 hend
        have h1 := dig_length_le h0 hlt
        by_cases h2 : m ≤ (dig x).length
        · omega
        · have h3 : x < pw (m - 1) := lt_of_dig_length h0 (by omega)
          rw [pw_p2] at h3
          have h4 := bits_length_le h0 h3
          omega
      refine Ev.step (f := fun _ => some _) (fun k => ?_) (Ev.now _)
      simp only [gudgeonref01_Limbs.l0]
      rw [if_neg (by omega), e]
    · have hwl : ((bits x).take (32 * m)).length = 32 * m := by rw [List.length_take]; omega
      have hW : bval (((bits x).drop (32 * m)).take 32) < 4294967296 := by
        have h1 := bval_lt (((bits x).drop (32 * m)).take 32)
        have h2 := p2_le (show (((bits x).drop (32 * m)).take 32).length ≤ 32 by rw [List.length_take]; omega)
        have e : p2 32 = 4294967296 := rfl
        omega
      have hW0 := bval_nonneg (((bits x).drop (32 * m)).take 32)
      have hnext := ih (d - 32) (by omega) (m + 1) (out ++ [bval (((bits x).drop (32 * m)).take 32)]) (by omega) (by omega) (by omega) (by simp [ho]) (hL.append (Lim.cons hW0 hW Lim.nil)) (by
        rw [val_append, ho, hv, show val [bval (((bits x).drop (32 * m)).take 32)] = bval (((bits x).drop (32 * m)).take 32) by simp [val], show 32 * (m + 1) = 32 * m + 32 by omega, List.take_add, bval_append, hwl, pw_p2])
      have h1 := Limbs_l1 (bits x) hl m (by omega) out (by omega) _ hnext 32 (Nat.le_refl _)
      rw [List.drop_eq_nil_of_le (by rw [List.length_take]; omega)] at h1
      refine Ev.step (fun k => ?_) h1
      simp only [gudgeonref01_Limbs.l0]
      rw [if_pos (by omega), w64 (by omega) (by omega), show ((32 * m : Nat) : Int) + 31 = ((32 * m + 32 : Nat) : Int) - 1 by omega]
      rfl
theorem bits_bits (x : Int) (h0 : 0 ≤ x) : bits (bval (bits x)) = bits x := by rw [bval_bits h0]
theorem Limbs_ev (x : Int) (h0 : 0 ≤ x) (hl : (bits x).length ≤ 1000000000) : Ev (fun k => gudgeonref01_Limbs.f k (bits x)) (dig x) := by
  have ht := btrim_ev (bits x) (by omega)
  rw [bits_bits x h0] at ht
  have := Limbs_l0 x h0 hl ((bits x).length + 32) 0 [] (by omega) (by omega) (by omega) rfl Lim.nil (by simp [val, bval])
  exact Ev.congr (fun k => rfl) (Ev.bind ht this)
/-! ### the reference's functions of limbs -/
def SZ (l : List Int) : Prop := l.length ≤ 10000
theorem bits_len_of (l : List Int) (hL : Lim l) (hs : SZ l) : (bits (val l)).length ≤ 320000 := by
  have h := val_lt hL
  rw [pw_p2] at h
  have := bits_length_le (val_nonneg hL) h
  unfold SZ at hs
  omega
theorem refNorm_ev (l : List Int) (hL : Lim l) (hs : SZ l) : Ev (fun k => gudgeonref01_Norm.f k l) (dig (val l)) := by
  have h1 := bits_len_of l hL hs
  have hs' := hs
  unfold SZ at hs'
  exact Ev.congr (fun k => rfl) (Ev.bind (Bits_ev l hL (by omega)) (Ev.bind (f := fun _ t => some t) (Limbs_ev _ (val_nonneg hL) (by omega)) (Ev.now _)))
theorem refAdd_ev (a b : List Int) (ha : Lim a) (hb : Lim b) (sa : SZ a) (sb : SZ b) : Ev (fun k => gudgeonref01_Add.f k a b) (dig (val a + val b)) := by
  have h1 := bits_len_of a ha sa
  have h2 := bits_len_of b hb sb
  have va := val_nonneg ha
  have vb := val_nonneg hb
  have sa' := sa
  have sb' := sb
  unfold SZ at sa' sb'
  have hadd := badd_ev (bits (val a)) (bits (val b)) (by unfold LB; omega) (by unfold LB; omega)
  rw [bval_bits va, bval_bits vb] at hadd
  have hl : (bits (val a + val b)).length ≤ 320001 := by
    have e1 := lt_of_bits_length va h1
    have e2 := lt_of_bits_length vb h2
    exact bits_length_le (by omega) (by rw [p2_succ]; omega)
  exact Ev.congr (fun k => rfl) (Ev.bind (Bits_ev a ha (by omega)) (Ev.bind (Bits_ev b hb (by omega)) (Ev.bind hadd (Ev.bind (f := fun _ t => some t) (Limbs_ev _ (by omega) (by omega)) (Ev.now _)))))
theorem refMul_ev (a b : List Int) (ha : Lim a) (hb : Lim b) (sa : SZ a) (sb : SZ b) : Ev (fun k => gudgeonref01_Mul.f k a b) (dig (val a * val b)) := by
  have h1 := bits_len_of a ha sa
  have h2 := bits_len_of b hb sb
  have va := val_nonneg ha
  have vb := val_nonneg hb
  have sa' := sa
  have sb' := sb
  unfold SZ at sa' sb'
  have hmul := bmul_ev (bits (val a)) (bits (val b)) (by omega) (by omega)
  rw [bval_bits va, bval_bits vb] at hmul
  have h0 := Int.mul_nonneg va vb
  have hl := bits_length_le h0 (bmul_bound va (lt_of_bits_length va h1) vb (lt_of_bits_length vb h2))
  exact Ev.congr (fun k => rfl) (Ev.bind (Bits_ev a ha (by omega)) (Ev.bind (Bits_ev b hb (by omega)) (Ev.bind hmul (Ev.bind (f := fun _ t => some t) (Limbs_ev _ h0 (by omega)) (Ev.now _)))))
theorem refCmp_ev (a b : List Int) (ha : Lim a) (hb : Lim b) (sa : SZ a) (sb : SZ b) : Ev (fun k => gudgeonref01_Cmp.f k a b) (cmpI (val a) (val b)) := by
  have h1 := bits_len_of a ha sa
  have h2 := bits_len_of b hb sb
  have va := val_nonneg ha
  have vb := val_nonneg hb
  have sa' := sa
  have sb' := sb
  unfold SZ at sa' sb'
  have hc := bcmp_ev (bits (val a)) (bits (val b)) (by unfold LB; omega) (by unfold LB; omega)
  rw [bval_bits va, bval_bits vb] at hc
  exact Ev.congr (fun k => rfl) (Ev.bind (Bits_ev a ha (by omega)) (Ev.bind (Bits_ev b hb (by omega)) (Ev.bind (f := fun _ t => some t) hc (Ev.now _))))
theorem refSub_ev (a b : List Int) (ha : Lim a) (hb : Lim b) (sa : SZ a) (sb : SZ b) : Ev (fun k => gudgeonref01_Sub.f k a b) (if val a < val b then ([], 6) else (dig (val a - val b), 0)) := by
  have h1 := bits_len_of a ha sa
  have h2 := bits_len_of b hb sb
  have va := val_nonneg ha
  have vb := val_nonneg hb
  have sa' := sa
  have sb' := sb
  unfold SZ at sa' sb'
  have hc := bcmp_ev (bits (val a)) (bits (val b)) (by unfold LB; omega) (by unfold LB; omega)
  rw [bval_bits va, bval_bits vb] at hc
  refine Ev.congr (fun k => rfl) (Ev.bind (Bits_ev a ha (by omega)) (Ev.bind (Bits_ev b hb (by omega)) (Ev.bind hc ?_)))
  by_cases hlt : val a < val b
  · refine Ev.congr (f := fun _ => some _) (fun k => ?_) (Ev.now _)
    unfold cmpI
    rw [if_pos hlt, if_pos hlt, if_pos (by decide)]
  · have hs := bsub_ev (bits (val a)) (bits (val b)) (by unfold LB; omega) (by unfold LB; omega) (by rw [bval_bits va, bval_bits vb]; omega)
    rw [bval_bits va, bval_bits vb] at hs
    have hl : (bits (val a - val b)).length ≤ 320000 := bits_length_le (by omega) (by have := lt_of_bits_length va h1; omega)
    rw [if_neg hlt]
    refine Ev.congr (fun k => by
      unfold cmpI
      rw [if_neg hlt, if_neg (by split <;> decide)]) (Ev.bind hs (Ev.bind (f := fun _ t => some (t, (0 : Int))) (Limbs_ev (val a - val b) (by omega) (by omega)) (Ev.now _)))
end Go.Proofs.YtlfpnohpcemkgaaDoor.V
/- Numbers as small ones, of nat and of the reference. -/
namespace Go.Proofs.YtlfpnohpcemkgaaDoor.V
set_option linter.unusedVariables false
set_option linter.unusedSimpArgs false
open Go.RowKit Go.Proofs.YtlfpnohpcemkgaaDoor.PA Go.Proofs.YtlfpnohpcemkgaaDoor.H Go.Proofs.YtlfpnohpcemkgaaDoorW.PrintWords Go.Proofs.YtlfpnohpcemkgaaDoorW.PrintLast Go.Proofs.YtlfpnohpcemkgaaDoorW.PrintMore

theorem refOf_ev (n : Int) (h0 : 0 ≤ n) (h1 : n < 18446744073709551616) : Ev (fun k => gudgeonref01_Of.f k n) (dig n) := by
  have e1 : (Int.tmod n 4294967296) % 4294967296 = n % 4294967296 := by rw [Int.tmod_eq_emod_of_nonneg h0]; omega
  have e2 : (IntKind.u64.wrap (Int.tdiv n 4294967296)) % 4294967296 = n / 4294967296 := by
    rw [Int.tdiv_eq_ediv_of_nonneg h0, u64 (by omega) (by omega)]; omega
  have hL : Lim [n % 4294967296, n / 4294967296] := Lim.cons (by omega) (by omega) (Lim.cons (by omega) (by omega) Lim.nil)
  have := refNorm_ev _ hL (by unfold SZ; simp)
  have ev : val [n % 4294967296, n / 4294967296] = n := by simp only [val]; omega
  rw [ev] at this
  refine Ev.congr (fun k => ?_) (Ev.bind (f := fun _ t => some t) this (Ev.now _))
  unfold gudgeonref01_Of.f
  rw [e1, e2]
/-! ### as a small number -/
def intR (v : Int) : Int × Bool := if v < 4611686018427387904 then (v, true) else (0, false)
theorem refInt_l0 (l : List Bool) (hl : l.length ≤ 62) (d : Nat) (hd : d ≤ l.length) : Ev (fun k => gudgeonref01_Int.l0 k l (bval (l.drop d)) ((d : Int) - 1)) (bval l, true) := by
  induction d with
  | zero =>
    refine Ev.step (f := fun _ => some _) (fun k => ?_) (Ev.now _)
    simp only [gudgeonref01_Int.l0]
    rw [if_neg (by omega), List.drop_zero]
  | succ d ih =>
    have hdrop := bval_drop_getD l d
    have h0 := bval_nonneg (l.drop (d + 1))
    have h1 := bval_lt (l.drop (d + 1))
    have h2 := p2_le (show (l.drop (d + 1)).length ≤ 61 by rw [List.length_drop]; omega)
    have e : p2 61 = 2305843009213693952 := rfl
    rw [show ((d + 1 : Nat) : Int) - 1 = (d : Int) by omega]
    refine Ev.step (fun k => ?_) (ih (by omega))
    simp only [gudgeonref01_Int.l0]
    rw [if_pos (by omega), if_pos (by omega), if_pos (by omega), rdOf_D]
    cases hb : l.getD d false with
    | true =>
      rw [hb] at hdrop
      simp only [b2i, if_true] at hdrop
      rw [if_pos rfl, w64 (x := (d : Int) - 1) (by omega) (by omega), w64 (x := bval (l.drop (d + 1)) * 2) (by omega) (by omega), w64 (by omega) (by omega), hdrop]
      congr 1
      omega
    | false =>
      rw [hb] at hdrop
      simp only [b2i, Bool.false_eq_true, if_false] at hdrop
      rw [if_neg (by decide), w64 (x := (d : Int) - 1) (by omega) (by omega), w64 (x := bval (l.drop (d + 1)) * 2) (by omega) (by omega), hdrop]
      congr 1
      omega
theorem refInt_ev (l : List Int) (hL : Lim l) (hs : SZ l) : Ev (fun k => gudgeonref01_Int.f k l) (intR (val l)) := by
  have hv := val_nonneg hL
  have hs' := hs
  unfold SZ at hs'
  have h62 : p2 62 = 4611686018427387904 := rfl
  have hbl := bits_len_of l hL hs
  refine Ev.congr (fun k => rfl) (Ev.bind (Bits_ev l hL (by omega)) ?_)
  unfold intR
  by_cases hlt : val l < 4611686018427387904
  · have hl : (bits (val l)).length ≤ 62 := bits_length_le hv (by omega)
    have := refInt_l0 (bits (val l)) hl _ (Nat.le_refl _)
    rw [List.drop_eq_nil_of_le (Nat.le_refl _), bval_bits hv] at this
    rw [if_pos hlt]
    refine Ev.congr (fun k => ?_) this
    rw [if_neg (by omega), w64 (by omega) (by omega)]
    rfl
  · have hl : ¬ (bits (val l)).length ≤ 62 := fun h => hlt (by have := lt_of_bits_length hv h; omega)
    rw [if_neg hlt]
    refine Ev.congr (f := fun _ => some _) (fun k => ?_) (Ev.now _)
    rw [if_pos (by omega)]
theorem or_zero_u64 {x : Int} (h0 : 0 ≤ x) (h1 : x < 18446744073709551616) : Go.bits .or .u64 0 x = x := by
  obtain ⟨a, rfl⟩ := Int.eq_ofNat_of_zero_le h0
  have := (bits_nat .u64 64 (by decide) wraps_u64 0 a (by decide) (by omega)).2
  simpa using this
theorem nInt_ev (l : List Int) (hL : Lim l) (hs : SZ l) : Ev (fun k => nat_Int.f k l) (intR (val l)) := by
  have hv := val_nonneg hL
  have hs' := hs
  unfold SZ at hs'
  have hp2 : pw 2 = 18446744073709551616 := rfl
  have hfin : ∀ n : Int, 0 ≤ n → n < 18446744073709551616 → (if n ≥ 4611686018427387904 then (some ((0 : Int), false)) else (some (wrap64 (n), true))) = some (intR n) := by
    intro n n0 n1
    unfold intR
    by_cases h : n < 4611686018427387904
    · rw [if_neg (by omega), if_pos h, w64 (by omega) (by omega)]
    · rw [if_pos (by omega), if_neg h]
  refine Ev.congr (fun k => by
    unfold nat_Int.f
    rw [norm_ev l hL (by omega), Option.bind_some]) ?_
  have hd := val_dig hv
  have hl := dig_lim (val l)
  generalize hn : dig (val l) = t at *
  match t, hl with
  | [], _ =>
    refine Ev.congr (fun k => by rw [if_neg (by simp)]) (Ev.step (f := fun _ => some _) (fun k => ?_) (Ev.now _))
    simp only [val] at hd
    simp only [nat_Int.l0]
    rw [if_neg (by simp), hfin 0 (by omega) (by omega), hd]
  | [a], hl =>
    have ga := hl.head
    simp only [val] at hd
    have e1 : Go.bits .or .u64 0 (shl .u64 (IntKind.u64.wrap a) 0) = a := by
      rw [u64 ga.1 (by omega)]
      unfold shl
      simp only [Int.toNat_zero, Nat.zero_min, Int.pow_zero, Int.mul_one]
      rw [u64 ga.1 (by omega), or_zero_u64 ga.1 (by omega)]
    refine Ev.congr (fun k => by rw [if_neg (by simp)]) (Ev.step (f := fun k => nat_Int.l0 k a [a] 1 1) (fun k => ?_) (Ev.step (f := fun _ => some _) (fun k => ?_) (Ev.now _)))
    · simp only [nat_Int.l0]
      rw [if_pos (by simp), if_pos (by omega), if_pos (by simp), show (32 : Int) * 0 = 0 from rfl, wm0, if_pos (by omega), show rd [a] 0 = a from rfl, e1, show (0 : Int) + 1 = 1 from rfl, w01]
      rfl
    · simp only [nat_Int.l0]
      rw [if_neg (by omega), hfin a ga.1 (by omega)]
      congr 2
      omega
  | [a, b], hl =>
    have ga := hl.head
    have gb := hl.tail.head
    simp only [val] at hd
    have e1 : Go.bits .or .u64 0 (shl .u64 (IntKind.u64.wrap a) 0) = a := by
      rw [u64 ga.1 (by omega)]
      unfold shl
      simp only [Int.toNat_zero, Nat.zero_min, Int.pow_zero, Int.mul_one]
      rw [u64 ga.1 (by omega), or_zero_u64 ga.1 (by omega)]
    have e2 : Go.bits .or .u64 a (shl .u64 (IntKind.u64.wrap b) 32) = b * 4294967296 + a := by
      rw [u64 gb.1 (by omega)]
      unfold shl
      rw [show min (Int.toNat 32) (IntKind.bits .u64) = 32 from rfl, show (2 : Int) ^ 32 = 4294967296 from rfl, u64 (x := b * 4294967296) (by omega) (by omega), or_comm_, or_join gb ga]
    refine Ev.congr (fun k => by rw [if_neg (by simp)]) (Ev.step (f := fun k => nat_Int.l0 k a [a, b] 2 1) (fun k => ?_) (Ev.step (f := fun k => nat_Int.l0 k (b * 4294967296 + a) [a, b] 2 2) (fun k => ?_) (Ev.step (f := fun _ => some _) (fun k => ?_) (Ev.now _))))
    · simp only [nat_Int.l0]
      rw [if_pos (by simp), if_pos (by omega), if_pos (by simp), show (32 : Int) * 0 = 0 from rfl, wm0, if_pos (by omega), show rd [a, b] 0 = a from rfl, e1, show (0 : Int) + 1 = 1 from rfl, w01]
      rfl
    · simp only [nat_Int.l0]
      rw [if_pos (by omega), if_pos (by omega), if_pos (by simp), show (32 : Int) * 1 = 32 from rfl, w64 (x := 32) (by omega) (by omega), if_pos (by omega), show rd [a, b] 1 = b from rfl, e2, show (1 : Int) + 1 = 2 from rfl, w11]
    · simp only [nat_Int.l0]
      rw [if_neg (by omega), hfin _ (by omega) (by omega)]
      congr 2
      omega
  | a :: b :: c :: t, hl =>
    have hnot : ¬ val l < 4611686018427387904 := by
      intro h
      have := dig_length_le (k := 2) hv (by omega)
      rw [hn] at this
      simp at this
    refine Ev.congr (f := fun _ => some _) (fun k => ?_) (Ev.now _)
    unfold intR
    rw [if_pos (by simp; omega), if_neg hnot]
end Go.Proofs.YtlfpnohpcemkgaaDoor.V
/- The law NatSmall, in plain Lean. -/
namespace Go.Proofs.YtlfpnohpcemkgaaDoor.S
set_option linter.unusedVariables false
set_option linter.unusedSimpArgs false
open Go.RowKit Go.Proofs.YtlfpnohpcemkgaaDoor.V Go.Proofs.YtlfpnohpcemkgaaDoor.PA Go.Proofs.YtlfpnohpcemkgaaDoor.H Go.Proofs.YtlfpnohpcemkgaaDoorW.PrintWords Go.Proofs.YtlfpnohpcemkgaaDoorW.PrintLast Go.Proofs.YtlfpnohpcemkgaaDoorW.PrintMore

theorem NatSmall : gudgeonlaw01_NatSmall.Pure := by
  intro n a wn _ _ wa
  have ha := lim_wf wa
  have hn := bounds_u64 wn
  refine Ev.rounds ?_
  refine Ev.congr (fun k => rfl) (Ev.bind awake_ev (evP rfl ?_))
  by_cases hf : (a.length : Int) > 24
  · rw [decide_eq_true hf]
    exact Ev.step (f := fun _ => some true) (fun k => rfl) (Ev.now _)
  · rw [decide_eq_false hf]
    have sa : SZ a := by unfold SZ; omega
    have hp2 : pw 2 = 18446744073709551616 := rfl
    have hl := dig_length_le (n := n) (k := 2) (by omega) (by omega)
    refine Ev.step (fun k => by rw [gudgeonlaw01_NatSmall.j0]) ?_
    refine evN (by decide) ?_
    refine evC (of_ev n (by omega) (by omega)) ?_
    refine Ev.bind (refOf_ev n (by omega) (by omega)) ?_
    refine Ev.bind (same_self _ _ rfl (by omega)) ?_
    refine Ev.bind (nInt_ev a ha sa) ?_
    refine Ev.bind (refInt_ev a ha sa) ?_
    exact evP rfl (evP rfl (evR (by simp)))
end Go.Proofs.YtlfpnohpcemkgaaDoor.S
/- The plain statement of the law NatSmall. -/
namespace Go.Proofs.YtlfpnohpcemkgaaDoor.Pure
open Go.Proofs.YtlfpnohpcemkgaaDoor.PA
theorem NatSmall : gudgeonlaw01_NatSmall.Pure := Go.Proofs.YtlfpnohpcemkgaaDoor.S.NatSmall
end Go.Proofs.YtlfpnohpcemkgaaDoor.Pure
/- The law NatSmall of package gudgeonlaw01 returns true and leaves its arguments as they were, for every input that can be read as data; the library's tables that the row lists read as the program's text lays them, to which the card ties them. -/
namespace Go.Proofs.YtlfpnohpcemkgaaDoor.natSmall
open Go.ChangeShapes Go.WideShapes Go.ChangeAt Go.RowKit
open Go.ChangeMaps (open_string shut_string)
set_option linter.unusedVariables false
theorem own : ownKnob Tryd.prog.godebug = none := by kernel_rfl
theorem laidOut : laidOutB Tryd.prog = true := by kernel_rfl
def IsRow (k : IntKind) (w : World) (a : Option Addr) (len cap : Nat) (zs : List Int) : Prop :=
  (a = none ∧ len = 0 ∧ cap = 0 ∧ zs = []) ∨
  ∃ x, a = some x ∧ len ≤ cap ∧ cap ≤ maxLen ∧ zs.length = cap ∧ (∀ i, i < zs.length → w.cell? (x.add i) = some (.int k (zs.getD i 0))) ∧ ∀ n ∈ zs, (Lit.int k n).wf = true
noncomputable def laidWorld (os : Os) : World :=
  let w0 := World.holding Tryd.prog os ⟨#[], #[], []⟩
  let put (h : Array Obj) (g : Nat) (cs : Array Value) : Array Obj := h.modify g fun
    | .cells _ t frozen => .cells cs t frozen
    | o => o
  let h0 := w0.heap
  let h1 := put h0 1 #[.int .u8 128, .int .u8 191, .int .u8 160, .int .u8 191, .int .u8 128, .int .u8 159, .int .u8 144, .int .u8 191, .int .u8 128, .int .u8 143, .int .u8 0, .int .u8 0, .int .u8 0, .int .u8 0, .int .u8 0, .int .u8 0, .int .u8 0, .int .u8 0, .int .u8 0, .int .u8 0, .int .u8 0, .int .u8 0, .int .u8 0, .int .u8 0, .int .u8 0, .int .u8 0, .int .u8 0, .int .u8 0, .int .u8 0, .int .u8 0, .int .u8 0, .int .u8 0]
  let h2 := put h1 0 ((Go.Pinned.utf8FirstZ.map fun (n : Nat) => Value.int .u8 (n : Int)).toArray)
  { w0 with heap := h2 }
theorem laidWorld_met (os : Os) (args : Array Value) : laidMetH Tryd.prog Rows.natSmallRow.laid ((laidWorld os).forCall (fun _ _ => 0) ⟨#[], args, []⟩).memory :=
  (LaidIn.of_run (P := Tryd.prog) (l := Rows.natSmallRow.laid) [1, 0] 8 (by kernel_rfl) (by kernel_rfl) (by kernel_rfl) (by kernel_rfl)).met
set_option maxRecDepth 100000 in
theorem lifted (os : Os) (started : os.Started) (H : Type) (enc : TypeId × Value → H) :
    ReturnsInHanded {} Tryd.checked os 10 .any (fun w args => (Rows.natSmallSpec.pre enc Tryd.prog Tryd.f10 Rows.natSmallRow.domain false w args ∧ laidMetH Tryd.prog Rows.natSmallRow.laid w) ∧ sizedMet enc Tryd.prog Tryd.f10 (OpenSpec.ofChange Rows.natSmallSpec) false w args) (Rows.natSmallSpec.post enc Tryd.prog Tryd.f10 false true false false) := by
  refine returnsInHanded_of_change_and (C := Tryd.checked) (X := fun w _ => laidMetH Tryd.prog Rows.natSmallRow.laid w) (fun _ _ _ hh h => h.of_heap hh) own started (by kernel_rfl) Tryd.func10
    (ChangeSpec.witness_at (enc := enc) (C := Tryd.checked) (os := os) (X := fun w _ => laidMetH Tryd.prog Rows.natSmallRow.laid w) false (laidWorld os) #[.int .u64 0, .slice none 0 0] 8 rfl (by kernel_rfl) (by kernel_rfl) (by kernel_rfl) (by kernel_rfl) (by kernel_rfl) (laidWorld_met os _)) ?_
  intro W base args ds gs before hval0 hW hcnd hsz0 hL _
  have hsz : (DataW.weightsEach Tryd.prog (Tryd.f10.params.toList ++ Rows.natSmallSpec.plain.varTypes Tryd.prog) (ds ++ gs)).all (· ≤ reachBytes) = true := hsz0
  have hval : ∀ (j : Nat) t v, Tryd.f10.params[j]? = some t → args[j]? = some v → Value.okWide Tryd.prog W .any base t v := hval0
  have hW' := hW
  obtain ⟨p, q, hA0, hV, rfl, hfz, hnd⟩ := hW
  have hA : DataW.TrodAll enc Tryd.prog W 0 (fun _ => true) true Tryd.f10.params.toList args.toList ds p := hA0
  rw [Tryd.params10] at hA hval hsz
  obtain ⟨v0, vs0, d0, ds0, p0, q0, hargs, rfl, rfl, h0, r0⟩ := trodAll_cons hA
  obtain ⟨v1, vs1, d1, ds1, p1, q1, rfl, rfl, rfl, h1, r1⟩ := trodAll_cons r0
  obtain ⟨rfl, rfl, rfl⟩ := trodAll_nil r1
  obtain rfl : args = #[v0, v1] := by cases args; simp_all
  obtain ⟨rfl, rfl⟩ := trodVars_none hV
  obtain ⟨a0, rfl, rfl, rfl, w0⟩ := open_int Tryd.underlying38 (hval 0 38 v0 rfl rfl) h0
  obtain ⟨a1, len1, cap1, rfl⟩ := okWide_slice Tryd.underlying22 (hval 1 22 v1 rfl rfl)
  have k1 := h1
  have lt1 : ∀ x ∈ p1, x.block < W.heap.size := by obtain ⟨m, hm⟩ := k1; exact DataW.trod_lt m _ _ _ hm
  obtain ⟨z1, w1⟩ : ∃ zs, IsRow .u32 W a1 len1 cap1 zs := by
    obtain ⟨fuel, hf⟩ := h1
    rcases open_ints Tryd.underlying22 Tryd.underlying43 (by kernel_rfl) hf with ⟨hcs, _⟩ | ⟨x, l, c, zs, hcs, _, hl, hm, hz, _, hcell, hwz⟩
    · simp [Value.cells] at hcs
      obtain ⟨rfl, rfl, rfl⟩ := hcs
      exact ⟨[], .inl ⟨rfl, rfl, rfl, rfl⟩⟩
    · simp [Value.cells] at hcs
      obtain ⟨rfl, rfl, rfl⟩ := hcs
      exact ⟨zs, .inr ⟨_, rfl, hl, hm, by simpa using hz, hcell, hwz⟩⟩
  have y1 : len1 * 4 ≤ 140737488351232 := Go.Proofs.YtlfpnohpcemkgaaDoorW.PrintWords.sized_ints hsz (j := 1) (t := 22) rfl rfl Tryd.underlying22 Tryd.underlying43 (by kernel_rfl) (by kernel_rfl) h1
  clear hA0 hval0 hsz0 hsz
  refine (PA.gudgeonlaw01_NatSmall.walk Pure.NatSmall a0 a1 len1 cap1 z1 W w0 w1 y1).mono fun e W' ⟨he, bel⟩ => ?_
  subst he
  exact ⟨_, rfl, _, _, _, [], _, [], hW', trodAll_mk1 (shut_bool Tryd.underlying4 _), (trodAll_cons_mk (shut_int Tryd.underlying38 w0) (trodAll_cons_mk (Below.trod laidOut (by kernel_rfl) (of_decide_eq_true (by kernel_rfl)) k1 bel lt1) trodAll_mk0)), rfl, bel.frame _, fun h => by cases h⟩
theorem over : Rows.natSmallRow.holds Tryd.pinned (OpenSpec.ofChange Rows.natSmallSpec) :=
  OpenClaim.holds_of_wide 10 Tryd.f10 rfl rfl rfl rfl rfl rfl rfl ⟨rfl, rfl, rfl, rfl, rfl⟩ rfl rfl rfl rfl rfl (by kernel_rfl) Tryd.func10 (by kernel_rfl)
    (of_decide_eq_true (by kernel_rfl)) (by unfold Func.isWrapper; first | (rw [if_pos (by decide +kernel)]; kernel_rfl) | (rw [if_neg (by decide +kernel)]; exact ⟨rfl, rfl⟩))
    (fun os started H enc _ => lifted os started H enc)
theorem carded : Rows.NatSmallCardSaid :=
  Claim7.holds_tied_plain_at .later [] [.data, .pinned] true (true, "dbf7fe588360fdfb41ef3d3495ab37953e16fc13eed55bf566d1a048127c9ca8") false
    over (fun _ h => by cases h) (by kernel_rfl) (fun _ h => by cases h) natSmall_row_tie rfl ⟨rfl, rfl⟩ (by kernel_rfl) rfl
    (fun f fn hf hfn => by
      obtain rfl : f = 10 := Option.some.inj ((show Tryd.prog.funcNamed "gudgeon/gudgeonlaw01.NatSmall" = some 10 by kernel_rfl).symm.trans hf) |>.symm
      obtain rfl : fn = Tryd.f10 := (Option.some.inj (Tryd.func10.symm.trans hfn)).symm
      exact ⟨by kernel_rfl, fun j t ht => by
        rw [Tryd.params10] at ht
        have hm := Array.mem_of_getElem? ht
        simp only [List.mem_toArray, List.mem_cons, List.not_mem_nil, or_false] at hm
        rcases hm with rfl | rfl
        · exact (show Tryd.prog.wantsStandIn 38 = false by kernel_rfl)
        · exact (show Tryd.prog.wantsStandIn 22 = false by kernel_rfl)⟩)
    (by kernel_rfl)
end Go.Proofs.YtlfpnohpcemkgaaDoor.natSmall
namespace Go.Proofs.YtlfpnohpcemkgaaDoor
/-- The card, under a short name, for the claim. -/
theorem natSmall_card : Rows.NatSmallCardSaid := natSmall.carded
end Go.Proofs.YtlfpnohpcemkgaaDoor
