/- Joined by wip/tools/shake.py for the claim of WordAlike: PBx13, PBx18, HOpen, WrdA, WrdB, WrdC, WrdE, WrdF, WrdG, WrdH, WrdJ, LawWordAlike. -/
import Derived.Test.YtbigeaknbhmniaaJWordAlike2
import Derived.Test.YtbigeaknbhmniaaJWordAlike4
import Derived.Test.YtbigeaknbhmniaaJWordAlike1
import Derived.Deep.SlicePairs
import Derived.ChangeArms
import Derived.WalkKit
import Derived.KernelRfl
import Derived.Test.YtbigeaknbhmniaaJWordAlike3
import Derived.Test.YtbigeaknbhmniaaRows
import Derived.ProofKit
import Derived.OpenShut
import Derived.ShutString
import Derived.ChangeOld
import Derived.Below
import Derived.SizedLaws
import Derived.Lib.SmallJoins
import Derived.ChangeSlices
/- Written by a program of this session, wip/tools/patch_print.py, over the kit's print of the loaded functions. -/
namespace Go.Proofs.Ytbigeaknbhmniaa.H
end Go.Proofs.Ytbigeaknbhmniaa.H
namespace Go.Proofs.Ytbigeaknbhmniaa.PB
open Go.RowKit Go.Proofs.YtbigeaknbhmniaaW.PrintWords Go.Proofs.YtbigeaknbhmniaaW.PrintLast Go.Proofs.YtbigeaknbhmniaaW.PrintMore Go.Proofs.Ytbigeaknbhmniaa.H
attribute [local go_sem] max2_int min2_int max_two min_two max_three min_three max_four min_four   -- for this text's walks alone
attribute [local go_sem] box_twice
set_option linter.unusedVariables false
set_option linter.unusedSimpArgs false

attribute [local go_sem high] eqA71
/-! ### runs_size: function 73 -/
def runs_size.l0 : Nat → Int → List (S71) → Int → Int → Option (Int)
 | 0, _, _, _, _ => none
 | k + 1, x3, x6, x7, x8 => if x8 < x7 then (if 0 ≤ x8 then (if x8 < (x6.length : Int) then (runs_size.l0 k (wrap64 (x3 + ((rd_T71 x6 x8).f1))) x6 x7 (wrap64 (x8 + 1))) else (none)) else (none)) else (some x3)
def runs_size.f (k : Nat) (l0 : List (S71)) : Option (Int) := runs_size.l0 k 0 l0 (l0.length : Int) 0
set_option maxHeartbeats 8000000 in
set_option maxRecDepth 100000 in
theorem runs_size.calls (k : Nat) (A0 : Option Addr) (c0 : Nat) (l0 : List (S71)) (r : Int) (w : World) (hr0 : Kd.C k71 w A0 l0.length l0) (hc0 : l0.length ≤ c0) (h : runs_size.f k l0 = some r) :
  Calls Try.prog 73 #[.slice A0 l0.length c0] w fun e w' => e = .returned (.int .i64 r) ∧ Below w.heap.size w w' := by
 have hu71 := Try.underlying71
 have HR0 := Aside0.mk hr0
 have HC0 := Aside0.mk hc0
 clear hr0 hc0
 have HB := Aside0.mk (Below.refl w.heap.size w)
 have H : (runs_size.l0 k 0 l0 (l0.length : Int) 0) = some r := h
 clear h
 have H' := Aside0.mk H
 clear H
 go_enter Try.func73, Try.ntmps73
 go_wp2
 go_loopg [3, 8] k (fun kq v3 v8 w' => ∃ (x3_1 : Int) (x8_1 : Int), v3 = .int .i64 x3_1 ∧ v8 = .int .i64 x8_1 ∧ Aside0 (runs_size.l0 kq x3_1 l0 (l0.length : Int) x8_1 = some r) ∧ Aside0 (kq ≤ k) ∧ Aside0 (Below w.heap.size w w'))
 case atStart => exact ⟨(0), (0), (by first | rfl | (simp; done) | (simp [*]; done) | (refine congrArg (Value.int _) ?_; omega) | (refine congrArg Value.bool ?_; generalize ByteArray.toList _ = z_; cases z_ <;> rfl)), (by first | rfl | (simp; done) | (simp [*]; done) | (refine congrArg (Value.int _) ?_; omega) | (refine congrArg Value.bool ?_; generalize ByteArray.toList _ = z_; cases z_ <;> rfl)), H', ⟨Nat.le_refl _⟩, ⟨by repeat (first | (with_reducible first | exact HB.out | apply below_alloc | apply pw_below_drewN | apply below_drew1) | exact HB.out)⟩⟩
 case round =>
  clear H'
  obtain ⟨x3_1, x8_1, rfl, rfl, HA, HK1, HB⟩ := hrel
  cases gk with
  | zero => exact absurd HA.out (by simp [runs_size.l0])
  | succ k1 =>
   have H := HA.out
   clear HA
   simp only [runs_size.l0] at H
   by_cases c2 : x8_1 < (l0.length : Int)
   ·rw [if_pos c2] at H
    have c2b0 : decide (x8_1 < (l0.length : Int)) = true := decide_eq_true c2
    clear c2
    by_cases c3 : 0 ≤ x8_1
    ·rw [if_pos c3] at H
     have c3b0 : decide (0 ≤ x8_1) = true := decide_eq_true c3
     clear c3
     by_cases c4 : x8_1 < (l0.length : Int)
     ·rw [if_pos c4] at H
      have c4b0 : decide (x8_1 < (l0.length : Int)) = true := decide_eq_true c4
      clear c4
      have H' := Aside0.mk H
      clear H
      have p398 : 0 ≤ (x8_1 : Int) := of_decide_eq_true (by first | (with_reducible assumption) | assumption)
      have q398 : x8_1 < (l0.length : Int) := of_decide_eq_true (by first | (with_reducible assumption) | assumption)
      obtain ⟨ad398, e398, hx398_0, hx398_1⟩ := at_T71 HR0.out x8_1 p398 q398
      cases e398
      replace hx398_0 := (HB.out.cell (World.block_lt_of_cell? w _ hx398_0)).trans hx398_0
      replace hx398_1 := (HB.out.cell (World.block_lt_of_cell? w _ hx398_1)).trans hx398_1
      replace p398 := eq_true p398
      replace q398 := eq_true q398
      go_wp2_with (first | ((with_reducible refine gate_dst (N := 5) rfl ?_); refine box_event ?hg (N := 5) ?hd (cs := #[.int .i64 0, .int .i64 0]) (t := 71) ?hr ?_; (case hd => rfl); (case hg => rfl); (case hr => first | (go_simp; done) | (go_simp; rfl) | (go_simp; simp only [IntKind.wrap_u8, IntKind.wrap_u32]; congr 4; omega) | (go_simp; simp only [IntKind.wrap_u8, IntKind.wrap_u32]; congr 5; omega)); intro gb399 hg w5 hbox hb; have n0_ := Aside0.mk (below_step (by repeat (first | (with_reducible first | exact HB.out | apply below_alloc | apply pw_below_drewN | apply below_drew1) | exact HB.out)) hb); have n1_ := Aside0.mk (hbox); have n2_ := Aside0.mk ((by rw [hg]; exact (below_size (by repeat (first | (with_reducible first | exact HB.out | apply below_alloc | apply pw_below_drewN | apply below_drew1) | exact HB.out))) : w.heap.size ≤ gb399)); have n3_ := Aside0.mk ((by rw [hg]; exact (below_size (by repeat (first | (with_reducible first | exact HB.out | apply below_alloc | apply pw_below_drewN | apply below_drew1) | exact HB.out))) : w.heap.size ≤ gb399)); clear HB; have HB := n0_; have BK399 := n1_; have GW399 := n2_; have GE399 := n3_; clear n0_ n1_ n2_ n3_; clear hb hbox hg; have hcz6_0 : w5.cell? ⟨gb399, 0, none⟩ = some (.int .i64 0) := (blk_cell BK399.out 0).trans rfl; have hcz6_1 : w5.cell? ⟨gb399, 1, none⟩ = some (.int .i64 0) := (blk_cell BK399.out 1).trans rfl; have hfz6_0 := blk_frozen BK399.out 0; have hfz6_1 := blk_frozen BK399.out 1))
      go_roundg k1
      case measure => have := HK1.out; omega
      case rel => exact ⟨(wrap64 (x3_1 + ((rd_T71 l0 x8_1).f1))), (wrap64 (x8_1 + 1)), (by first | rfl | (simp; done) | (simp [*]; done) | (refine congrArg (Value.int _) ?_; omega) | (refine congrArg Value.bool ?_; generalize ByteArray.toList _ = z_; cases z_ <;> rfl)), (by first | rfl | (simp; done) | (simp [*]; done) | (refine congrArg (Value.int _) ?_; omega) | (refine congrArg Value.bool ?_; generalize ByteArray.toList _ = z_; cases z_ <;> rfl)), H', ⟨by have := HK1.out; omega⟩, ⟨by repeat (first | (with_reducible first | exact HB.out | apply below_alloc | apply pw_below_drewN | apply below_drew1 | refine below_set ?_ GE399.out) | exact HB.out)⟩⟩
     ·rw [if_neg c4] at H
      exact absurd H (by simp)
    ·rw [if_neg c3] at H
     exact absurd H (by simp)
   ·rw [if_neg c2] at H
    have c2b0 : decide (x8_1 < (l0.length : Int)) = false := decide_eq_false c2
    clear c2
    obtain rfl := Option.some.inj H
    go_wp2
    go_ret
    exact ⟨by first | rfl | (simp [errW_none, errW_some] <;> rfl) | (refine congrArg (fun z_ => Ending.returned (Value.bool z_)) (decide_eq_decide.mpr ?_); unfold wrap64; omega) | (simp [*, errW_none, errW_some] <;> rfl), by repeat (first | (with_reducible first | exact HB.out | apply below_alloc | apply pw_below_drewN | apply below_drew1) | exact HB.out)⟩

/-! ### runs_few: function 80 -/
def runs_few.f (l0 : List (S71)) : Option ((List (S71)) × Int) := if (l0.length : Int) > 65536 then (some (([] : List (S71)), 2)) else (some (l0, 0))
set_option maxHeartbeats 8000000 in
set_option maxRecDepth 100000 in
theorem runs_few.calls (P0_ : Nat → Prop) (u9000_ : Value) (l0 : List (S71)) (r1 : List (S71)) (r2 : Int) (w0 w : World) (hB : Below w0.heap.size w0 w) (ho0 : Kd.R k71 71 w w0.heap.size P0_ u9000_ l0) (h : runs_few.f l0 = some (r1, r2)) :
  Calls Try.prog 80 #[u9000_] w fun e w' => ∃ v0_ : Value, e = .returned (.tuple #[v0_, .int .i64 r2]) ∧ Kd.R k71 71 w' w0.heap.size (fun k_ => (P0_ k_ ∨ w.heap.size ≤ k_)) v0_ r1 ∧ Below w0.heap.size w0 w' ∧ Kept w w' (fun k_ => P0_ k_) := by
 have HO0 := Aside0.mk (show Kd.R k71 71 w w0.heap.size (fun k_ => (P0_ k_ ∨ w.heap.size ≤ k_)) u9000_ l0 from Kd.R_mono ho0 (fun k_ hk => (.inl hk)))
 have HK := Aside0.mk (Kept.refl w (fun k_ => P0_ k_))
 have HW0 := Aside0.mk hB.size
 have HB := Aside0.mk hB
 clear hB
 have H : (if (l0.length : Int) > 65536 then (some (([] : List (S71)), 2)) else (some (l0, 0))) = some (r1, r2) := h
 clear h
 by_cases c2 : (l0.length : Int) > 65536
 ·rw [if_pos c2] at H
  have c2b0 : decide (65536 < (l0.length : Int)) = true := decide_eq_true c2
  have c2b1 : decide (65536 < l0.length) = true := decide_eq_true (by omega)
  clear c2
  simp only [Option.some.injEq, Prod.mk.injEq] at H
  obtain ⟨rfl, rfl⟩ := H
  obtain ⟨Ao3, co3, eo3⟩ := Kd.R_slice HO0.out
  subst eo3
  go_enter Try.func80, Try.ntmps80
  go_wp2
  go_ret2
  exact ⟨_, by first | rfl | (simp [errW_none, errW_some] <;> rfl) | (simp [*, errW_none, errW_some] <;> rfl), by first | exact Kd.R_nil _ _ _ _ _ | exact Kd.N_nil _ _ _ _ _ | exact Kd.V_nil _ _ _ _ _ | exact Kd.Q_nil _ _ _ _ _ | exact Kd.S_nil _ _ _ _ _, by repeat (first | (with_reducible first | exact HB.out | apply below_alloc | apply pw_below_drewN | apply below_drew1) | exact HB.out), by repeat (first | (with_reducible first | exact HK.out | apply Kept.alloc | apply Kept.drewN | apply Kept.drew) | exact HK.out)⟩
 ·rw [if_neg c2] at H
  have c2b0 : decide (65536 < (l0.length : Int)) = false := decide_eq_false c2
  have c2b1 : decide (65536 < l0.length) = false := decide_eq_false (by omega)
  clear c2
  simp only [Option.some.injEq, Prod.mk.injEq] at H
  obtain ⟨rfl, rfl⟩ := H
  obtain ⟨Ao4, co4, eo4⟩ := Kd.R_slice HO0.out
  subst eo4
  go_enter Try.func80, Try.ntmps80
  go_wp2
  go_ret2
  exact ⟨_, by first | rfl | (simp [errW_none, errW_some] <;> rfl) | (simp [*, errW_none, errW_some] <;> rfl), by (with_reducible repeat (first | apply Kd.R_alloc | apply Kd.R_drewN | apply Kd.R_drew)); exact HO0.out, by repeat (first | (with_reducible first | exact HB.out | apply below_alloc | apply pw_below_drewN | apply below_drew1) | exact HB.out), by repeat (first | (with_reducible first | exact HK.out | apply Kept.alloc | apply Kept.drewN | apply Kept.drew) | exact HK.out)⟩

/-! ### runs_Concat: function 48 -/
def runs_Concat.j0 : Nat → List (S71) → List (S71) → Bool → Option ((List (S71)) × Int)
 | 0, _, _, _ => none
 | k + 1, x0, x1, x6 => if x6 = true then (some (([] : List (S71)), 1)) else ((runs_size.f k x0).bind fun t402 => ((runs_size.f k x1).bind fun t403 => (if (wrap64 (t402 + t403)) > 1099511627776 then (some (([] : List (S71)), 2)) else ((runs_joined.f x0 x1).bind fun t404 => ((runs_few.f t404).bind fun bt407 => (some (bt407.1, bt407.2)))))))
def runs_Concat.f (k : Nat) (l0 : List (S71)) (l1 : List (S71)) : Option ((List (S71)) × Int) := (runs_May.f k l0).bind fun t400 => (if t400 = true then ((runs_May.f k l1).bind fun t401 => (runs_Concat.j0 k l0 l1 (!t401))) else (runs_Concat.j0 k l0 l1 (!t400)))
set_option maxHeartbeats 8000000 in
set_option maxRecDepth 100000 in
theorem runs_Concat.calls (k : Nat) (A0 : Option Addr) (c0 : Nat) (l0 : List (S71)) (A1 : Option Addr) (c1 : Nat) (l1 : List (S71)) (r1 : List (S71)) (r2 : Int) (w : World) (hr0 : Kd.C k71 w A0 l0.length l0) (hc0 : l0.length ≤ c0) (hr1 : Kd.C k71 w A1 l1.length l1) (hc1 : l1.length ≤ c1) (h : runs_Concat.f k l0 l1 = some (r1, r2)) :
  Calls Try.prog 48 #[.slice A0 l0.length c0, .slice A1 l1.length c1] w fun e w' => ∃ v0_ : Value, e = .returned (.tuple #[v0_, .int .i64 r2]) ∧ Kd.R k71 71 w' w.heap.size (fun _ => True) v0_ r1 ∧ Below w.heap.size w w' := by
 have HR0 := Aside0.mk hr0
 have HC0 := Aside0.mk hc0
 clear hr0 hc0
 have HR1 := Aside0.mk hr1
 have HC1 := Aside0.mk hc1
 clear hr1 hc1
 have HB := Aside0.mk (Below.refl w.heap.size w)
 have H : ((runs_May.f k l0).bind fun t400 => (if t400 = true then ((runs_May.f k l1).bind fun t401 => (runs_Concat.j0 k l0 l1 (!t401))) else (runs_Concat.j0 k l0 l1 (!t400)))) = some (r1, r2) := h
 clear h
 replace H := Option.bind_eq_some_iff.mp H
 obtain ⟨t400, A30, H⟩ := H
 replace H : (if t400 = true then ((runs_May.f k l1).bind fun t401 => (runs_Concat.j0 k l0 l1 (!t401))) else (runs_Concat.j0 k l0 l1 (!t400))) = some (r1, r2) := H
 have A3 := Aside0.mk A30
 clear A30
 have HC4 := Aside0.mk H
 clear H
 go_enter Try.func48, Try.ntmps48
 go_upto_if 6 with (first | ((with_reducible refine gate_callee (f := 38) rfl ?_); refine goesL_ (some 8) rfl rfl Try.func38 (by kernel_rfl) rfl #[.slice A0 l0.length c0] rfl (by (try simp only [List.map_toArray, List.map_cons, List.map_nil]); first | done | rfl | (simp only [List.length_drop, List.length_take]; rfl)) ?_; (with_reducible refine (runs_May.calls k _ _ l0 t400 _ ?side1 ?side2 A3.out).mono ?_); (case side1 => repeat (first | exact HR0.out | (with_reducible refine Kd.C_alloc ?_ _) | (with_reducible refine Kd.C_drewN ?_ _) | (with_reducible refine Kd.C_drew ?_))); (case side2 => exact HC0.out); rintro e w5 ⟨rfl, hb⟩; refine ⟨_, rfl, ?_⟩; have n0_ := Aside0.mk (below_step (by repeat (first | (with_reducible first | exact HB.out | apply below_alloc | apply pw_below_drewN | apply below_drew1) | exact HB.out)) hb); clear HB; have HB := n0_; clear n0_; (try clear hb); (try clear hb2); (try clear hk); (try clear hi)))
 (try simp only [Act.put, List.setIfInBounds_toArray, List.set_cons_zero, List.set_cons_succ])
 go_cut [6] (fun v6 wc => ∃ (kq : Nat) (x6_3 : Bool), v6 = .bool x6_3 ∧ Aside0 (runs_Concat.j0 kq l0 l1 x6_3 = some (r1, r2)) ∧ Aside0 (kq ≤ k) ∧ Aside0 (Below w.heap.size w wc))
 case first =>
  have H := HC4.out
  clear HC4
  by_cases c6 : t400 = true
  ·subst c6
   have H1 : ((runs_May.f k l1).bind fun t401 => (runs_Concat.j0 k l0 l1 (!t401))) = some (r1, r2) := by rw [if_pos rfl] at H; exact H
   clear H
   have H := H1
   clear H1
   replace H := Option.bind_eq_some_iff.mp H
   obtain ⟨t401, A70, H⟩ := H
   replace H : (runs_Concat.j0 k l0 l1 (!t401)) = some (r1, r2) := H
   have A7 := Aside0.mk A70
   clear A70
   have H' := Aside0.mk H
   clear H
   go_wp2_with (first | ((with_reducible refine gate_callee (f := 38) rfl ?_); refine goesL_ (some 11) rfl rfl Try.func38 (by kernel_rfl) rfl #[.slice A1 l1.length c1] rfl (by (try simp only [List.map_toArray, List.map_cons, List.map_nil]); first | done | rfl | (simp only [List.length_drop, List.length_take]; rfl)) ?_; (with_reducible refine (runs_May.calls k _ _ l1 t401 _ ?side1 ?side2 A7.out).mono ?_); (case side1 => repeat (first | exact (Kd.C_below HR1.out HB.out) | (with_reducible refine Kd.C_alloc ?_ _) | (with_reducible refine Kd.C_drewN ?_ _) | (with_reducible refine Kd.C_drew ?_))); (case side2 => exact HC1.out); rintro e w8 ⟨rfl, hb⟩; refine ⟨_, rfl, ?_⟩; have n0_ := Aside0.mk (below_step (by repeat (first | (with_reducible first | exact HB.out | apply below_alloc | apply pw_below_drewN | apply below_drew1) | exact HB.out)) hb); clear HB; have HB := n0_; clear n0_; (try clear hb); (try clear hb2); (try clear hk); (try clear hi)))
   go_meet
   case rel => exact ⟨_, (!t401), (by first | rfl | (simp; done) | (simp [*]; done) | (refine congrArg (Value.int _) ?_; omega) | (refine congrArg Value.bool ?_; generalize ByteArray.toList _ = z_; cases z_ <;> rfl)), H', ⟨by first | omega | exact Nat.le_refl _⟩, ⟨by repeat (first | (with_reducible first | exact HB.out | apply below_alloc | apply pw_below_drewN | apply below_drew1) | exact HB.out)⟩⟩
  ·replace c6 := Bool.eq_false_iff.mpr c6
   subst c6
   have H1 : (runs_Concat.j0 k l0 l1 (!false)) = some (r1, r2) := by rw [if_neg (show ¬ (false = true) by decide)] at H; exact H
   clear H
   have H := H1
   clear H1
   have H' := Aside0.mk H
   clear H
   go_wp2
   go_meet
   case rel => exact ⟨_, (!false), (by first | rfl | (simp; done) | (simp [*]; done) | (refine congrArg (Value.int _) ?_; omega) | (refine congrArg Value.bool ?_; generalize ByteArray.toList _ = z_; cases z_ <;> rfl)), H', ⟨by first | omega | exact Nat.le_refl _⟩, ⟨by repeat (first | (with_reducible first | exact HB.out | apply below_alloc | apply pw_below_drewN | apply below_drew1) | exact HB.out)⟩⟩
 case rest =>
  clear HC4
  try clear c1
  try clear p2
  try clear c3
  try clear c4
  try clear c6
  obtain ⟨kq, x6_3, rfl, HA, HJ3, HB⟩ := hcut
  cases kq with
  | zero => exact absurd HA.out (by simp [runs_Concat.j0])
  | succ kj3 =>
   have H := HA.out
   clear HA
   simp only [runs_Concat.j0] at H
   by_cases c9 : x6_3 = true
   ·subst c9
    have H1 : (some (([] : List (S71)), 1)) = some (r1, r2) := by rw [if_pos rfl] at H; exact H
    clear H
    have H := H1
    clear H1
    simp only [Option.some.injEq, Prod.mk.injEq] at H
    obtain ⟨rfl, rfl⟩ := H
    go_wp2
    go_ret2
    exact ⟨_, by first | rfl | (simp [errW_none, errW_some] <;> rfl) | (simp [*, errW_none, errW_some] <;> rfl), by first | exact Kd.R_nil _ _ _ _ _ | exact Kd.N_nil _ _ _ _ _ | exact Kd.V_nil _ _ _ _ _ | exact Kd.Q_nil _ _ _ _ _ | exact Kd.S_nil _ _ _ _ _, by repeat (first | (with_reducible first | exact HB.out | apply below_alloc | apply pw_below_drewN | apply below_drew1) | exact HB.out)⟩
   ·replace c9 := Bool.eq_false_iff.mpr c9
    subst c9
    have H1 : ((runs_size.f kj3 l0).bind fun t402 => ((runs_size.f kj3 l1).bind fun t403 => (if (wrap64 (t402 + t403)) > 1099511627776 then (some (([] : List (S71)), 2)) else ((runs_joined.f l0 l1).bind fun t404 => ((runs_few.f t404).bind fun bt407 => (some (bt407.1, bt407.2))))))) = some (r1, r2) := by rw [if_neg (show ¬ (false = true) by decide)] at H; exact H
    clear H
    have H := H1
    clear H1
    replace H := Option.bind_eq_some_iff.mp H
    obtain ⟨t402, A100, H⟩ := H
    replace H : ((runs_size.f kj3 l1).bind fun t403 => (if (wrap64 (t402 + t403)) > 1099511627776 then (some (([] : List (S71)), 2)) else ((runs_joined.f l0 l1).bind fun t404 => ((runs_few.f t404).bind fun bt407 => (some (bt407.1, bt407.2)))))) = some (r1, r2) := H
    have A10 := Aside0.mk A100
    clear A100
    replace H := Option.bind_eq_some_iff.mp H
    obtain ⟨t403, A110, H⟩ := H
    replace H : (if (wrap64 (t402 + t403)) > 1099511627776 then (some (([] : List (S71)), 2)) else ((runs_joined.f l0 l1).bind fun t404 => ((runs_few.f t404).bind fun bt407 => (some (bt407.1, bt407.2))))) = some (r1, r2) := H
    have A11 := Aside0.mk A110
    clear A110
    by_cases c12 : (wrap64 (t402 + t403)) > 1099511627776
    ·rw [if_pos c12] at H
     have c12b0 : decide (1099511627776 < (wrap64 (t402 + t403))) = true := decide_eq_true c12
     clear c12
     simp only [Option.some.injEq, Prod.mk.injEq] at H
     obtain ⟨rfl, rfl⟩ := H
     go_wp2_with (first | ((with_reducible refine gate_callee (f := 73) rfl ?_); refine goesL_ (some 15) rfl rfl Try.func73 (by kernel_rfl) rfl #[.slice A0 l0.length c0] rfl (by (try simp only [List.map_toArray, List.map_cons, List.map_nil]); first | done | rfl | (simp only [List.length_drop, List.length_take]; rfl)) ?_; (with_reducible refine (runs_size.calls kj3 _ _ l0 t402 _ ?side1 ?side2 A10.out).mono ?_); (case side1 => repeat (first | exact (Kd.C_below HR0.out HB.out) | (with_reducible refine Kd.C_alloc ?_ _) | (with_reducible refine Kd.C_drewN ?_ _) | (with_reducible refine Kd.C_drew ?_))); (case side2 => exact HC0.out); rintro e w13 ⟨rfl, hb⟩; refine ⟨_, rfl, ?_⟩; have n0_ := Aside0.mk (below_step (by repeat (first | (with_reducible first | exact HB.out | apply below_alloc | apply pw_below_drewN | apply below_drew1) | exact HB.out)) hb); clear HB; have HB := n0_; clear n0_; (try clear hb); (try clear hb2); (try clear hk); (try clear hi)) | ((with_reducible refine gate_callee (f := 73) rfl ?_); refine goesL_ (some 17) rfl rfl Try.func73 (by kernel_rfl) rfl #[.slice A1 l1.length c1] rfl (by (try simp only [List.map_toArray, List.map_cons, List.map_nil]); first | done | rfl | (simp only [List.length_drop, List.length_take]; rfl)) ?_; (with_reducible refine (runs_size.calls kj3 _ _ l1 t403 _ ?side1 ?side2 A11.out).mono ?_); (case side1 => repeat (first | exact (Kd.C_below HR1.out HB.out) | (with_reducible refine Kd.C_alloc ?_ _) | (with_reducible refine Kd.C_drewN ?_ _) | (with_reducible refine Kd.C_drew ?_))); (case side2 => exact HC1.out); rintro e w14 ⟨rfl, hb⟩; refine ⟨_, rfl, ?_⟩; have n0_ := Aside0.mk (below_step (by repeat (first | (with_reducible first | exact HB.out | apply below_alloc | apply pw_below_drewN | apply below_drew1) | exact HB.out)) hb); clear HB; have HB := n0_; clear n0_; (try clear hb); (try clear hb2); (try clear hk); (try clear hi)))
     go_ret2
     exact ⟨_, by first | rfl | (simp [errW_none, errW_some] <;> rfl) | (simp [*, errW_none, errW_some] <;> rfl), by first | exact Kd.R_nil _ _ _ _ _ | exact Kd.N_nil _ _ _ _ _ | exact Kd.V_nil _ _ _ _ _ | exact Kd.Q_nil _ _ _ _ _ | exact Kd.S_nil _ _ _ _ _, by repeat (first | (with_reducible first | exact HB.out | apply below_alloc | apply pw_below_drewN | apply below_drew1) | exact HB.out)⟩
    ·rw [if_neg c12] at H
     have c12b0 : decide (1099511627776 < (wrap64 (t402 + t403))) = false := decide_eq_false c12
     clear c12
     replace H := Option.bind_eq_some_iff.mp H
     obtain ⟨t404, A150, H⟩ := H
     replace H : ((runs_few.f t404).bind fun bt407 => (some (bt407.1, bt407.2))) = some (r1, r2) := H
     have A15 := Aside0.mk A150
     clear A150
     replace H := Option.bind_eq_some_iff.mp H
     obtain ⟨⟨t407, t410⟩, A160, H⟩ := H
     replace H : (some (t407, t410)) = some (r1, r2) := H
     have A16 := Aside0.mk A160
     clear A160
     simp only [Option.some.injEq, Prod.mk.injEq] at H
     obtain ⟨rfl, rfl⟩ := H
     go_wp2_with (first | ((with_reducible refine gate_callee (f := 73) rfl ?_); refine goesL_ (some 15) rfl rfl Try.func73 (by kernel_rfl) rfl #[.slice A0 l0.length c0] rfl (by (try simp only [List.map_toArray, List.map_cons, List.map_nil]); first | done | rfl | (simp only [List.length_drop, List.length_take]; rfl)) ?_; (with_reducible refine (runs_size.calls kj3 _ _ l0 t402 _ ?side1 ?side2 A10.out).mono ?_); (case side1 => repeat (first | exact (Kd.C_below HR0.out HB.out) | (with_reducible refine Kd.C_alloc ?_ _) | (with_reducible refine Kd.C_drewN ?_ _) | (with_reducible refine Kd.C_drew ?_))); (case side2 => exact HC0.out); rintro e w17 ⟨rfl, hb⟩; refine ⟨_, rfl, ?_⟩; have n0_ := Aside0.mk (below_step (by repeat (first | (with_reducible first | exact HB.out | apply below_alloc | apply pw_below_drewN | apply below_drew1) | exact HB.out)) hb); clear HB; have HB := n0_; clear n0_; (try clear hb); (try clear hb2); (try clear hk); (try clear hi)) | ((with_reducible refine gate_callee (f := 73) rfl ?_); refine goesL_ (some 17) rfl rfl Try.func73 (by kernel_rfl) rfl #[.slice A1 l1.length c1] rfl (by (try simp only [List.map_toArray, List.map_cons, List.map_nil]); first | done | rfl | (simp only [List.length_drop, List.length_take]; rfl)) ?_; (with_reducible refine (runs_size.calls kj3 _ _ l1 t403 _ ?side1 ?side2 A11.out).mono ?_); (case side1 => repeat (first | exact (Kd.C_below HR1.out HB.out) | (with_reducible refine Kd.C_alloc ?_ _) | (with_reducible refine Kd.C_drewN ?_ _) | (with_reducible refine Kd.C_drew ?_))); (case side2 => exact HC1.out); rintro e w18 ⟨rfl, hb⟩; refine ⟨_, rfl, ?_⟩; have n0_ := Aside0.mk (below_step (by repeat (first | (with_reducible first | exact HB.out | apply below_alloc | apply pw_below_drewN | apply below_drew1) | exact HB.out)) hb); clear HB; have HB := n0_; clear n0_; (try clear hb); (try clear hb2); (try clear hk); (try clear hi)) | ((with_reducible refine gate_callee (f := 81) rfl ?_); refine goesL_ (some 22) rfl rfl Try.func81 (by kernel_rfl) rfl #[.slice A0 l0.length c0, .slice A1 l1.length c1] rfl (by (try simp only [List.map_toArray, List.map_cons, List.map_nil]); first | done | rfl | (simp only [List.length_drop, List.length_take]; rfl)) ?_; (with_reducible refine (runs_joined.calls _ _ l0 _ _ l1 t404 _ ?side1 ?side2 ?side3 ?side4 A15.out).mono ?_); (case side1 => repeat (first | exact (Kd.C_below HR0.out HB.out) | (with_reducible refine Kd.C_alloc ?_ _) | (with_reducible refine Kd.C_drewN ?_ _) | (with_reducible refine Kd.C_drew ?_))); (case side2 => exact HC0.out); (case side3 => repeat (first | exact (Kd.C_below HR1.out HB.out) | (with_reducible refine Kd.C_alloc ?_ _) | (with_reducible refine Kd.C_drewN ?_ _) | (with_reducible refine Kd.C_drew ?_))); (case side4 => exact HC1.out); rintro e w19 ⟨v405, rfl, ho0, hb⟩; refine ⟨_, rfl, ?_⟩; have n0_ := Aside0.mk (Kd.R_lower ho0 (below_size (by repeat (first | (with_reducible first | exact HB.out | apply below_alloc | apply pw_below_drewN | apply below_drew1) | exact HB.out)))); have n1_ := Aside0.mk (below_step (by repeat (first | (with_reducible first | exact HB.out | apply below_alloc | apply pw_below_drewN | apply below_drew1) | exact HB.out)) hb); clear HB; have HO406 := n0_; have HB := n1_; clear n0_ n1_; (try clear hb); (try clear hb2); (try clear hk); (try clear hi); (try clear ho0); obtain ⟨Ao20, co20, eo20⟩ := Kd.R_slice HO406.out; subst eo20) | ((with_reducible refine gate_callee (f := 80) rfl ?_); refine goesL_ (some 23) rfl rfl Try.func80 (by kernel_rfl) rfl #[.slice Ao20 t404.length co20] rfl (by (try simp only [List.map_toArray, List.map_cons, List.map_nil]); first | done | rfl | (simp only [List.length_drop, List.length_take]; rfl)) ?_; (with_reducible refine (runs_few.calls (fun k_ => some k_ = (.slice Ao20 t404.length co20 : Value).ownBlock) (.slice Ao20 t404.length co20) t404 t407 t410 w _ ?side1 ?side2 A16.out).mono ?_); (case side1 => repeat (first | (with_reducible first | exact HB.out | apply below_alloc | apply pw_below_drewN | apply below_drew1) | exact HB.out)); (case side2 => exact Kd.R_tight rfl HO406.out); rintro e w21 ⟨v408, rfl, ho0, hb, hkp⟩; refine ⟨_, rfl, ?_⟩; have n0_ := Aside0.mk (Kd.R_mono (ok' := fun k_ => True) ho0 (fun k_ hk_ => trivial)); have n1_ := Aside0.mk (hb); clear HB; clear HO406; have HO409 := n0_; have HB := n1_; clear n0_ n1_; (try clear hb); (try clear hkp); (try clear ho0)))
     go_ret2
     exact ⟨_, by first | rfl | (simp [errW_none, errW_some] <;> rfl) | (simp [*, errW_none, errW_some] <;> rfl), by (with_reducible repeat (first | apply Kd.R_alloc | apply Kd.R_drewN | apply Kd.R_drew)); exact HO409.out, by repeat (first | (with_reducible first | exact HB.out | apply below_alloc | apply pw_below_drewN | apply below_drew1) | exact HB.out)⟩

/-! ### word_Value: function 18 -/
def word_Value.l0 : Nat → List (S41) → List (S71) → List (S69) → Int → Int → Option ((List (S71)) × Int)
 | 0, _, _, _, _, _ => none
 | k + 1, x1, x6, x14, x15, x16 => if x16 < x15 then (if 0 ≤ x16 then (if x16 < (x14.length : Int) then (if ((rd_T69 x14 x16).f0) ≥ 0 then ((word_text.f k ((rd_T69 x14 x16).f0) x1).bind fun t417 => ((runs_Concat.f k x6 t417).bind fun bt420 => (if bt420.2 = 0 then (word_Value.l0 k x1 bt420.1 x14 x15 (wrap64 (x16 + 1))) else (some (([] : List (S71)), bt420.2))))) else ((runs_Concat.f k x6 (([(⟨(rd_T69 x14 x16).f1, 1⟩ : S71)] : List (S71)))).bind fun bt424 => (if bt424.2 = 0 then (word_Value.l0 k x1 bt424.1 x14 x15 (wrap64 (x16 + 1))) else (some (([] : List (S71)), bt424.2))))) else (none)) else (none)) else (some (x6, 0))
def word_Value.f (k : Nat) (l0 : List (S69)) (l1 : List (S41)) : Option ((List (S71)) × Int) := (word_may.f k l0).bind fun t411 => (if t411 = true then (word_Value.l0 k l1 ([] : List (S71)) l0 (l0.length : Int) 0) else (some (([] : List (S71)), 1)))
set_option maxHeartbeats 8000000 in
set_option maxRecDepth 100000 in
theorem word_Value.calls (k : Nat) (A0 : Option Addr) (c0 : Nat) (l0 : List (S69)) (A1 : Option Addr) (c1 : Nat) (l1 : List (S41)) (r1 : List (S71)) (r2 : Int) (w : World) (hr0 : Kd.C k69 w A0 l0.length l0) (hc0 : l0.length ≤ c0) (hr1 : Kd.C k41 w A1 l1.length l1) (hc1 : l1.length ≤ c1) (h : word_Value.f k l0 l1 = some (r1, r2)) :
  Calls Try.prog 18 #[.slice A0 l0.length c0, .slice A1 l1.length c1] w fun e w' => ∃ v0_ : Value, e = .returned (.tuple #[v0_, .int .i64 r2]) ∧ Kd.R k71 71 w' w.heap.size (fun _ => True) v0_ r1 ∧ Below w.heap.size w w' := by
 have hu69 := Try.underlying69
 have hu71 := Try.underlying71
 have HR0 := Aside0.mk hr0
 have HC0 := Aside0.mk hc0
 clear hr0 hc0
 have HR1 := Aside0.mk hr1
 have HC1 := Aside0.mk hc1
 clear hr1 hc1
 have HB := Aside0.mk (Below.refl w.heap.size w)
 have H : ((word_may.f k l0).bind fun t411 => (if t411 = true then (word_Value.l0 k l1 ([] : List (S71)) l0 (l0.length : Int) 0) else (some (([] : List (S71)), 1)))) = some (r1, r2) := h
 clear h
 replace H := Option.bind_eq_some_iff.mp H
 obtain ⟨t411, A30, H⟩ := H
 replace H : (if t411 = true then (word_Value.l0 k l1 ([] : List (S71)) l0 (l0.length : Int) 0) else (some (([] : List (S71)), 1))) = some (r1, r2) := H
 have A3 := Aside0.mk A30
 clear A30
 by_cases c4 : t411 = true
 ·subst c4
  have H1 : (word_Value.l0 k l1 ([] : List (S71)) l0 (l0.length : Int) 0) = some (r1, r2) := by rw [if_pos rfl] at H; exact H
  clear H
  have H := H1
  clear H1
  have H' := Aside0.mk H
  clear H
  go_enter Try.func18, Try.ntmps18
  go_wp2_with (first | ((with_reducible refine gate_callee (f := 42) rfl ?_); refine goesL_ (some 12) rfl rfl Try.func42 (by kernel_rfl) rfl #[.slice A0 l0.length c0] rfl (by (try simp only [List.map_toArray, List.map_cons, List.map_nil]); first | done | rfl | (simp only [List.length_drop, List.length_take]; rfl)) ?_; (with_reducible refine (word_may.calls k _ _ l0 true _ ?side1 ?side2 A3.out).mono ?_); (case side1 => repeat (first | exact HR0.out | (with_reducible refine Kd.C_alloc ?_ _) | (with_reducible refine Kd.C_drewN ?_ _) | (with_reducible refine Kd.C_drew ?_))); (case side2 => exact HC0.out); rintro e w5 ⟨rfl, hb⟩; refine ⟨_, rfl, ?_⟩; have n0_ := Aside0.mk (below_step (by repeat (first | (with_reducible first | exact HB.out | apply below_alloc | apply pw_below_drewN | apply below_drew1) | exact HB.out)) hb); clear HB; have HB := n0_; clear n0_; (try clear hb); (try clear hb2); (try clear hk); (try clear hi)))
  go_loopg [6, 16] k (fun kq v6 v16 w' => ∃ (x6_1 : List (S71)) (x16_1 : Int), v16 = .int .i64 x16_1 ∧ Aside0 (word_Value.l0 kq l1 x6_1 l0 (l0.length : Int) x16_1 = some (r1, r2)) ∧ Aside0 (kq ≤ k) ∧ Aside0 (Kd.R k71 71 w' w.heap.size (fun _ => True) v6 x6_1) ∧ Aside0 (Below w.heap.size w w'))
  case atStart => exact ⟨(([] : List (S71))), (0), (by first | rfl | (simp; done) | (simp [*]; done) | (refine congrArg (Value.int _) ?_; omega) | (refine congrArg Value.bool ?_; generalize ByteArray.toList _ = z_; cases z_ <;> rfl)), H', ⟨Nat.le_refl _⟩, ⟨by first | exact Kd.R_nil _ _ _ _ _ | exact Kd.N_nil _ _ _ _ _ | exact Kd.V_nil _ _ _ _ _ | exact Kd.Q_nil _ _ _ _ _ | exact Kd.S_nil _ _ _ _ _⟩, ⟨by repeat (first | (with_reducible first | exact HB.out | apply below_alloc | apply pw_below_drewN | apply below_drew1) | exact HB.out)⟩⟩
  case round =>
   clear H'
   try clear c1
   try clear p2
   try clear c4
   obtain ⟨x6_1, x16_1, rfl, HA, HK1, HO_6, HB⟩ := hrel
   cases gk with
   | zero => exact absurd HA.out (by simp [word_Value.l0])
   | succ k1 =>
    have H := HA.out
    clear HA
    simp only [word_Value.l0] at H
    by_cases c6 : x16_1 < (l0.length : Int)
    ·rw [if_pos c6] at H
     have c6b0 : decide (x16_1 < (l0.length : Int)) = true := decide_eq_true c6
     clear c6
     by_cases c7 : 0 ≤ x16_1
     ·rw [if_pos c7] at H
      have c7b0 : decide (0 ≤ x16_1) = true := decide_eq_true c7
      clear c7
      by_cases c8 : x16_1 < (l0.length : Int)
      ·rw [if_pos c8] at H
       have c8b0 : decide (x16_1 < (l0.length : Int)) = true := decide_eq_true c8
       clear c8
       obtain ⟨y414, hy414⟩ : ∃ y_ : List (S71), y_ = (([(⟨(rd_T69 l0 x16_1).f1, 1⟩ : S71)] : List (S71))) := ⟨_, rfl⟩
       replace H : (if ((rd_T69 l0 x16_1).f0) ≥ 0 then ((word_text.f k1 ((rd_T69 l0 x16_1).f0) l1).bind fun t417 => ((runs_Concat.f k1 x6_1 t417).bind fun bt420 => (if bt420.2 = 0 then (word_Value.l0 k1 l1 bt420.1 l0 (l0.length : Int) (wrap64 (x16_1 + 1))) else (some (([] : List (S71)), bt420.2))))) else ((runs_Concat.f k1 x6_1 y414).bind fun bt424 => (if bt424.2 = 0 then (word_Value.l0 k1 l1 bt424.1 l0 (l0.length : Int) (wrap64 (x16_1 + 1))) else (some (([] : List (S71)), bt424.2))))) = some (r1, r2) := by first | (rw [hy414]; with_reducible exact H) | (have H2_ := (Option.bind_some _ _).symm.trans H; rw [hy414]; with_reducible exact H2_) | (have H2_ := (Option.bind_some _ _).symm.trans H; with_reducible exact H2_) | with_reducible exact H | (rw [hy414]; exact H) | exact H
       have Ny414 := Aside0.mk hy414
       clear hy414
       by_cases c9 : ((rd_T69 l0 x16_1).f0) ≥ 0
       ·rw [if_pos c9] at H
        have c9b0 : decide (0 ≤ ((rd_T69 l0 x16_1).f0)) = true := decide_eq_true c9
        clear c9
        replace H := Option.bind_eq_some_iff.mp H
        obtain ⟨t417, A100, H⟩ := H
        replace H : ((runs_Concat.f k1 x6_1 t417).bind fun bt420 => (if bt420.2 = 0 then (word_Value.l0 k1 l1 bt420.1 l0 (l0.length : Int) (wrap64 (x16_1 + 1))) else (some (([] : List (S71)), bt420.2)))) = some (r1, r2) := H
        have A10 := Aside0.mk A100
        clear A100
        replace H := Option.bind_eq_some_iff.mp H
        obtain ⟨⟨t420, t421⟩, A110, H⟩ := H
        replace H : (if t421 = 0 then (word_Value.l0 k1 l1 t420 l0 (l0.length : Int) (wrap64 (x16_1 + 1))) else (some (([] : List (S71)), t421))) = some (r1, r2) := H
        have A11 := Aside0.mk A110
        clear A110
        by_cases c12 : t421 = 0
        ·rw [if_pos c12] at H
         have c12b0 : (t421 == 0) = true := beq_iff_eq.mpr c12
         have c12b1 : (t421 != 0) = false := bne_eq_false_iff_eq.mpr c12
         clear c12
         have H' := Aside0.mk H
         clear H
         have p412 : 0 ≤ (x16_1 : Int) := of_decide_eq_true (by first | (with_reducible assumption) | assumption)
         have q412 : x16_1 < (l0.length : Int) := of_decide_eq_true (by first | (with_reducible assumption) | assumption)
         obtain ⟨ad412, e412, hx412_0, hx412_1⟩ := at_T69 HR0.out x16_1 p412 q412
         cases e412
         replace hx412_0 := (HB.out.cell (World.block_lt_of_cell? w _ hx412_0)).trans hx412_0
         replace hx412_1 := (HB.out.cell (World.block_lt_of_cell? w _ hx412_1)).trans hx412_1
         replace p412 := eq_true p412
         replace q412 := eq_true q412
         go_wp2_with (first | ((with_reducible refine gate_dst (N := 8) rfl ?_); refine box_event ?hg (N := 8) ?hd (cs := #[.int .i64 0, .int .i64 0]) (t := 69) ?hr ?_; (case hd => rfl); (case hg => rfl); (case hr => first | (go_simp; done) | (go_simp; rfl) | (go_simp; simp only [IntKind.wrap_u8, IntKind.wrap_u32]; congr 4; omega) | (go_simp; simp only [IntKind.wrap_u8, IntKind.wrap_u32]; congr 5; omega)); intro gb413 hg w13 hbox hb; have n0_ := Aside0.mk (Kd.R_below (by (with_reducible repeat (first | apply Kd.R_alloc | apply Kd.R_drewN | apply Kd.R_drew)); exact HO_6.out) hb); have n1_ := Aside0.mk (below_step (by repeat (first | (with_reducible first | exact HB.out | apply below_alloc | apply pw_below_drewN | apply below_drew1) | exact HB.out)) hb); have n2_ := Aside0.mk (hbox); have n3_ := Aside0.mk ((by rw [hg]; exact (below_size (by repeat (first | (with_reducible first | exact HB.out | apply below_alloc | apply pw_below_drewN | apply below_drew1) | exact HB.out))) : w.heap.size ≤ gb413)); have n4_ := Aside0.mk ((by rw [hg]; exact (below_size (by repeat (first | (with_reducible first | exact HB.out | apply below_alloc | apply pw_below_drewN | apply below_drew1) | exact HB.out))) : w.heap.size ≤ gb413)); clear HO_6; clear HB; have HO_6 := n0_; have HB := n1_; have BK413 := n2_; have GW413 := n3_; have GE413 := n4_; clear n0_ n1_ n2_ n3_ n4_; clear hb hbox hg; have hcz14_0 : w13.cell? ⟨gb413, 0, none⟩ = some (.int .i64 0) := (blk_cell BK413.out 0).trans rfl; have hcz14_1 : w13.cell? ⟨gb413, 1, none⟩ = some (.int .i64 0) := (blk_cell BK413.out 1).trans rfl; have hfz14_0 := blk_frozen BK413.out 0; have hfz14_1 := blk_frozen BK413.out 1) | ((with_reducible refine gate_dst (N := 23) rfl ?_); refine Kd.R_lit k71 _ 71 ?hg (N := 23) ?hd (xs := ([(⟨(rd_T69 l0 x16_1).f1, 1⟩ : S71)] : List (S71))) (inner := [.int .i64 ((rd_T69 l0 x16_1).f1), .int .i64 1]) (ok := fun _ => True) (okp := fun _ => True) ?hr ?hp (fun _ hk => hk) trivial (Below.refl _ _) (Nat.le_refl _) (by simp) ?_; (case hd => rfl); (case hg => rfl); (case hr => first | (go_simp; done) | (go_simp; rfl) | (go_simp; simp only [IntKind.wrap_u8, IntKind.wrap_u32]; congr 4; omega) | (go_simp; simp only [IntKind.wrap_u8, IntKind.wrap_u32]; congr 5; omega)); (case hp => exact (Reps.c2 (show Kd.M k71 _ _ _ (⟨(rd_T69 l0 x16_1).f1, 1⟩ : S71) [.int .i64 ((rd_T69 l0 x16_1).f1), .int .i64 1] from (k71_mkM _ _ _ (⟨(rd_T69 l0 x16_1).f1, 1⟩ : S71) )) (Reps.none _ _))); intro v415 w15 ho16 hb hg_ hnew_; clear hg_ hnew_; (first | rw [← Ny414.out] at ho16 | (simp only [Int.reduceToNat] at ho16; rw [← Ny414.out] at ho16)); have n0_ := Aside0.mk (Kd.R_elder' (by (with_reducible repeat (first | apply Kd.R_alloc | apply Kd.R_drewN | apply Kd.R_drew)); exact (Kd.R_mono (Kd.R_far (p := ⟨gb413, 1, none⟩) (Kd.R_far (p := ⟨gb413, 0, none⟩) (Kd.R_types HO_6.out BK413.out (by decide)) (fun _ hk => hk.2) (.int .i64 ((rd_T69 l0 x16_1).f0))) (fun _ hk => hk.2) (.int .i64 ((rd_T69 l0 x16_1).f1))) (fun _ h_ => h_.1))) (Kd.R_base ho16) hb); have n1_ := Aside0.mk (Kd.R_lower (Kd.R_new' ho16 (Kd.R_lt (by (with_reducible repeat (first | apply Kd.R_alloc | apply Kd.R_drewN | apply Kd.R_drew)); exact (Kd.R_mono (Kd.R_far (p := ⟨gb413, 1, none⟩) (Kd.R_far (p := ⟨gb413, 0, none⟩) (Kd.R_types HO_6.out BK413.out (by decide)) (fun _ hk => hk.2) (.int .i64 ((rd_T69 l0 x16_1).f0))) (fun _ hk => hk.2) (.int .i64 ((rd_T69 l0 x16_1).f1))) (fun _ h_ => h_.1))))) (below_size (by repeat (first | (with_reducible first | exact HB.out | apply below_alloc | apply pw_below_drewN | apply below_drew1 | refine below_set ?_ GE413.out) | exact HB.out)))); have n2_ := Aside0.mk (blk_below (g := gb413) (o := .cells #[.int .i64 ((rd_T69 l0 x16_1).f0), .int .i64 ((rd_T69 l0 x16_1).f1)] 69 (0, 0)) (by (with_reducible repeat (first | refine blk_drewN ?_ _ | refine blk_drew ?_ | refine blk_alloc ?_ _)); refine blk_put (cs := #[.int .i64 ((rd_T69 l0 x16_1).f0), .int .i64 0]) ?_ 1 _ rfl; (with_reducible repeat (first | refine blk_drewN ?_ _ | refine blk_drew ?_ | refine blk_alloc ?_ _)); refine blk_put (cs := #[.int .i64 0, .int .i64 0]) ?_ 0 _ rfl; (with_reducible repeat (first | refine blk_drewN ?_ _ | refine blk_drew ?_ | refine blk_alloc ?_ _)); exact BK413.out) hb); have n3_ := Aside0.mk (below_step (by repeat (first | (with_reducible first | exact HB.out | apply below_alloc | apply pw_below_drewN | apply below_drew1 | refine below_set ?_ GE413.out) | exact HB.out)) hb); clear HO_6; clear BK413; clear HB; have HO_6 := n0_; have HO416 := n1_; have BK413 := n2_; have HB := n3_; clear n0_ n1_ n2_ n3_; clear hb ho16; have hcz17_0 : w15.cell? ⟨gb413, 0, none⟩ = some (.int .i64 ((rd_T69 l0 x16_1).f0)) := (blk_cell BK413.out 0).trans rfl; have hcz17_1 : w15.cell? ⟨gb413, 1, none⟩ = some (.int .i64 ((rd_T69 l0 x16_1).f1)) := (blk_cell BK413.out 1).trans rfl; have hfz17_0 := blk_frozen BK413.out 0; have hfz17_1 := blk_frozen BK413.out 1) | ((with_reducible refine gate_callee (f := 47) rfl ?_); refine goesL_ (some 30) rfl rfl Try.func47 (by kernel_rfl) rfl #[.int .i64 ((rd_T69 l0 x16_1).f0), .slice A1 l1.length c1] rfl (by (try simp only [List.map_toArray, List.map_cons, List.map_nil]); first | done | rfl | (simp only [List.length_drop, List.length_take]; rfl)) ?_; (with_reducible refine (word_text.calls k1 ((rd_T69 l0 x16_1).f0) (fun k_ => k_ < w.heap.size) _ _ l1 t417 _ ?side1 A10.out).mono ?_); (case side1 => exact Kd.V_mk HC1.out (Kd.F_below (Kd.C_F k41_heap HR1.out) (by repeat (first | (with_reducible first | exact HB.out | apply below_alloc | apply pw_below_drewN | apply below_drew1 | refine below_set ?_ GE413.out) | exact HB.out)))); rintro e w18 ⟨v418, rfl, ho0, hb⟩; refine ⟨_, rfl, ?_⟩; have n0_ := Aside0.mk (Kd.R_below (by (with_reducible repeat (first | apply Kd.R_alloc | apply Kd.R_drewN | apply Kd.R_drew)); exact HO_6.out) hb); have n1_ := Aside0.mk (Kd.R_below (by (with_reducible repeat (first | apply Kd.R_alloc | apply Kd.R_drewN | apply Kd.R_drew)); exact HO416.out) hb); have n2_ := Aside0.mk (Kd.V_lower (Kd.V_mono (ok' := fun k_ => some k_ ≠ (u6 : Value).ownBlock ∧ some k_ ≠ (v415 : Value).ownBlock ∧ k_ ≠ gb413) ho0 (fun k_ hk_ => ⟨Or.elim hk_ (fun hs_ => fun e_ => Nat.not_le.2 hs_ (Kd.R_base HO_6.out k_ e_.symm)) (fun hn_ => (Kd.fresh' (Kd.R_lt (by (with_reducible repeat (first | apply Kd.R_alloc | apply Kd.R_drewN | apply Kd.R_drew)); exact HO_6.out)) k_ hn_)), Or.elim hk_ (fun hs_ => fun e_ => Nat.not_le.2 hs_ (Kd.R_base HO416.out k_ e_.symm)) (fun hn_ => (Kd.fresh' (Kd.R_lt (by (with_reducible repeat (first | apply Kd.R_alloc | apply Kd.R_drewN | apply Kd.R_drew)); exact HO416.out)) k_ hn_)), Or.elim hk_ (fun hs_ => fun e_ => Nat.not_le.2 hs_ (by rw [e_]; exact GW413.out)) (fun hn_ => (Kd.freshB (g := gb413) (o := .cells #[.int .i64 ((rd_T69 l0 x16_1).f0), .int .i64 ((rd_T69 l0 x16_1).f1)] 69 (0, 0)) (by (with_reducible repeat (first | refine blk_drewN ?_ _ | refine blk_drew ?_ | refine blk_alloc ?_ _)); exact BK413.out) k_ hn_))⟩)) (below_size (by repeat (first | (with_reducible first | exact HB.out | apply below_alloc | apply pw_below_drewN | apply below_drew1 | refine below_set ?_ GE413.out) | exact HB.out)))); have n3_ := Aside0.mk (blk_below (g := gb413) (o := .cells #[.int .i64 ((rd_T69 l0 x16_1).f0), .int .i64 ((rd_T69 l0 x16_1).f1)] 69 (0, 0)) (by (with_reducible repeat (first | refine blk_drewN ?_ _ | refine blk_drew ?_ | refine blk_alloc ?_ _)); exact BK413.out) hb); have n4_ := Aside0.mk (below_step (by repeat (first | (with_reducible first | exact HB.out | apply below_alloc | apply pw_below_drewN | apply below_drew1 | refine below_set ?_ GE413.out) | exact HB.out)) hb); clear HO_6; clear HO416; clear BK413; clear HB; have HO_6 := n0_; have HO416 := n1_; have HO419 := n2_; have BK413 := n3_; have HB := n4_; clear n0_ n1_ n2_ n3_ n4_; (try clear hb); (try clear hb2); (try clear hk); (try clear hi); (try clear ho0); obtain ⟨Ao19, co19, eo19⟩ := Kd.R_slice HO_6.out; subst eo19; obtain ⟨Ao20, co20, eo20⟩ := Kd.V_slice HO419.out; subst eo20) | ((with_reducible refine gate_callee (f := 48) rfl ?_); refine goesL_ (some 34) rfl rfl Try.func48 (by kernel_rfl) rfl #[.slice Ao19 x6_1.length co19, .slice Ao20 t417.length co20] rfl (by (try simp only [List.map_toArray, List.map_cons, List.map_nil]); first | done | rfl | (simp only [List.length_drop, List.length_take]; rfl)) ?_; (with_reducible refine (runs_Concat.calls k1 _ _ x6_1 _ _ t417 t420 t421 _ ?side1 ?side2 ?side3 ?side4 A11.out).mono ?_); (case side1 => repeat (first | exact (Kd.R_reads' HO_6.out).2.2 | (with_reducible refine Kd.C_alloc ?_ _) | (with_reducible refine Kd.C_drewN ?_ _) | (with_reducible refine Kd.C_drew ?_))); (case side2 => exact (Kd.R_reads' HO_6.out).2.1); (case side3 => repeat (first | exact (Kd.V_reads' HO419.out).2.2 | (with_reducible refine Kd.C_alloc ?_ _) | (with_reducible refine Kd.C_drewN ?_ _) | (with_reducible refine Kd.C_drew ?_))); (case side4 => exact (Kd.V_reads' HO419.out).2.1); rintro e w21 ⟨v422, rfl, ho0, hb⟩; refine ⟨_, rfl, ?_⟩; have n0_ := Aside0.mk (Kd.R_elder' (by (with_reducible repeat (first | apply Kd.R_alloc | apply Kd.R_drewN | apply Kd.R_drew)); exact HO_6.out) (Kd.R_base ho0) hb); have n1_ := Aside0.mk (Kd.R_elder' (by (with_reducible repeat (first | apply Kd.R_alloc | apply Kd.R_drewN | apply Kd.R_drew)); exact HO416.out) (Kd.R_base ho0) hb); have n2_ := Aside0.mk (Kd.V_elder' (by (with_reducible repeat (first | apply Kd.V_alloc | apply Kd.V_drewN | apply Kd.V_drew)); exact HO419.out) (Kd.R_base ho0) hb); have n3_ := Aside0.mk (Kd.R_lower (Kd.R_new' (Kd.R_new' ho0 (Kd.R_lt (by (with_reducible repeat (first | apply Kd.R_alloc | apply Kd.R_drewN | apply Kd.R_drew)); exact HO_6.out))) (Kd.R_lt (by (with_reducible repeat (first | apply Kd.R_alloc | apply Kd.R_drewN | apply Kd.R_drew)); exact HO416.out))) (below_size (by repeat (first | (with_reducible first | exact HB.out | apply below_alloc | apply pw_below_drewN | apply below_drew1 | refine below_set ?_ GE413.out) | exact HB.out)))); have n4_ := Aside0.mk (blk_below (g := gb413) (o := .cells #[.int .i64 ((rd_T69 l0 x16_1).f0), .int .i64 ((rd_T69 l0 x16_1).f1)] 69 (0, 0)) (by (with_reducible repeat (first | refine blk_drewN ?_ _ | refine blk_drew ?_ | refine blk_alloc ?_ _)); exact BK413.out) hb); have n5_ := Aside0.mk (below_step (by repeat (first | (with_reducible first | exact HB.out | apply below_alloc | apply pw_below_drewN | apply below_drew1 | refine below_set ?_ GE413.out) | exact HB.out)) hb); clear HO_6; clear HO416; clear HO419; clear BK413; clear HB; have HO_6 := n0_; have HO416 := n1_; have HO419 := n2_; have HO423 := n3_; have BK413 := n4_; have HB := n5_; clear n0_ n1_ n2_ n3_ n4_ n5_; (try clear hb); (try clear hb2); (try clear hk); (try clear hi); (try clear ho0)))
         go_roundg k1
         case measure => have := HK1.out; omega
         case rel => exact ⟨(t420), (wrap64 (x16_1 + 1)), (by first | rfl | (simp; done) | (simp [*]; done) | (refine congrArg (Value.int _) ?_; omega) | (refine congrArg Value.bool ?_; generalize ByteArray.toList _ = z_; cases z_ <;> rfl)), H', ⟨by have := HK1.out; omega⟩, ⟨by (with_reducible repeat (first | apply Kd.R_alloc | apply Kd.R_drewN | apply Kd.R_drew)); exact Kd.R_mono HO423.out (fun _ hk => trivial)⟩, ⟨by repeat (first | (with_reducible first | exact HB.out | apply below_alloc | apply pw_below_drewN | apply below_drew1 | refine below_set ?_ GE413.out) | exact HB.out)⟩⟩
        ·rw [if_neg c12] at H
         have c12b0 : (t421 == 0) = false := beq_eq_false_iff_ne.mpr c12
         have c12b1 : (t421 != 0) = true := bne_iff_ne.mpr c12
         simp only [Option.some.injEq, Prod.mk.injEq] at H
         obtain ⟨rfl, rfl⟩ := H
         have p412 : 0 ≤ (x16_1 : Int) := of_decide_eq_true (by first | (with_reducible assumption) | assumption)
         have q412 : x16_1 < (l0.length : Int) := of_decide_eq_true (by first | (with_reducible assumption) | assumption)
         obtain ⟨ad412, e412, hx412_0, hx412_1⟩ := at_T69 HR0.out x16_1 p412 q412
         cases e412
         replace hx412_0 := (HB.out.cell (World.block_lt_of_cell? w _ hx412_0)).trans hx412_0
         replace hx412_1 := (HB.out.cell (World.block_lt_of_cell? w _ hx412_1)).trans hx412_1
         replace p412 := eq_true p412
         replace q412 := eq_true q412
         go_wp2_with (first | ((with_reducible refine gate_dst (N := 8) rfl ?_); refine box_event ?hg (N := 8) ?hd (cs := #[.int .i64 0, .int .i64 0]) (t := 69) ?hr ?_; (case hd => rfl); (case hg => rfl); (case hr => first | (go_simp; done) | (go_simp; rfl) | (go_simp; simp only [IntKind.wrap_u8, IntKind.wrap_u32]; congr 4; omega) | (go_simp; simp only [IntKind.wrap_u8, IntKind.wrap_u32]; congr 5; omega)); intro gb413 hg w22 hbox hb; have n0_ := Aside0.mk (Kd.R_below (by (with_reducible repeat (first | apply Kd.R_alloc | apply Kd.R_drewN | apply Kd.R_drew)); exact HO_6.out) hb); have n1_ := Aside0.mk (below_step (by repeat (first | (with_reducible first | exact HB.out | apply below_alloc | apply pw_below_drewN | apply below_drew1) | exact HB.out)) hb); have n2_ := Aside0.mk (hbox); have n3_ := Aside0.mk ((by rw [hg]; exact (below_size (by repeat (first | (with_reducible first | exact HB.out | apply below_alloc | apply pw_below_drewN | apply below_drew1) | exact HB.out))) : w.heap.size ≤ gb413)); have n4_ := Aside0.mk ((by rw [hg]; exact (below_size (by repeat (first | (with_reducible first | exact HB.out | apply below_alloc | apply pw_below_drewN | apply below_drew1) | exact HB.out))) : w.heap.size ≤ gb413)); clear HO_6; clear HB; have HO_6 := n0_; have HB := n1_; have BK413 := n2_; have GW413 := n3_; have GE413 := n4_; clear n0_ n1_ n2_ n3_ n4_; clear hb hbox hg; have hcz23_0 : w22.cell? ⟨gb413, 0, none⟩ = some (.int .i64 0) := (blk_cell BK413.out 0).trans rfl; have hcz23_1 : w22.cell? ⟨gb413, 1, none⟩ = some (.int .i64 0) := (blk_cell BK413.out 1).trans rfl; have hfz23_0 := blk_frozen BK413.out 0; have hfz23_1 := blk_frozen BK413.out 1) | ((with_reducible refine gate_dst (N := 23) rfl ?_); refine Kd.R_lit k71 _ 71 ?hg (N := 23) ?hd (xs := ([(⟨(rd_T69 l0 x16_1).f1, 1⟩ : S71)] : List (S71))) (inner := [.int .i64 ((rd_T69 l0 x16_1).f1), .int .i64 1]) (ok := fun _ => True) (okp := fun _ => True) ?hr ?hp (fun _ hk => hk) trivial (Below.refl _ _) (Nat.le_refl _) (by simp) ?_; (case hd => rfl); (case hg => rfl); (case hr => first | (go_simp; done) | (go_simp; rfl) | (go_simp; simp only [IntKind.wrap_u8, IntKind.wrap_u32]; congr 4; omega) | (go_simp; simp only [IntKind.wrap_u8, IntKind.wrap_u32]; congr 5; omega)); (case hp => exact (Reps.c2 (show Kd.M k71 _ _ _ (⟨(rd_T69 l0 x16_1).f1, 1⟩ : S71) [.int .i64 ((rd_T69 l0 x16_1).f1), .int .i64 1] from (k71_mkM _ _ _ (⟨(rd_T69 l0 x16_1).f1, 1⟩ : S71) )) (Reps.none _ _))); intro v415 w24 ho25 hb hg_ hnew_; clear hg_ hnew_; (first | rw [← Ny414.out] at ho25 | (simp only [Int.reduceToNat] at ho25; rw [← Ny414.out] at ho25)); have n0_ := Aside0.mk (Kd.R_elder' (by (with_reducible repeat (first | apply Kd.R_alloc | apply Kd.R_drewN | apply Kd.R_drew)); exact (Kd.R_mono (Kd.R_far (p := ⟨gb413, 1, none⟩) (Kd.R_far (p := ⟨gb413, 0, none⟩) (Kd.R_types HO_6.out BK413.out (by decide)) (fun _ hk => hk.2) (.int .i64 ((rd_T69 l0 x16_1).f0))) (fun _ hk => hk.2) (.int .i64 ((rd_T69 l0 x16_1).f1))) (fun _ h_ => h_.1))) (Kd.R_base ho25) hb); have n1_ := Aside0.mk (Kd.R_lower (Kd.R_new' ho25 (Kd.R_lt (by (with_reducible repeat (first | apply Kd.R_alloc | apply Kd.R_drewN | apply Kd.R_drew)); exact (Kd.R_mono (Kd.R_far (p := ⟨gb413, 1, none⟩) (Kd.R_far (p := ⟨gb413, 0, none⟩) (Kd.R_types HO_6.out BK413.out (by decide)) (fun _ hk => hk.2) (.int .i64 ((rd_T69 l0 x16_1).f0))) (fun _ hk => hk.2) (.int .i64 ((rd_T69 l0 x16_1).f1))) (fun _ h_ => h_.1))))) (below_size (by repeat (first | (with_reducible first | exact HB.out | apply below_alloc | apply pw_below_drewN | apply below_drew1 | refine below_set ?_ GE413.out) | exact HB.out)))); have n2_ := Aside0.mk (blk_below (g := gb413) (o := .cells #[.int .i64 ((rd_T69 l0 x16_1).f0), .int .i64 ((rd_T69 l0 x16_1).f1)] 69 (0, 0)) (by (with_reducible repeat (first | refine blk_drewN ?_ _ | refine blk_drew ?_ | refine blk_alloc ?_ _)); refine blk_put (cs := #[.int .i64 ((rd_T69 l0 x16_1).f0), .int .i64 0]) ?_ 1 _ rfl; (with_reducible repeat (first | refine blk_drewN ?_ _ | refine blk_drew ?_ | refine blk_alloc ?_ _)); refine blk_put (cs := #[.int .i64 0, .int .i64 0]) ?_ 0 _ rfl; (with_reducible repeat (first | refine blk_drewN ?_ _ | refine blk_drew ?_ | refine blk_alloc ?_ _)); exact BK413.out) hb); have n3_ := Aside0.mk (below_step (by repeat (first | (with_reducible first | exact HB.out | apply below_alloc | apply pw_below_drewN | apply below_drew1 | refine below_set ?_ GE413.out) | exact HB.out)) hb); clear HO_6; clear BK413; clear HB; have HO_6 := n0_; have HO416 := n1_; have BK413 := n2_; have HB := n3_; clear n0_ n1_ n2_ n3_; clear hb ho25; have hcz26_0 : w24.cell? ⟨gb413, 0, none⟩ = some (.int .i64 ((rd_T69 l0 x16_1).f0)) := (blk_cell BK413.out 0).trans rfl; have hcz26_1 : w24.cell? ⟨gb413, 1, none⟩ = some (.int .i64 ((rd_T69 l0 x16_1).f1)) := (blk_cell BK413.out 1).trans rfl; have hfz26_0 := blk_frozen BK413.out 0; have hfz26_1 := blk_frozen BK413.out 1) | ((with_reducible refine gate_callee (f := 47) rfl ?_); refine goesL_ (some 30) rfl rfl Try.func47 (by kernel_rfl) rfl #[.int .i64 ((rd_T69 l0 x16_1).f0), .slice A1 l1.length c1] rfl (by (try simp only [List.map_toArray, List.map_cons, List.map_nil]); first | done | rfl | (simp only [List.length_drop, List.length_take]; rfl)) ?_; (with_reducible refine (word_text.calls k1 ((rd_T69 l0 x16_1).f0) (fun k_ => k_ < w.heap.size) _ _ l1 t417 _ ?side1 A10.out).mono ?_); (case side1 => exact Kd.V_mk HC1.out (Kd.F_below (Kd.C_F k41_heap HR1.out) (by repeat (first | (with_reducible first | exact HB.out | apply below_alloc | apply pw_below_drewN | apply below_drew1 | refine below_set ?_ GE413.out) | exact HB.out)))); rintro e w27 ⟨v418, rfl, ho0, hb⟩; refine ⟨_, rfl, ?_⟩; have n0_ := Aside0.mk (Kd.R_below (by (with_reducible repeat (first | apply Kd.R_alloc | apply Kd.R_drewN | apply Kd.R_drew)); exact HO_6.out) hb); have n1_ := Aside0.mk (Kd.R_below (by (with_reducible repeat (first | apply Kd.R_alloc | apply Kd.R_drewN | apply Kd.R_drew)); exact HO416.out) hb); have n2_ := Aside0.mk (Kd.V_lower (Kd.V_mono (ok' := fun k_ => some k_ ≠ (u6 : Value).ownBlock ∧ some k_ ≠ (v415 : Value).ownBlock ∧ k_ ≠ gb413) ho0 (fun k_ hk_ => ⟨Or.elim hk_ (fun hs_ => fun e_ => Nat.not_le.2 hs_ (Kd.R_base HO_6.out k_ e_.symm)) (fun hn_ => (Kd.fresh' (Kd.R_lt (by (with_reducible repeat (first | apply Kd.R_alloc | apply Kd.R_drewN | apply Kd.R_drew)); exact HO_6.out)) k_ hn_)), Or.elim hk_ (fun hs_ => fun e_ => Nat.not_le.2 hs_ (Kd.R_base HO416.out k_ e_.symm)) (fun hn_ => (Kd.fresh' (Kd.R_lt (by (with_reducible repeat (first | apply Kd.R_alloc | apply Kd.R_drewN | apply Kd.R_drew)); exact HO416.out)) k_ hn_)), Or.elim hk_ (fun hs_ => fun e_ => Nat.not_le.2 hs_ (by rw [e_]; exact GW413.out)) (fun hn_ => (Kd.freshB (g := gb413) (o := .cells #[.int .i64 ((rd_T69 l0 x16_1).f0), .int .i64 ((rd_T69 l0 x16_1).f1)] 69 (0, 0)) (by (with_reducible repeat (first | refine blk_drewN ?_ _ | refine blk_drew ?_ | refine blk_alloc ?_ _)); exact BK413.out) k_ hn_))⟩)) (below_size (by repeat (first | (with_reducible first | exact HB.out | apply below_alloc | apply pw_below_drewN | apply below_drew1 | refine below_set ?_ GE413.out) | exact HB.out)))); have n3_ := Aside0.mk (blk_below (g := gb413) (o := .cells #[.int .i64 ((rd_T69 l0 x16_1).f0), .int .i64 ((rd_T69 l0 x16_1).f1)] 69 (0, 0)) (by (with_reducible repeat (first | refine blk_drewN ?_ _ | refine blk_drew ?_ | refine blk_alloc ?_ _)); exact BK413.out) hb); have n4_ := Aside0.mk (below_step (by repeat (first | (with_reducible first | exact HB.out | apply below_alloc | apply pw_below_drewN | apply below_drew1 | refine below_set ?_ GE413.out) | exact HB.out)) hb); clear HO_6; clear HO416; clear BK413; clear HB; have HO_6 := n0_; have HO416 := n1_; have HO419 := n2_; have BK413 := n3_; have HB := n4_; clear n0_ n1_ n2_ n3_ n4_; (try clear hb); (try clear hb2); (try clear hk); (try clear hi); (try clear ho0); obtain ⟨Ao28, co28, eo28⟩ := Kd.R_slice HO_6.out; subst eo28; obtain ⟨Ao29, co29, eo29⟩ := Kd.V_slice HO419.out; subst eo29) | ((with_reducible refine gate_callee (f := 48) rfl ?_); refine goesL_ (some 34) rfl rfl Try.func48 (by kernel_rfl) rfl #[.slice Ao28 x6_1.length co28, .slice Ao29 t417.length co29] rfl (by (try simp only [List.map_toArray, List.map_cons, List.map_nil]); first | done | rfl | (simp only [List.length_drop, List.length_take]; rfl)) ?_; (with_reducible refine (runs_Concat.calls k1 _ _ x6_1 _ _ t417 t420 t421 _ ?side1 ?side2 ?side3 ?side4 A11.out).mono ?_); (case side1 => repeat (first | exact (Kd.R_reads' HO_6.out).2.2 | (with_reducible refine Kd.C_alloc ?_ _) | (with_reducible refine Kd.C_drewN ?_ _) | (with_reducible refine Kd.C_drew ?_))); (case side2 => exact (Kd.R_reads' HO_6.out).2.1); (case side3 => repeat (first | exact (Kd.V_reads' HO419.out).2.2 | (with_reducible refine Kd.C_alloc ?_ _) | (with_reducible refine Kd.C_drewN ?_ _) | (with_reducible refine Kd.C_drew ?_))); (case side4 => exact (Kd.V_reads' HO419.out).2.1); rintro e w30 ⟨v422, rfl, ho0, hb⟩; refine ⟨_, rfl, ?_⟩; have n0_ := Aside0.mk (Kd.R_elder' (by (with_reducible repeat (first | apply Kd.R_alloc | apply Kd.R_drewN | apply Kd.R_drew)); exact HO_6.out) (Kd.R_base ho0) hb); have n1_ := Aside0.mk (Kd.R_elder' (by (with_reducible repeat (first | apply Kd.R_alloc | apply Kd.R_drewN | apply Kd.R_drew)); exact HO416.out) (Kd.R_base ho0) hb); have n2_ := Aside0.mk (Kd.V_elder' (by (with_reducible repeat (first | apply Kd.V_alloc | apply Kd.V_drewN | apply Kd.V_drew)); exact HO419.out) (Kd.R_base ho0) hb); have n3_ := Aside0.mk (Kd.R_lower (Kd.R_new' (Kd.R_new' ho0 (Kd.R_lt (by (with_reducible repeat (first | apply Kd.R_alloc | apply Kd.R_drewN | apply Kd.R_drew)); exact HO_6.out))) (Kd.R_lt (by (with_reducible repeat (first | apply Kd.R_alloc | apply Kd.R_drewN | apply Kd.R_drew)); exact HO416.out))) (below_size (by repeat (first | (with_reducible first | exact HB.out | apply below_alloc | apply pw_below_drewN | apply below_drew1 | refine below_set ?_ GE413.out) | exact HB.out)))); have n4_ := Aside0.mk (blk_below (g := gb413) (o := .cells #[.int .i64 ((rd_T69 l0 x16_1).f0), .int .i64 ((rd_T69 l0 x16_1).f1)] 69 (0, 0)) (by (with_reducible repeat (first | refine blk_drewN ?_ _ | refine blk_drew ?_ | refine blk_alloc ?_ _)); exact BK413.out) hb); have n5_ := Aside0.mk (below_step (by repeat (first | (with_reducible first | exact HB.out | apply below_alloc | apply pw_below_drewN | apply below_drew1 | refine below_set ?_ GE413.out) | exact HB.out)) hb); clear HO_6; clear HO416; clear HO419; clear BK413; clear HB; have HO_6 := n0_; have HO416 := n1_; have HO419 := n2_; have HO423 := n3_; have BK413 := n4_; have HB := n5_; clear n0_ n1_ n2_ n3_ n4_ n5_; (try clear hb); (try clear hb2); (try clear hk); (try clear hi); (try clear ho0)))
         go_ret2
         exact ⟨_, by first | rfl | (simp [errW_none, errW_some] <;> rfl) | (simp [*, errW_none, errW_some] <;> rfl), by first | exact Kd.R_nil _ _ _ _ _ | exact Kd.N_nil _ _ _ _ _ | exact Kd.V_nil _ _ _ _ _ | exact Kd.Q_nil _ _ _ _ _ | exact Kd.S_nil _ _ _ _ _, by repeat (first | (with_reducible first | exact HB.out | apply below_alloc | apply pw_below_drewN | apply below_drew1 | refine below_set ?_ GE413.out) | exact HB.out)⟩
       ·rw [if_neg c9] at H
        have c9b0 : decide (0 ≤ ((rd_T69 l0 x16_1).f0)) = false := decide_eq_false c9
        clear c9
        replace H := Option.bind_eq_some_iff.mp H
        obtain ⟨⟨t424, t425⟩, A310, H⟩ := H
        replace H : (if t425 = 0 then (word_Value.l0 k1 l1 t424 l0 (l0.length : Int) (wrap64 (x16_1 + 1))) else (some (([] : List (S71)), t425))) = some (r1, r2) := H
        have A31 := Aside0.mk A310
        clear A310
        by_cases c32 : t425 = 0
        ·rw [if_pos c32] at H
         have c32b0 : (t425 == 0) = true := beq_iff_eq.mpr c32
         have c32b1 : (t425 != 0) = false := bne_eq_false_iff_eq.mpr c32
         clear c32
         have H' := Aside0.mk H
         clear H
         have p412 : 0 ≤ (x16_1 : Int) := of_decide_eq_true (by first | (with_reducible assumption) | assumption)
         have q412 : x16_1 < (l0.length : Int) := of_decide_eq_true (by first | (with_reducible assumption) | assumption)
         obtain ⟨ad412, e412, hx412_0, hx412_1⟩ := at_T69 HR0.out x16_1 p412 q412
         cases e412
         replace hx412_0 := (HB.out.cell (World.block_lt_of_cell? w _ hx412_0)).trans hx412_0
         replace hx412_1 := (HB.out.cell (World.block_lt_of_cell? w _ hx412_1)).trans hx412_1
         replace p412 := eq_true p412
         replace q412 := eq_true q412
         go_wp2_with (first | ((with_reducible refine gate_dst (N := 8) rfl ?_); refine box_event ?hg (N := 8) ?hd (cs := #[.int .i64 0, .int .i64 0]) (t := 69) ?hr ?_; (case hd => rfl); (case hg => rfl); (case hr => first | (go_simp; done) | (go_simp; rfl) | (go_simp; simp only [IntKind.wrap_u8, IntKind.wrap_u32]; congr 4; omega) | (go_simp; simp only [IntKind.wrap_u8, IntKind.wrap_u32]; congr 5; omega)); intro gb413 hg w33 hbox hb; have n0_ := Aside0.mk (Kd.R_below (by (with_reducible repeat (first | apply Kd.R_alloc | apply Kd.R_drewN | apply Kd.R_drew)); exact HO_6.out) hb); have n1_ := Aside0.mk (below_step (by repeat (first | (with_reducible first | exact HB.out | apply below_alloc | apply pw_below_drewN | apply below_drew1) | exact HB.out)) hb); have n2_ := Aside0.mk (hbox); have n3_ := Aside0.mk ((by rw [hg]; exact (below_size (by repeat (first | (with_reducible first | exact HB.out | apply below_alloc | apply pw_below_drewN | apply below_drew1) | exact HB.out))) : w.heap.size ≤ gb413)); have n4_ := Aside0.mk ((by rw [hg]; exact (below_size (by repeat (first | (with_reducible first | exact HB.out | apply below_alloc | apply pw_below_drewN | apply below_drew1) | exact HB.out))) : w.heap.size ≤ gb413)); clear HO_6; clear HB; have HO_6 := n0_; have HB := n1_; have BK413 := n2_; have GW413 := n3_; have GE413 := n4_; clear n0_ n1_ n2_ n3_ n4_; clear hb hbox hg; have hcz34_0 : w33.cell? ⟨gb413, 0, none⟩ = some (.int .i64 0) := (blk_cell BK413.out 0).trans rfl; have hcz34_1 : w33.cell? ⟨gb413, 1, none⟩ = some (.int .i64 0) := (blk_cell BK413.out 1).trans rfl; have hfz34_0 := blk_frozen BK413.out 0; have hfz34_1 := blk_frozen BK413.out 1) | ((with_reducible refine gate_dst (N := 23) rfl ?_); refine Kd.R_lit k71 _ 71 ?hg (N := 23) ?hd (xs := ([(⟨(rd_T69 l0 x16_1).f1, 1⟩ : S71)] : List (S71))) (inner := [.int .i64 ((rd_T69 l0 x16_1).f1), .int .i64 1]) (ok := fun _ => True) (okp := fun _ => True) ?hr ?hp (fun _ hk => hk) trivial (Below.refl _ _) (Nat.le_refl _) (by simp) ?_; (case hd => rfl); (case hg => rfl); (case hr => first | (go_simp; done) | (go_simp; rfl) | (go_simp; simp only [IntKind.wrap_u8, IntKind.wrap_u32]; congr 4; omega) | (go_simp; simp only [IntKind.wrap_u8, IntKind.wrap_u32]; congr 5; omega)); (case hp => exact (Reps.c2 (show Kd.M k71 _ _ _ (⟨(rd_T69 l0 x16_1).f1, 1⟩ : S71) [.int .i64 ((rd_T69 l0 x16_1).f1), .int .i64 1] from (k71_mkM _ _ _ (⟨(rd_T69 l0 x16_1).f1, 1⟩ : S71) )) (Reps.none _ _))); intro v415 w35 ho36 hb hg_ hnew_; clear hg_ hnew_; (first | rw [← Ny414.out] at ho36 | (simp only [Int.reduceToNat] at ho36; rw [← Ny414.out] at ho36)); have n0_ := Aside0.mk (Kd.R_elder' (by (with_reducible repeat (first | apply Kd.R_alloc | apply Kd.R_drewN | apply Kd.R_drew)); exact (Kd.R_mono (Kd.R_far (p := ⟨gb413, 1, none⟩) (Kd.R_far (p := ⟨gb413, 0, none⟩) (Kd.R_types HO_6.out BK413.out (by decide)) (fun _ hk => hk.2) (.int .i64 ((rd_T69 l0 x16_1).f0))) (fun _ hk => hk.2) (.int .i64 ((rd_T69 l0 x16_1).f1))) (fun _ h_ => h_.1))) (Kd.R_base ho36) hb); have n1_ := Aside0.mk (Kd.R_lower (Kd.R_new' ho36 (Kd.R_lt (by (with_reducible repeat (first | apply Kd.R_alloc | apply Kd.R_drewN | apply Kd.R_drew)); exact (Kd.R_mono (Kd.R_far (p := ⟨gb413, 1, none⟩) (Kd.R_far (p := ⟨gb413, 0, none⟩) (Kd.R_types HO_6.out BK413.out (by decide)) (fun _ hk => hk.2) (.int .i64 ((rd_T69 l0 x16_1).f0))) (fun _ hk => hk.2) (.int .i64 ((rd_T69 l0 x16_1).f1))) (fun _ h_ => h_.1))))) (below_size (by repeat (first | (with_reducible first | exact HB.out | apply below_alloc | apply pw_below_drewN | apply below_drew1 | refine below_set ?_ GE413.out) | exact HB.out)))); have n2_ := Aside0.mk (blk_below (g := gb413) (o := .cells #[.int .i64 ((rd_T69 l0 x16_1).f0), .int .i64 ((rd_T69 l0 x16_1).f1)] 69 (0, 0)) (by (with_reducible repeat (first | refine blk_drewN ?_ _ | refine blk_drew ?_ | refine blk_alloc ?_ _)); refine blk_put (cs := #[.int .i64 ((rd_T69 l0 x16_1).f0), .int .i64 0]) ?_ 1 _ rfl; (with_reducible repeat (first | refine blk_drewN ?_ _ | refine blk_drew ?_ | refine blk_alloc ?_ _)); refine blk_put (cs := #[.int .i64 0, .int .i64 0]) ?_ 0 _ rfl; (with_reducible repeat (first | refine blk_drewN ?_ _ | refine blk_drew ?_ | refine blk_alloc ?_ _)); exact BK413.out) hb); have n3_ := Aside0.mk (below_step (by repeat (first | (with_reducible first | exact HB.out | apply below_alloc | apply pw_below_drewN | apply below_drew1 | refine below_set ?_ GE413.out) | exact HB.out)) hb); clear HO_6; clear BK413; clear HB; have HO_6 := n0_; have HO416 := n1_; have BK413 := n2_; have HB := n3_; clear n0_ n1_ n2_ n3_; clear hb ho36; have hcz37_0 : w35.cell? ⟨gb413, 0, none⟩ = some (.int .i64 ((rd_T69 l0 x16_1).f0)) := (blk_cell BK413.out 0).trans rfl; have hcz37_1 : w35.cell? ⟨gb413, 1, none⟩ = some (.int .i64 ((rd_T69 l0 x16_1).f1)) := (blk_cell BK413.out 1).trans rfl; have hfz37_0 := blk_frozen BK413.out 0; have hfz37_1 := blk_frozen BK413.out 1; obtain ⟨Ao38, co38, eo38⟩ := Kd.R_slice HO_6.out; subst eo38; obtain ⟨Ao39, co39, eo39⟩ := Kd.R_slice HO416.out; subst eo39) | ((with_reducible refine gate_callee (f := 48) rfl ?_); refine goesL_ (some 34) rfl rfl Try.func48 (by kernel_rfl) rfl #[.slice Ao38 x6_1.length co38, .slice Ao39 y414.length co39] rfl (by (try simp only [List.map_toArray, List.map_cons, List.map_nil]); first | done | rfl | (simp only [List.length_drop, List.length_take]; rfl)) ?_; (with_reducible refine (runs_Concat.calls k1 _ _ x6_1 _ _ y414 t424 t425 _ ?side1 ?side2 ?side3 ?side4 A31.out).mono ?_); (case side1 => repeat (first | exact (Kd.R_reads' HO_6.out).2.2 | (with_reducible refine Kd.C_alloc ?_ _) | (with_reducible refine Kd.C_drewN ?_ _) | (with_reducible refine Kd.C_drew ?_))); (case side2 => exact (Kd.R_reads' HO_6.out).2.1); (case side3 => repeat (first | exact (Kd.R_reads' HO416.out).2.2 | (with_reducible refine Kd.C_alloc ?_ _) | (with_reducible refine Kd.C_drewN ?_ _) | (with_reducible refine Kd.C_drew ?_))); (case side4 => exact (Kd.R_reads' HO416.out).2.1); rintro e w40 ⟨v426, rfl, ho0, hb⟩; refine ⟨_, rfl, ?_⟩; have n0_ := Aside0.mk (Kd.R_elder' (by (with_reducible repeat (first | apply Kd.R_alloc | apply Kd.R_drewN | apply Kd.R_drew)); exact HO_6.out) (Kd.R_base ho0) hb); have n1_ := Aside0.mk (Kd.R_elder' (by (with_reducible repeat (first | apply Kd.R_alloc | apply Kd.R_drewN | apply Kd.R_drew)); exact HO416.out) (Kd.R_base ho0) hb); have n2_ := Aside0.mk (Kd.R_lower (Kd.R_new' (Kd.R_new' ho0 (Kd.R_lt (by (with_reducible repeat (first | apply Kd.R_alloc | apply Kd.R_drewN | apply Kd.R_drew)); exact HO_6.out))) (Kd.R_lt (by (with_reducible repeat (first | apply Kd.R_alloc | apply Kd.R_drewN | apply Kd.R_drew)); exact HO416.out))) (below_size (by repeat (first | (with_reducible first | exact HB.out | apply below_alloc | apply pw_below_drewN | apply below_drew1 | refine below_set ?_ GE413.out) | exact HB.out)))); have n3_ := Aside0.mk (blk_below (g := gb413) (o := .cells #[.int .i64 ((rd_T69 l0 x16_1).f0), .int .i64 ((rd_T69 l0 x16_1).f1)] 69 (0, 0)) (by (with_reducible repeat (first | refine blk_drewN ?_ _ | refine blk_drew ?_ | refine blk_alloc ?_ _)); exact BK413.out) hb); have n4_ := Aside0.mk (below_step (by repeat (first | (with_reducible first | exact HB.out | apply below_alloc | apply pw_below_drewN | apply below_drew1 | refine below_set ?_ GE413.out) | exact HB.out)) hb); clear HO_6; clear HO416; clear BK413; clear HB; have HO_6 := n0_; have HO416 := n1_; have HO427 := n2_; have BK413 := n3_; have HB := n4_; clear n0_ n1_ n2_ n3_ n4_; (try clear hb); (try clear hb2); (try clear hk); (try clear hi); (try clear ho0)))
         go_roundg k1
         case measure => have := HK1.out; omega
         case rel => exact ⟨(t424), (wrap64 (x16_1 + 1)), (by first | rfl | (simp; done) | (simp [*]; done) | (refine congrArg (Value.int _) ?_; omega) | (refine congrArg Value.bool ?_; generalize ByteArray.toList _ = z_; cases z_ <;> rfl)), H', ⟨by have := HK1.out; omega⟩, ⟨by (with_reducible repeat (first | apply Kd.R_alloc | apply Kd.R_drewN | apply Kd.R_drew)); exact Kd.R_mono HO427.out (fun _ hk => trivial)⟩, ⟨by repeat (first | (with_reducible first | exact HB.out | apply below_alloc | apply pw_below_drewN | apply below_drew1 | refine below_set ?_ GE413.out) | exact HB.out)⟩⟩
        ·rw [if_neg c32] at H
         have c32b0 : (t425 == 0) = false := beq_eq_false_iff_ne.mpr c32
         have c32b1 : (t425 != 0) = true := bne_iff_ne.mpr c32
         simp only [Option.some.injEq, Prod.mk.injEq] at H
         obtain ⟨rfl, rfl⟩ := H
         have p412 : 0 ≤ (x16_1 : Int) := of_decide_eq_true (by first | (with_reducible assumption) | assumption)
         have q412 : x16_1 < (l0.length : Int) := of_decide_eq_true (by first | (with_reducible assumption) | assumption)
         obtain ⟨ad412, e412, hx412_0, hx412_1⟩ := at_T69 HR0.out x16_1 p412 q412
         cases e412
         replace hx412_0 := (HB.out.cell (World.block_lt_of_cell? w _ hx412_0)).trans hx412_0
         replace hx412_1 := (HB.out.cell (World.block_lt_of_cell? w _ hx412_1)).trans hx412_1
         replace p412 := eq_true p412
         replace q412 := eq_true q412
         go_wp2_with (first | ((with_reducible refine gate_dst (N := 8) rfl ?_); refine box_event ?hg (N := 8) ?hd (cs := #[.int .i64 0, .int .i64 0]) (t := 69) ?hr ?_; (case hd => rfl); (case hg => rfl); (case hr => first | (go_simp; done) | (go_simp; rfl) | (go_simp; simp only [IntKind.wrap_u8, IntKind.wrap_u32]; congr 4; omega) | (go_simp; simp only [IntKind.wrap_u8, IntKind.wrap_u32]; congr 5; omega)); intro gb413 hg w41 hbox hb; have n0_ := Aside0.mk (Kd.R_below (by (with_reducible repeat (first | apply Kd.R_alloc | apply Kd.R_drewN | apply Kd.R_drew)); exact HO_6.out) hb); have n1_ := Aside0.mk (below_step (by repeat (first | (with_reducible first | exact HB.out | apply below_alloc | apply pw_below_drewN | apply below_drew1) | exact HB.out)) hb); have n2_ := Aside0.mk (hbox); have n3_ := Aside0.mk ((by rw [hg]; exact (below_size (by repeat (first | (with_reducible first | exact HB.out | apply below_alloc | apply pw_below_drewN | apply below_drew1) | exact HB.out))) : w.heap.size ≤ gb413)); have n4_ := Aside0.mk ((by rw [hg]; exact (below_size (by repeat (first | (with_reducible first | exact HB.out | apply below_alloc | apply pw_below_drewN | apply below_drew1) | exact HB.out))) : w.heap.size ≤ gb413)); clear HO_6; clear HB; have HO_6 := n0_; have HB := n1_; have BK413 := n2_; have GW413 := n3_; have GE413 := n4_; clear n0_ n1_ n2_ n3_ n4_; clear hb hbox hg; have hcz42_0 : w41.cell? ⟨gb413, 0, none⟩ = some (.int .i64 0) := (blk_cell BK413.out 0).trans rfl; have hcz42_1 : w41.cell? ⟨gb413, 1, none⟩ = some (.int .i64 0) := (blk_cell BK413.out 1).trans rfl; have hfz42_0 := blk_frozen BK413.out 0; have hfz42_1 := blk_frozen BK413.out 1) | ((with_reducible refine gate_dst (N := 23) rfl ?_); refine Kd.R_lit k71 _ 71 ?hg (N := 23) ?hd (xs := ([(⟨(rd_T69 l0 x16_1).f1, 1⟩ : S71)] : List (S71))) (inner := [.int .i64 ((rd_T69 l0 x16_1).f1), .int .i64 1]) (ok := fun _ => True) (okp := fun _ => True) ?hr ?hp (fun _ hk => hk) trivial (Below.refl _ _) (Nat.le_refl _) (by simp) ?_; (case hd => rfl); (case hg => rfl); (case hr => first | (go_simp; done) | (go_simp; rfl) | (go_simp; simp only [IntKind.wrap_u8, IntKind.wrap_u32]; congr 4; omega) | (go_simp; simp only [IntKind.wrap_u8, IntKind.wrap_u32]; congr 5; omega)); (case hp => exact (Reps.c2 (show Kd.M k71 _ _ _ (⟨(rd_T69 l0 x16_1).f1, 1⟩ : S71) [.int .i64 ((rd_T69 l0 x16_1).f1), .int .i64 1] from (k71_mkM _ _ _ (⟨(rd_T69 l0 x16_1).f1, 1⟩ : S71) )) (Reps.none _ _))); intro v415 w43 ho44 hb hg_ hnew_; clear hg_ hnew_; (first | rw [← Ny414.out] at ho44 | (simp only [Int.reduceToNat] at ho44; rw [← Ny414.out] at ho44)); have n0_ := Aside0.mk (Kd.R_elder' (by (with_reducible repeat (first | apply Kd.R_alloc | apply Kd.R_drewN | apply Kd.R_drew)); exact (Kd.R_mono (Kd.R_far (p := ⟨gb413, 1, none⟩) (Kd.R_far (p := ⟨gb413, 0, none⟩) (Kd.R_types HO_6.out BK413.out (by decide)) (fun _ hk => hk.2) (.int .i64 ((rd_T69 l0 x16_1).f0))) (fun _ hk => hk.2) (.int .i64 ((rd_T69 l0 x16_1).f1))) (fun _ h_ => h_.1))) (Kd.R_base ho44) hb); have n1_ := Aside0.mk (Kd.R_lower (Kd.R_new' ho44 (Kd.R_lt (by (with_reducible repeat (first | apply Kd.R_alloc | apply Kd.R_drewN | apply Kd.R_drew)); exact (Kd.R_mono (Kd.R_far (p := ⟨gb413, 1, none⟩) (Kd.R_far (p := ⟨gb413, 0, none⟩) (Kd.R_types HO_6.out BK413.out (by decide)) (fun _ hk => hk.2) (.int .i64 ((rd_T69 l0 x16_1).f0))) (fun _ hk => hk.2) (.int .i64 ((rd_T69 l0 x16_1).f1))) (fun _ h_ => h_.1))))) (below_size (by repeat (first | (with_reducible first | exact HB.out | apply below_alloc | apply pw_below_drewN | apply below_drew1 | refine below_set ?_ GE413.out) | exact HB.out)))); have n2_ := Aside0.mk (blk_below (g := gb413) (o := .cells #[.int .i64 ((rd_T69 l0 x16_1).f0), .int .i64 ((rd_T69 l0 x16_1).f1)] 69 (0, 0)) (by (with_reducible repeat (first | refine blk_drewN ?_ _ | refine blk_drew ?_ | refine blk_alloc ?_ _)); refine blk_put (cs := #[.int .i64 ((rd_T69 l0 x16_1).f0), .int .i64 0]) ?_ 1 _ rfl; (with_reducible repeat (first | refine blk_drewN ?_ _ | refine blk_drew ?_ | refine blk_alloc ?_ _)); refine blk_put (cs := #[.int .i64 0, .int .i64 0]) ?_ 0 _ rfl; (with_reducible repeat (first | refine blk_drewN ?_ _ | refine blk_drew ?_ | refine blk_alloc ?_ _)); exact BK413.out) hb); have n3_ := Aside0.mk (below_step (by repeat (first | (with_reducible first | exact HB.out | apply below_alloc | apply pw_below_drewN | apply below_drew1 | refine below_set ?_ GE413.out) | exact HB.out)) hb); clear HO_6; clear BK413; clear HB; have HO_6 := n0_; have HO416 := n1_; have BK413 := n2_; have HB := n3_; clear n0_ n1_ n2_ n3_; clear hb ho44; have hcz45_0 : w43.cell? ⟨gb413, 0, none⟩ = some (.int .i64 ((rd_T69 l0 x16_1).f0)) := (blk_cell BK413.out 0).trans rfl; have hcz45_1 : w43.cell? ⟨gb413, 1, none⟩ = some (.int .i64 ((rd_T69 l0 x16_1).f1)) := (blk_cell BK413.out 1).trans rfl; have hfz45_0 := blk_frozen BK413.out 0; have hfz45_1 := blk_frozen BK413.out 1; obtain ⟨Ao46, co46, eo46⟩ := Kd.R_slice HO_6.out; subst eo46; obtain ⟨Ao47, co47, eo47⟩ := Kd.R_slice HO416.out; subst eo47) | ((with_reducible refine gate_callee (f := 48) rfl ?_); refine goesL_ (some 34) rfl rfl Try.func48 (by kernel_rfl) rfl #[.slice Ao46 x6_1.length co46, .slice Ao47 y414.length co47] rfl (by (try simp only [List.map_toArray, List.map_cons, List.map_nil]); first | done | rfl | (simp only [List.length_drop, List.length_take]; rfl)) ?_; (with_reducible refine (runs_Concat.calls k1 _ _ x6_1 _ _ y414 t424 t425 _ ?side1 ?side2 ?side3 ?side4 A31.out).mono ?_); (case side1 => repeat (first | exact (Kd.R_reads' HO_6.out).2.2 | (with_reducible refine Kd.C_alloc ?_ _) | (with_reducible refine Kd.C_drewN ?_ _) | (with_reducible refine Kd.C_drew ?_))); (case side2 => exact (Kd.R_reads' HO_6.out).2.1); (case side3 => repeat (first | exact (Kd.R_reads' HO416.out).2.2 | (with_reducible refine Kd.C_alloc ?_ _) | (with_reducible refine Kd.C_drewN ?_ _) | (with_reducible refine Kd.C_drew ?_))); (case side4 => exact (Kd.R_reads' HO416.out).2.1); rintro e w48 ⟨v426, rfl, ho0, hb⟩; refine ⟨_, rfl, ?_⟩; have n0_ := Aside0.mk (Kd.R_elder' (by (with_reducible repeat (first | apply Kd.R_alloc | apply Kd.R_drewN | apply Kd.R_drew)); exact HO_6.out) (Kd.R_base ho0) hb); have n1_ := Aside0.mk (Kd.R_elder' (by (with_reducible repeat (first | apply Kd.R_alloc | apply Kd.R_drewN | apply Kd.R_drew)); exact HO416.out) (Kd.R_base ho0) hb); have n2_ := Aside0.mk (Kd.R_lower (Kd.R_new' (Kd.R_new' ho0 (Kd.R_lt (by (with_reducible repeat (first | apply Kd.R_alloc | apply Kd.R_drewN | apply Kd.R_drew)); exact HO_6.out))) (Kd.R_lt (by (with_reducible repeat (first | apply Kd.R_alloc | apply Kd.R_drewN | apply Kd.R_drew)); exact HO416.out))) (below_size (by repeat (first | (with_reducible first | exact HB.out | apply below_alloc | apply pw_below_drewN | apply below_drew1 | refine below_set ?_ GE413.out) | exact HB.out)))); have n3_ := Aside0.mk (blk_below (g := gb413) (o := .cells #[.int .i64 ((rd_T69 l0 x16_1).f0), .int .i64 ((rd_T69 l0 x16_1).f1)] 69 (0, 0)) (by (with_reducible repeat (first | refine blk_drewN ?_ _ | refine blk_drew ?_ | refine blk_alloc ?_ _)); exact BK413.out) hb); have n4_ := Aside0.mk (below_step (by repeat (first | (with_reducible first | exact HB.out | apply below_alloc | apply pw_below_drewN | apply below_drew1 | refine below_set ?_ GE413.out) | exact HB.out)) hb); clear HO_6; clear HO416; clear BK413; clear HB; have HO_6 := n0_; have HO416 := n1_; have HO427 := n2_; have BK413 := n3_; have HB := n4_; clear n0_ n1_ n2_ n3_ n4_; (try clear hb); (try clear hb2); (try clear hk); (try clear hi); (try clear ho0)))
         go_ret2
         exact ⟨_, by first | rfl | (simp [errW_none, errW_some] <;> rfl) | (simp [*, errW_none, errW_some] <;> rfl), by first | exact Kd.R_nil _ _ _ _ _ | exact Kd.N_nil _ _ _ _ _ | exact Kd.V_nil _ _ _ _ _ | exact Kd.Q_nil _ _ _ _ _ | exact Kd.S_nil _ _ _ _ _, by repeat (first | (with_reducible first | exact HB.out | apply below_alloc | apply pw_below_drewN | apply below_drew1 | refine below_set ?_ GE413.out) | exact HB.out)⟩
      ·rw [if_neg c8] at H
       exact absurd H (by simp)
     ·rw [if_neg c7] at H
      exact absurd H (by simp)
    ·rw [if_neg c6] at H
     have c6b0 : decide (x16_1 < (l0.length : Int)) = false := decide_eq_false c6
     clear c6
     simp only [Option.some.injEq, Prod.mk.injEq] at H
     obtain ⟨rfl, rfl⟩ := H
     go_wp2
     go_ret2
     exact ⟨_, by first | rfl | (simp [errW_none, errW_some] <;> rfl) | (simp [*, errW_none, errW_some] <;> rfl), by (with_reducible repeat (first | apply Kd.R_alloc | apply Kd.R_drewN | apply Kd.R_drew)); exact HO_6.out, by repeat (first | (with_reducible first | exact HB.out | apply below_alloc | apply pw_below_drewN | apply below_drew1) | exact HB.out)⟩
 ·replace c4 := Bool.eq_false_iff.mpr c4
  subst c4
  have H1 : (some (([] : List (S71)), 1)) = some (r1, r2) := by rw [if_neg (show ¬ (false = true) by decide)] at H; exact H
  clear H
  have H := H1
  clear H1
  simp only [Option.some.injEq, Prod.mk.injEq] at H
  obtain ⟨rfl, rfl⟩ := H
  go_enter Try.func18, Try.ntmps18
  go_wp2_with (first | ((with_reducible refine gate_callee (f := 42) rfl ?_); refine goesL_ (some 12) rfl rfl Try.func42 (by kernel_rfl) rfl #[.slice A0 l0.length c0] rfl (by (try simp only [List.map_toArray, List.map_cons, List.map_nil]); first | done | rfl | (simp only [List.length_drop, List.length_take]; rfl)) ?_; (with_reducible refine (word_may.calls k _ _ l0 false _ ?side1 ?side2 A3.out).mono ?_); (case side1 => repeat (first | exact HR0.out | (with_reducible refine Kd.C_alloc ?_ _) | (with_reducible refine Kd.C_drewN ?_ _) | (with_reducible refine Kd.C_drew ?_))); (case side2 => exact HC0.out); rintro e w49 ⟨rfl, hb⟩; refine ⟨_, rfl, ?_⟩; have n0_ := Aside0.mk (below_step (by repeat (first | (with_reducible first | exact HB.out | apply below_alloc | apply pw_below_drewN | apply below_drew1) | exact HB.out)) hb); clear HB; have HB := n0_; clear n0_; (try clear hb); (try clear hb2); (try clear hk); (try clear hi)))
  go_ret2
  exact ⟨_, by first | rfl | (simp [errW_none, errW_some] <;> rfl) | (simp [*, errW_none, errW_some] <;> rfl), by first | exact Kd.R_nil _ _ _ _ _ | exact Kd.N_nil _ _ _ _ _ | exact Kd.V_nil _ _ _ _ _ | exact Kd.Q_nil _ _ _ _ _ | exact Kd.S_nil _ _ _ _ _, by repeat (first | (with_reducible first | exact HB.out | apply below_alloc | apply pw_below_drewN | apply below_drew1) | exact HB.out)⟩

/-! ### gudgeonref07_Texts: function 19 -/
def gudgeonref07_Texts.l0 : Nat → List (S71) → List (S71) → Int → Option (Bool)
 | 0, _, _, _ => none
 | k + 1, x0, x1, x5 => if x5 < (x0.length : Int) then (if 0 ≤ x5 then (if x5 < (x1.length : Int) then (if (!(((rd_T71 x0 x5).f0) == ((rd_T71 x1 x5).f0)) || (!(((rd_T71 x0 x5).f1) == ((rd_T71 x1 x5).f1)))) = true then (some false) else (gudgeonref07_Texts.l0 k x0 x1 (wrap64 (x5 + 1)))) else (none)) else (none)) else (some true)
def gudgeonref07_Texts.f (k : Nat) (l0 : List (S71)) (l1 : List (S71)) : Option (Bool) := if (l0.length : Int) = (l1.length : Int) then (gudgeonref07_Texts.l0 k l0 l1 0) else (some false)
set_option maxHeartbeats 8000000 in
set_option maxRecDepth 100000 in
theorem gudgeonref07_Texts.calls (k : Nat) (A0 : Option Addr) (c0 : Nat) (l0 : List (S71)) (A1 : Option Addr) (c1 : Nat) (l1 : List (S71)) (r : Bool) (w : World) (hr0 : Kd.C k71 w A0 l0.length l0) (hc0 : l0.length ≤ c0) (hr1 : Kd.C k71 w A1 l1.length l1) (hc1 : l1.length ≤ c1) (h : gudgeonref07_Texts.f k l0 l1 = some r) :
  Calls Try.prog 19 #[.slice A0 l0.length c0, .slice A1 l1.length c1] w fun e w' => e = .returned (.bool r) ∧ Drawn0 w w' := by
 have hu71 := Try.underlying71
 have HR0 := Aside0.mk hr0
 have HC0 := Aside0.mk hc0
 clear hr0 hc0
 have HR1 := Aside0.mk hr1
 have HC1 := Aside0.mk hc1
 clear hr1 hc1
 have H : (if (l0.length : Int) = (l1.length : Int) then (gudgeonref07_Texts.l0 k l0 l1 0) else (some false)) = some r := h
 clear h
 by_cases c3 : (l0.length : Int) = (l1.length : Int)
 ·rw [if_pos c3] at H
  have c3b0 : ((l0.length : Int) == (l1.length : Int)) = true := beq_iff_eq.mpr c3
  have c3b1 : ((l0.length : Int) != (l1.length : Int)) = false := bne_eq_false_iff_eq.mpr c3
  have c3b2 : (l0.length == l1.length) = true := by first | simpa using c3 | (simp at c3 ⊢; omega)
  clear c3
  have H' := Aside0.mk H
  clear H
  go_enter Try.func19, Try.ntmps19
  go_wp2
  repeat (go_quiet (fail); try go_wp2)
  go_loopg [5] k (fun kq v5 w' => ∃ (x5_1 : Int), v5 = .int .i64 x5_1 ∧ Aside0 (gudgeonref07_Texts.l0 kq l0 l1 x5_1 = some r) ∧ Aside0 (kq ≤ k) ∧ Drawn0 w w')
  case atStart => exact ⟨(0), (by first | rfl | (simp; done) | (simp [*]; done) | (refine congrArg (Value.int _) ?_; omega) | (refine congrArg Value.bool ?_; generalize ByteArray.toList _ = z_; cases z_ <;> rfl)), H', ⟨Nat.le_refl _⟩, by repeat (first | exact Drawn0.refl _ | apply Drawn0.step)⟩
  case round =>
   clear H'
   try clear c1
   try clear p2
   try clear c3
   try clear c3b0
   try clear c3b1
   try clear c3b2
   obtain ⟨x5_1, rfl, HA, HK1, ⟨m1, rfl⟩⟩ := hrel
   cases gk with
   | zero => exact absurd HA.out (by simp [gudgeonref07_Texts.l0])
   | succ k1 =>
    have H := HA.out
    clear HA
    simp only [gudgeonref07_Texts.l0] at H
    by_cases c4 : x5_1 < (l0.length : Int)
    ·rw [if_pos c4] at H
     have c4b0 : decide (x5_1 < (l0.length : Int)) = true := decide_eq_true c4
     clear c4
     by_cases c5 : 0 ≤ x5_1
     ·rw [if_pos c5] at H
      have c5b0 : decide (0 ≤ x5_1) = true := decide_eq_true c5
      clear c5
      by_cases c6 : x5_1 < (l1.length : Int)
      ·rw [if_pos c6] at H
       have c6b0 : decide (x5_1 < (l1.length : Int)) = true := decide_eq_true c6
       clear c6
       by_cases c7 : (!(((rd_T71 l0 x5_1).f0) == ((rd_T71 l1 x5_1).f0)) || (!(((rd_T71 l0 x5_1).f1) == ((rd_T71 l1 x5_1).f1)))) = true
       ·rw [if_pos c7] at H
        have c7b0 : (!(((rd_T71 l0 x5_1).f0) == ((rd_T71 l1 x5_1).f0)) || (!(((rd_T71 l0 x5_1).f1) == ((rd_T71 l1 x5_1).f1)))) = true := c7
        clear c7
        obtain rfl := Option.some.inj H
        have p428 : 0 ≤ (x5_1 : Int) := of_decide_eq_true (by first | (with_reducible assumption) | assumption)
        have q428 : x5_1 < (l0.length : Int) := of_decide_eq_true (by first | (with_reducible assumption) | assumption)
        obtain ⟨ad428, e428, hx428_0, hx428_1⟩ := at_T71 HR0.out x5_1 p428 q428
        cases e428
        replace p428 := eq_true p428
        replace q428 := eq_true q428
        have p429 : 0 ≤ (x5_1 : Int) := of_decide_eq_true (by first | (with_reducible assumption) | assumption)
        have q429 : x5_1 < (l1.length : Int) := of_decide_eq_true (by first | (with_reducible assumption) | assumption)
        obtain ⟨ad429, e429, hx429_0, hx429_1⟩ := at_T71 HR1.out x5_1 p429 q429
        cases e429
        replace p429 := eq_true p429
        replace q429 := eq_true q429
        go_wp2
        repeat (go_quiet (fail); try go_wp2)
        go_ret
        exact ⟨by first | rfl | (simp; done) | (simp [*]; done) | (refine congrArg (fun z_ => Ending.returned (Value.bool z_)) ?_; generalize ByteArray.toList _ = z_; cases z_ <;> rfl) | (refine congrArg (Value.int _) ?_; omega) | (refine congrArg Value.bool ?_; generalize ByteArray.toList _ = z_; cases z_ <;> rfl), by repeat (first | exact Drawn0.refl _ | apply Drawn0.step)⟩
       ·rw [if_neg c7] at H
        have c7b0 : (!(((rd_T71 l0 x5_1).f0) == ((rd_T71 l1 x5_1).f0)) || (!(((rd_T71 l0 x5_1).f1) == ((rd_T71 l1 x5_1).f1)))) = false := by simpa using c7
        clear c7
        have H' := Aside0.mk H
        clear H
        have p428 : 0 ≤ (x5_1 : Int) := of_decide_eq_true (by first | (with_reducible assumption) | assumption)
        have q428 : x5_1 < (l0.length : Int) := of_decide_eq_true (by first | (with_reducible assumption) | assumption)
        obtain ⟨ad428, e428, hx428_0, hx428_1⟩ := at_T71 HR0.out x5_1 p428 q428
        cases e428
        replace p428 := eq_true p428
        replace q428 := eq_true q428
        have p429 : 0 ≤ (x5_1 : Int) := of_decide_eq_true (by first | (with_reducible assumption) | assumption)
        have q429 : x5_1 < (l1.length : Int) := of_decide_eq_true (by first | (with_reducible assumption) | assumption)
        obtain ⟨ad429, e429, hx429_0, hx429_1⟩ := at_T71 HR1.out x5_1 p429 q429
        cases e429
        replace p429 := eq_true p429
        replace q429 := eq_true q429
        go_wp2
        repeat (go_quiet (fail); try go_wp2)
        go_roundg k1
        case measure => have := HK1.out; omega
        case rel => exact ⟨(wrap64 (x5_1 + 1)), (by first | rfl | (simp; done) | (simp [*]; done) | (refine congrArg (Value.int _) ?_; omega) | (refine congrArg Value.bool ?_; generalize ByteArray.toList _ = z_; cases z_ <;> rfl)), H', ⟨by have := HK1.out; omega⟩, by repeat (first | exact Drawn0.refl _ | apply Drawn0.step)⟩
      ·rw [if_neg c6] at H
       exact absurd H (by simp)
     ·rw [if_neg c5] at H
      exact absurd H (by simp)
    ·rw [if_neg c4] at H
     have c4b0 : decide (x5_1 < (l0.length : Int)) = false := decide_eq_false c4
     clear c4
     obtain rfl := Option.some.inj H
     go_wp2
     repeat (go_quiet (fail); try go_wp2)
     go_ret
     exact ⟨by first | rfl | (simp; done) | (simp [*]; done) | (refine congrArg (fun z_ => Ending.returned (Value.bool z_)) ?_; generalize ByteArray.toList _ = z_; cases z_ <;> rfl) | (refine congrArg (Value.int _) ?_; omega) | (refine congrArg Value.bool ?_; generalize ByteArray.toList _ = z_; cases z_ <;> rfl), by repeat (first | exact Drawn0.refl _ | apply Drawn0.step)⟩
 ·rw [if_neg c3] at H
  have c3b0 : ((l0.length : Int) == (l1.length : Int)) = false := beq_eq_false_iff_ne.mpr c3
  have c3b1 : ((l0.length : Int) != (l1.length : Int)) = true := bne_iff_ne.mpr c3
  have c3b2 : (l0.length == l1.length) = false := by first | simpa using c3 | (simp at c3 ⊢; omega)
  obtain rfl := Option.some.inj H
  go_enter Try.func19, Try.ntmps19
  go_wp2
  repeat (go_quiet (fail); try go_wp2)
  go_ret
  exact ⟨by first | rfl | (simp; done) | (simp [*]; done) | (refine congrArg (fun z_ => Ending.returned (Value.bool z_)) ?_; generalize ByteArray.toList _ = z_; cases z_ <;> rfl) | (refine congrArg (Value.int _) ?_; omega) | (refine congrArg Value.bool ?_; generalize ByteArray.toList _ = z_; cases z_ <;> rfl), by repeat (first | exact Drawn0.refl _ | apply Drawn0.step)⟩

end Go.Proofs.Ytbigeaknbhmniaa.PB
/- Written by a program of this session, wip/tools/patch_print.py, over the kit's print of the loaded functions. -/
namespace Go.Proofs.Ytbigeaknbhmniaa.H
end Go.Proofs.Ytbigeaknbhmniaa.H
namespace Go.Proofs.Ytbigeaknbhmniaa.PB
open Go.RowKit Go.Proofs.YtbigeaknbhmniaaW.PrintWords Go.Proofs.YtbigeaknbhmniaaW.PrintLast Go.Proofs.YtbigeaknbhmniaaW.PrintMore Go.Proofs.Ytbigeaknbhmniaa.H
attribute [local go_sem] max2_int min2_int max_two min_two max_three min_three max_four min_four   -- for this text's walks alone
set_option linter.unusedVariables false
set_option linter.unusedSimpArgs false

/-! ### gudgeonlaw17_WordAlike: function 5 -/
mutual
def gudgeonlaw17_WordAlike.j0 : Nat → List (S69) → List (S69) → List Int → List (S41) → Bool → Bool → Option (Bool)
 | 0, _, _, _, _, _, _ => none
 | k + 1, x0, x1, x2, x3, x9, x33 => if x33 = true then (some x9) else (gudgeonlaw17_WordAlike.l0 k x0 x1 x2 x3 ([] : List (S41)) 0)
def gudgeonlaw17_WordAlike.l0 : Nat → List (S69) → List (S69) → List Int → List (S41) → List (S41) → Int → Option (Bool)
 | 0, _, _, _, _, _, _ => none
 | k + 1, x0, x1, x2, x3, x11, x12 => if x12 < (x2.length : Int) then (if 0 ≤ x12 then (if x11.length < 4398046511104 then (gudgeonlaw17_WordAlike.l0 k x0 x1 x2 x3 (x11 ++ [(⟨rd x2 x12, ([] : List (S71))⟩ : S41)]) (wrap64 (x12 + 1))) else (none)) else (none)) else (if x11.length + x3.length < 4398046511104 then ((some (x11 ++ x3 : List (S41))).bind fun y504 => ((word_Alike.f k x0 x1 x2).bind fun t507 => (if t507 = true then ((word_Value.f k x0 y504).bind fun bt508 => ((word_Value.f k x1 y504).bind fun bt512 => ((gudgeonref07_Texts.f k bt508.1 bt512.1).bind fun t516 => (if t516 = true then (some (bt508.2 == bt512.2)) else (some false))))) else (some true)))) else (none))
end
def gudgeonlaw17_WordAlike.f (k : Nat) (l0 : List (S69)) (l1 : List (S69)) (l2 : List Int) (l3 : List (S41)) : Option (Bool) := (gudgeonlaw17_awake.f k).bind fun t498 => ((gudgeonlaw17_few.f k l0 l1 l3).bind fun t499 => (if t498 = true then (if t499 = true then (gudgeonlaw17_WordAlike.j0 k l0 l1 l2 l3 t498 (decide ((l2.length : Int) > 200))) else (gudgeonlaw17_WordAlike.j0 k l0 l1 l2 l3 t498 true)) else (gudgeonlaw17_WordAlike.j0 k l0 l1 l2 l3 t498 true)))
set_option maxHeartbeats 8000000 in
set_option maxRecDepth 100000 in
theorem gudgeonlaw17_WordAlike.calls (k : Nat) (A0 : Option Addr) (c0 : Nat) (l0 : List (S69)) (A1 : Option Addr) (c1 : Nat) (l1 : List (S69)) (A2 : Option Addr) (c2 : Nat) (l2 : List Int) (P3_ : Nat → Prop) (A3 : Option Addr) (c3 : Nat) (l3 : List (S41)) (r : Bool) (w : World) (hr0 : Kd.C k69 w A0 l0.length l0) (hc0 : l0.length ≤ c0) (hr1 : Kd.C k69 w A1 l1.length l1) (hc1 : l1.length ≤ c1) (hr2 : Kd.C (Kd.int .i64) w A2 l2.length l2) (hc2 : l2.length ≤ c2) (hs3 : Kd.V k41 41 w w.heap.size (fun k_ => P3_ k_) (.slice A3 l3.length c3) l3) (h : gudgeonlaw17_WordAlike.f k l0 l1 l2 l3 = some r) :
  Calls Try.prog 5 #[.slice A0 l0.length c0, .slice A1 l1.length c1, .slice A2 l2.length c2, .slice A3 l3.length c3] w fun e w' => e = .returned (.bool r) ∧ Below w.heap.size w w' := by
 have hu41 := Try.underlying41
 have HR0 := Aside0.mk hr0
 have HC0 := Aside0.mk hc0
 clear hr0 hc0
 have HR1 := Aside0.mk hr1
 have HC1 := Aside0.mk hc1
 clear hr1 hc1
 have HR2 := Aside0.mk hr2
 have HC2 := Aside0.mk hc2
 clear hr2 hc2
 have HO3 := Aside0.mk (show Kd.V k41 41 w w.heap.size (fun k_ => (P3_ k_ ∨ w.heap.size ≤ k_)) (.slice A3 l3.length c3) l3 from Kd.V_mono hs3 (fun k_ hk => .inl hk))
 have HB := Aside0.mk (Below.refl w.heap.size w)
 have H : ((gudgeonlaw17_awake.f k).bind fun t498 => ((gudgeonlaw17_few.f k l0 l1 l3).bind fun t499 => (if t498 = true then (if t499 = true then (gudgeonlaw17_WordAlike.j0 k l0 l1 l2 l3 t498 (decide ((l2.length : Int) > 200))) else (gudgeonlaw17_WordAlike.j0 k l0 l1 l2 l3 t498 true)) else (gudgeonlaw17_WordAlike.j0 k l0 l1 l2 l3 t498 true)))) = some r := h
 clear h
 replace H := Option.bind_eq_some_iff.mp H
 obtain ⟨t498, A50, H⟩ := H
 replace H : ((gudgeonlaw17_few.f k l0 l1 l3).bind fun t499 => (if t498 = true then (if t499 = true then (gudgeonlaw17_WordAlike.j0 k l0 l1 l2 l3 t498 (decide ((l2.length : Int) > 200))) else (gudgeonlaw17_WordAlike.j0 k l0 l1 l2 l3 t498 true)) else (gudgeonlaw17_WordAlike.j0 k l0 l1 l2 l3 t498 true))) = some r := H
 have A5 := Aside0.mk A50
 clear A50
 replace H := Option.bind_eq_some_iff.mp H
 obtain ⟨t499, A60, H⟩ := H
 replace H : (if t498 = true then (if t499 = true then (gudgeonlaw17_WordAlike.j0 k l0 l1 l2 l3 t498 (decide ((l2.length : Int) > 200))) else (gudgeonlaw17_WordAlike.j0 k l0 l1 l2 l3 t498 true)) else (gudgeonlaw17_WordAlike.j0 k l0 l1 l2 l3 t498 true)) = some r := H
 have A6 := Aside0.mk A60
 clear A60
 have HC7 := Aside0.mk H
 clear H
 go_enter Try.func5, Try.ntmps5
 go_upto_region 3 with (first | ((with_reducible refine gate_callee (f := 10) rfl ?_); refine goesL_ (some 18) rfl rfl Try.func10 (by kernel_rfl) rfl #[] rfl (by (try simp only [List.map_toArray, List.map_cons, List.map_nil]); first | done | rfl | (simp only [List.length_drop, List.length_take]; rfl)) ?_; (with_reducible refine (gudgeonlaw17_awake.calls k  t498 _ A5.out).mono ?_); rintro e w8 ⟨rfl, hb⟩; refine ⟨_, rfl, ?_⟩; have n0_ := Aside0.mk (Kd.V_below (by (with_reducible repeat (first | apply Kd.V_alloc | apply Kd.V_drewN | apply Kd.V_drew)); exact HO3.out) hb); have n1_ := Aside0.mk (below_step (by repeat (first | (with_reducible first | exact HB.out | apply below_alloc | apply pw_below_drewN | apply below_drew1) | exact HB.out)) hb); clear HO3; clear HB; have HO3 := n0_; have HB := n1_; clear n0_ n1_; (try clear hb); (try clear hb2); (try clear hk); (try clear hi)) | ((with_reducible refine gate_callee (f := 16) rfl ?_); refine goesL_ (some 22) rfl rfl Try.func16 (by kernel_rfl) rfl #[.slice A0 l0.length c0, .slice A1 l1.length c1, .slice A3 l3.length c3] rfl (by (try simp only [List.map_toArray, List.map_cons, List.map_nil]); first | done | rfl | (simp only [List.length_drop, List.length_take]; rfl)) ?_; (with_reducible refine (gudgeonlaw17_few.calls k _ _ l0 _ _ l1 _ _ l3 t499 _ ?side1 ?side2 ?side3 ?side4 ?side5 ?side6 A6.out).mono ?_); (case side1 => repeat (first | exact (Kd.C_below HR0.out HB.out) | (with_reducible refine Kd.C_alloc ?_ _) | (with_reducible refine Kd.C_drewN ?_ _) | (with_reducible refine Kd.C_drew ?_))); (case side2 => exact HC0.out); (case side3 => repeat (first | exact (Kd.C_below HR1.out HB.out) | (with_reducible refine Kd.C_alloc ?_ _) | (with_reducible refine Kd.C_drewN ?_ _) | (with_reducible refine Kd.C_drew ?_))); (case side4 => exact HC1.out); (case side5 => repeat (first | exact (Kd.V_reads' HO3.out).2.2 | (with_reducible refine Kd.C_alloc ?_ _) | (with_reducible refine Kd.C_drewN ?_ _) | (with_reducible refine Kd.C_drew ?_))); (case side6 => exact (Kd.V_reads' HO3.out).2.1); rintro e w' ⟨rfl, ⟨nd, rfl⟩⟩; refine ⟨_, rfl, ?_⟩))
 (try simp only [Act.put, List.setIfInBounds_toArray, List.set_cons_zero, List.set_cons_succ])
 go_cut [33] (fun v33 wc => ∃ (kq : Nat) (x33_6 : Bool), v33 = .bool x33_6 ∧ Aside0 (gudgeonlaw17_WordAlike.j0 kq l0 l1 l2 l3 t498 x33_6 = some r) ∧ Aside0 (kq ≤ k) ∧ Aside0 (Kd.V k41 41 wc w.heap.size (fun k_ => (P3_ k_ ∨ w.heap.size ≤ k_)) (.slice A3 l3.length c3) l3) ∧ Aside0 (Below w.heap.size w wc))
 case first =>
  have H := HC7.out
  clear HC7
  by_cases c9 : t498 = true
  ·subst c9
   have H1 : (if t499 = true then (gudgeonlaw17_WordAlike.j0 k l0 l1 l2 l3 true (decide ((l2.length : Int) > 200))) else (gudgeonlaw17_WordAlike.j0 k l0 l1 l2 l3 true true)) = some r := by rw [if_pos rfl] at H; exact H
   clear H
   have H := H1
   clear H1
   by_cases c10 : t499 = true
   ·subst c10
    have H1 : (gudgeonlaw17_WordAlike.j0 k l0 l1 l2 l3 true (decide ((l2.length : Int) > 200))) = some r := by rw [if_pos rfl] at H; exact H
    clear H
    have H := H1
    clear H1
    have H' := Aside0.mk H
    clear H
    go_wp2
    go_meet
    case rel => exact ⟨_, (decide ((l2.length : Int) > 200)), (by first | rfl | (simp; done) | (simp [*]; done) | (refine congrArg (Value.int _) ?_; omega) | (refine congrArg Value.bool ?_; generalize ByteArray.toList _ = z_; cases z_ <;> rfl)), H', ⟨by first | omega | exact Nat.le_refl _⟩, ⟨by (with_reducible repeat (first | apply Kd.V_alloc | apply Kd.V_drewN | apply Kd.V_drew)); exact HO3.out⟩, ⟨by repeat (first | (with_reducible first | exact HB.out | apply below_alloc | apply pw_below_drewN | apply below_drew1) | exact HB.out)⟩⟩
   ·replace c10 := Bool.eq_false_iff.mpr c10
    subst c10
    have H1 : (gudgeonlaw17_WordAlike.j0 k l0 l1 l2 l3 true true) = some r := by rw [if_neg (show ¬ (false = true) by decide)] at H; exact H
    clear H
    have H := H1
    clear H1
    have H' := Aside0.mk H
    clear H
    go_wp2
    go_meet
    case rel => exact ⟨_, (true), (by first | rfl | (simp; done) | (simp [*]; done) | (refine congrArg (Value.int _) ?_; omega) | (refine congrArg Value.bool ?_; generalize ByteArray.toList _ = z_; cases z_ <;> rfl)), H', ⟨by first | omega | exact Nat.le_refl _⟩, ⟨by (with_reducible repeat (first | apply Kd.V_alloc | apply Kd.V_drewN | apply Kd.V_drew)); exact HO3.out⟩, ⟨by repeat (first | (with_reducible first | exact HB.out | apply below_alloc | apply pw_below_drewN | apply below_drew1) | exact HB.out)⟩⟩
  ·replace c9 := Bool.eq_false_iff.mpr c9
   subst c9
   have H1 : (gudgeonlaw17_WordAlike.j0 k l0 l1 l2 l3 false true) = some r := by rw [if_neg (show ¬ (false = true) by decide)] at H; exact H
   clear H
   have H := H1
   clear H1
   have H' := Aside0.mk H
   clear H
   go_wp2
   go_meet
   case rel => exact ⟨_, (true), (by first | rfl | (simp; done) | (simp [*]; done) | (refine congrArg (Value.int _) ?_; omega) | (refine congrArg Value.bool ?_; generalize ByteArray.toList _ = z_; cases z_ <;> rfl)), H', ⟨by first | omega | exact Nat.le_refl _⟩, ⟨by (with_reducible repeat (first | apply Kd.V_alloc | apply Kd.V_drewN | apply Kd.V_drew)); exact HO3.out⟩, ⟨by repeat (first | (with_reducible first | exact HB.out | apply below_alloc | apply pw_below_drewN | apply below_drew1) | exact HB.out)⟩⟩
 case rest =>
  clear HC7
  try clear c1
  try clear c2
  try clear p2
  try clear c3
  try clear c5
  try clear c9
  try clear c10
  obtain ⟨kq, x33_6, rfl, HA, HJ6, HO_3, HB⟩ := hcut
  cases kq with
  | zero => exact absurd HA.out (by simp [gudgeonlaw17_WordAlike.j0])
  | succ kj6 =>
   have H := HA.out
   clear HA
   simp only [gudgeonlaw17_WordAlike.j0] at H
   by_cases c11 : x33_6 = true
   ·subst c11
    have H1 : (some t498) = some r := by rw [if_pos rfl] at H; exact H
    clear H
    have H := H1
    clear H1
    obtain rfl := Option.some.inj H
    go_wp2
    go_ret
    exact ⟨by first | rfl | (simp [errW_none, errW_some] <;> rfl) | (refine congrArg (fun z_ => Ending.returned (Value.bool z_)) (decide_eq_decide.mpr ?_); unfold wrap64; omega) | (simp [*, errW_none, errW_some] <;> rfl), by repeat (first | (with_reducible first | exact HB.out | apply below_alloc | apply pw_below_drewN | apply below_drew1) | exact HB.out)⟩
   ·replace c11 := Bool.eq_false_iff.mpr c11
    subst c11
    have H1 : (gudgeonlaw17_WordAlike.l0 kj6 l0 l1 l2 l3 ([] : List (S41)) 0) = some r := by rw [if_neg (show ¬ (false = true) by decide)] at H; exact H
    clear H
    have H := H1
    clear H1
    have H' := Aside0.mk H
    clear H
    go_wp2
    go_loopg [11, 12] kj6 (fun kq v11 v12 w' => ∃ (x11_2 : List (S41)) (x12_2 : Int), v12 = .int .i64 x12_2 ∧ Aside0 (gudgeonlaw17_WordAlike.l0 kq l0 l1 l2 l3 x11_2 x12_2 = some r) ∧ Aside0 (kq ≤ kj6) ∧ Aside0 (Kd.V k41 41 w' w.heap.size (fun k_ => (P3_ k_ ∨ w.heap.size ≤ k_) ∧ some k_ ≠ (v11 : Value).ownBlock) (.slice A3 l3.length c3) l3) ∧ Aside0 (Kd.N k41 41 w' w.heap.size (fun k_ => (P3_ k_ ∨ w.heap.size ≤ k_)) v11 x11_2) ∧ Aside0 (Below w.heap.size w w'))
    case atStart => exact ⟨(([] : List (S41))), (0), (by first | rfl | (simp; done) | (simp [*]; done) | (refine congrArg (Value.int _) ?_; omega) | (refine congrArg Value.bool ?_; generalize ByteArray.toList _ = z_; cases z_ <;> rfl)), H', ⟨Nat.le_refl _⟩, ⟨by (with_reducible repeat (first | apply Kd.V_alloc | apply Kd.V_drewN | apply Kd.V_drew)); exact Kd.V_mono HO_3.out (fun _ hk => ⟨hk, (by simp [Value.ownBlock])⟩)⟩, ⟨by first | exact Kd.S_nil _ _ _ _ _ | exact Kd.N_nil _ _ _ _ _ | exact Kd.V_nil _ _ _ _ _ | exact Kd.Q_nil _ _ _ _ _ | exact Kd.R_nil _ _ _ _ _⟩, ⟨by repeat (first | (with_reducible first | exact HB.out | apply below_alloc | apply pw_below_drewN | apply below_drew1) | exact HB.out)⟩⟩
    case round =>
     clear H'
     try clear c1
     try clear c2
     try clear p2
     try clear c3
     try clear c5
     try clear c9
     try clear c10
     try clear c11
     try clear p2
     obtain ⟨x11_2, x12_2, rfl, HA, HK2, HO_3, HO_11, HB⟩ := hrel
     cases gk with
     | zero => exact absurd HA.out (by simp [gudgeonlaw17_WordAlike.l0])
     | succ k2 =>
      have H := HA.out
      clear HA
      simp only [gudgeonlaw17_WordAlike.l0] at H
      by_cases c12 : x12_2 < (l2.length : Int)
      ·rw [if_pos c12] at H
       have c12b0 : decide (x12_2 < (l2.length : Int)) = true := decide_eq_true c12
       clear c12
       by_cases c13 : 0 ≤ x12_2
       ·rw [if_pos c13] at H
        have c13b0 : decide (0 ≤ x12_2) = true := decide_eq_true c13
        clear c13
        by_cases c14 : x11_2.length < 4398046511104
        ·rw [if_pos c14] at H
         have LMc14 := Aside0.mk c14
         clear c14
         obtain ⟨y501, hy501⟩ : ∃ y_ : List (S41), y_ = (x11_2 ++ [(⟨rd l2 x12_2, ([] : List (S71))⟩ : S41)]) := ⟨_, rfl⟩
         replace H : (gudgeonlaw17_WordAlike.l0 k2 l0 l1 l2 l3 y501 (wrap64 (x12_2 + 1))) = some r := by first | (rw [hy501]; with_reducible exact H) | (have H2_ := (Option.bind_some _ _).symm.trans H; rw [hy501]; with_reducible exact H2_) | (have H2_ := (Option.bind_some _ _).symm.trans H; with_reducible exact H2_) | with_reducible exact H | (rw [hy501]; exact H) | exact H
         have Ny501 := Aside0.mk hy501
         clear hy501
         have H' := Aside0.mk H
         clear H
         have p500 : 0 ≤ (x12_2 : Int) := of_decide_eq_true (by first | (with_reducible assumption) | assumption)
         have q500 : x12_2 < (l2.length : Int) := of_decide_eq_true (by first | (with_reducible assumption) | assumption)
         obtain ⟨ad500, e500, hx500_0⟩ := Kd.at_int HR2.out x12_2 p500 q500
         cases e500
         replace hx500_0 := (HB.out.cell (World.block_lt_of_cell? w _ hx500_0)).trans hx500_0
         replace p500 := eq_true p500
         replace q500 := eq_true q500
         go_wp2_with (first | ((with_reducible refine gate_builtin (b := .append) (xs := #[.tmp 41, .tmp 47]) rfl ?_); (try (refine gate_guard (by rfl) ?_; dsimp only)); at_builtin; refine Kd.N_append k41 (w0 := w) w.heap.size rfl (.tmp 41) (.tmp 47) 31 41 (.agg #[(.int .i64 0), (.slice none 0 0)]) 32 rfl Try.underlying31 info41 rfl (by decide) (by omega) u11 x11_2 (⟨rd l2 x12_2, ([] : List (S71))⟩ : S41) [.int .i64 (rd l2 x12_2), .slice none 0 0] (fun k_ => (P3_ k_ ∨ w.heap.size ≤ k_)) (fun k_ => ((fun k_ => (P3_ k_ ∨ w.heap.size ≤ k_))) k_ ∧ some k_ ≠ (u11 : Value).ownBlock) rfl rfl ?aP (fun _ hk => hk) ?aF ?aO ?aB ?aS ?aL ?_; (case aP => exact (k41_mkF _ _ (⟨rd l2 x12_2, ([] : List (S71))⟩ : S41) (Nat.le_refl _) (Kd.F_nil _ _ _))); (case aB => exact (by repeat (first | (with_reducible first | exact HB.out | apply below_alloc | apply pw_below_drewN | apply below_drew1) | exact HB.out))); (case aF => exact (fun k_ hk => (.inr (Nat.le_trans (below_size (by repeat (first | (with_reducible first | exact HB.out | apply below_alloc | apply pw_below_drewN | apply below_drew1) | exact HB.out))) hk)))); (case aO => exact (by (with_reducible repeat (first | apply Kd.N_alloc | apply Kd.N_drewN | apply Kd.N_drew)); exact HO_11.out)); (case aS => exact (below_size (by repeat (first | (with_reducible first | exact HB.out | apply below_alloc | apply pw_below_drewN | apply below_drew1) | exact HB.out)))); (case aL => have := LMc14.out; omega); intro v502 w15 ho hb hg hat; rw [← Ny501.out] at ho; have n0_ := Aside0.mk (Kd.V_afterv (ok := (fun k_ => (P3_ k_ ∨ w.heap.size ≤ k_))) (by (with_reducible repeat (first | apply Kd.V_alloc | apply Kd.V_drewN | apply Kd.V_drew)); exact HO_3.out) hg hat); have n1_ := Aside0.mk (hb); have n2_ := Aside0.mk (ho); clear HO_3; clear HB; clear HO_11; have HO_3 := n0_; have HB := n1_; have HO503 := n2_; clear n0_ n1_ n2_; clear ho hb hg hat))
         go_roundg k2
         case measure => have := HJ6.out; have := HK2.out; omega
         case rel => exact ⟨(y501), (wrap64 (x12_2 + 1)), (by first | rfl | (simp; done) | (simp [*]; done) | (refine congrArg (Value.int _) ?_; omega) | (refine congrArg Value.bool ?_; generalize ByteArray.toList _ = z_; cases z_ <;> rfl)), H', ⟨by have := HJ6.out; have := HK2.out; omega⟩, ⟨by (with_reducible repeat (first | apply Kd.V_alloc | apply Kd.V_drewN | apply Kd.V_drew)); exact HO_3.out⟩, ⟨by (with_reducible repeat (first | apply Kd.N_alloc | apply Kd.N_drewN | apply Kd.N_drew)); exact HO503.out⟩, ⟨by repeat (first | (with_reducible first | exact HB.out | apply below_alloc | apply pw_below_drewN | apply below_drew1) | exact HB.out)⟩⟩
        ·rw [if_neg c14] at H
         exact absurd H (by simp)
       ·rw [if_neg c13] at H
        exact absurd H (by simp)
      ·rw [if_neg c12] at H
       have c12b0 : decide (x12_2 < (l2.length : Int)) = false := decide_eq_false c12
       clear c12
       by_cases c16 : x11_2.length + l3.length < 4398046511104
       ·rw [if_pos c16] at H
        have LMc16 := Aside0.mk c16
        clear c16
        obtain ⟨y504, hy504⟩ : ∃ y_ : List (S41), y_ = (x11_2 ++ l3) := ⟨_, rfl⟩
        replace H : ((word_Alike.f k2 l0 l1 l2).bind fun t507 => (if t507 = true then ((word_Value.f k2 l0 y504).bind fun bt508 => ((word_Value.f k2 l1 y504).bind fun bt512 => ((gudgeonref07_Texts.f k2 bt508.1 bt512.1).bind fun t516 => (if t516 = true then (some (bt508.2 == bt512.2)) else (some false))))) else (some true))) = some r := by first | (rw [hy504]; with_reducible exact H) | (have H2_ := (Option.bind_some _ _).symm.trans H; rw [hy504]; with_reducible exact H2_) | (have H2_ := (Option.bind_some _ _).symm.trans H; with_reducible exact H2_) | with_reducible exact H | (rw [hy504]; exact H) | exact H
        have Ny504 := Aside0.mk hy504
        clear hy504
        replace H := Option.bind_eq_some_iff.mp H
        obtain ⟨t507, A170, H⟩ := H
        replace H : (if t507 = true then ((word_Value.f k2 l0 y504).bind fun bt508 => ((word_Value.f k2 l1 y504).bind fun bt512 => ((gudgeonref07_Texts.f k2 bt508.1 bt512.1).bind fun t516 => (if t516 = true then (some (bt508.2 == bt512.2)) else (some false))))) else (some true)) = some r := H
        have A17 := Aside0.mk A170
        clear A170
        by_cases c18 : t507 = true
        ·subst c18
         have H1 : ((word_Value.f k2 l0 y504).bind fun bt508 => ((word_Value.f k2 l1 y504).bind fun bt512 => ((gudgeonref07_Texts.f k2 bt508.1 bt512.1).bind fun t516 => (if t516 = true then (some (bt508.2 == bt512.2)) else (some false))))) = some r := by rw [if_pos rfl] at H; exact H
         clear H
         have H := H1
         clear H1
         replace H := Option.bind_eq_some_iff.mp H
         obtain ⟨⟨t508, t509⟩, A190, H⟩ := H
         replace H : ((word_Value.f k2 l1 y504).bind fun bt512 => ((gudgeonref07_Texts.f k2 t508 bt512.1).bind fun t516 => (if t516 = true then (some (t509 == bt512.2)) else (some false)))) = some r := H
         have A19 := Aside0.mk A190
         clear A190
         replace H := Option.bind_eq_some_iff.mp H
         obtain ⟨⟨t512, t513⟩, A200, H⟩ := H
         replace H : ((gudgeonref07_Texts.f k2 t508 t512).bind fun t516 => (if t516 = true then (some (t509 == t513)) else (some false))) = some r := H
         have A20 := Aside0.mk A200
         clear A200
         replace H := Option.bind_eq_some_iff.mp H
         obtain ⟨t516, A210, H⟩ := H
         replace H : (if t516 = true then (some (t509 == t513)) else (some false)) = some r := H
         have A21 := Aside0.mk A210
         clear A210
         by_cases c22 : t516 = true
         ·subst c22
          have H1 : (some (t509 == t513)) = some r := by rw [if_pos rfl] at H; exact H
          clear H
          have H := H1
          clear H1
          obtain rfl := Option.some.inj H
          go_wp2_with (first | ((with_reducible refine gate_builtin (b := .append) (xs := #[.tmp 49, .tmp 50]) rfl ?_); (try (refine gate_guard (by rfl) ?_; dsimp only)); at_builtin; refine Kd.N_append_rows k41 (w0 := w) w.heap.size rfl (.tmp 49) (.tmp 50) 31 41 (.agg #[(.int .i64 0), (.slice none 0 0)]) 32 rfl Try.underlying31 info41 rfl (by decide) (by omega) u11 x11_2 l3 _ _ _ (fun k_ => (P3_ k_ ∨ w.heap.size ≤ k_)) (fun k_ => ((fun k_ => (P3_ k_ ∨ w.heap.size ≤ k_))) k_ ∧ some k_ ≠ (u11 : Value).ownBlock) rfl rfl ?aO ?aR (fun _ hk => hk) ?aF ?aB ?aS ?aL ?_; (case aR => exact (by skip; exact Kd.V_F (Kd.V_mono (ok' := (fun k_ => ((fun k_ => (P3_ k_ ∨ w.heap.size ≤ k_))) k_ ∧ some k_ ≠ (u11 : Value).ownBlock)) (HO_3.out) (fun k_ hk => by first | exact ⟨hk.1, hk.2⟩ | ((repeat' refine ⟨?_, ?_⟩) <;> (first | exact hk.1 | exact hk.2 | exact hk.1.1 | exact hk.1.2 | exact hk.2.1 | exact hk.2.2 | exact hk.1.1.1 | exact hk.1.1.2 | exact hk.1.2.1 | exact hk.1.2.2 | exact hk.2.1.1 | exact hk.2.1.2 | exact hk.2.2.1 | exact hk.2.2.2 | exact hk.1.1.1.1 | exact hk.1.1.1.2 | exact hk.1.1.2.1 | exact hk.1.1.2.2 | exact hk.1.2.1.1 | exact hk.1.2.1.2 | exact hk.1.2.2.1 | exact hk.1.2.2.2 | exact hk.2.1.1.1 | exact hk.2.1.1.2 | exact hk.2.1.2.1 | exact hk.2.1.2.2 | exact hk.2.2.1.1 | exact hk.2.2.1.2 | exact hk.2.2.2.1 | exact hk.2.2.2.2)))))); (case aB => exact (by repeat (first | (with_reducible first | exact HB.out | apply below_alloc | apply pw_below_drewN | apply below_drew1) | exact HB.out))); (case aF => exact (fun k_ hk => (.inr (Nat.le_trans (below_size (by repeat (first | (with_reducible first | exact HB.out | apply below_alloc | apply pw_below_drewN | apply below_drew1) | exact HB.out))) hk)))); (case aO => exact (by (with_reducible repeat (first | apply Kd.N_alloc | apply Kd.N_drewN | apply Kd.N_drew)); exact HO_11.out)); (case aS => exact (below_size (by repeat (first | (with_reducible first | exact HB.out | apply below_alloc | apply pw_below_drewN | apply below_drew1) | exact HB.out)))); (case aL => have := LMc16.out; omega); intro v505 w23 ho hb hg hat; rw [← Ny504.out] at ho; have n0_ := Aside0.mk (Kd.V_afterv (ok := (fun k_ => (P3_ k_ ∨ w.heap.size ≤ k_))) (by (with_reducible repeat (first | apply Kd.V_alloc | apply Kd.V_drewN | apply Kd.V_drew)); exact HO_3.out) hg hat); have n1_ := Aside0.mk (hb); have n2_ := Aside0.mk (ho); clear HO_3; clear HB; clear HO_11; have HO_3 := n0_; have HB := n1_; have HO506 := n2_; clear n0_ n1_ n2_; clear ho hb hg hat) | ((with_reducible refine gate_callee (f := 20) rfl ?_); refine goesL_ (some 55) rfl rfl Try.func20 (by kernel_rfl) rfl #[.slice A0 l0.length c0, .slice A1 l1.length c1, .slice A2 l2.length c2] rfl (by (try simp only [List.map_toArray, List.map_cons, List.map_nil]); first | done | rfl | (simp only [List.length_drop, List.length_take]; rfl)) ?_; (with_reducible refine (word_Alike.calls k2 _ _ l0 _ _ l1 _ _ l2 true _ ?side1 ?side2 ?side3 ?side4 ?side5 ?side6 A17.out).mono ?_); (case side1 => repeat (first | exact (Kd.C_below HR0.out HB.out) | (with_reducible refine Kd.C_alloc ?_ _) | (with_reducible refine Kd.C_drewN ?_ _) | (with_reducible refine Kd.C_drew ?_))); (case side2 => exact HC0.out); (case side3 => repeat (first | exact (Kd.C_below HR1.out HB.out) | (with_reducible refine Kd.C_alloc ?_ _) | (with_reducible refine Kd.C_drewN ?_ _) | (with_reducible refine Kd.C_drew ?_))); (case side4 => exact HC1.out); (case side5 => repeat (first | exact (Kd.C_below HR2.out HB.out) | (with_reducible refine Kd.C_alloc ?_ _) | (with_reducible refine Kd.C_drewN ?_ _) | (with_reducible refine Kd.C_drew ?_))); (case side6 => exact HC2.out); rintro e w24 ⟨rfl, hb⟩; refine ⟨_, rfl, ?_⟩; have n0_ := Aside0.mk (Kd.V_below (by (with_reducible repeat (first | apply Kd.V_alloc | apply Kd.V_drewN | apply Kd.V_drew)); exact HO_3.out) hb); have n1_ := Aside0.mk (Kd.N_below (by (with_reducible repeat (first | apply Kd.N_alloc | apply Kd.N_drewN | apply Kd.N_drew)); exact HO506.out) hb); have n2_ := Aside0.mk (below_step (by repeat (first | (with_reducible first | exact HB.out | apply below_alloc | apply pw_below_drewN | apply below_drew1) | exact HB.out)) hb); clear HO_3; clear HO506; clear HB; have HO_3 := n0_; have HO506 := n1_; have HB := n2_; clear n0_ n1_ n2_; (try clear hb); (try clear hb2); (try clear hk); (try clear hi); obtain ⟨Ao25, co25, eo25⟩ := Kd.N_slice HO506.out; subst eo25) | ((with_reducible refine gate_callee (f := 18) rfl ?_); refine goesL_ (some 60) rfl rfl Try.func18 (by kernel_rfl) rfl #[.slice A0 l0.length c0, .slice Ao25 y504.length co25] rfl (by (try simp only [List.map_toArray, List.map_cons, List.map_nil]); first | done | rfl | (simp only [List.length_drop, List.length_take]; rfl)) ?_; (with_reducible refine (word_Value.calls k2 _ _ l0 _ _ y504 t508 t509 _ ?side1 ?side2 ?side3 ?side4 A19.out).mono ?_); (case side1 => repeat (first | exact (Kd.C_below HR0.out HB.out) | (with_reducible refine Kd.C_alloc ?_ _) | (with_reducible refine Kd.C_drewN ?_ _) | (with_reducible refine Kd.C_drew ?_))); (case side2 => exact HC0.out); (case side3 => repeat (first | exact (Kd.N_reads' HO506.out).2.2 | (with_reducible refine Kd.C_alloc ?_ _) | (with_reducible refine Kd.C_drewN ?_ _) | (with_reducible refine Kd.C_drew ?_))); (case side4 => exact (Kd.N_reads' HO506.out).2.1); rintro e w26 ⟨v510, rfl, ho0, hb⟩; refine ⟨_, rfl, ?_⟩; have n0_ := Aside0.mk (Kd.V_elder' (by (with_reducible repeat (first | apply Kd.V_alloc | apply Kd.V_drewN | apply Kd.V_drew)); exact HO_3.out) (Kd.R_base ho0) hb); have n1_ := Aside0.mk (Kd.N_elder' (by (with_reducible repeat (first | apply Kd.N_alloc | apply Kd.N_drewN | apply Kd.N_drew)); exact HO506.out) (Kd.R_base ho0) hb); have n2_ := Aside0.mk (Kd.R_lower (Kd.R_newM (M := fun k_ => (w.heap.size ≤ k_)) ho0 (below_size (by repeat (first | (with_reducible first | exact HB.out | apply below_alloc | apply pw_below_drewN | apply below_drew1) | exact HB.out))) (fun k_ h_ => h_)) (below_size (by repeat (first | (with_reducible first | exact HB.out | apply below_alloc | apply pw_below_drewN | apply below_drew1) | exact HB.out)))); have n3_ := Aside0.mk (below_step (by repeat (first | (with_reducible first | exact HB.out | apply below_alloc | apply pw_below_drewN | apply below_drew1) | exact HB.out)) hb); clear HO_3; clear HO506; clear HB; have HO_3 := n0_; have HO506 := n1_; have HO511 := n2_; have HB := n3_; clear n0_ n1_ n2_ n3_; (try clear hb); (try clear hb2); (try clear hk); (try clear hi); (try clear ho0)) | ((with_reducible refine gate_callee (f := 18) rfl ?_); refine goesL_ (some 66) rfl rfl Try.func18 (by kernel_rfl) rfl #[.slice A1 l1.length c1, .slice Ao25 y504.length co25] rfl (by (try simp only [List.map_toArray, List.map_cons, List.map_nil]); first | done | rfl | (simp only [List.length_drop, List.length_take]; rfl)) ?_; (with_reducible refine (word_Value.calls k2 _ _ l1 _ _ y504 t512 t513 _ ?side1 ?side2 ?side3 ?side4 A20.out).mono ?_); (case side1 => repeat (first | exact (Kd.C_below HR1.out HB.out) | (with_reducible refine Kd.C_alloc ?_ _) | (with_reducible refine Kd.C_drewN ?_ _) | (with_reducible refine Kd.C_drew ?_))); (case side2 => exact HC1.out); (case side3 => repeat (first | exact (Kd.N_reads' HO506.out).2.2 | (with_reducible refine Kd.C_alloc ?_ _) | (with_reducible refine Kd.C_drewN ?_ _) | (with_reducible refine Kd.C_drew ?_))); (case side4 => exact (Kd.N_reads' HO506.out).2.1); rintro e w27 ⟨v514, rfl, ho0, hb⟩; refine ⟨_, rfl, ?_⟩; have n0_ := Aside0.mk (Kd.V_elder' (by (with_reducible repeat (first | apply Kd.V_alloc | apply Kd.V_drewN | apply Kd.V_drew)); exact HO_3.out) (Kd.R_base ho0) hb); have n1_ := Aside0.mk (Kd.N_elder' (by (with_reducible repeat (first | apply Kd.N_alloc | apply Kd.N_drewN | apply Kd.N_drew)); exact HO506.out) (Kd.R_base ho0) hb); have n2_ := Aside0.mk (Kd.R_elder' (by (with_reducible repeat (first | apply Kd.R_alloc | apply Kd.R_drewN | apply Kd.R_drew)); exact HO511.out) (Kd.R_base ho0) hb); have n3_ := Aside0.mk (Kd.R_lower (Kd.R_new' (Kd.R_newM (M := fun k_ => (w.heap.size ≤ k_)) ho0 (below_size (by repeat (first | (with_reducible first | exact HB.out | apply below_alloc | apply pw_below_drewN | apply below_drew1) | exact HB.out))) (fun k_ h_ => h_)) (Kd.R_lt (by (with_reducible repeat (first | apply Kd.R_alloc | apply Kd.R_drewN | apply Kd.R_drew)); exact HO511.out))) (below_size (by repeat (first | (with_reducible first | exact HB.out | apply below_alloc | apply pw_below_drewN | apply below_drew1) | exact HB.out)))); have n4_ := Aside0.mk (below_step (by repeat (first | (with_reducible first | exact HB.out | apply below_alloc | apply pw_below_drewN | apply below_drew1) | exact HB.out)) hb); clear HO_3; clear HO506; clear HO511; clear HB; have HO_3 := n0_; have HO506 := n1_; have HO511 := n2_; have HO515 := n3_; have HB := n4_; clear n0_ n1_ n2_ n3_ n4_; (try clear hb); (try clear hb2); (try clear hk); (try clear hi); (try clear ho0); obtain ⟨Ao28, co28, eo28⟩ := Kd.R_slice HO511.out; subst eo28; obtain ⟨Ao29, co29, eo29⟩ := Kd.R_slice HO515.out; subst eo29) | ((with_reducible refine gate_callee (f := 19) rfl ?_); refine goesL_ (some 71) rfl rfl Try.func19 (by kernel_rfl) rfl #[.slice Ao28 t508.length co28, .slice Ao29 t512.length co29] rfl (by (try simp only [List.map_toArray, List.map_cons, List.map_nil]); first | done | rfl | (simp only [List.length_drop, List.length_take]; rfl)) ?_; (with_reducible refine (gudgeonref07_Texts.calls k2 _ _ t508 _ _ t512 true _ ?side1 ?side2 ?side3 ?side4 A21.out).mono ?_); (case side1 => repeat (first | exact (Kd.R_reads' HO511.out).2.2 | (with_reducible refine Kd.C_alloc ?_ _) | (with_reducible refine Kd.C_drewN ?_ _) | (with_reducible refine Kd.C_drew ?_))); (case side2 => exact (Kd.R_reads' HO511.out).2.1); (case side3 => repeat (first | exact (Kd.R_reads' HO515.out).2.2 | (with_reducible refine Kd.C_alloc ?_ _) | (with_reducible refine Kd.C_drewN ?_ _) | (with_reducible refine Kd.C_drew ?_))); (case side4 => exact (Kd.R_reads' HO515.out).2.1); rintro e w' ⟨rfl, ⟨nd, rfl⟩⟩; refine ⟨_, rfl, ?_⟩))
          go_ret
          exact ⟨by first | rfl | (simp [errW_none, errW_some] <;> rfl) | (refine congrArg (fun z_ => Ending.returned (Value.bool z_)) (decide_eq_decide.mpr ?_); unfold wrap64; omega) | (simp [*, errW_none, errW_some] <;> rfl), by repeat (first | (with_reducible first | exact HB.out | apply below_alloc | apply pw_below_drewN | apply below_drew1) | exact HB.out)⟩
         ·replace c22 := Bool.eq_false_iff.mpr c22
          subst c22
          have H1 : (some false) = some r := by rw [if_neg (show ¬ (false = true) by decide)] at H; exact H
          clear H
          have H := H1
          clear H1
          obtain rfl := Option.some.inj H
          go_wp2_with (first | ((with_reducible refine gate_builtin (b := .append) (xs := #[.tmp 49, .tmp 50]) rfl ?_); (try (refine gate_guard (by rfl) ?_; dsimp only)); at_builtin; refine Kd.N_append_rows k41 (w0 := w) w.heap.size rfl (.tmp 49) (.tmp 50) 31 41 (.agg #[(.int .i64 0), (.slice none 0 0)]) 32 rfl Try.underlying31 info41 rfl (by decide) (by omega) u11 x11_2 l3 _ _ _ (fun k_ => (P3_ k_ ∨ w.heap.size ≤ k_)) (fun k_ => ((fun k_ => (P3_ k_ ∨ w.heap.size ≤ k_))) k_ ∧ some k_ ≠ (u11 : Value).ownBlock) rfl rfl ?aO ?aR (fun _ hk => hk) ?aF ?aB ?aS ?aL ?_; (case aR => exact (by skip; exact Kd.V_F (Kd.V_mono (ok' := (fun k_ => ((fun k_ => (P3_ k_ ∨ w.heap.size ≤ k_))) k_ ∧ some k_ ≠ (u11 : Value).ownBlock)) (HO_3.out) (fun k_ hk => by first | exact ⟨hk.1, hk.2⟩ | ((repeat' refine ⟨?_, ?_⟩) <;> (first | exact hk.1 | exact hk.2 | exact hk.1.1 | exact hk.1.2 | exact hk.2.1 | exact hk.2.2 | exact hk.1.1.1 | exact hk.1.1.2 | exact hk.1.2.1 | exact hk.1.2.2 | exact hk.2.1.1 | exact hk.2.1.2 | exact hk.2.2.1 | exact hk.2.2.2 | exact hk.1.1.1.1 | exact hk.1.1.1.2 | exact hk.1.1.2.1 | exact hk.1.1.2.2 | exact hk.1.2.1.1 | exact hk.1.2.1.2 | exact hk.1.2.2.1 | exact hk.1.2.2.2 | exact hk.2.1.1.1 | exact hk.2.1.1.2 | exact hk.2.1.2.1 | exact hk.2.1.2.2 | exact hk.2.2.1.1 | exact hk.2.2.1.2 | exact hk.2.2.2.1 | exact hk.2.2.2.2)))))); (case aB => exact (by repeat (first | (with_reducible first | exact HB.out | apply below_alloc | apply pw_below_drewN | apply below_drew1) | exact HB.out))); (case aF => exact (fun k_ hk => (.inr (Nat.le_trans (below_size (by repeat (first | (with_reducible first | exact HB.out | apply below_alloc | apply pw_below_drewN | apply below_drew1) | exact HB.out))) hk)))); (case aO => exact (by (with_reducible repeat (first | apply Kd.N_alloc | apply Kd.N_drewN | apply Kd.N_drew)); exact HO_11.out)); (case aS => exact (below_size (by repeat (first | (with_reducible first | exact HB.out | apply below_alloc | apply pw_below_drewN | apply below_drew1) | exact HB.out)))); (case aL => have := LMc16.out; omega); intro v505 w30 ho hb hg hat; rw [← Ny504.out] at ho; have n0_ := Aside0.mk (Kd.V_afterv (ok := (fun k_ => (P3_ k_ ∨ w.heap.size ≤ k_))) (by (with_reducible repeat (first | apply Kd.V_alloc | apply Kd.V_drewN | apply Kd.V_drew)); exact HO_3.out) hg hat); have n1_ := Aside0.mk (hb); have n2_ := Aside0.mk (ho); clear HO_3; clear HB; clear HO_11; have HO_3 := n0_; have HB := n1_; have HO506 := n2_; clear n0_ n1_ n2_; clear ho hb hg hat) | ((with_reducible refine gate_callee (f := 20) rfl ?_); refine goesL_ (some 55) rfl rfl Try.func20 (by kernel_rfl) rfl #[.slice A0 l0.length c0, .slice A1 l1.length c1, .slice A2 l2.length c2] rfl (by (try simp only [List.map_toArray, List.map_cons, List.map_nil]); first | done | rfl | (simp only [List.length_drop, List.length_take]; rfl)) ?_; (with_reducible refine (word_Alike.calls k2 _ _ l0 _ _ l1 _ _ l2 true _ ?side1 ?side2 ?side3 ?side4 ?side5 ?side6 A17.out).mono ?_); (case side1 => repeat (first | exact (Kd.C_below HR0.out HB.out) | (with_reducible refine Kd.C_alloc ?_ _) | (with_reducible refine Kd.C_drewN ?_ _) | (with_reducible refine Kd.C_drew ?_))); (case side2 => exact HC0.out); (case side3 => repeat (first | exact (Kd.C_below HR1.out HB.out) | (with_reducible refine Kd.C_alloc ?_ _) | (with_reducible refine Kd.C_drewN ?_ _) | (with_reducible refine Kd.C_drew ?_))); (case side4 => exact HC1.out); (case side5 => repeat (first | exact (Kd.C_below HR2.out HB.out) | (with_reducible refine Kd.C_alloc ?_ _) | (with_reducible refine Kd.C_drewN ?_ _) | (with_reducible refine Kd.C_drew ?_))); (case side6 => exact HC2.out); rintro e w31 ⟨rfl, hb⟩; refine ⟨_, rfl, ?_⟩; have n0_ := Aside0.mk (Kd.V_below (by (with_reducible repeat (first | apply Kd.V_alloc | apply Kd.V_drewN | apply Kd.V_drew)); exact HO_3.out) hb); have n1_ := Aside0.mk (Kd.N_below (by (with_reducible repeat (first | apply Kd.N_alloc | apply Kd.N_drewN | apply Kd.N_drew)); exact HO506.out) hb); have n2_ := Aside0.mk (below_step (by repeat (first | (with_reducible first | exact HB.out | apply below_alloc | apply pw_below_drewN | apply below_drew1) | exact HB.out)) hb); clear HO_3; clear HO506; clear HB; have HO_3 := n0_; have HO506 := n1_; have HB := n2_; clear n0_ n1_ n2_; (try clear hb); (try clear hb2); (try clear hk); (try clear hi); obtain ⟨Ao32, co32, eo32⟩ := Kd.N_slice HO506.out; subst eo32) | ((with_reducible refine gate_callee (f := 18) rfl ?_); refine goesL_ (some 60) rfl rfl Try.func18 (by kernel_rfl) rfl #[.slice A0 l0.length c0, .slice Ao32 y504.length co32] rfl (by (try simp only [List.map_toArray, List.map_cons, List.map_nil]); first | done | rfl | (simp only [List.length_drop, List.length_take]; rfl)) ?_; (with_reducible refine (word_Value.calls k2 _ _ l0 _ _ y504 t508 t509 _ ?side1 ?side2 ?side3 ?side4 A19.out).mono ?_); (case side1 => repeat (first | exact (Kd.C_below HR0.out HB.out) | (with_reducible refine Kd.C_alloc ?_ _) | (with_reducible refine Kd.C_drewN ?_ _) | (with_reducible refine Kd.C_drew ?_))); (case side2 => exact HC0.out); (case side3 => repeat (first | exact (Kd.N_reads' HO506.out).2.2 | (with_reducible refine Kd.C_alloc ?_ _) | (with_reducible refine Kd.C_drewN ?_ _) | (with_reducible refine Kd.C_drew ?_))); (case side4 => exact (Kd.N_reads' HO506.out).2.1); rintro e w33 ⟨v510, rfl, ho0, hb⟩; refine ⟨_, rfl, ?_⟩; have n0_ := Aside0.mk (Kd.V_elder' (by (with_reducible repeat (first | apply Kd.V_alloc | apply Kd.V_drewN | apply Kd.V_drew)); exact HO_3.out) (Kd.R_base ho0) hb); have n1_ := Aside0.mk (Kd.N_elder' (by (with_reducible repeat (first | apply Kd.N_alloc | apply Kd.N_drewN | apply Kd.N_drew)); exact HO506.out) (Kd.R_base ho0) hb); have n2_ := Aside0.mk (Kd.R_lower (Kd.R_newM (M := fun k_ => (w.heap.size ≤ k_)) ho0 (below_size (by repeat (first | (with_reducible first | exact HB.out | apply below_alloc | apply pw_below_drewN | apply below_drew1) | exact HB.out))) (fun k_ h_ => h_)) (below_size (by repeat (first | (with_reducible first | exact HB.out | apply below_alloc | apply pw_below_drewN | apply below_drew1) | exact HB.out)))); have n3_ := Aside0.mk (below_step (by repeat (first | (with_reducible first | exact HB.out | apply below_alloc | apply pw_below_drewN | apply below_drew1) | exact HB.out)) hb); clear HO_3; clear HO506; clear HB; have HO_3 := n0_; have HO506 := n1_; have HO511 := n2_; have HB := n3_; clear n0_ n1_ n2_ n3_; (try clear hb); (try clear hb2); (try clear hk); (try clear hi); (try clear ho0)) | ((with_reducible refine gate_callee (f := 18) rfl ?_); refine goesL_ (some 66) rfl rfl Try.func18 (by kernel_rfl) rfl #[.slice A1 l1.length c1, .slice Ao32 y504.length co32] rfl (by (try simp only [List.map_toArray, List.map_cons, List.map_nil]); first | done | rfl | (simp only [List.length_drop, List.length_take]; rfl)) ?_; (with_reducible refine (word_Value.calls k2 _ _ l1 _ _ y504 t512 t513 _ ?side1 ?side2 ?side3 ?side4 A20.out).mono ?_); (case side1 => repeat (first | exact (Kd.C_below HR1.out HB.out) | (with_reducible refine Kd.C_alloc ?_ _) | (with_reducible refine Kd.C_drewN ?_ _) | (with_reducible refine Kd.C_drew ?_))); (case side2 => exact HC1.out); (case side3 => repeat (first | exact (Kd.N_reads' HO506.out).2.2 | (with_reducible refine Kd.C_alloc ?_ _) | (with_reducible refine Kd.C_drewN ?_ _) | (with_reducible refine Kd.C_drew ?_))); (case side4 => exact (Kd.N_reads' HO506.out).2.1); rintro e w34 ⟨v514, rfl, ho0, hb⟩; refine ⟨_, rfl, ?_⟩; have n0_ := Aside0.mk (Kd.V_elder' (by (with_reducible repeat (first | apply Kd.V_alloc | apply Kd.V_drewN | apply Kd.V_drew)); exact HO_3.out) (Kd.R_base ho0) hb); have n1_ := Aside0.mk (Kd.N_elder' (by (with_reducible repeat (first | apply Kd.N_alloc | apply Kd.N_drewN | apply Kd.N_drew)); exact HO506.out) (Kd.R_base ho0) hb); have n2_ := Aside0.mk (Kd.R_elder' (by (with_reducible repeat (first | apply Kd.R_alloc | apply Kd.R_drewN | apply Kd.R_drew)); exact HO511.out) (Kd.R_base ho0) hb); have n3_ := Aside0.mk (Kd.R_lower (Kd.R_new' (Kd.R_newM (M := fun k_ => (w.heap.size ≤ k_)) ho0 (below_size (by repeat (first | (with_reducible first | exact HB.out | apply below_alloc | apply pw_below_drewN | apply below_drew1) | exact HB.out))) (fun k_ h_ => h_)) (Kd.R_lt (by (with_reducible repeat (first | apply Kd.R_alloc | apply Kd.R_drewN | apply Kd.R_drew)); exact HO511.out))) (below_size (by repeat (first | (with_reducible first | exact HB.out | apply below_alloc | apply pw_below_drewN | apply below_drew1) | exact HB.out)))); have n4_ := Aside0.mk (below_step (by repeat (first | (with_reducible first | exact HB.out | apply below_alloc | apply pw_below_drewN | apply below_drew1) | exact HB.out)) hb); clear HO_3; clear HO506; clear HO511; clear HB; have HO_3 := n0_; have HO506 := n1_; have HO511 := n2_; have HO515 := n3_; have HB := n4_; clear n0_ n1_ n2_ n3_ n4_; (try clear hb); (try clear hb2); (try clear hk); (try clear hi); (try clear ho0); obtain ⟨Ao35, co35, eo35⟩ := Kd.R_slice HO511.out; subst eo35; obtain ⟨Ao36, co36, eo36⟩ := Kd.R_slice HO515.out; subst eo36) | ((with_reducible refine gate_callee (f := 19) rfl ?_); refine goesL_ (some 71) rfl rfl Try.func19 (by kernel_rfl) rfl #[.slice Ao35 t508.length co35, .slice Ao36 t512.length co36] rfl (by (try simp only [List.map_toArray, List.map_cons, List.map_nil]); first | done | rfl | (simp only [List.length_drop, List.length_take]; rfl)) ?_; (with_reducible refine (gudgeonref07_Texts.calls k2 _ _ t508 _ _ t512 false _ ?side1 ?side2 ?side3 ?side4 A21.out).mono ?_); (case side1 => repeat (first | exact (Kd.R_reads' HO511.out).2.2 | (with_reducible refine Kd.C_alloc ?_ _) | (with_reducible refine Kd.C_drewN ?_ _) | (with_reducible refine Kd.C_drew ?_))); (case side2 => exact (Kd.R_reads' HO511.out).2.1); (case side3 => repeat (first | exact (Kd.R_reads' HO515.out).2.2 | (with_reducible refine Kd.C_alloc ?_ _) | (with_reducible refine Kd.C_drewN ?_ _) | (with_reducible refine Kd.C_drew ?_))); (case side4 => exact (Kd.R_reads' HO515.out).2.1); rintro e w' ⟨rfl, ⟨nd, rfl⟩⟩; refine ⟨_, rfl, ?_⟩))
          go_ret
          exact ⟨by first | rfl | (simp [errW_none, errW_some] <;> rfl) | (refine congrArg (fun z_ => Ending.returned (Value.bool z_)) (decide_eq_decide.mpr ?_); unfold wrap64; omega) | (simp [*, errW_none, errW_some] <;> rfl), by repeat (first | (with_reducible first | exact HB.out | apply below_alloc | apply pw_below_drewN | apply below_drew1) | exact HB.out)⟩
        ·replace c18 := Bool.eq_false_iff.mpr c18
         subst c18
         have H1 : (some true) = some r := by rw [if_neg (show ¬ (false = true) by decide)] at H; exact H
         clear H
         have H := H1
         clear H1
         obtain rfl := Option.some.inj H
         go_wp2_with (first | ((with_reducible refine gate_builtin (b := .append) (xs := #[.tmp 49, .tmp 50]) rfl ?_); (try (refine gate_guard (by rfl) ?_; dsimp only)); at_builtin; refine Kd.N_append_rows k41 (w0 := w) w.heap.size rfl (.tmp 49) (.tmp 50) 31 41 (.agg #[(.int .i64 0), (.slice none 0 0)]) 32 rfl Try.underlying31 info41 rfl (by decide) (by omega) u11 x11_2 l3 _ _ _ (fun k_ => (P3_ k_ ∨ w.heap.size ≤ k_)) (fun k_ => ((fun k_ => (P3_ k_ ∨ w.heap.size ≤ k_))) k_ ∧ some k_ ≠ (u11 : Value).ownBlock) rfl rfl ?aO ?aR (fun _ hk => hk) ?aF ?aB ?aS ?aL ?_; (case aR => exact (by skip; exact Kd.V_F (Kd.V_mono (ok' := (fun k_ => ((fun k_ => (P3_ k_ ∨ w.heap.size ≤ k_))) k_ ∧ some k_ ≠ (u11 : Value).ownBlock)) (HO_3.out) (fun k_ hk => by first | exact ⟨hk.1, hk.2⟩ | ((repeat' refine ⟨?_, ?_⟩) <;> (first | exact hk.1 | exact hk.2 | exact hk.1.1 | exact hk.1.2 | exact hk.2.1 | exact hk.2.2 | exact hk.1.1.1 | exact hk.1.1.2 | exact hk.1.2.1 | exact hk.1.2.2 | exact hk.2.1.1 | exact hk.2.1.2 | exact hk.2.2.1 | exact hk.2.2.2 | exact hk.1.1.1.1 | exact hk.1.1.1.2 | exact hk.1.1.2.1 | exact hk.1.1.2.2 | exact hk.1.2.1.1 | exact hk.1.2.1.2 | exact hk.1.2.2.1 | exact hk.1.2.2.2 | exact hk.2.1.1.1 | exact hk.2.1.1.2 | exact hk.2.1.2.1 | exact hk.2.1.2.2 | exact hk.2.2.1.1 | exact hk.2.2.1.2 | exact hk.2.2.2.1 | exact hk.2.2.2.2)))))); (case aB => exact (by repeat (first | (with_reducible first | exact HB.out | apply below_alloc | apply pw_below_drewN | apply below_drew1) | exact HB.out))); (case aF => exact (fun k_ hk => (.inr (Nat.le_trans (below_size (by repeat (first | (with_reducible first | exact HB.out | apply below_alloc | apply pw_below_drewN | apply below_drew1) | exact HB.out))) hk)))); (case aO => exact (by (with_reducible repeat (first | apply Kd.N_alloc | apply Kd.N_drewN | apply Kd.N_drew)); exact HO_11.out)); (case aS => exact (below_size (by repeat (first | (with_reducible first | exact HB.out | apply below_alloc | apply pw_below_drewN | apply below_drew1) | exact HB.out)))); (case aL => have := LMc16.out; omega); intro v505 w37 ho hb hg hat; rw [← Ny504.out] at ho; have n0_ := Aside0.mk (Kd.V_afterv (ok := (fun k_ => (P3_ k_ ∨ w.heap.size ≤ k_))) (by (with_reducible repeat (first | apply Kd.V_alloc | apply Kd.V_drewN | apply Kd.V_drew)); exact HO_3.out) hg hat); have n1_ := Aside0.mk (hb); have n2_ := Aside0.mk (ho); clear HO_3; clear HB; clear HO_11; have HO_3 := n0_; have HB := n1_; have HO506 := n2_; clear n0_ n1_ n2_; clear ho hb hg hat) | ((with_reducible refine gate_callee (f := 20) rfl ?_); refine goesL_ (some 55) rfl rfl Try.func20 (by kernel_rfl) rfl #[.slice A0 l0.length c0, .slice A1 l1.length c1, .slice A2 l2.length c2] rfl (by (try simp only [List.map_toArray, List.map_cons, List.map_nil]); first | done | rfl | (simp only [List.length_drop, List.length_take]; rfl)) ?_; (with_reducible refine (word_Alike.calls k2 _ _ l0 _ _ l1 _ _ l2 false _ ?side1 ?side2 ?side3 ?side4 ?side5 ?side6 A17.out).mono ?_); (case side1 => repeat (first | exact (Kd.C_below HR0.out HB.out) | (with_reducible refine Kd.C_alloc ?_ _) | (with_reducible refine Kd.C_drewN ?_ _) | (with_reducible refine Kd.C_drew ?_))); (case side2 => exact HC0.out); (case side3 => repeat (first | exact (Kd.C_below HR1.out HB.out) | (with_reducible refine Kd.C_alloc ?_ _) | (with_reducible refine Kd.C_drewN ?_ _) | (with_reducible refine Kd.C_drew ?_))); (case side4 => exact HC1.out); (case side5 => repeat (first | exact (Kd.C_below HR2.out HB.out) | (with_reducible refine Kd.C_alloc ?_ _) | (with_reducible refine Kd.C_drewN ?_ _) | (with_reducible refine Kd.C_drew ?_))); (case side6 => exact HC2.out); rintro e w38 ⟨rfl, hb⟩; refine ⟨_, rfl, ?_⟩; have n0_ := Aside0.mk (Kd.V_below (by (with_reducible repeat (first | apply Kd.V_alloc | apply Kd.V_drewN | apply Kd.V_drew)); exact HO_3.out) hb); have n1_ := Aside0.mk (Kd.N_below (by (with_reducible repeat (first | apply Kd.N_alloc | apply Kd.N_drewN | apply Kd.N_drew)); exact HO506.out) hb); have n2_ := Aside0.mk (below_step (by repeat (first | (with_reducible first | exact HB.out | apply below_alloc | apply pw_below_drewN | apply below_drew1) | exact HB.out)) hb); clear HO_3; clear HO506; clear HB; have HO_3 := n0_; have HO506 := n1_; have HB := n2_; clear n0_ n1_ n2_; (try clear hb); (try clear hb2); (try clear hk); (try clear hi)))
         go_ret
         exact ⟨by first | rfl | (simp [errW_none, errW_some] <;> rfl) | (refine congrArg (fun z_ => Ending.returned (Value.bool z_)) (decide_eq_decide.mpr ?_); unfold wrap64; omega) | (simp [*, errW_none, errW_some] <;> rfl), by repeat (first | (with_reducible first | exact HB.out | apply below_alloc | apply pw_below_drewN | apply below_drew1) | exact HB.out)⟩
       ·rw [if_neg c16] at H
        exact absurd H (by simp)

end Go.Proofs.Ytbigeaknbhmniaa.PB
/- What is read as data, of any shape: a kind's reading, type by type. -/
namespace Go.Proofs.Ytbigeaknbhmniaa.H
open Go.RowKit Go.Proofs.YtbigeaknbhmniaaW.PrintWords
/-- Whatever reads as data of the type is of the kind. -/
def Opens {α : Type} (P : Program) (d : Kd α) (t : TypeId) (g : α → Prop) : Prop := P.cellsOf t = d.sz ∧
  ∀ (H : Type) (enc : TypeId × Value → H) (w : World) (base : Nat) (spare : Nat → Bool) (held : Bool) (fuel : Nat) (cs : List Value) (x : DataW H × List MemPlace), DataW.trod enc P w base spare held fuel t cs = some x → ∃ v, d.K w v cs ∧ g v
theorem Opens.int {P : Program} {t : TypeId} {k : IntKind} (ht : P.underlying t = some (.int k)) (hc : P.cellsOf t = 1) : Opens P (Kd.int k) t (fun v => (Lit.int k v).wf = true) :=
  ⟨hc, fun H enc w base spare held fuel cs x h => by obtain ⟨n, e, _, hw⟩ := DataW.trod_int ht h; exact ⟨n, e, hw⟩⟩
theorem Opens.bool {P : Program} {t : TypeId} (ht : P.underlying t = some .bool) (hc : P.cellsOf t = 1) : Opens P Kd.bool t (fun _ => True) :=
  ⟨hc, fun H enc w base spare held fuel cs x h => by obtain ⟨n, e, _⟩ := DataW.trod_bool ht h; exact ⟨n, e, trivial⟩⟩
theorem Opens.string {P : Program} {t : TypeId} (ht : P.underlying t = some .string) (hc : P.cellsOf t = 1) : Opens P Kd.string t (fun s => s.size ≤ maxLen) :=
  ⟨hc, fun H enc w base spare held fuel cs x h => by obtain ⟨n, e, _, hs⟩ := DataW.trod_string ht h; exact ⟨n, e, hs⟩⟩
theorem reads_of_each {α : Type} {P : Program} {d : Kd α} {e : TypeId} {g : α → Prop} {H : Type} {enc : TypeId × Value → H} {w : World} {base : Nat} {spare : Nat → Bool} {held : Bool} {a : Addr} {len m n : Nat} {D : Nat → DataW H} {Pl : Nat → List MemPlace}
    (he : Opens P d e g) (hlm : len ≤ m) (hlen : len ≤ maxLen) (hx : ∀ i, i < m → ∃ cs', w.cells? base (a.add (i * P.cellsOf e)) (P.cellsOf e) = some cs' ∧ DataW.trod enc P w base spare held n e cs' = some (D i, Pl i)) :
    ∃ l : List α, l.length = len ∧ d.C w (some a) len l ∧ ∀ x ∈ l, g x := by
  by_cases h0 : len = 0
  · subst h0; exact ⟨[], rfl, ⟨rfl, Nat.zero_le _, fun h => absurd h (Nat.lt_irrefl 0)⟩, by simp⟩
  have each : ∀ i, i < len → ∃ v : α, (∃ cs', w.cells? base (a.add (i * P.cellsOf e)) (P.cellsOf e) = some cs' ∧ d.K w v cs') ∧ g v := by
    intro i hi
    obtain ⟨cs', h1, h2⟩ := hx i (by omega)
    obtain ⟨v, h3, h4⟩ := he.2 _ _ _ _ _ _ _ _ _ h2
    exact ⟨v, ⟨cs', h1, h3⟩, h4⟩
  haveI : Inhabited α := ⟨(each 0 (by omega)).choose⟩
  obtain ⟨q, hq⟩ := Go.Deep.choose_lt each
  refine ⟨(List.range len).map q, by simp, ⟨by simp, Nat.le_trans hlen (by decide), fun hn => ⟨a, rfl, fun j p hp => ?_⟩⟩, fun x hx => ?_⟩
  · rw [List.getElem?_map] at hp
    obtain ⟨j', hj', rfl⟩ := Option.map_eq_some_iff.1 hp
    obtain ⟨hjl, rfl⟩ := List.getElem?_eq_some_iff.1 hj'
    rw [List.length_range] at hjl
    simp only [List.getElem_range]
    obtain ⟨cs', h1, h2⟩ := (hq j hjl).1
    obtain ⟨_, hl, hc⟩ := World.cells?_some h1
    rw [he.1] at hl hc
    refine ⟨cs', hl, h2, fun i u hu => ?_⟩
    have hi : i < cs'.length := (List.getElem?_eq_some_iff.1 hu).1
    have := hc i (by omega)
    rw [Go.Deep.add_add] at this
    exact this.trans hu
  · obtain ⟨j, hj, rfl⟩ := List.mem_map.1 hx
    exact (hq j (List.mem_range.1 hj)).2
theorem Opens.slice {α : Type} {P : Program} {d : Kd α} {t e : TypeId} {g : α → Prop} (ht : P.underlying t = some (.slice e)) (hc : P.cellsOf t = 1) (he : Opens P d e g) : Opens P (Kd.slice e d) t (fun l => ∀ x ∈ l, g x) :=
  ⟨hc, fun H enc w base spare held fuel cs x h => by
    rcases Go.Deep.open_slice ht h with ⟨rfl, _⟩ | ⟨a, len, cap, m, n, D, Pl, rfl, hb, hl, hm, hmm, _, hx⟩
    · exact ⟨[], ⟨none, 0, rfl, Nat.le_refl _, ⟨rfl, Nat.zero_le _, fun h => absurd h (Nat.lt_irrefl 0)⟩⟩, by simp⟩
    · have hlm : len ≤ m := by rw [hmm]; split <;> omega
      obtain ⟨l, rfl, h1, h2⟩ := reads_of_each he hlm (Nat.le_trans hl hm) hx
      exact ⟨l, ⟨some a, cap, rfl, hl, h1⟩, h2⟩⟩
theorem Opens.iso {α β : Type} {P : Program} {d : Kd α} {t : TypeId} {g : α → Prop} (h : Opens P d t g) (f : β → α) (inv : ∀ a, ∃ b, f b = a) : Opens P (Kd.iso d f) t (fun b => g (f b)) :=
  ⟨h.1, fun H enc w base spare held fuel cs x hx => by
    obtain ⟨v, h1, h2⟩ := h.2 _ _ _ _ _ _ _ _ _ hx
    obtain ⟨b, rfl⟩ := inv v
    exact ⟨b, h1, h2⟩⟩
/-- The fields from a place on. -/
def OpensAt {α : Type} (P : Program) (N : Nat) (d : Kd α) (fs : List Field) (o : Nat) (g : α → Prop) : Prop := o + d.sz = N ∧
  ∀ (H : Type) (enc : TypeId × Value → H) (w : World) (base : Nat) (spare : Nat → Bool) (held : Bool) (n : Nat) (cs : List Value), cs.length = N → (∀ f ∈ fs, ∃ x, DataW.trod enc P w base spare held n f.type ((cs.drop f.offset).take (P.cellsOf f.type)) = some x) → ∃ v, d.K w v (cs.drop o) ∧ g v
theorem OpensAt.last {α : Type} {P : Program} {N : Nat} {d : Kd α} {f : Field} {o : Nat} {g : α → Prop} (ho : f.offset = o) (h : Opens P d f.type g) (hN : o + d.sz = N) : OpensAt P N d [f] o g :=
  ⟨hN, fun H enc w base spare held n cs hl hf => by
    obtain ⟨x, hx⟩ := hf f List.mem_cons_self
    rw [ho, List.take_of_length_le (by rw [List.length_drop, h.1]; omega)] at hx
    exact h.2 _ _ _ _ _ _ _ _ _ hx⟩
theorem OpensAt.cons {α β : Type} {P : Program} {N : Nat} {d : Kd α} {d' : Kd β} {f : Field} {r : List Field} {o : Nat} {g : α → Prop} {g' : β → Prop} (ho : f.offset = o) (h : Opens P d f.type g) (hr : OpensAt P N d' r (o + d.sz) g') : OpensAt P N (Kd.pair d d') (f :: r) o (fun x => g x.1 ∧ g' x.2) :=
  ⟨by have := hr.1; show o + (d.sz + d'.sz) = N; omega, fun H enc w base spare held n cs hl hf => by
    obtain ⟨x, hx⟩ := hf f List.mem_cons_self
    rw [ho, h.1] at hx
    obtain ⟨v, h1, h2⟩ := h.2 _ _ _ _ _ _ _ _ _ hx
    obtain ⟨v', h3, h4⟩ := hr.2 H enc w base spare held n cs hl (fun f' hf' => hf f' (List.mem_cons_of_mem _ hf'))
    refine ⟨(v, v'), ⟨_, _, ?_, h1, h3⟩, h2, h4⟩
    rw [← List.drop_drop, List.take_append_drop]⟩
theorem Opens.struct {α : Type} {P : Program} {d : Kd α} {t : TypeId} {fs : Array Field} {g : α → Prop} (ht : P.underlying t = some (.struct fs)) (hc : P.cellsOf t = d.sz) (h : OpensAt P d.sz d fs.toList 0 g) : Opens P d t g :=
  ⟨hc, fun H enc w base spare held fuel cs x hx => by
    obtain ⟨xs, n, _, _, hl, hxl, hf⟩ := DataW.trod_struct ht hx
    obtain ⟨v, h1, h2⟩ := h.2 H enc w base spare held n cs (hl.trans hc) (fun f hfm => by
      obtain ⟨i, hi⟩ := List.getElem?_of_mem hfm
      have h1 : fs[i]? = some f := by rw [← Array.getElem?_toList]; exact hi
      have h2 := hf i f h1
      have hlt : i < xs.length := by rw [hxl]; exact (Array.getElem?_eq_some_iff.1 h1).1
      rw [List.getElem?_eq_getElem hlt] at h2
      exact ⟨_, h2⟩)
    exact ⟨v, h1, h2⟩⟩
/-- An argument that is a slice. -/
theorem Opens.arg_slice {α : Type} {P : Program} {d : Kd α} {t e : TypeId} {g : α → Prop} {H : Type} {enc : TypeId × Value → H} {w : World} {base : Nat} {spare : Nat → Bool} {held : Bool} {A : Option Addr} {len cap : Nat} {D : DataW H} {pl : List MemPlace}
    (ht : P.underlying t = some (.slice e)) (he : Opens P d e g) (h : DataW.Trod enc P w base spare held t (.slice A len cap) D pl) :
    ∃ l : List α, l.length = len ∧ len ≤ cap ∧ d.C w A len l ∧ ∀ x ∈ l, g x := by
  obtain ⟨fuel, hf⟩ := h
  rcases Go.Deep.open_slice ht hf with ⟨hcs, _⟩ | ⟨a, len', cap', m, n, D, Pl, hcs, hb, hl, hm, hmm, _, hx⟩
  · simp [Value.cells] at hcs
    obtain ⟨rfl, rfl, rfl⟩ := hcs
    exact ⟨[], rfl, Nat.le_refl _, ⟨rfl, Nat.zero_le _, fun h => absurd h (Nat.lt_irrefl 0)⟩, by simp⟩
  · simp [Value.cells] at hcs
    obtain ⟨rfl, rfl, rfl⟩ := hcs
    have hlm : len ≤ m := by rw [hmm]; split <;> omega
    obtain ⟨l, h0, h1, h2⟩ := reads_of_each he hlm (Nat.le_trans hl hm) hx
    exact ⟨l, h0, hl, h1, h2⟩
end Go.Proofs.Ytbigeaknbhmniaa.H
/- The law kit; which words may be, of the code and of the reference. -/
namespace Go.Proofs.Ytbigeaknbhmniaa.S
set_option linter.unusedVariables false
set_option linter.unusedSimpArgs false
open Go.RowKit Go.Proofs.Ytbigeaknbhmniaa.PB Go.Proofs.Ytbigeaknbhmniaa.H Go.Proofs.YtbigeaknbhmniaaW.PrintWords Go.Proofs.YtbigeaknbhmniaaW.PrintLast Go.Proofs.YtbigeaknbhmniaaW.PrintMore

theorem evC {α β : Type} {o : Option α} {f : Nat → α → Option β} {a : α} {r : β} (h : o = some a) (k : Ev (fun n => f n a) r) : Ev (fun n => o.bind (f n)) r := by subst h; exact k
theorem evP {α : Type} {c : Prop} [Decidable c] {f g : Nat → Option α} {r : α} (h : c) (k : Ev f r) : Ev (fun n => if c then f n else g n) r := by simp only [if_pos h]; exact k
theorem evN {α : Type} {c : Prop} [Decidable c] {f g : Nat → Option α} {r : α} (h : ¬ c) (k : Ev g r) : Ev (fun n => if c then f n else g n) r := by simp only [if_neg h]; exact k
theorem evR {α : Type} {a r : α} (h : a = r) : Ev (fun _ => some a) r := by subst h; exact Ev.now _
theorem w64 {x : Int} (h0 : -9223372036854775808 ≤ x) (h1 : x ≤ 9223372036854775807) : wrap64 x = x := by unfold wrap64; omega
theorem wnext {i : Nat} (h : i ≤ 1000000000000) : wrap64 ((i : Int) + 1) = ((i + 1 : Nat) : Int) := by rw [w64 (by omega) (by omega)]; omega
theorem rdL (l : List S69) (i : Nat) (h : i < l.length) : rd_T69 l (i : Int) = l[i] := by unfold rd_T69; rw [Int.toNat_natCast]; simp [h]
/-! ### a word that may be -/
def itemB (x : S69) : Bool := decide (-1 ≤ x.f0) && (decide (x.f0 ≠ -1) || (decide (0 ≤ x.f1) && decide (x.f1 ≤ 196607)))
def mayB (l : List S69) : Bool := decide (l.length ≤ 4000) && l.all itemB
theorem may_l0 (l : List S69) (hl : l.length ≤ 1000000000000) : ∀ d i, i + d = l.length → Ev (fun k => word_may.l0 k l (l.length : Int) (i : Int)) ((l.drop i).all itemB) := by
 intro d
 induction d with
 | zero =>
  intro i hi
  refine Ev.step (fun k => by rw [word_may.l0]) (evN (by omega) (evR ?_))
  rw [List.drop_eq_nil_of_le (by omega)]; rfl
 | succ d ih =>
  intro i hi
  have hi' : i < l.length := by omega
  have next := ih (i + 1) (by omega)
  refine Ev.step (fun k => by rw [word_may.l0]) (evP (by omega) (evP (by omega) (evP (by omega) ?_)))
  rw [rdL l i hi', List.drop_eq_getElem_cons hi', List.all_cons, wnext (by omega)]
  by_cases h1 : l[i].f0 < -1
  ·refine evP h1 (evR ?_)
   have : itemB l[i] = false := by unfold itemB; rw [decide_eq_false (by omega), Bool.false_and]
   rw [this, Bool.false_and]
  ·refine evN h1 ?_
   by_cases h2 : l[i].f0 = -1
   ·refine evP h2 ?_
    by_cases h3 : l[i].f1 < 0
    ·refine evP h3 (evR ?_)
     have : itemB l[i] = false := by unfold itemB; rw [decide_eq_false (show ¬ 0 ≤ l[i].f1 by omega), Bool.false_and, decide_eq_false (show ¬ (l[i].f0 ≠ -1) from fun z => z h2)]; simp
     rw [this, Bool.false_and]
    ·refine evN h3 ?_
     by_cases h4 : l[i].f1 > 196607
     ·refine evP h4 (evR ?_)
      have : itemB l[i] = false := by unfold itemB; rw [decide_eq_false (show ¬ l[i].f1 ≤ 196607 by omega), Bool.and_false, decide_eq_false (show ¬ (l[i].f0 ≠ -1) from fun z => z h2)]; simp
      rw [this, Bool.false_and]
     ·refine evN h4 ?_
      have : itemB l[i] = true := by unfold itemB; rw [decide_eq_true (show -1 ≤ l[i].f0 by omega), decide_eq_true (show 0 ≤ l[i].f1 by omega), decide_eq_true (show l[i].f1 ≤ 196607 by omega)]; simp
      rw [this, Bool.true_and]; exact next
   ·refine evN h2 ?_
    have : itemB l[i] = true := by unfold itemB; rw [decide_eq_true (show -1 ≤ l[i].f0 by omega), decide_eq_true h2]; simp
    rw [this, Bool.true_and]; exact next
theorem may_ev (l : List S69) (hl : l.length ≤ 1000000000000) : Ev (fun k => word_may.f k l) (mayB l) := by
 unfold mayB
 by_cases h : (l.length : Int) > 4000
 ·refine Ev.congr (fun k => rfl) (evP h (evR ?_))
  rw [decide_eq_false (by omega), Bool.false_and]
 ·refine Ev.congr (fun k => rfl) (evN h ?_)
  rw [decide_eq_true (by omega), Bool.true_and]
  have := may_l0 l hl l.length 0 (by omega)
  rw [List.drop_zero] at this
  exact this
/-! ### one word is itself -/
end Go.Proofs.Ytbigeaknbhmniaa.S
/- The examples; a text as a word. -/
namespace Go.Proofs.Ytbigeaknbhmniaa.S
set_option linter.unusedVariables false
set_option linter.unusedSimpArgs false
open Go.RowKit Go.Proofs.Ytbigeaknbhmniaa.PB Go.Proofs.Ytbigeaknbhmniaa.H Go.Proofs.YtbigeaknbhmniaaW.PrintWords Go.Proofs.YtbigeaknbhmniaaW.PrintLast Go.Proofs.YtbigeaknbhmniaaW.PrintMore

theorem awake_ev : Ev (fun k => gudgeonlaw17_awake.f k) true := Ev.of (fun k => gudgeonlaw17_awake.mono k) (k := 40) (by kernel_rfl)
theorem rdR (l : List S71) (i : Nat) (h : i < l.length) : rd_T71 l (i : Int) = l[i] := by unfold rd_T71; rw [Int.toNat_natCast]; simp [h]
/-! ### a text that may be -/
def prevAt (l : List S71) : Nat → Option Int
 | 0 => none
 | j + 1 => (l[j]?).map (·.f0)
def mayR : Int → Option Int → List S71 → Bool
 | _, _, [] => true
 | left, prev, x :: r => if x.f0 < 0 then false else if x.f0 > 196607 then false else if x.f1 < 1 then false else if x.f1 > left then false else if prev = some x.f0 then false else mayR (left - x.f1) (some x.f0) r
theorem prevAt_next (l : List S71) (i : Nat) (h : i < l.length) : prevAt l (i + 1) = some l[i].f0 := by
 show (l[i]?).map (·.f0) = _
 rw [List.getElem?_eq_getElem h]; rfl
theorem wprev {i : Nat} (h0 : 0 < i) (h : i ≤ 1000000000000) : wrap64 ((i : Int) - 1) = ((i - 1 : Nat) : Int) := by rw [w64 (by omega) (by omega)]; omega
theorem rmayc_l0 (l : List S71) (hl : l.length ≤ 1000000000000) : ∀ d i (left : Int), i + d = l.length → 0 ≤ left → left ≤ 1099511627776 → Ev (fun k => runs_May.l0 k l left l (l.length : Int) (i : Int)) (mayR left (prevAt l i) (l.drop i)) := by
 intro d
 induction d with
 | zero =>
  intro i left hi h0 h1
  refine Ev.step (fun k => by rw [runs_May.l0]) (evN (by omega) (evR ?_))
  rw [List.drop_eq_nil_of_le (by omega)]; rfl
 | succ d ih =>
  intro i left hi h0 h1
  have hi' : i < l.length := by omega
  refine Ev.step (fun k => by rw [runs_May.l0]) (evP (by omega) (evP (by omega) (evP (by omega) ?_)))
  rw [rdR l i hi', List.drop_eq_getElem_cons hi']
  unfold mayR
  by_cases c1 : l[i].f0 < 0
  ·refine evP c1 (evR ?_); rw [if_pos c1]
  refine evN c1 ?_
  rw [if_neg c1]
  by_cases c2 : l[i].f0 > 196607
  ·refine evP c2 (evR ?_); rw [if_pos c2]
  refine evN c2 ?_
  rw [if_neg c2]
  by_cases c3 : l[i].f1 < 1
  ·refine evP c3 (evR ?_); rw [if_pos c3]
  refine evN c3 ?_
  rw [if_neg c3]
  by_cases c4 : l[i].f1 > left
  ·refine evP c4 (evR ?_); rw [if_pos c4]
  refine evN c4 ?_
  rw [if_neg c4]
  have next := ih (i + 1) (left - l[i].f1) (by omega) (by omega) (by omega)
  rw [prevAt_next l i hi'] at next
  rw [wnext (by omega), w64 (x := left - l[i].f1) (by omega) (by omega)]
  cases i with
  | zero =>
   refine evN (by omega) ?_
   rw [if_neg (by unfold prevAt; simp)]; exact next
  | succ j =>
   refine evP (by omega) (evP (by rw [wprev (by omega) (by omega)]; omega) (evP (by rw [wprev (by omega) (by omega)]; omega) ?_))
   rw [wprev (by omega) (by omega), show j + 1 - 1 = j from rfl, rdR l j (by omega), prevAt_next l j (by omega)]
   by_cases c5 : l[j].f0 = l[j + 1].f0
   ·refine evP c5 (evR ?_); rw [if_pos (by rw [c5])]
   ·refine evN c5 ?_; rw [if_neg (by simpa using c5)]; exact next
def okR (l : List S71) : Bool := decide (l.length ≤ 65536) && mayR 1099511627776 none l
theorem rmayc_ev (l : List S71) (hl : l.length ≤ 1000000000000) : Ev (fun k => runs_May.f k l) (okR l) := by
 unfold okR
 by_cases h : (l.length : Int) > 65536
 ·refine Ev.congr (fun k => rfl) (evP h (evR ?_))
  rw [decide_eq_false (by omega), Bool.false_and]
 ·refine Ev.congr (fun k => rfl) (evN h ?_)
  rw [decide_eq_true (by omega), Bool.true_and]
  exact rmayc_l0 l hl l.length 0 _ (by omega) (by omega) (by omega)
/-! ### its code points -/
def tot : List S71 → Int
 | [] => 0
 | x :: r => x.f1 + tot r
def expand : List S71 → List Int
 | [] => []
 | x :: r => List.replicate x.f1.toNat x.f0 ++ expand r
def goodR (x : S71) : Prop := 0 ≤ x.f0 ∧ x.f0 ≤ 196607 ∧ 1 ≤ x.f1
theorem mayR_good : ∀ (l : List S71) (left : Int) (p : Option Int), 0 ≤ left → mayR left p l = true → (∀ x ∈ l, goodR x) ∧ tot l ≤ left ∧ 0 ≤ tot l
 | [], left, p, h0, h => ⟨by simp, h0, Int.le_refl _⟩
 | x :: r, left, p, h0, h => by
  unfold mayR at h
  split at h
  ·cases h
  split at h
  ·cases h
  split at h
  ·cases h
  split at h
  ·cases h
  split at h
  ·cases h
  obtain ⟨h1, h2, h3⟩ := mayR_good r (left - x.f1) (some x.f0) (by omega) h
  refine ⟨fun y hy => ?_, by simp only [tot]; omega, by simp only [tot]; omega⟩
  rcases List.mem_cons.1 hy with rfl | hy
  ·exact ⟨by omega, by omega, by omega⟩
  ·exact h1 y hy
theorem tot_nonneg : ∀ (l : List S71), (∀ x ∈ l, goodR x) → 0 ≤ tot l
 | [], _ => Int.le_refl _
 | x :: r, h => by
  have h1 := tot_nonneg r (fun y hy => h y (List.mem_cons_of_mem _ hy))
  have h2 := h x List.mem_cons_self
  unfold goodR at h2; simp only [tot]; omega
end Go.Proofs.Ytbigeaknbhmniaa.S
/- A text as a word, of the code and of the reference. -/
namespace Go.Proofs.Ytbigeaknbhmniaa.S
set_option linter.unusedVariables false
set_option linter.unusedSimpArgs false
open Go.RowKit Go.Proofs.Ytbigeaknbhmniaa.PB Go.Proofs.Ytbigeaknbhmniaa.H Go.Proofs.YtbigeaknbhmniaaW.PrintWords Go.Proofs.YtbigeaknbhmniaaW.PrintLast Go.Proofs.YtbigeaknbhmniaaW.PrintMore

theorem expand_len : ∀ (l : List S71), (∀ x ∈ l, goodR x) → ((expand l).length : Int) = tot l
 | [], _ => rfl
 | x :: r, h => by
  have h1 := expand_len r (fun y hy => h y (List.mem_cons_of_mem _ hy))
  have h2 := h x List.mem_cons_self
  unfold goodR at h2
  simp only [tot, expand, List.length_append, List.length_replicate]
  omega
theorem okR_good {l : List S71} (h : okR l = true) : (∀ x ∈ l, goodR x) ∧ tot l ≤ 1099511627776 ∧ 0 ≤ tot l := by
 unfold okR at h
 rw [Bool.and_eq_true] at h
 exact mayR_good l _ none (by omega) h.2
end Go.Proofs.Ytbigeaknbhmniaa.S
/- Code points as runs, each way; texts behind one another. -/
namespace Go.Proofs.Ytbigeaknbhmniaa.S
set_option linter.unusedVariables false
set_option linter.unusedSimpArgs false
open Go.RowKit Go.Proofs.Ytbigeaknbhmniaa.PB Go.Proofs.Ytbigeaknbhmniaa.H Go.Proofs.YtbigeaknbhmniaaW.PrintWords Go.Proofs.YtbigeaknbhmniaaW.PrintLast Go.Proofs.YtbigeaknbhmniaaW.PrintMore

/-- Code points as runs. -/
def enc : List Int → List S71
 | [] => []
 | c :: r => match enc r with
  | [] => [⟨c, 1⟩]
  | x :: t => if x.f0 = c then ⟨c, x.f1 + 1⟩ :: t else ⟨c, 1⟩ :: x :: t
theorem enc_eq (c : Int) (r : List Int) : enc (c :: r) = match enc r with
  | [] => [⟨c, 1⟩]
  | x :: t => if x.f0 = c then ⟨c, x.f1 + 1⟩ :: t else ⟨c, 1⟩ :: x :: t := rfl
theorem mB_iff (a b : List S71) : meetsB a b = true ↔ meets a b := by
 unfold meetsB meets
 rw [Bool.and_eq_true, Bool.and_eq_true, decide_eq_true_eq, decide_eq_true_eq, decide_eq_true_eq, List.length_pos_iff, List.length_pos_iff, and_assoc]
/-- Runs that are as short as can be, behind a code point. -/
def can : Option Int → List S71 → Prop
 | _, [] => True
 | p, x :: r => 1 ≤ x.f1 ∧ p ≠ some x.f0 ∧ can (some x.f0) r
def lastf : Option Int → List S71 → Option Int
 | p, [] => p
 | _, x :: r => lastf (some x.f0) r
theorem can_append : ∀ (a b : List S71) (p : Option Int), can p (a ++ b) ↔ can p a ∧ can (lastf p a) b
 | [], b, p => by simp [can, lastf]
 | x :: r, b, p => by
  simp only [List.cons_append, can, lastf, can_append r b, and_assoc]
theorem lastf_snoc : ∀ (a : List S71) (x : S71) (p : Option Int), lastf p (a ++ [x]) = some x.f0
 | [], x, p => rfl
 | y :: r, x, p => lastf_snoc r x (some y.f0)
theorem enc_cons (c : Int) : ∀ r : List Int, ∃ n t, enc (c :: r) = ⟨c, n⟩ :: t ∧ 1 ≤ n ∧ can (some c) t
 | [] => ⟨1, [], rfl, by decide, trivial⟩
 | d :: r => by
  obtain ⟨n, t, h1, h2, h3⟩ := enc_cons d r
  rw [enc_eq]
  rw [h1]
  by_cases h : d = c
  ·subst h
   exact ⟨n + 1, t, by simp, by omega, h3⟩
  ·exact ⟨1, ⟨d, n⟩ :: t, by simp [h], by decide, h2, by simpa using fun z => h z.symm, h3⟩
theorem can_enc : ∀ l : List Int, can none (enc l)
 | [] => trivial
 | c :: r => by
  obtain ⟨n, t, h1, h2, h3⟩ := enc_cons c r
  rw [h1]; exact ⟨h2, by simp, h3⟩
theorem expand_enc : ∀ l : List Int, expand (enc l) = l
 | [] => rfl
 | c :: r => by
  have ih := expand_enc r
  rw [enc_eq]
  cases r with
  | nil => rfl
  | cons d r =>
   obtain ⟨n, t, h1, h2, h3⟩ := enc_cons d r
   rw [h1] at ih ⊢
   simp only [expand] at ih
   by_cases h : d = c
   ·subst h
    simp only [if_true]
    simp only [expand]
    rw [show (n + 1).toNat = n.toNat + 1 by omega, List.replicate_succ, List.cons_append, ih]
   ·simp only [h, if_false]
    simp only [expand]
    rw [ih]; rfl
theorem enc_replicate (c : Int) (rest : List Int) (h : ∀ x t, enc rest = x :: t → x.f0 ≠ c) : ∀ n : Nat, enc (List.replicate (n + 1) c ++ rest) = ⟨c, (n : Int) + 1⟩ :: enc rest
 | 0 => by
  show enc (c :: rest) = _
  rw [enc_eq]
  cases he : enc rest with
  | nil => rfl
  | cons x t => simp [h x t he]
 | n + 1 => by
  have ih := enc_replicate c rest h n
  rw [List.replicate_succ, List.cons_append]
  rw [enc_eq]
  rw [ih]
  simp
theorem enc_expand : ∀ (l : List S71) (p : Option Int), can p l → enc (expand l) = l
 | [], _, _ => rfl
 | x :: r, p, h => by
  obtain ⟨h1, _, h3⟩ := h
  have ih := enc_expand r _ h3
  have e : x.f1.toNat = (x.f1.toNat - 1) + 1 := by omega
  simp only [expand]
  rw [e, enc_replicate x.f0 (expand r) (fun y t hy => by
   rw [ih] at hy
   subst hy
   intro z
   exact h3.2.1 (by rw [z])) _, ih]
  congr 1
  cases x
  simp only [S71.mk.injEq, true_and] at *
  omega
theorem expand_append : ∀ a b : List S71, expand (a ++ b) = expand a ++ expand b
 | [], b => rfl
 | x :: r, b => by simp only [List.cons_append, expand, expand_append r b, List.append_assoc]
theorem tot_append : ∀ a b : List S71, tot (a ++ b) = tot a + tot b
 | [], b => by simp [tot]
 | x :: r, b => by simp only [List.cons_append, tot, tot_append r b]; omega
theorem tot_enc : ∀ l : List Int, tot (enc l) = l.length
 | [] => rfl
 | c :: r => by
  have ih := tot_enc r
  rw [enc_eq]
  cases he : enc r with
  | nil => rw [he] at ih; simp only [tot, List.length_cons] at *; omega
  | cons x t =>
   rw [he] at ih
   simp only [tot] at ih
   by_cases h : x.f0 = c
   ·simp only [h, if_true]; simp only [tot, List.length_cons]; omega
   ·simp only [h, if_false]; simp only [tot, List.length_cons]; omega
theorem mem_enc : ∀ (l : List Int) (x : S71), x ∈ enc l → x.f0 ∈ l ∧ 1 ≤ x.f1
 | [], x, h => by cases h
 | c :: r, x, h => by
  have ih := mem_enc r
  rw [enc_eq] at h
  cases he : enc r with
  | nil =>
   rw [he] at h
   obtain rfl := List.mem_singleton.1 h
   exact ⟨List.mem_cons_self, Int.le_refl _⟩
  | cons y t =>
   rw [he] at h ih
   by_cases hc : y.f0 = c
   ·simp only [hc, if_true] at h
    rcases List.mem_cons.1 h with rfl | h
    ·have := (ih y List.mem_cons_self).2
     exact ⟨List.mem_cons_self, by show 1 ≤ y.f1 + 1; omega⟩
    ·obtain ⟨h1, h2⟩ := ih x (List.mem_cons_of_mem _ h)
     exact ⟨List.mem_cons_of_mem _ h1, h2⟩
   ·simp only [hc, if_false] at h
    rcases List.mem_cons.1 h with rfl | h
    ·exact ⟨List.mem_cons_self, Int.le_refl _⟩
    ·obtain ⟨h1, h2⟩ := ih x h
     exact ⟨List.mem_cons_of_mem _ h1, h2⟩
/-! ### one behind the other -/
theorem rd_last (a : List S71) (x : S71) : rd_T71 (a ++ [x]) (((a ++ [x]).length : Int) - 1) = x := by
 unfold rd_T71
 rw [show (((a ++ [x]).length : Int) - 1).toNat = a.length by simp]
 simp
theorem joined_meets (a b : List S71) (x y : S71) (h : x.f0 = y.f0) (h0 : 0 ≤ x.f1) (h1 : 0 ≤ y.f1) (h2 : x.f1 + y.f1 ≤ 4611686018427387904) :
  joinedL (a ++ [x]) (y :: b) = a ++ ⟨x.f0, x.f1 + y.f1⟩ :: b := by
 have hm : meetsB (a ++ [x]) (y :: b) = true := (mB_iff _ _).2 ⟨by simp, by simp, by rw [rd_last]; exact h⟩
 unfold joinedL
 rw [if_pos hm]
 have e1 : (a ++ [x]).length - 1 = a.length := by simp
 have e2 : ((a ++ [x]) ++ y :: b).getD a.length z71 = x := by simp [List.getD]
 have e3 : rd_T71 (y :: b) 0 = y := rfl
 rw [e1, e2, e3, w64 (by omega) (by omega)]
 rw [List.append_assoc, List.set_append_right _ _ (Nat.le_refl _), Nat.sub_self, List.singleton_append, List.set_cons_zero, List.length_append, List.length_singleton, List.eraseIdx_append_of_length_le (by omega),
  show a.length + 1 - a.length = 1 by omega]
 rfl
theorem joined_enc (P Q : List Int) (hP : P.length ≤ 1099511627776) (hQ : Q.length ≤ 1099511627776) : joinedL (enc P) (enc Q) = enc (P ++ Q) := by
 have cP := can_enc P
 have cQ := can_enc Q
 suffices h : can none (joinedL (enc P) (enc Q)) ∧ expand (joinedL (enc P) (enc Q)) = P ++ Q by rw [← enc_expand _ none h.1, h.2]
 by_cases hm : meetsB (enc P) (enc Q) = true
 ·obtain ⟨n1, n2, n3⟩ := (mB_iff _ _).1 hm
  have tP := tot_enc P
  have tQ := tot_enc Q
  obtain ⟨a, x, ha⟩ : ∃ a x, enc P = a ++ [x] := ⟨(enc P).dropLast, (enc P).getLast n1, (List.dropLast_concat_getLast n1).symm⟩
  obtain ⟨y, b, hb⟩ : ∃ y b, enc Q = y :: b := by cases h : enc Q with | nil => exact absurd h n2 | cons y b => exact ⟨y, b, rfl⟩
  have eP := expand_enc P
  have eQ := expand_enc Q
  have mP := mem_enc P
  have mQ := mem_enc Q
  rw [ha] at cP n3 tP eP mP ⊢
  rw [hb] at cQ n3 tQ eQ mQ ⊢
  rw [rd_last, show rd_T71 (y :: b) 0 = y from rfl] at n3
  rw [tot_append] at tP
  simp only [tot] at tP tQ
  have hx := (mP x (by simp)).2
  have hy := (mQ y (by simp)).2
  have ta : 0 ≤ tot a := by
   have : ∀ l : List S71, (∀ z ∈ l, 1 ≤ z.f1) → 0 ≤ tot l := by
    intro l
    induction l with
    | nil => intro _; exact Int.le_refl _
    | cons z r ih =>
     intro h
     have h1 := ih (fun u hu => h u (List.mem_cons_of_mem _ hu))
     have h2 := h z List.mem_cons_self
     simp only [tot]; omega
   exact this a (fun z hz => (mP z (by simp [hz])).2)
  have tb : 0 ≤ tot b := by
   have : ∀ l : List S71, (∀ z ∈ l, 1 ≤ z.f1) → 0 ≤ tot l := by
    intro l
    induction l with
    | nil => intro _; exact Int.le_refl _
    | cons z r ih =>
     intro h
     have h1 := ih (fun u hu => h u (List.mem_cons_of_mem _ hu))
     have h2 := h z List.mem_cons_self
     simp only [tot]; omega
   exact this b (fun z hz => (mQ z (by simp [hz])).2)
  rw [joined_meets a b x y n3 (by omega) (by omega) (by omega)]
  obtain ⟨c1, c2⟩ := (can_append a [x] none).1 cP
  refine ⟨(can_append a _ none).2 ⟨c1, ?_⟩, ?_⟩
  ·refine ⟨by show 1 ≤ x.f1 + y.f1; omega, c2.2.1, ?_⟩
   show can (some x.f0) b
   rw [n3]; exact cQ.2.2
  ·rw [← eP, ← eQ, expand_append, expand_append]
   simp only [expand, List.append_nil]
   rw [show (x.f1 + y.f1).toNat = x.f1.toNat + y.f1.toNat by omega, ← List.replicate_append_replicate, ← n3]
   simp only [List.append_assoc]
 ·have e : joinedL (enc P) (enc Q) = enc P ++ enc Q := by unfold joinedL; rw [if_neg hm]
  rw [e]
  refine ⟨(can_append _ _ none).2 ⟨cP, ?_⟩, by rw [expand_append, expand_enc, expand_enc]⟩
  cases hQ' : enc Q with
  | nil => trivial
  | cons y b =>
   rw [hQ'] at cQ
   refine ⟨cQ.1, fun z => hm ((mB_iff _ _).2 ?_), cQ.2.2⟩
   have n1 : enc P ≠ [] := by intro h; rw [h] at z; cases z
   obtain ⟨a, x, ha⟩ : ∃ a x, enc P = a ++ [x] := ⟨(enc P).dropLast, (enc P).getLast n1, (List.dropLast_concat_getLast n1).symm⟩
   rw [ha] at z ⊢
   rw [lastf_snoc] at z
   exact ⟨by simp, by rw [hQ']; simp, by rw [rd_last, hQ']; exact Option.some.inj z⟩
theorem joined_len (a b : List S71) : a.length ≤ (joinedL a b).length ∧ b.length ≤ (joinedL a b).length ∧ (joinedL a b).length ≤ a.length + b.length := by
 unfold joinedL
 split
 ·rename_i h
  obtain ⟨n1, n2, _⟩ := (mB_iff _ _).1 h
  have p1 := List.length_pos_iff.2 n1
  have p2 := List.length_pos_iff.2 n2
  rw [List.length_eraseIdx_of_lt (by rw [List.length_set, List.length_append]; omega), List.length_set, List.length_append]
  omega
 ·rw [List.length_append]; omega
theorem enc_len_append (P Q : List Int) (hP : P.length ≤ 1099511627776) (hQ : Q.length ≤ 1099511627776) : (enc P).length ≤ (enc (P ++ Q)).length ∧ (enc Q).length ≤ (enc (P ++ Q)).length := by
 rw [← joined_enc P Q hP hQ]
 exact ⟨(joined_len _ _).1, (joined_len _ _).2.1⟩
/-! ### which may be -/
theorem mayR_can : ∀ (l : List S71) (left : Int) (p : Option Int), mayR left p l = true → can p l
 | [], _, _, _ => trivial
 | x :: r, left, p, h => by
  unfold mayR at h
  split at h
  ·cases h
  split at h
  ·cases h
  split at h
  ·cases h
  split at h
  ·cases h
  split at h
  ·cases h
  rename_i h5
  exact ⟨by omega, h5, mayR_can r _ _ h⟩
theorem mayR_of : ∀ (l : List S71) (left : Int) (p : Option Int), can p l → (∀ x ∈ l, 0 ≤ x.f0 ∧ x.f0 ≤ 196607) → tot l ≤ left → mayR left p l = true
 | [], _, _, _, _, _ => rfl
 | x :: r, left, p, h, hr, ht => by
  obtain ⟨h1, h2, h3⟩ := h
  have hx := hr x List.mem_cons_self
  have tn : 0 ≤ tot r := by
   have : ∀ (l : List S71) (p : Option Int), can p l → 0 ≤ tot l := by
    intro l
    induction l with
    | nil => intro _ _; exact Int.le_refl _
    | cons z r ih => intro p h; have := ih _ h.2.2; have := h.1; simp only [tot]; omega
   exact this r _ h3
  simp only [tot] at ht
  unfold mayR
  rw [if_neg (by omega), if_neg (by omega), if_neg (by omega), if_neg (by omega), if_neg h2]
  exact mayR_of r _ _ h3 (fun y hy => hr y (List.mem_cons_of_mem _ hy)) (by omega)
/-- Code points that are a text. -/
structure okE (P : List Int) : Prop where
 len : P.length ≤ 1099511627776
 runs : (enc P).length ≤ 65536
 rng : ∀ c ∈ P, 0 ≤ c ∧ c ≤ 196607
theorem okE_okR {P : List Int} (h : okE P) : okR (enc P) = true := by
 unfold S.okR
 rw [decide_eq_true h.runs, Bool.true_and]
 exact mayR_of _ _ _ (can_enc P) (fun x hx => h.rng _ (mem_enc P x hx).1) (by rw [tot_enc]; have := h.len; omega)
theorem okE_of {l : List S71} (h : okR l = true) : okE (expand l) ∧ enc (expand l) = l := by
 obtain ⟨hg, ht, h0⟩ := okR_good h
 have h' := h
 unfold S.okR at h'
 rw [Bool.and_eq_true] at h'
 have hc := mayR_can _ _ _ h'.2
 have e := enc_expand l none hc
 have el := expand_len l hg
 refine ⟨⟨by omega, by rw [e]; exact of_decide_eq_true h'.1, fun c hc' => ?_⟩, e⟩
 have : ∀ l : List S71, (∀ x ∈ l, goodR x) → ∀ c ∈ expand l, 0 ≤ c ∧ c ≤ 196607 := by
  intro l
  induction l with
  | nil => intro _ c hc; cases hc
  | cons x r ih =>
   intro h c hc
   simp only [expand, List.mem_append] at hc
   rcases hc with hc | hc
   ·have g := h x List.mem_cons_self
    unfold goodR at g
    rw [(List.mem_replicate.1 hc).2]; exact ⟨g.1, g.2.1⟩
   ·exact ih (fun y hy => h y (List.mem_cons_of_mem _ hy)) c hc
 exact this l hg c hc'
theorem okE_nil : okE [] := ⟨by simp, by simp [enc], by simp⟩
end Go.Proofs.Ytbigeaknbhmniaa.S
/- The text of a word. -/
namespace Go.Proofs.Ytbigeaknbhmniaa.S
set_option linter.unusedVariables false
set_option linter.unusedSimpArgs false
open Go.RowKit Go.Proofs.Ytbigeaknbhmniaa.PB Go.Proofs.Ytbigeaknbhmniaa.H Go.Proofs.YtbigeaknbhmniaaW.PrintWords Go.Proofs.YtbigeaknbhmniaaW.PrintLast Go.Proofs.YtbigeaknbhmniaaW.PrintMore

/-- The first text of a variable, if it may be one. -/
def txt (v : Int) : List S41 → List S71
 | [] => []
 | x :: r => if x.f0 = v then (if okR x.f1 = true then x.f1 else []) else txt v r
def tp (v : Int) (l : List S41) : List Int := expand (txt v l)
theorem txt_or (v : Int) : ∀ l : List S41, txt v l = [] ∨ okR (txt v l) = true
 | [] => .inl rfl
 | x :: r => by
  unfold txt
  by_cases h : x.f0 = v
  ·rw [if_pos h]
   by_cases h2 : okR x.f1 = true
   ·rw [if_pos h2]; exact .inr h2
   ·rw [if_neg h2]; exact .inl rfl
  ·rw [if_neg h]; exact txt_or v r
theorem tp_ok (v : Int) (l : List S41) : okE (tp v l) ∧ enc (tp v l) = txt v l := by
 unfold tp
 rcases txt_or v l with h | h
 ·rw [h]; exact ⟨okE_nil, rfl⟩
 ·exact okE_of h
structure small (l : List S41) : Prop where
 len : l.length ≤ 1000000
 each : ∀ t ∈ l, t.f1.length ≤ 1000000
theorem rdX (l : List S41) (i : Nat) (h : i < l.length) : rd_T41 l (i : Int) = l[i] := by unfold rd_T41; rw [Int.toNat_natCast]; simp [h]
theorem idx_txt (v : Int) : ∀ (l : List S41) (i : Nat), (idxT v l (i : Int) = -1 ∧ txt v l = []) ∨ ∃ (j : Nat) (h : j < l.length), idxT v l (i : Int) = ((i + j : Nat) : Int) ∧ txt v l = if okR l[j].f1 = true then l[j].f1 else []
 | [], i => .inl ⟨rfl, rfl⟩
 | x :: r, i => by
  unfold idxT txt
  by_cases h : x.f0 = v
  ·rw [if_pos h, if_pos h]
   exact .inr ⟨0, by simp, by simp, rfl⟩
  ·rw [if_neg h, if_neg h]
   rcases idx_txt v r (i + 1) with ⟨h1, h2⟩ | ⟨j, hj, h1, h2⟩
   ·exact .inl ⟨h1, h2⟩
   ·refine .inr ⟨j + 1, by simp; omega, ?_, ?_⟩
    ·rw [show (i : Int) + 1 = ((i + 1 : Nat) : Int) by omega, h1]; congr 1; omega
    ·rw [h2]; rfl
theorem text_ev (v : Int) (l : List S41) (hs : small l) : Ev (fun k => word_text.f k v l) (txt v l) := by
 have hl := hs.len
 refine Ev.congr (fun k => rfl) (evP (by omega) ?_)
 rcases idx_txt v l 0 with ⟨h1, h2⟩ | ⟨j, hj, h1, h2⟩
 ·rw [show ((0 : Nat) : Int) = 0 from rfl] at h1
  rw [h1, h2]
  exact evP (by decide) (evR rfl)
 ·rw [show ((0 : Nat) : Int) = 0 from rfl, Nat.zero_add] at h1
  rw [h1, h2]
  refine evN (by omega) ?_
  rw [rdX l j hj]
  refine Ev.bind (rmayc_ev _ (by have := hs.each _ (List.getElem_mem hj); omega)) ?_
  by_cases h : okR l[j].f1 = true
  ·refine evP h (evR ?_); rw [if_pos h]
  ·refine evN h (evR ?_); rw [if_neg h]
theorem size_l0 (l : List S71) (hl : l.length ≤ 1000000) (hg : ∀ x ∈ l, goodR x) : ∀ d i (n : Int), i + d = l.length → 0 ≤ n → n + tot (l.drop i) ≤ 1099511627776 → Ev (fun k => runs_size.l0 k n l (l.length : Int) (i : Int)) (n + tot (l.drop i)) := by
 intro d
 induction d with
 | zero =>
  intro i n hi h0 h1
  refine Ev.step (fun k => by rw [runs_size.l0]) (evN (by omega) (evR ?_))
  rw [List.drop_eq_nil_of_le (by omega)]; simp [tot]
 | succ d ih =>
  intro i n hi h0 h1
  have hi' : i < l.length := by omega
  have g := hg _ (List.getElem_mem hi')
  unfold goodR at g
  have tn := tot_nonneg (l.drop (i + 1)) (fun x hx => hg x (List.mem_of_mem_drop hx))
  refine Ev.step (fun k => by rw [runs_size.l0]) (evP (by omega) (evP (by omega) (evP (by omega) ?_)))
  rw [List.drop_eq_getElem_cons hi'] at h1 ⊢
  simp only [tot] at h1 ⊢
  rw [rdR l i hi', wnext (by omega), w64 (by omega) (by omega)]
  have := ih (i + 1) (n + l[i].f1) (by omega) (by omega) (by omega)
  rw [show n + l[i].f1 + tot (l.drop (i + 1)) = n + (l[i].f1 + tot (l.drop (i + 1))) by omega] at this
  exact this
theorem size_ev {P : List Int} (h : okE P) : Ev (fun k => runs_size.f k (enc P)) (P.length : Int) := by
 obtain ⟨hg, ht, h0⟩ := okR_good (okE_okR h)
 have := size_l0 (enc P) (by have := h.runs; omega) hg (enc P).length 0 0 (by omega) (by omega) (by rw [List.drop_zero]; omega)
 rw [List.drop_zero, show (0 : Int) + tot (enc P) = tot (enc P) by omega, tot_enc] at this
 exact this
/-- Code points as a text, if they are not too many. -/
def fitE (R : List Int) : List S71 × Int := if R.length ≤ 1099511627776 ∧ (enc R).length ≤ 65536 then (enc R, 0) else ([], 2)
theorem concat_ev {P Q : List Int} (hP : okE P) (hQ : okE Q) : Ev (fun k => runs_Concat.f k (enc P) (enc Q)) (fitE (P ++ Q)) := by
 have l1 := hP.runs
 have l2 := hQ.runs
 have n1 := hP.len
 have n2 := hQ.len
 refine Ev.congr (fun k => rfl) (Ev.bind (rmayc_ev (enc P) (by omega)) ?_)
 rw [(okE_okR hP)]
 refine evP rfl (Ev.bind (rmayc_ev (enc Q) (by omega)) ?_)
 rw [(okE_okR hQ)]
 refine Ev.step (fun k => by rw [runs_Concat.j0]) (evN (by decide) (Ev.bind (size_ev hP) (Ev.bind (size_ev hQ) ?_)))
 rw [w64 (by omega) (by omega)]
 unfold fitE
 rw [List.length_append]
 by_cases h : (P.length : Int) + (Q.length : Int) > 1099511627776
 ·refine evP h (evR ?_); rw [if_neg (by omega)]
 refine evN h ?_
 have ej : runs_joined.f (enc P) (enc Q) = some (enc (P ++ Q)) := by
  unfold runs_joined.f
  rw [if_pos (by omega), joined_enc P Q (by omega) (by omega)]
 refine evC ej ?_
 by_cases h4 : (enc (P ++ Q)).length ≤ 65536
 ·refine evC (show runs_few.f (enc (P ++ Q)) = some (enc (P ++ Q), 0) by unfold runs_few.f; rw [if_neg (by omega)]) (evR ?_)
  rw [if_pos ⟨by omega, h4⟩]
 ·refine evC (show runs_few.f (enc (P ++ Q)) = some ([], 2) by unfold runs_few.f; rw [if_pos (by omega)]) (evR ?_)
  rw [if_neg (fun z => h4 z.2)]
/-- A letter's code points. -/
def pts (l : List S41) (x : S69) : List Int := if 0 ≤ x.f0 then tp x.f0 l else [x.f1]
def ptsW (l : List S41) (w : List S69) : List Int := w.flatMap (pts l)
theorem ptsW_cons (l : List S41) (x : S69) (r : List S69) : ptsW l (x :: r) = pts l x ++ ptsW l r := by simp [ptsW]
theorem pts_ok (l : List S41) (x : S69) (h : itemB x = true) : okE (pts l x) := by
 unfold pts
 by_cases h0 : 0 ≤ x.f0
 ·rw [if_pos h0]; exact (tp_ok _ _).1
 ·rw [if_neg h0]
  unfold itemB at h
  rw [Bool.and_eq_true, decide_eq_true_eq] at h
  have e : x.f0 = -1 := by omega
  have h2 := h.2
  rw [e] at h2
  simp at h2
  exact ⟨by simp, by simp [enc], by simpa using h2⟩
theorem fit_more {P Q : List Int} (h : (P ++ Q).length ≤ 1099511627776 ∧ (enc (P ++ Q)).length ≤ 65536) : (P.length ≤ 1099511627776 ∧ (enc P).length ≤ 65536) ∧ (Q.length ≤ 1099511627776 ∧ (enc Q).length ≤ 65536) := by
 have h1 := h.1
 rw [List.length_append] at h1
 have := enc_len_append P Q (by omega) (by omega)
 omega
theorem value_l0 (l : List S41) (hs : small l) (w : List S69) (hw : w.length ≤ 1000000) (hg : ∀ x ∈ w, itemB x = true) : ∀ d i (P : List Int), i + d = w.length → okE P →
  Ev (fun k => word_Value.l0 k l (enc P) w (w.length : Int) (i : Int)) (fitE (P ++ ptsW l (w.drop i))) := by
 intro d
 induction d with
 | zero =>
  intro i P hi hP
  refine Ev.step (fun k => by rw [word_Value.l0]) (evN (by omega) (evR ?_))
  rw [List.drop_eq_nil_of_le (by omega)]
  show _ = fitE (P ++ [])
  rw [List.append_nil]; unfold fitE; rw [if_pos ⟨hP.len, hP.runs⟩]
 | succ d ih =>
  intro i P hi hP
  have hi' : i < w.length := by omega
  have hx := hg _ (List.getElem_mem hi')
  have hok := pts_ok l w[i] hx
  rw [List.drop_eq_getElem_cons hi', ptsW_cons, ← List.append_assoc]
  -- what stands behind the step
  have next : ∀ (bt : List S71 × Int), bt = fitE (P ++ pts l w[i]) → Ev (fun k => if bt.2 = 0 then word_Value.l0 k l bt.1 w (w.length : Int) (wrap64 ((i : Int) + 1)) else some ([], bt.2)) (fitE (P ++ pts l w[i] ++ ptsW l (w.drop (i + 1)))) := by
   intro bt hbt
   unfold fitE at hbt
   by_cases hf : (P ++ pts l w[i]).length ≤ 1099511627776 ∧ (enc (P ++ pts l w[i])).length ≤ 65536
   ·rw [if_pos hf] at hbt
    subst hbt
    refine evP rfl ?_
    rw [wnext (by omega)]
    exact ih (i + 1) _ (by omega) ⟨hf.1, hf.2, fun c hc => (List.mem_append.1 hc).elim (hP.rng c) (hok.rng c)⟩
   ·rw [if_neg hf] at hbt
    subst hbt
    refine evN (by decide) (evR ?_)
    unfold fitE
    rw [if_neg (fun z => hf (fit_more z).1)]
  refine Ev.step (fun k => by rw [word_Value.l0]) (evP (by omega) (evP (by omega) (evP (by omega) ?_)))
  rw [rdL w i hi']
  by_cases h0 : w[i].f0 ≥ 0
  ·have e : pts l w[i] = tp w[i].f0 l := by unfold pts; rw [if_pos h0]
   refine evP h0 (Ev.bind (text_ev _ l hs) ?_)
   have hc := concat_ev hP hok
   rw [e, (tp_ok w[i].f0 l).2] at hc
   refine Ev.bind hc ?_
   rw [e] at next ⊢
   exact next _ rfl
  ·have e : pts l w[i] = [w[i].f1] := by unfold pts; rw [if_neg h0]
   refine evN h0 ?_
   have hc := concat_ev hP hok
   rw [e] at hc
   refine Ev.bind hc ?_
   rw [e] at next ⊢
   exact next _ rfl
def valV (w : List S69) (l : List S41) : List S71 × Int := if mayB w = true then fitE (ptsW l w) else ([], 1)
theorem mayB_items {w : List S69} (h : mayB w = true) : w.length ≤ 4000 ∧ ∀ x ∈ w, itemB x = true := by
 unfold mayB at h
 rw [Bool.and_eq_true, decide_eq_true_eq, List.all_eq_true] at h
 exact h
theorem value_ev (w : List S69) (hw : w.length ≤ 1000000) (l : List S41) (hs : small l) : Ev (fun k => word_Value.f k w l) (valV w l) := by
 refine Ev.congr (fun k => rfl) (Ev.bind (may_ev w (by omega)) ?_)
 unfold valV
 by_cases h : mayB w = true
 ·rw [if_pos h]
  refine evP h ?_
  have := value_l0 l hs w hw (mayB_items h).2 w.length 0 [] (by omega) okE_nil
  rw [List.drop_zero, List.nil_append] at this
  exact this
 ·rw [if_neg h]; exact evN h (evR rfl)
end Go.Proofs.Ytbigeaknbhmniaa.S
/- The text of a word, of the reference; the law WordValues. -/
namespace Go.Proofs.Ytbigeaknbhmniaa.S
set_option linter.unusedVariables false
set_option linter.unusedSimpArgs false
open Go.RowKit Go.Proofs.Ytbigeaknbhmniaa.PB Go.Proofs.Ytbigeaknbhmniaa.H Go.Proofs.YtbigeaknbhmniaaW.PrintWords Go.Proofs.YtbigeaknbhmniaaW.PrintLast Go.Proofs.YtbigeaknbhmniaaW.PrintMore

theorem rdI (l : List Int) (i : Nat) (h : i < l.length) : rd l (i : Int) = l[i] := by unfold rd; rw [Int.toNat_natCast]; simp [h]
/-! ### one text is itself; two are one or not -/
theorem texts_l0 (l : List S71) (hl : l.length ≤ 1000000000) : ∀ d i, i + d = l.length → Ev (fun k => gudgeonref07_Texts.l0 k l l (i : Int)) true := by
 intro d
 induction d with
 | zero =>
  intro i hi
  exact Ev.step (fun k => by rw [gudgeonref07_Texts.l0]) (evN (by omega) (evR rfl))
 | succ d ih =>
  intro i hi
  refine Ev.step (fun k => by rw [gudgeonref07_Texts.l0]) (evP (by omega) (evP (by omega) (evP (by omega) (evN (by simp) ?_))))
  rw [wnext (by omega)]
  exact ih (i + 1) (by omega)
theorem texts_self (l : List S71) (hl : l.length ≤ 1000000000) : Ev (fun k => gudgeonref07_Texts.f k l l) true :=
 Ev.congr (fun k => rfl) (evP rfl (texts_l0 l hl l.length 0 (by omega)))
theorem fitE_len (R : List Int) : (fitE R).1.length ≤ 65536 := by
 unfold fitE; split
 ·rename_i h; exact h.2
 ·exact Nat.zero_le _
theorem valV_len (w : List S69) (l : List S41) : (valV w l).1.length ≤ 65536 := by
 unfold valV; split
 ·exact fitE_len _
 ·exact Nat.zero_le _
/-! ### the guard -/
def fewB (a b : List S69) (l : List S41) : Bool := decide (a.length ≤ 200) && decide (b.length ≤ 200) && decide (l.length ≤ 60) && l.all (fun t => decide (t.f1.length ≤ 200))
theorem few_l0 (l : List S41) (hl : l.length ≤ 60) : ∀ d i, i + d = l.length → Ev (fun k => gudgeonlaw17_few.l0 k l (i : Int)) ((l.drop i).all (fun t => decide (t.f1.length ≤ 200))) := by
 intro d
 induction d with
 | zero =>
  intro i hi
  refine Ev.step (fun k => by rw [gudgeonlaw17_few.l0]) (evN (by omega) (evR ?_))
  rw [List.drop_eq_nil_of_le (by omega)]; rfl
 | succ d ih =>
  intro i hi
  have hi' : i < l.length := by omega
  refine Ev.step (fun k => by rw [gudgeonlaw17_few.l0]) (evP (by omega) (evP (by omega) ?_))
  rw [rdX l i hi', List.drop_eq_getElem_cons hi', List.all_cons, wnext (by omega)]
  by_cases h : (l[i].f1.length : Int) > 200
  ·refine evP h (evR ?_); rw [decide_eq_false (by omega), Bool.false_and]
  ·rw [decide_eq_true (by omega), Bool.true_and]
   exact evN h (ih (i + 1) (by omega))
theorem few_j0 (l : List S41) (b : Bool) (hb : b = false → l.length ≤ 60) : Ev (fun k => gudgeonlaw17_few.j0 k l b) (!b && l.all (fun t => decide (t.f1.length ≤ 200))) := by
 refine Ev.step (fun k => by rw [gudgeonlaw17_few.j0]) ?_
 cases b with
 | true => exact evP rfl (evR rfl)
 | false =>
  refine evN (by decide) ?_
  have := few_l0 l (hb rfl) l.length 0 (by omega)
  rw [List.drop_zero] at this
  exact this
theorem few_ev (a b : List S69) (l : List S41) : Ev (fun k => gudgeonlaw17_few.f k a b l) (fewB a b l) := by
 unfold fewB
 by_cases h1 : (a.length : Int) > 200
 ·refine Ev.congr (fun k => rfl) (evP h1 ?_)
  rw [decide_eq_false (by omega)]
  exact few_j0 l true (fun z => by cases z)
 by_cases h2 : (b.length : Int) > 200
 ·refine Ev.congr (fun k => rfl) (evN h1 (evP h2 ?_))
  rw [decide_eq_false (show ¬ b.length ≤ 200 by omega), Bool.and_false]
  exact few_j0 l true (fun z => by cases z)
 refine Ev.congr (fun k => rfl) (evN h1 (evN h2 ?_))
 rw [decide_eq_true (show a.length ≤ 200 by omega), decide_eq_true (show b.length ≤ 200 by omega), Bool.true_and, Bool.true_and]
 have := few_j0 l (decide ((l.length : Int) > 60)) (fun z => by have := of_decide_eq_false z; omega)
 rw [show (!decide ((l.length : Int) > 60)) = decide (l.length ≤ 60) by rw [← decide_not]; exact decide_eq_decide.2 (by omega)] at this
 exact this
theorem fewB_of {a b : List S69} {l : List S41} (h : fewB a b l = true) : a.length ≤ 200 ∧ b.length ≤ 200 ∧ l.length ≤ 60 ∧ small l := by
 unfold fewB at h
 simp only [Bool.and_eq_true, decide_eq_true_eq, List.all_eq_true] at h
 exact ⟨h.1.1.1, h.1.1.2, h.1.2, ⟨by omega, fun t ht => by have := h.2 t ht; omega⟩⟩
end Go.Proofs.Ytbigeaknbhmniaa.S
/- Words stripped; the law WordStripped. -/
namespace Go.Proofs.Ytbigeaknbhmniaa.S
set_option linter.unusedVariables false
set_option linter.unusedSimpArgs false
open Go.RowKit Go.Proofs.Ytbigeaknbhmniaa.PB Go.Proofs.Ytbigeaknbhmniaa.H Go.Proofs.YtbigeaknbhmniaaW.PrintWords Go.Proofs.YtbigeaknbhmniaaW.PrintLast Go.Proofs.YtbigeaknbhmniaaW.PrintMore

/-- What an item is. -/
def key (x : S69) : Int × Int := (x.f0, if 0 ≤ x.f0 then 0 else x.f1)
theorem same_key (x y : S69) : word_same.f x.f0 x.f1 y.f0 y.f1 = some (decide (key x = key y)) := by
 unfold word_same.f key
 by_cases h : x.f0 ≥ 0
 ·rw [if_pos h]
  congr 1
  rw [Bool.eq_iff_iff, beq_iff_eq, decide_eq_true_eq, Prod.mk.injEq, if_pos h]
  exact ⟨fun e => ⟨e, by rw [if_pos (by omega)]⟩, fun e => e.1⟩
 ·rw [if_neg h]
  congr 1
  rw [Bool.eq_iff_iff, Bool.and_eq_true, beq_iff_eq, beq_iff_eq, decide_eq_true_eq, Prod.mk.injEq, if_neg h]
  exact ⟨fun e => ⟨e.1, by rw [if_neg (by omega)]; exact e.2⟩, fun e => ⟨e.1, by have := e.2; rw [if_neg (by have := e.1; omega)] at this; exact this⟩⟩
def ptsK (l : List S41) (k : Int × Int) : List Int := if 0 ≤ k.1 then tp k.1 l else [k.2]
theorem pts_key (l : List S41) (x : S69) : pts l x = ptsK l (key x) := by
 unfold pts ptsK key
 by_cases h : 0 ≤ x.f0
 ·rw [if_pos h, if_pos h]
 ·rw [if_neg h, if_neg h]; simp only [if_neg h]
theorem ptsW_key (l : List S41) : ∀ p q : List S69, p.map key = q.map key → ptsW l p = ptsW l q
 | [], [], _ => rfl
 | [], y :: q, h => by simp at h
 | x :: p, [], h => by simp at h
 | x :: p, y :: q, h => by
  simp only [List.map_cons, List.cons.injEq] at h
  rw [ptsW_cons, ptsW_cons, pts_key, pts_key, h.1, ptsW_key l p q h.2]
/-! ### two texts are one or not -/
instance : DecidableEq S71 := fun a b => if h : a.f0 = b.f0 ∧ a.f1 = b.f1 then isTrue (by cases a; cases b; simp only at h; rw [h.1, h.2]) else isFalse (fun e => h (by rw [e]; exact ⟨rfl, rfl⟩))
end Go.Proofs.Ytbigeaknbhmniaa.S
/- The law WordAlike. -/
namespace Go.Proofs.Ytbigeaknbhmniaa.S
set_option linter.unusedVariables false
set_option linter.unusedSimpArgs false
open Go.RowKit Go.Proofs.Ytbigeaknbhmniaa.PB Go.Proofs.Ytbigeaknbhmniaa.H Go.Proofs.YtbigeaknbhmniaaW.PrintWords Go.Proofs.YtbigeaknbhmniaaW.PrintLast Go.Proofs.YtbigeaknbhmniaaW.PrintMore

theorem index_l0 (e : List Int) (he : e.length ≤ 1000000) (v : Int) : ∀ d i, i + d = e.length → ∃ r, Ev (fun k => slices_Index_int_int.l0 k e v (e.length : Int) (i : Int)) r ∧ decide (r ≥ 0) = decide (v ∈ e.drop i) := by
 intro d
 induction d with
 | zero =>
  intro i hi
  refine ⟨-1, Ev.step (fun k => by rw [slices_Index_int_int.l0]) ?_, ?_⟩
  ·exact evN (by omega) (evR rfl)
  ·rw [List.drop_eq_nil_of_le (by omega)]; simp
 | succ d ih =>
  intro i hi
  have hi' : i < e.length := by omega
  obtain ⟨r, h1, h2⟩ := ih (i + 1) (by omega)
  by_cases h : v = e[i]
  ·refine ⟨(i : Int), Ev.step (fun k => by rw [slices_Index_int_int.l0]) ?_, ?_⟩
   ·refine evP (by omega) (evP (by omega) (evP (by omega) ?_))
    rw [rdI e i hi']
    exact evP h (evR rfl)
   ·rw [List.drop_eq_getElem_cons hi', decide_eq_true (show (i : Int) ≥ 0 by omega)]
    exact (decide_eq_true (by rw [h]; exact List.mem_cons_self)).symm
  ·refine ⟨r, Ev.step (fun k => by rw [slices_Index_int_int.l0]) ?_, ?_⟩
   ·refine evP (by omega) (evP (by omega) (evP (by omega) ?_))
    rw [rdI e i hi', wnext (by omega)]
    exact evN h h1
   ·rw [h2, List.drop_eq_getElem_cons hi']
    exact decide_eq_decide.2 ⟨fun z => List.mem_cons_of_mem _ z, fun z => (List.mem_cons.1 z).resolve_left h⟩
theorem has_ev (e : List Int) (he : e.length ≤ 1000000) (v : Int) : Ev (fun k => slices_Contains_int_int.f k e v) (decide (v ∈ e)) := by
 obtain ⟨r, h1, h2⟩ := index_l0 e he v e.length 0 (by omega)
 rw [List.drop_zero] at h2
 exact Ev.congr (fun k => rfl) (Ev.bind (Ev.congr (fun k => rfl) h1) (evR h2))
def staysB (e : List Int) (x : S69) : Bool := x.f0 == -1 || !decide (x.f0 ∈ e)
theorem without_l0 (e : List Int) (he : e.length ≤ 1000000) (w : List S69) (hw : w.length ≤ 1000000) : ∀ d i (out : List S69), i + d = w.length → out.length ≤ i → Ev (fun k => word_without.l0 k e out w (w.length : Int) (i : Int)) (out ++ (w.drop i).filter (staysB e)) := by
 intro d
 induction d with
 | zero =>
  intro i out hi ho
  refine Ev.step (fun k => by rw [word_without.l0]) ?_
  refine evN (by omega) (evR ?_)
  rw [List.drop_eq_nil_of_le (by omega)]; simp
 | succ d ih =>
  intro i out hi ho
  have hi' : i < w.length := by omega
  refine Ev.step (fun k => by rw [word_without.l0]) ?_
  refine evP (by omega) (evP (by omega) (evP (by omega) ?_))
  rw [rdL w i hi', List.drop_eq_getElem_cons hi', List.filter_cons, wnext (by omega)]
  have keep := ih (i + 1) (out ++ [w[i]]) (by omega) (by simp; omega)
  have drop := ih (i + 1) out (by omega) (by omega)
  rw [List.append_assoc] at keep
  by_cases h : w[i].f0 = -1
  ·have e1 : staysB e w[i] = true := by unfold staysB; rw [h]; rfl
   rw [if_pos e1]
   exact evP h (evP (by omega) keep)
  ·refine evN h (Ev.bind (has_ev e he _) ?_)
   by_cases h2 : w[i].f0 ∈ e
   ·have e1 : ¬ staysB e w[i] = true := by unfold staysB; rw [decide_eq_true h2, beq_eq_false_iff_ne.2 h]; decide
    rw [if_neg e1]
    exact evP (decide_eq_true h2) drop
   ·have e1 : staysB e w[i] = true := by unfold staysB; rw [decide_eq_false h2]; simp
    rw [if_pos e1]
    exact evN (by rw [decide_eq_false h2]; decide) (evP (by omega) keep)
theorem without_ev (e : List Int) (he : e.length ≤ 1000000) (w : List S69) (hw : w.length ≤ 1000000) : Ev (fun k => word_without.f k w e) (w.filter (staysB e)) := by
 have := without_l0 e he w hw w.length 0 [] (by omega) (by simp)
 rw [List.drop_zero, List.nil_append] at this
 exact Ev.congr (fun k => rfl) this
theorem eqf_l0 (a b : List S69) (ha : a.length ≤ 1000000) (hl : a.length = b.length) : ∀ d i, i + d = a.length → Ev (fun k => api_Letter_49.l0 k b a (a.length : Int) (i : Int)) (decide ((a.drop i).map key = (b.drop i).map key)) := by
 intro d
 induction d with
 | zero =>
  intro i hi
  refine Ev.step (fun k => by rw [api_Letter_49.l0]) ?_
  refine evN (by omega) (evR ?_)
  rw [List.drop_eq_nil_of_le (by omega), List.drop_eq_nil_of_le (by omega)]; rfl
 | succ d ih =>
  intro i hi
  have hi' : i < a.length := by omega
  refine Ev.step (fun k => by rw [api_Letter_49.l0]) ?_
  refine evP (by omega) (evP (by omega) (evP (by omega) (evP (by omega) ?_)))
  rw [rdL a i hi', rdL b i (by omega), List.drop_eq_getElem_cons hi', List.drop_eq_getElem_cons (show i < b.length by omega), List.map_cons, List.map_cons, wnext (by omega)]
  refine evC (same_key _ _) ?_
  by_cases h : key a[i] = key b[i]
  ·rw [h]
   refine evP (decide_eq_true rfl) ?_
   have := ih (i + 1) (by omega)
   rw [show decide ((a.drop (i + 1)).map key = (b.drop (i + 1)).map key) = decide (key b[i] :: (a.drop (i + 1)).map key = key b[i] :: (b.drop (i + 1)).map key) from decide_eq_decide.2 ⟨fun e => by rw [e], fun e => (List.cons.inj e).2⟩] at this
   exact this
  ·refine evN (by rw [decide_eq_false h]; decide) (evR ?_)
   exact (decide_eq_false (fun z => h (List.cons.inj z).1)).symm
theorem eqf_ev (a b : List S69) (ha : a.length ≤ 1000000) : Ev (fun k => api_Letter_49.f k a b) (decide (a.map key = b.map key)) := by
 by_cases h : a.length = b.length
 ·have := eqf_l0 a b ha h a.length 0 (by omega)
  rw [List.drop_zero, List.drop_zero] at this
  exact Ev.congr (fun k => rfl) (evP (by omega) this)
 ·refine Ev.congr (fun k => rfl) (evN (by omega) (evR (decide_eq_false (fun z => h ?_)).symm))
  have := congrArg List.length z
  simpa using this
def alikeB (a b : List S69) (e : List Int) : Bool := mayB a && mayB b && decide ((a.filter (staysB e)).map key = (b.filter (staysB e)).map key)
theorem alike_ev (a b : List S69) (e : List Int) (ha : a.length ≤ 1000000) (hb : b.length ≤ 1000000) (he : e.length ≤ 1000000) : Ev (fun k => word_Alike.f k a b e) (alikeB a b e) := by
 refine Ev.congr (fun k => rfl) (Ev.bind (may_ev a (by omega)) ?_)
 unfold alikeB
 cases mayB a with
 | false => exact evN (by decide) (evR rfl)
 | true =>
  refine evP rfl (Ev.bind (may_ev b (by omega)) ?_)
  cases mayB b with
  | false => exact evN (by decide) (evR rfl)
  | true =>
   refine evP rfl (Ev.bind (without_ev e he a ha) (Ev.bind (without_ev e he b hb) (Ev.bind (eqf_ev _ _ (Nat.le_trans (List.length_filter_le _ _) ha)) (evR ?_))))
   rfl
theorem txt_empty (v : Int) (l : List S41) : ∀ e : List Int, v ∈ e → txt v (e.map (fun c => (⟨c, []⟩ : S41)) ++ l) = []
 | [], h => by cases h
 | c :: r, h => by
  rw [List.map_cons, List.cons_append]
  unfold txt
  by_cases hc : c = v
  ·rw [if_pos hc]; split <;> rfl
  ·rw [if_neg hc]
   exact txt_empty v l r ((List.mem_cons.1 h).resolve_left (fun z => hc z.symm))
theorem ptsW_without (e : List Int) (l : List S41) : ∀ w : List S69, (∀ x ∈ w, itemB x = true) → ptsW (e.map (fun c => (⟨c, []⟩ : S41)) ++ l) w = ptsW (e.map (fun c => (⟨c, []⟩ : S41)) ++ l) (w.filter (staysB e))
 | [], _ => rfl
 | x :: r, h => by
  have ih := ptsW_without e l r (fun y hy => h y (List.mem_cons_of_mem _ hy))
  rw [ptsW_cons, List.filter_cons, ih]
  by_cases hs : staysB e x = true
  ·rw [if_pos hs, ptsW_cons]
  ·rw [if_neg hs]
   have hs' := hs
   unfold staysB at hs'
   rw [Bool.or_eq_true, not_or, beq_iff_eq, Bool.not_eq_true', decide_eq_false_iff_not, Decidable.not_not] at hs'
   have hi := h x List.mem_cons_self
   unfold itemB at hi
   rw [Bool.and_eq_true, decide_eq_true_eq] at hi
   have : pts (e.map (fun c => (⟨c, []⟩ : S41)) ++ l) x = [] := by
    unfold pts tp
    rw [if_pos (by omega), txt_empty x.f0 l e hs'.2]; rfl
   rw [this, List.nil_append]
theorem valV_alike (a b : List S69) (e : List Int) (l : List S41) (h : alikeB a b e = true) : valV a (e.map (fun c => (⟨c, []⟩ : S41)) ++ l) = valV b (e.map (fun c => (⟨c, []⟩ : S41)) ++ l) := by
 unfold alikeB at h
 rw [Bool.and_eq_true, Bool.and_eq_true, decide_eq_true_eq] at h
 unfold valV
 rw [if_pos h.1.1, if_pos h.1.2, ptsW_without e l a (mayB_items h.1.1).2, ptsW_without e l b (mayB_items h.1.2).2, ptsW_key _ _ _ h.2]
theorem alike_l0 (a b : List S69) (e : List Int) (l : List S41) (ha : a.length ≤ 200) (hb : b.length ≤ 200) (he : e.length ≤ 200) (hl : l.length ≤ 60) (hs : small l) : ∀ d i, i + d = e.length → Ev (fun k => gudgeonlaw17_WordAlike.l0 k a b e l ((e.take i).map (fun c => (⟨c, []⟩ : S41))) (i : Int)) true := by
 intro d
 induction d with
 | zero =>
  intro i hi
  refine Ev.step (fun k => by rw [gudgeonlaw17_WordAlike.l0]) ?_
  rw [List.take_of_length_le (by omega)]
  refine evN (by omega) (evP (by rw [List.length_map]; omega) ?_)
  refine evC rfl (Ev.bind (alike_ev a b e (by omega) (by omega) (by omega)) ?_)
  have hs2 : small (e.map (fun c => (⟨c, []⟩ : S41)) ++ l) := ⟨by rw [List.length_append, List.length_map]; omega, fun t ht => by
   rcases List.mem_append.1 ht with ht | ht
   ·obtain ⟨c, _, rfl⟩ := List.mem_map.1 ht
    exact Nat.zero_le _
   ·exact hs.each t ht⟩
  cases h : alikeB a b e with
  | false => exact evN (by decide) (evR rfl)
  | true =>
   have va := value_ev a (by omega) _ hs2
   have vb := value_ev b (by omega) _ hs2
   rw [valV_alike a b e l h] at va
   have hlen := valV_len b (e.map (fun c => (⟨c, []⟩ : S41)) ++ l)
   refine evP rfl (Ev.bind va (Ev.bind vb (Ev.bind (texts_self _ (by omega)) ?_)))
   exact evP rfl (evR (by simp))
 | succ d ih =>
  intro i hi
  have hi' : i < e.length := by omega
  have next := ih (i + 1) (by omega)
  rw [List.take_succ_eq_append_getElem hi', List.map_append] at next
  refine Ev.step (fun k => by rw [gudgeonlaw17_WordAlike.l0]) ?_
  refine evP (by omega) (evP (by omega) (evP (by rw [List.length_map, List.length_take]; omega) ?_))
  rw [rdI e i hi', wnext (by omega)]
  exact next
theorem WordAlike (a b : List S69) (e : List Int) (l : List S41) : ∃ k, gudgeonlaw17_WordAlike.f k a b e l = some true := by
 refine Ev.rounds ?_
 refine Ev.congr (fun k => rfl) (Ev.bind awake_ev (Ev.bind (few_ev a b l) (evP rfl ?_)))
 have stop : Ev (fun k => gudgeonlaw17_WordAlike.j0 k a b e l true true) true := by
  refine Ev.step (fun k => by rw [gudgeonlaw17_WordAlike.j0]) ?_
  exact evP rfl (evR rfl)
 cases hf : fewB a b l with
 | false => exact evN (by decide) stop
 | true =>
  obtain ⟨h1, h1', h2, hs⟩ := fewB_of hf
  refine evP rfl ?_
  by_cases he : (e.length : Int) > 200
  ·rw [decide_eq_true he]; exact stop
  ·rw [decide_eq_false he]
   refine Ev.step (fun k => by rw [gudgeonlaw17_WordAlike.j0]) ?_
   refine evN (by decide) ?_
   have := alike_l0 a b e l h1 h1' (by omega) h2 hs e.length 0 (by omega)
   exact this
end Go.Proofs.Ytbigeaknbhmniaa.S
/- Written by wip/tools/rows.py. -/
namespace Go.Proofs.Ytbigeaknbhmniaa.wordAlike
open Go.ChangeShapes Go.WideShapes Go.ChangeAt Go.RowKit
open Go.ChangeMaps (open_string shut_string)
set_option linter.unusedVariables false
theorem own : ownKnob Try.prog.godebug = none := by kernel_rfl
theorem laidOut : laidOutB Try.prog = true := by kernel_rfl
def IsRow (k : IntKind) (w : World) (a : Option Addr) (len cap : Nat) (zs : List Int) : Prop :=
  (a = none ∧ len = 0 ∧ cap = 0 ∧ zs = []) ∨
  ∃ x, a = some x ∧ len ≤ cap ∧ cap ≤ maxLen ∧ zs.length = cap ∧ (∀ i, i < zs.length → w.cell? (x.add i) = some (.int k (zs.getD i 0))) ∧ ∀ n ∈ zs, (Lit.int k n).wf = true
set_option maxRecDepth 100000 in
theorem lifted (os : Os) (started : os.Started) (H : Type) (enc : TypeId × Value → H) :
    ReturnsInHanded {} Try.checked os 5 .any (Rows.wordAlikeSpec.pre6 enc Try.prog Try.f5 Rows.wordAlikeRow.domain false) (Rows.wordAlikeSpec.post enc Try.prog Try.f5 false true false false) := by
  refine returnsInHanded_of_change_sized (C := Try.checked) own started (by kernel_rfl) Try.func5
    (ChangeSpec.witness6 (enc := enc) (C := Try.checked) false ⟨#[], #[.slice none 0 0, .slice none 0 0, .slice none 0 0, .slice none 0 0], []⟩ 8 (by kernel_rfl) (by kernel_rfl) (by kernel_rfl) (by kernel_rfl)) ?_
  intro W base args ds gs before hval0 hW hcnd hsz0 _
  have hsz : (DataW.weightsEach Try.prog (Try.f5.params.toList ++ Rows.wordAlikeSpec.plain.varTypes Try.prog) (ds ++ gs)).all (· ≤ reachBytes) = true := hsz0
  have hval : ∀ (j : Nat) t v, Try.f5.params[j]? = some t → args[j]? = some v → Value.okWide Try.prog W .any base t v := hval0
  have hW' := hW
  obtain ⟨p, q, hA0, hV, rfl, hfz, hnd⟩ := hW
  have hA : DataW.TrodAll enc Try.prog W 0 (fun _ => true) true Try.f5.params.toList args.toList ds p := hA0
  rw [Try.params5] at hA hval hsz
  obtain ⟨v0, vs0, d0, ds0, p0, q0, hargs, rfl, rfl, h0, r0⟩ := trodAll_cons hA
  obtain ⟨v1, vs1, d1, ds1, p1, q1, rfl, rfl, rfl, h1, r1⟩ := trodAll_cons r0
  obtain ⟨v2, vs2, d2, ds2, p2, q2, rfl, rfl, rfl, h2, r2⟩ := trodAll_cons r1
  obtain ⟨v3, vs3, d3, ds3, p3, q3, rfl, rfl, rfl, h3, r3⟩ := trodAll_cons r2
  obtain ⟨rfl, rfl, rfl⟩ := trodAll_nil r3
  obtain rfl : args = #[v0, v1, v2, v3] := by cases args; simp_all
  obtain ⟨rfl, rfl⟩ := trodVars_none hV
  obtain ⟨A0, len0, cap0, rfl⟩ := okWide_slice Try.underlying23 (hval 0 23 v0 rfl rfl)
  have k0 := h0
  have lt0 : ∀ x ∈ p0, x.block < W.heap.size := by obtain ⟨m, hm⟩ := k0; exact DataW.trod_lt m _ _ _ hm
  obtain ⟨l0, hll0, hlc0, hr0, hm0⟩ : ∃ l : List PB.S69, l.length = len0 ∧ len0 ≤ cap0 ∧ Go.Proofs.YtbigeaknbhmniaaW.PrintWords.Kd.C PB.k69 W A0 len0 l ∧ ∀ x ∈ l, (Lit.int .i64 x.f0).wf = true ∧ (Lit.int .i64 x.f1).wf = true := by
    obtain ⟨fuel, hf⟩ := h0
    rcases Go.Deep.open_slice_pairs Try.underlying23 Try.underlying69 (by kernel_rfl) rfl rfl (by kernel_rfl) (by kernel_rfl) hf with ⟨hcs, _⟩ | ⟨a, len, cap, m, n, V0, V1, D0, D1, P0, P1, hcs, _, hl, hm, hmm, _, hx⟩
    · simp [Value.cells] at hcs
      obtain ⟨rfl, rfl, rfl⟩ := hcs
      exact ⟨[], rfl, Nat.le_refl _, ⟨rfl, by decide, fun h => absurd h (by decide)⟩, by simp⟩
    · simp [Value.cells] at hcs
      obtain ⟨rfl, rfl, rfl⟩ := hcs
      have hlm : len0 ≤ m := by rw [hmm]; split <;> omega
      have each : ∀ i, i < len0 → ∃ q : PB.S69, (W.cell? (a.add (i * 2)) = some (.int .i64 q.f0) ∧ W.cell? (a.add (i * 2 + 1)) = some (.int .i64 q.f1)) ∧ (Lit.int .i64 q.f0).wf = true ∧ (Lit.int .i64 q.f1).wf = true := by
        intro i hi
        obtain ⟨c0, c1, t0, t1⟩ := hx i (by omega)
        obtain ⟨n0, e0, _, f0⟩ := DataW.trod_int Try.underlying3 t0
        obtain ⟨n1, e1, _, f1⟩ := DataW.trod_int Try.underlying3 t1
        simp only [List.cons.injEq, and_true] at e0 e1
        exact ⟨⟨n0, n1⟩, ⟨by rw [c0, e0], by rw [c1, e1]⟩, f0, f1⟩
      haveI : Inhabited PB.S69 := ⟨⟨0, 0⟩⟩
      obtain ⟨q, hq⟩ := Go.Deep.choose_lt each
      refine ⟨(List.range len0).map q, by simp, hl, ⟨by simp, Nat.le_trans (Nat.le_trans hl hm) (by decide), fun hn => ⟨a, rfl, fun j p hp => ?_⟩⟩, fun x hx => ?_⟩
      rotate_left
      · obtain ⟨j, hj, rfl⟩ := List.mem_map.1 hx
        exact (hq j (List.mem_range.1 hj)).2
      rw [List.getElem?_map] at hp
      obtain ⟨j', hj', rfl⟩ := Option.map_eq_some_iff.1 hp
      obtain ⟨hjl, rfl⟩ := List.getElem?_eq_some_iff.1 hj'
      rw [List.length_range] at hjl
      simp only [List.getElem_range]
      refine ⟨_, rfl, PB.k69_mk W _, fun i u hu => ?_⟩
      match i, hu with
      | 0, hu => obtain rfl := Option.some.inj hu; exact (hq j hjl).1.1
      | 1, hu => obtain rfl := Option.some.inj hu; exact (hq j hjl).1.2
  subst hll0
  obtain ⟨A1, len1, cap1, rfl⟩ := okWide_slice Try.underlying23 (hval 1 23 v1 rfl rfl)
  have k1 := h1
  have lt1 : ∀ x ∈ p1, x.block < W.heap.size := by obtain ⟨m, hm⟩ := k1; exact DataW.trod_lt m _ _ _ hm
  obtain ⟨l1, hll1, hlc1, hr1, hm1⟩ : ∃ l : List PB.S69, l.length = len1 ∧ len1 ≤ cap1 ∧ Go.Proofs.YtbigeaknbhmniaaW.PrintWords.Kd.C PB.k69 W A1 len1 l ∧ ∀ x ∈ l, (Lit.int .i64 x.f0).wf = true ∧ (Lit.int .i64 x.f1).wf = true := by
    obtain ⟨fuel, hf⟩ := h1
    rcases Go.Deep.open_slice_pairs Try.underlying23 Try.underlying69 (by kernel_rfl) rfl rfl (by kernel_rfl) (by kernel_rfl) hf with ⟨hcs, _⟩ | ⟨a, len, cap, m, n, V0, V1, D0, D1, P0, P1, hcs, _, hl, hm, hmm, _, hx⟩
    · simp [Value.cells] at hcs
      obtain ⟨rfl, rfl, rfl⟩ := hcs
      exact ⟨[], rfl, Nat.le_refl _, ⟨rfl, by decide, fun h => absurd h (by decide)⟩, by simp⟩
    · simp [Value.cells] at hcs
      obtain ⟨rfl, rfl, rfl⟩ := hcs
      have hlm : len1 ≤ m := by rw [hmm]; split <;> omega
      have each : ∀ i, i < len1 → ∃ q : PB.S69, (W.cell? (a.add (i * 2)) = some (.int .i64 q.f0) ∧ W.cell? (a.add (i * 2 + 1)) = some (.int .i64 q.f1)) ∧ (Lit.int .i64 q.f0).wf = true ∧ (Lit.int .i64 q.f1).wf = true := by
        intro i hi
        obtain ⟨c0, c1, t0, t1⟩ := hx i (by omega)
        obtain ⟨n0, e0, _, f0⟩ := DataW.trod_int Try.underlying3 t0
        obtain ⟨n1, e1, _, f1⟩ := DataW.trod_int Try.underlying3 t1
        simp only [List.cons.injEq, and_true] at e0 e1
        exact ⟨⟨n0, n1⟩, ⟨by rw [c0, e0], by rw [c1, e1]⟩, f0, f1⟩
      haveI : Inhabited PB.S69 := ⟨⟨0, 0⟩⟩
      obtain ⟨q, hq⟩ := Go.Deep.choose_lt each
      refine ⟨(List.range len1).map q, by simp, hl, ⟨by simp, Nat.le_trans (Nat.le_trans hl hm) (by decide), fun hn => ⟨a, rfl, fun j p hp => ?_⟩⟩, fun x hx => ?_⟩
      rotate_left
      · obtain ⟨j, hj, rfl⟩ := List.mem_map.1 hx
        exact (hq j (List.mem_range.1 hj)).2
      rw [List.getElem?_map] at hp
      obtain ⟨j', hj', rfl⟩ := Option.map_eq_some_iff.1 hp
      obtain ⟨hjl, rfl⟩ := List.getElem?_eq_some_iff.1 hj'
      rw [List.length_range] at hjl
      simp only [List.getElem_range]
      refine ⟨_, rfl, PB.k69_mk W _, fun i u hu => ?_⟩
      match i, hu with
      | 0, hu => obtain rfl := Option.some.inj hu; exact (hq j hjl).1.1
      | 1, hu => obtain rfl := Option.some.inj hu; exact (hq j hjl).1.2
  subst hll1
  obtain ⟨A2, len2, cap2, rfl⟩ := okWide_slice Try.underlying39 (hval 2 39 v2 rfl rfl)
  have k2 := h2
  have lt2 : ∀ x ∈ p2, x.block < W.heap.size := by obtain ⟨m, hm⟩ := k2; exact DataW.trod_lt m _ _ _ hm
  obtain ⟨l2, hll2, hlc2, hr2, hm2⟩ := Go.Proofs.Ytbigeaknbhmniaa.H.Opens.arg_slice (d := Go.Proofs.YtbigeaknbhmniaaW.PrintWords.Kd.int .i64) Try.underlying39 (Go.Proofs.Ytbigeaknbhmniaa.H.Opens.int (by kernel_rfl) (by kernel_rfl)) h2
  subst hll2
  obtain ⟨A3, len3, cap3, rfl⟩ := okWide_slice Try.underlying31 (hval 3 31 v3 rfl rfl)
  have k3 := h3
  have lt3 : ∀ x ∈ p3, x.block < W.heap.size := by obtain ⟨m, hm⟩ := k3; exact DataW.trod_lt m _ _ _ hm
  obtain ⟨l3, hll3, hlc3, hr3, hm3⟩ := Go.Proofs.Ytbigeaknbhmniaa.H.Opens.arg_slice (d := PB.k41) Try.underlying31 (Go.Proofs.Ytbigeaknbhmniaa.H.Opens.iso (Go.Proofs.Ytbigeaknbhmniaa.H.Opens.struct Try.underlying41 (by kernel_rfl) (Go.Proofs.Ytbigeaknbhmniaa.H.OpensAt.cons rfl (Go.Proofs.Ytbigeaknbhmniaa.H.Opens.int (by kernel_rfl) (by kernel_rfl)) (Go.Proofs.Ytbigeaknbhmniaa.H.OpensAt.last rfl (Go.Proofs.Ytbigeaknbhmniaa.H.Opens.slice (by kernel_rfl) (by kernel_rfl) (Go.Proofs.Ytbigeaknbhmniaa.H.Opens.iso (Go.Proofs.Ytbigeaknbhmniaa.H.Opens.struct Try.underlying71 (by kernel_rfl) (Go.Proofs.Ytbigeaknbhmniaa.H.OpensAt.cons rfl (Go.Proofs.Ytbigeaknbhmniaa.H.Opens.int (by kernel_rfl) (by kernel_rfl)) (Go.Proofs.Ytbigeaknbhmniaa.H.OpensAt.last rfl (Go.Proofs.Ytbigeaknbhmniaa.H.Opens.int (by kernel_rfl) (by kernel_rfl)) rfl))) _ (fun a => ⟨⟨a.1, a.2⟩, rfl⟩))) rfl))) _ (fun a => ⟨⟨a.1, a.2⟩, rfl⟩)) h3
  subst hll3
  clear hA0 hval0 hsz0 hsz
  obtain ⟨k, hk⟩ := Go.Proofs.Ytbigeaknbhmniaa.S.WordAlike l0 l1 l2 l3
  refine (PB.gudgeonlaw17_WordAlike.calls k _ _ l0 _ _ l1 _ _ l2 (fun z_ => z_ < W.heap.size) _ _ l3 true W hr0 hlc0 hr1 hlc1 hr2 hlc2 (Go.Proofs.YtbigeaknbhmniaaW.PrintWords.Kd.V_mk hlc3 (Go.Proofs.YtbigeaknbhmniaaW.PrintWords.Kd.C_F PB.k41_heap hr3)) hk).mono fun e W' ⟨he, bel⟩ => ?_
  subst he
  exact ⟨_, rfl, _, _, _, [], _, [], hW', trodAll_mk1 (shut_bool Try.underlying4 _), (trodAll_cons_mk (Below.trod laidOut (by kernel_rfl) (of_decide_eq_true (by kernel_rfl)) k0 bel lt0) (trodAll_cons_mk (Below.trod laidOut (by kernel_rfl) (of_decide_eq_true (by kernel_rfl)) k1 bel lt1) (trodAll_cons_mk (Below.trod laidOut (by kernel_rfl) (of_decide_eq_true (by kernel_rfl)) k2 bel lt2) (trodAll_cons_mk (Below.trod laidOut (by kernel_rfl) (of_decide_eq_true (by kernel_rfl)) k3 bel lt3) trodAll_mk0)))), rfl, bel.frame _, fun h => by cases h⟩
theorem over : Rows.wordAlikeRow.holds Try.pinned (OpenSpec.ofChange Rows.wordAlikeSpec) :=
  OpenClaim.holds_of_wide 5 Try.f5 rfl rfl rfl rfl rfl rfl rfl ⟨rfl, rfl, rfl, rfl, rfl⟩ rfl rfl rfl rfl rfl (by kernel_rfl) Try.func5 (by kernel_rfl)
    (of_decide_eq_true (by kernel_rfl)) (by unfold Func.isWrapper; first | (rw [if_pos (by decide +kernel)]; kernel_rfl) | (rw [if_neg (by decide +kernel)]; exact ⟨rfl, rfl⟩))
    (fun os started H enc _ => lifted os started H enc)
theorem proved : Rows.WordAlikeSaid := over
end Go.Proofs.Ytbigeaknbhmniaa.wordAlike
namespace Go.Proofs.Ytbigeaknbhmniaa
/-- The row, under a short name, for the claim. -/
theorem wordAlike_holds : Rows.WordAlikeSaid := wordAlike.proved
end Go.Proofs.Ytbigeaknbhmniaa
