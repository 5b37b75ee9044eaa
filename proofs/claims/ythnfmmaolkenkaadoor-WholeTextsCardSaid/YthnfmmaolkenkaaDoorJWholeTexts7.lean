/- Joined by wip/tools/shake.py for the claim of WholeTexts: PAx23, PAx24, PAx25, NatV. -/
import Derived.Test.YthnfmmaolkenkaaDoorJWholeTexts2
import Derived.Test.YthnfmmaolkenkaaDoorJWholeTexts4
import Derived.Test.YthnfmmaolkenkaaDoorJWholeTexts6
import Derived.Test.YthnfmmaolkenkaaDoorJWholeTexts5
/- Written by a program of this session, wip/tools/patch_print.py, over the kit's print of the loaded functions. -/
namespace Go.Proofs.YthnfmmaolkenkaaDoor.H
end Go.Proofs.YthnfmmaolkenkaaDoor.H
namespace Go.Proofs.YthnfmmaolkenkaaDoor.PA
open Go.RowKit Go.Proofs.YthnfmmaolkenkaaDoorW.PrintWords Go.Proofs.YthnfmmaolkenkaaDoorW.PrintLast Go.Proofs.YthnfmmaolkenkaaDoorW.PrintMore Go.Proofs.YthnfmmaolkenkaaDoor.H
attribute [local go_sem] max2_int min2_int max_two min_two max_three min_three max_four min_four   -- for this text's walks alone
attribute [local go_sem] box_twice
set_option linter.unusedVariables false
set_option linter.unusedSimpArgs false

/-! ### gudgeonref02_Parse: function 31 -/
def gudgeonref02_Parse.j0 : Nat → ByteArray → Bool → Option (Bool × List Int × Int)
 | 0, _, _ => none
 | k + 1, x0, x4 => if x4 = true then (if 1 ≤ (x0.size : Int) then ((gudgeonref01_Parse.f k (x0.extract 1 x0.size)).bind fun bt978 => (if bt978.2 = 0 then (if (bt978.1.length : Int) = 0 then (some (false, ([] : List Int), 8)) else (some (x4, bt978.1, 0))) else (some (false, ([] : List Int), 8)))) else (none)) else ((gudgeonref01_Parse.f k x0).bind fun bt982 => (if bt982.2 = 0 then (some (x4, bt982.1, 0)) else (some (false, ([] : List Int), 8))))
def gudgeonref02_Parse.f (k : Nat) (a0 : ByteArray) : Option (Bool × List Int × Int) := if (a0.size : Int) > 0 then (if 0 < (a0.size : Int) then (gudgeonref02_Parse.j0 k a0 ((bt a0 0) == 45)) else (none)) else (gudgeonref02_Parse.j0 k a0 false)
set_option maxHeartbeats 8000000 in
set_option maxRecDepth 100000 in
theorem gudgeonref02_Parse.calls (k : Nat) (a0 : ByteArray) (r1 : Bool) (r2 : List Int) (r3 : Int) (w : World) (h : gudgeonref02_Parse.f k a0 = some (r1, r2, r3)) :
  Calls Tryd.prog 31 #[.string a0] w fun e w' => ∃ v1_ : Value, e = .returned (.tuple #[.agg #[.bool r1, v1_], .int .i64 r3]) ∧ Kd.R (Kd.int .u32) 51 w' w.heap.size (fun _ => True) v1_ r2 ∧ Below w.heap.size w w' := by
 have hu24 := Tryd.underlying24
 have HB := Aside0.mk (Below.refl w.heap.size w)
 have H : (if (a0.size : Int) > 0 then (if 0 < (a0.size : Int) then (gudgeonref02_Parse.j0 k a0 ((bt a0 0) == 45)) else (none)) else (gudgeonref02_Parse.j0 k a0 false)) = some (r1, r2, r3) := h
 clear h
 have HC2 := Aside0.mk H
 clear H
 go_enter Tryd.func31, Tryd.ntmps31
 go_upto_region 1 with (first | ((with_reducible refine gate_dst (N := 2) rfl ?_); (try (refine gate_guard (by rfl) ?_; dsimp only)); refine box_event ?hg (N := 2) ?hd (cs := #[.bool false, .slice none 0 0]) (t := 24) ?hr ?_; (case hd => rfl); (case hg => rfl); (case hr => first | (go_simp; done) | (go_simp; rfl)); intro gb977 hg w3 hbox hb; have BK977 := Aside0.mk (hbox); have GW977 := Aside0.mk (bxLe HB.out hg); have GE977 := GW977; replace HB := Aside0.mk (below_step HB.out hb); clear hb hbox hg))
 (try simp only [Act.put, List.setIfInBounds_toArray, List.set_cons_zero, List.set_cons_succ])
 go_cut [4] (fun v4 wc => ∃ (kq : Nat) (x4_1 : Bool), v4 = .bool x4_1 ∧ Aside0 (gudgeonref02_Parse.j0 kq a0 x4_1 = some (r1, r2, r3)) ∧ Aside0 (kq ≤ k) ∧ Aside0 (wc.heap[gb977]? = some (.cells #[.bool false, (.slice none 0 0)] 24 (0, 0))) ∧ Aside0 (Below w.heap.size w wc))
 case first =>
  have H := HC2.out
  clear HC2
  by_cases c4 : (a0.size : Int) > 0
  ·rw [if_pos c4] at H
   have c4b0 : decide (0 < (a0.size : Int)) = true := decide_eq_true c4
   have c4b1 : decide (0 < a0.size) = true := decide_eq_true (by omega)
   clear c4
   (first | rw [c4b0] | rw [c4b1] | (simp only [i64_w, i32_w]; rw [c4b0]) | skip)
   by_cases c5 : 0 < (a0.size : Int)
   ·rw [if_pos c5] at H
    have c5b0 : decide (0 < (a0.size : Int)) = true := decide_eq_true c5
    have c5b1 : decide (0 < a0.size) = true := decide_eq_true (by omega)
    clear c5
    have H' := Aside0.mk H
    clear H
    have p6 : 0 ≤ (0 : Int) := (by omega)
    have q6 : 0 < a0.size := (by have : (0 : Int) < (a0.size : Int) := of_decide_eq_true (by first | (with_reducible assumption) | assumption); omega)
    have hx6 : ∀ h : 0 < a0.size, ((a0[0]'h).toNat : Int) = bt a0 0 := bt_at a0 0
    clear p6
    have qi6 : (0 < (a0.size : Int)) = True := eq_true (of_decide_eq_true (by first | (with_reducible assumption) | assumption))
    replace q6 := eq_true q6
    go_wp2
    go_meet
    case rel => exact ⟨_, (((bt a0 0) == 45)), (by first | rfl | (simp; done) | (simp [*]; done) | (refine congrArg (Value.int _) ?_; omega) | (refine congrArg Value.bool ?_; generalize ByteArray.toList _ = z_; cases z_ <;> rfl)), H', ⟨by first | omega | exact Nat.le_refl _⟩, ⟨by (with_reducible repeat (first | refine blk_drewN ?_ _ | refine blk_drew ?_ | refine blk_alloc ?_ _)); exact BK977.out⟩, ⟨by repeat (first | (with_reducible first | exact HB.out | apply below_alloc | apply pw_below_drewN | apply below_drew1 | refine below_set ?_ GE977.out) | exact HB.out)⟩⟩
   ·rw [if_neg c5] at H
    exact absurd H (by simp)
  ·rw [if_neg c4] at H
   have c4b0 : decide (0 < (a0.size : Int)) = false := decide_eq_false c4
   have c4b1 : decide (0 < a0.size) = false := decide_eq_false (by omega)
   clear c4
   (first | rw [c4b0] | rw [c4b1] | (simp only [i64_w, i32_w]; rw [c4b0]) | skip)
   have H' := Aside0.mk H
   clear H
   go_wp2
   go_meet
   case rel => exact ⟨_, (false), (by first | rfl | (simp; done) | (simp [*]; done) | (refine congrArg (Value.int _) ?_; omega) | (refine congrArg Value.bool ?_; generalize ByteArray.toList _ = z_; cases z_ <;> rfl)), H', ⟨by first | omega | exact Nat.le_refl _⟩, ⟨by (with_reducible repeat (first | refine blk_drewN ?_ _ | refine blk_drew ?_ | refine blk_alloc ?_ _)); exact BK977.out⟩, ⟨by repeat (first | (with_reducible first | exact HB.out | apply below_alloc | apply pw_below_drewN | apply below_drew1 | refine below_set ?_ GE977.out) | exact HB.out)⟩⟩
 case rest =>
  clear HC2
  try clear p2
  try clear c3
  try clear c4
  try clear c4b0
  try clear c4b1
  try clear c5
  try clear c5b0
  try clear c5b1
  try clear p6
  try clear q6
  try clear hx6
  try clear qi6
  try clear p6
  try clear q6
  obtain ⟨kq, x4_1, rfl, HA, HJ1, BK977, HB⟩ := hcut
  cases kq with
  | zero => exact absurd HA.out (by simp [gudgeonref02_Parse.j0])
  | succ kj1 =>
   have H := HA.out
   clear HA
   simp only [gudgeonref02_Parse.j0] at H
   by_cases c7 : x4_1 = true
   ·subst c7
    have H1 : (if 1 ≤ (a0.size : Int) then ((gudgeonref01_Parse.f kj1 (a0.extract 1 a0.size)).bind fun bt978 => (if bt978.2 = 0 then (if (bt978.1.length : Int) = 0 then (some (false, ([] : List Int), 8)) else (some (true, bt978.1, 0))) else (some (false, ([] : List Int), 8)))) else (none)) = some (r1, r2, r3) := by rw [if_pos rfl] at H; exact H
    clear H
    have H := H1
    clear H1
    by_cases c8 : 1 ≤ (a0.size : Int)
    ·rw [if_pos c8] at H
     have c8b0 := eq_true c8
     have c8b1 : decide (1 ≤ (a0.size : Int)) = true := decide_eq_true c8
     clear c8
     replace H := Option.bind_eq_some_iff.mp H
     obtain ⟨⟨t978, t979⟩, A90, H⟩ := H
     replace H : (if t979 = 0 then (if (t978.length : Int) = 0 then (some (false, ([] : List Int), 8)) else (some (true, t978, 0))) else (some (false, ([] : List Int), 8))) = some (r1, r2, r3) := H
     have A9 := Aside0.mk A90
     clear A90
     by_cases c10 : t979 = 0
     ·rw [if_pos c10] at H
      have c10b0 : (t979 == 0) = true := beq_iff_eq.mpr c10
      have c10b1 : (t979 != 0) = false := bne_eq_false_iff_eq.mpr c10
      clear c10
      by_cases c11 : (t978.length : Int) = 0
      ·rw [if_pos c11] at H
       have c11b0 : ((t978.length : Int) == 0) = true := beq_iff_eq.mpr c11
       have c11b1 : ((t978.length : Int) != 0) = false := bne_eq_false_iff_eq.mpr c11
       clear c11
       simp only [Option.some.injEq, Prod.mk.injEq] at H
       obtain ⟨rfl, rfl, rfl⟩ := H
       go_wp2_with (first | ((with_reducible refine gate_callee (f := 53) rfl ?_); refine goL (some 22) Tryd.func53 [.string (a0.extract 1 a0.size)] ?_; (with_reducible refine (gudgeonref01_Parse.calls kj1 (a0.extract 1 a0.size) t978 t979 _ A9.out).mono ?_); rintro e w12 ⟨v980, rfl, ho0, hb⟩; refine ⟨_, rfl, ?_⟩; have HO981 := Aside0.mk (Kd.R_lower ho0 (below_size HB.out)); replace BK977 := Aside0.mk (blk_below BK977.out hb); replace HB := Aside0.mk (below_step HB.out hb); obtain ⟨Ao13, co13, eo13⟩ := Kd.R_slice HO981.out; subst eo13; have hcz14_0 := bc0 BK977.out; have hcz14_1 := bc1 BK977.out; have hfz14_0 := blk_frozen BK977.out 0; have hfz14_1 := blk_frozen BK977.out 1))
       refine bodyPost_ret (results_ct rfl _ _ gb977 24 #[.bool false, .slice none 0 0] (0, 0) _ rfl (by refine blk_put (cs := #[.bool false, .slice none 0 0]) ?_ 1 _ rfl; refine blk_put (cs := #[.bool false, .slice none 0 0]) ?_ 0 _ rfl; exact BK977.out) Tryd.underlying24 rfl (by kernel_rfl)) rfl ?_
       exact ⟨_, by first | rfl | (simp [errW_none, errW_some] <;> rfl) | (simp [*, errW_none, errW_some] <;> rfl), by first | exact Kd.R_nil _ _ _ _ _ | exact Kd.N_nil _ _ _ _ _ | exact Kd.V_nil _ _ _ _ _ | exact Kd.Q_nil _ _ _ _ _ | exact Kd.S_nil _ _ _ _ _, by repeat (first | (with_reducible first | exact HB.out | apply below_alloc | apply pw_below_drewN | apply below_drew1 | refine below_set ?_ GE977.out) | exact HB.out)⟩
      ·rw [if_neg c11] at H
       have c11b0 : ((t978.length : Int) == 0) = false := beq_eq_false_iff_ne.mpr c11
       have c11b1 : ((t978.length : Int) != 0) = true := bne_iff_ne.mpr c11
       have c11b2 : ¬ (t978 = []) := fun h_ => c11 (by rw [h_]; rfl)
       simp only [Option.some.injEq, Prod.mk.injEq] at H
       obtain ⟨rfl, rfl, rfl⟩ := H
       go_wp2_with (first | ((with_reducible refine gate_callee (f := 53) rfl ?_); refine goL (some 22) Tryd.func53 [.string (a0.extract 1 a0.size)] ?_; (with_reducible refine (gudgeonref01_Parse.calls kj1 (a0.extract 1 a0.size) t978 t979 _ A9.out).mono ?_); rintro e w15 ⟨v980, rfl, ho0, hb⟩; refine ⟨_, rfl, ?_⟩; have HO981 := Aside0.mk (Kd.R_lower ho0 (below_size HB.out)); replace BK977 := Aside0.mk (blk_below BK977.out hb); replace HB := Aside0.mk (below_step HB.out hb); obtain ⟨Ao16, co16, eo16⟩ := Kd.R_slice HO981.out; subst eo16; have hcz17_0 := bc0 BK977.out; have hcz17_1 := bc1 BK977.out; have hfz17_0 := blk_frozen BK977.out 0; have hfz17_1 := blk_frozen BK977.out 1))
       refine bodyPost_ret (results_ct rfl _ _ gb977 24 #[.bool true, .slice Ao16 t978.length co16] (0, 0) _ rfl (by refine blk_put (cs := #[.bool true, .slice none 0 0]) ?_ 1 _ rfl; refine blk_put (cs := #[.bool false, .slice none 0 0]) ?_ 0 _ rfl; exact BK977.out) Tryd.underlying24 rfl (by kernel_rfl)) rfl ?_
       exact ⟨_, by first | rfl | (simp [errW_none, errW_some] <;> rfl) | (simp [*, errW_none, errW_some] <;> rfl), by (with_reducible repeat (first | apply Kd.R_alloc | apply Kd.R_drewN | apply Kd.R_drew)); exact Kd.R_mono (Kd.R_far (p := ⟨gb977, 1, none⟩) (Kd.R_far (p := ⟨gb977, 0, none⟩) (Kd.R_types HO981.out BK977.out (by decide)) (fun _ hk => hk.2) (.bool true)) (fun _ hk => hk.2) (.slice Ao16 t978.length co16)) (fun _ hk => trivial), by repeat (first | (with_reducible first | exact HB.out | apply below_alloc | apply pw_below_drewN | apply below_drew1 | refine below_set ?_ GE977.out) | exact HB.out)⟩
     ·rw [if_neg c10] at H
      have c10b0 : (t979 == 0) = false := beq_eq_false_iff_ne.mpr c10
      have c10b1 : (t979 != 0) = true := bne_iff_ne.mpr c10
      simp only [Option.some.injEq, Prod.mk.injEq] at H
      obtain ⟨rfl, rfl, rfl⟩ := H
      go_wp2_with (first | ((with_reducible refine gate_callee (f := 53) rfl ?_); refine goL (some 22) Tryd.func53 [.string (a0.extract 1 a0.size)] ?_; (with_reducible refine (gudgeonref01_Parse.calls kj1 (a0.extract 1 a0.size) t978 t979 _ A9.out).mono ?_); rintro e w18 ⟨v980, rfl, ho0, hb⟩; refine ⟨_, rfl, ?_⟩; have HO981 := Aside0.mk (Kd.R_lower ho0 (below_size HB.out)); replace BK977 := Aside0.mk (blk_below BK977.out hb); replace HB := Aside0.mk (below_step HB.out hb); have hcz19_0 := bc0 BK977.out; have hcz19_1 := bc1 BK977.out; have hfz19_0 := blk_frozen BK977.out 0; have hfz19_1 := blk_frozen BK977.out 1))
      refine bodyPost_ret (results_ct rfl _ _ gb977 24 #[.bool false, .slice none 0 0] (0, 0) _ rfl (by refine blk_put (cs := #[.bool false, .slice none 0 0]) ?_ 1 _ rfl; refine blk_put (cs := #[.bool false, .slice none 0 0]) ?_ 0 _ rfl; exact BK977.out) Tryd.underlying24 rfl (by kernel_rfl)) rfl ?_
      exact ⟨_, by first | rfl | (simp [errW_none, errW_some] <;> rfl) | (simp [*, errW_none, errW_some] <;> rfl), by first | exact Kd.R_nil _ _ _ _ _ | exact Kd.N_nil _ _ _ _ _ | exact Kd.V_nil _ _ _ _ _ | exact Kd.Q_nil _ _ _ _ _ | exact Kd.S_nil _ _ _ _ _, by repeat (first | (with_reducible first | exact HB.out | apply below_alloc | apply pw_below_drewN | apply below_drew1 | refine below_set ?_ GE977.out) | exact HB.out)⟩
    ·rw [if_neg c8] at H
     exact absurd H (by simp)
   ·replace c7 := Bool.eq_false_iff.mpr c7
    subst c7
    have H1 : ((gudgeonref01_Parse.f kj1 a0).bind fun bt982 => (if bt982.2 = 0 then (some (false, bt982.1, 0)) else (some (false, ([] : List Int), 8)))) = some (r1, r2, r3) := by rw [if_neg (show ¬ (false = true) by decide)] at H; exact H
    clear H
    have H := H1
    clear H1
    replace H := Option.bind_eq_some_iff.mp H
    obtain ⟨⟨t982, t983⟩, A200, H⟩ := H
    replace H : (if t983 = 0 then (some (false, t982, 0)) else (some (false, ([] : List Int), 8))) = some (r1, r2, r3) := H
    have A20 := Aside0.mk A200
    clear A200
    by_cases c21 : t983 = 0
    ·rw [if_pos c21] at H
     have c21b0 : (t983 == 0) = true := beq_iff_eq.mpr c21
     have c21b1 : (t983 != 0) = false := bne_eq_false_iff_eq.mpr c21
     clear c21
     simp only [Option.some.injEq, Prod.mk.injEq] at H
     obtain ⟨rfl, rfl, rfl⟩ := H
     go_wp2_with (first | ((with_reducible refine gate_callee (f := 53) rfl ?_); refine goL (some 22) Tryd.func53 [.string a0] ?_; (with_reducible refine (gudgeonref01_Parse.calls kj1 a0 t982 t983 _ A20.out).mono ?_); rintro e w22 ⟨v984, rfl, ho0, hb⟩; refine ⟨_, rfl, ?_⟩; have HO985 := Aside0.mk (Kd.R_lower ho0 (below_size HB.out)); replace BK977 := Aside0.mk (blk_below BK977.out hb); replace HB := Aside0.mk (below_step HB.out hb); obtain ⟨Ao23, co23, eo23⟩ := Kd.R_slice HO985.out; subst eo23; have hcz24_0 := bc0 BK977.out; have hcz24_1 := bc1 BK977.out; have hfz24_0 := blk_frozen BK977.out 0; have hfz24_1 := blk_frozen BK977.out 1))
     refine bodyPost_ret (results_ct rfl _ _ gb977 24 #[.bool false, .slice Ao23 t982.length co23] (0, 0) _ rfl (by refine blk_put (cs := #[.bool false, .slice none 0 0]) ?_ 1 _ rfl; refine blk_put (cs := #[.bool false, .slice none 0 0]) ?_ 0 _ rfl; exact BK977.out) Tryd.underlying24 rfl (by kernel_rfl)) rfl ?_
     exact ⟨_, by first | rfl | (simp [errW_none, errW_some] <;> rfl) | (simp [*, errW_none, errW_some] <;> rfl), by (with_reducible repeat (first | apply Kd.R_alloc | apply Kd.R_drewN | apply Kd.R_drew)); exact Kd.R_mono (Kd.R_far (p := ⟨gb977, 1, none⟩) (Kd.R_far (p := ⟨gb977, 0, none⟩) (Kd.R_types HO985.out BK977.out (by decide)) (fun _ hk => hk.2) (.bool false)) (fun _ hk => hk.2) (.slice Ao23 t982.length co23)) (fun _ hk => trivial), by repeat (first | (with_reducible first | exact HB.out | apply below_alloc | apply pw_below_drewN | apply below_drew1 | refine below_set ?_ GE977.out) | exact HB.out)⟩
    ·rw [if_neg c21] at H
     have c21b0 : (t983 == 0) = false := beq_eq_false_iff_ne.mpr c21
     have c21b1 : (t983 != 0) = true := bne_iff_ne.mpr c21
     simp only [Option.some.injEq, Prod.mk.injEq] at H
     obtain ⟨rfl, rfl, rfl⟩ := H
     go_wp2_with (first | ((with_reducible refine gate_callee (f := 53) rfl ?_); refine goL (some 22) Tryd.func53 [.string a0] ?_; (with_reducible refine (gudgeonref01_Parse.calls kj1 a0 t982 t983 _ A20.out).mono ?_); rintro e w25 ⟨v984, rfl, ho0, hb⟩; refine ⟨_, rfl, ?_⟩; have HO985 := Aside0.mk (Kd.R_lower ho0 (below_size HB.out)); replace BK977 := Aside0.mk (blk_below BK977.out hb); replace HB := Aside0.mk (below_step HB.out hb); have hcz26_0 := bc0 BK977.out; have hcz26_1 := bc1 BK977.out; have hfz26_0 := blk_frozen BK977.out 0; have hfz26_1 := blk_frozen BK977.out 1))
     refine bodyPost_ret (results_ct rfl _ _ gb977 24 #[.bool false, .slice none 0 0] (0, 0) _ rfl (by refine blk_put (cs := #[.bool false, .slice none 0 0]) ?_ 1 _ rfl; refine blk_put (cs := #[.bool false, .slice none 0 0]) ?_ 0 _ rfl; exact BK977.out) Tryd.underlying24 rfl (by kernel_rfl)) rfl ?_
     exact ⟨_, by first | rfl | (simp [errW_none, errW_some] <;> rfl) | (simp [*, errW_none, errW_some] <;> rfl), by first | exact Kd.R_nil _ _ _ _ _ | exact Kd.N_nil _ _ _ _ _ | exact Kd.V_nil _ _ _ _ _ | exact Kd.Q_nil _ _ _ _ _ | exact Kd.S_nil _ _ _ _ _, by repeat (first | (with_reducible first | exact HB.out | apply below_alloc | apply pw_below_drewN | apply below_drew1 | refine below_set ?_ GE977.out) | exact HB.out)⟩

/-! ### gudgeonref01_Of: function 55 -/
def gudgeonref01_Of.f (k : Nat) (a0 : Int) : Option (List Int) := (gudgeonref01_Norm.f k (([(Int.tmod a0 4294967296) % 4294967296, (IntKind.u64.wrap (Int.tdiv a0 4294967296)) % 4294967296] : List Int))).bind fun t989 => (some t989)
set_option maxHeartbeats 8000000 in
set_option maxRecDepth 100000 in
theorem gudgeonref01_Of.calls (k : Nat) (a0 : Int) (r : List Int) (w : World) (h : gudgeonref01_Of.f k a0 = some r) :
  Calls Tryd.prog 55 #[.int .u64 a0] w fun e w' => ∃ v0_ : Value, e = .returned (v0_) ∧ Kd.R (Kd.int .u32) 51 w' w.heap.size (fun _ => True) v0_ r ∧ Below w.heap.size w w' := by
 have HB := Aside0.mk (Below.refl w.heap.size w)
 have H : ((gudgeonref01_Norm.f k (([(Int.tmod a0 4294967296) % 4294967296, (IntKind.u64.wrap (Int.tdiv a0 4294967296)) % 4294967296] : List Int))).bind fun t989 => (some t989)) = some r := h
 clear h
 obtain ⟨y986, hy986⟩ : ∃ y_ : List Int, y_ = (([(Int.tmod a0 4294967296) % 4294967296, (IntKind.u64.wrap (Int.tdiv a0 4294967296)) % 4294967296] : List Int)) := ⟨_, rfl⟩
 replace H : ((gudgeonref01_Norm.f k y986).bind fun t989 => (some t989)) = some r := by first | (rw [hy986]; with_reducible exact H) | (have H2_ := (Option.bind_some _ _).symm.trans H; rw [hy986]; with_reducible exact H2_) | (have H2_ := (Option.bind_some _ _).symm.trans H; with_reducible exact H2_) | with_reducible exact H | (rw [hy986]; exact H) | exact H
 have Ny986 := Aside0.mk hy986
 clear hy986
 replace H := Option.bind_eq_some_iff.mp H
 obtain ⟨t989, A20, H⟩ := H
 replace H : (some t989) = some r := H
 have A2 := Aside0.mk A20
 clear A20
 obtain rfl := Option.some.inj H
 go_enter Tryd.func55, Tryd.ntmps55
 go_wp2_with (first | ((with_reducible refine gate_dst (N := 9) rfl ?_); refine Kd.R_lit (Kd.int .u32) _ 51 ?hg (N := 9) ?hd (xs := ([(Int.tmod a0 4294967296) % 4294967296, (IntKind.u64.wrap (Int.tdiv a0 4294967296)) % 4294967296] : List Int)) (inner := [.int .u32 ((Int.tmod a0 4294967296) % 4294967296), .int .u32 ((IntKind.u64.wrap (Int.tdiv a0 4294967296)) % 4294967296)]) (ok := fun _ => True) (okp := fun _ => True) ?hr ?hp (fun _ hk => hk) trivial (Below.refl _ _) (Nat.le_refl _) (by simp) ?_; (case hd => rfl); (case hg => rfl); (case hr => first | (go_simp; done) | (go_simp; rfl)); (case hp => exact (Reps.one (show Kd.M (Kd.int .u32) _ _ _ ((Int.tmod a0 4294967296) % 4294967296) [.int .u32 ((Int.tmod a0 4294967296) % 4294967296)] from rfl) (Reps.one (show Kd.M (Kd.int .u32) _ _ _ ((IntKind.u64.wrap (Int.tdiv a0 4294967296)) % 4294967296) [.int .u32 ((IntKind.u64.wrap (Int.tdiv a0 4294967296)) % 4294967296)] from rfl) (Reps.none _ _)))); intro v987 w3 ho4 hb hg_ hnew_; clear hg_ hnew_; (first | rw [← Ny986.out] at ho4 | (simp only [Int.reduceToNat] at ho4; rw [← Ny986.out] at ho4)); have HO988 := Aside0.mk (Kd.R_lower ho4 (below_size HB.out)); replace HB := Aside0.mk (below_step HB.out hb); clear hb ho4; obtain ⟨Ao5, co5, eo5⟩ := Kd.R_slice HO988.out; subst eo5) | ((with_reducible refine gate_callee (f := 46) rfl ?_); refine goL (some 10) Tryd.func46 [.slice Ao5 y986.length co5] ?_; (with_reducible refine (gudgeonref01_Norm.calls k _ _ y986 t989 _ ?side1 ?side2 A2.out).mono ?_); (case side1 => exact (Kd.R_reads' HO988.out).2.2); (case side2 => exact (Kd.R_reads' HO988.out).2.1); rintro e w6 ⟨v990, rfl, ho0, hb⟩; refine ⟨_, rfl, ?_⟩; have HO991 := Aside0.mk (Kd.R_lower (Kd.R_new' ho0 (Kd.R_lt HO988.out)) (below_size HB.out)); replace HO988 := Aside0.mk (Kd.R_elder' HO988.out (Kd.R_base ho0) hb); replace HB := Aside0.mk (below_step HB.out hb)))
 go_ret
 exact ⟨_, by first | rfl | (simp [errW_none, errW_some] <;> rfl) | (simp [*, errW_none, errW_some] <;> rfl), by (with_reducible repeat (first | apply Kd.R_alloc | apply Kd.R_drewN | apply Kd.R_drew)); exact Kd.R_mono HO991.out (fun _ hk => trivial), by repeat (first | (with_reducible first | exact HB.out | apply below_alloc | apply pw_below_drewN | apply below_drew1) | exact HB.out)⟩

/-! ### gudgeonref02_Of: function 33 -/
def gudgeonref02_Of.f (k : Nat) (a0 : Int) : Option (Bool × List Int) := if a0 < 0 then ((gudgeonref01_Of.f k (IntKind.u64.wrap ((IntKind.u64.wrap (wrap64 (-(wrap64 (a0 + 1))))) + 1))).bind fun t993 => ((gudgeonref02_Norm.f k true t993).bind fun bt996 => (some (bt996.1, bt996.2)))) else ((gudgeonref01_Of.f k (IntKind.u64.wrap (a0))).bind fun t1000 => ((gudgeonref02_Norm.f k false t1000).bind fun bt1003 => (some (bt1003.1, bt1003.2))))
set_option maxHeartbeats 8000000 in
set_option maxRecDepth 100000 in
theorem gudgeonref02_Of.calls (k : Nat) (a0 : Int) (r1 : Bool) (r2 : List Int) (w : World) (h : gudgeonref02_Of.f k a0 = some (r1, r2)) :
  Calls Tryd.prog 33 #[.int .i64 a0] w fun e w' => ∃ v1_ : Value, e = .returned (.agg #[.bool r1, v1_]) ∧ Kd.R (Kd.int .u32) 51 w' w.heap.size (fun _ => True) v1_ r2 ∧ Below w.heap.size w w' := by
 have hu24 := Tryd.underlying24
 have HB := Aside0.mk (Below.refl w.heap.size w)
 have H : (if a0 < 0 then ((gudgeonref01_Of.f k (IntKind.u64.wrap ((IntKind.u64.wrap (wrap64 (-(wrap64 (a0 + 1))))) + 1))).bind fun t993 => ((gudgeonref02_Norm.f k true t993).bind fun bt996 => (some (bt996.1, bt996.2)))) else ((gudgeonref01_Of.f k (IntKind.u64.wrap (a0))).bind fun t1000 => ((gudgeonref02_Norm.f k false t1000).bind fun bt1003 => (some (bt1003.1, bt1003.2))))) = some (r1, r2) := h
 clear h
 by_cases c2 : a0 < 0
 ·rw [if_pos c2] at H
  have c2b0 : decide (a0 < 0) = true := decide_eq_true c2
  clear c2
  replace H := Option.bind_eq_some_iff.mp H
  obtain ⟨t993, A30, H⟩ := H
  replace H : ((gudgeonref02_Norm.f k true t993).bind fun bt996 => (some (bt996.1, bt996.2))) = some (r1, r2) := H
  have A3 := Aside0.mk A30
  clear A30
  replace H := Option.bind_eq_some_iff.mp H
  obtain ⟨⟨t996, t997⟩, A40, H⟩ := H
  replace H : (some (t996, t997)) = some (r1, r2) := H
  have A4 := Aside0.mk A40
  clear A40
  simp only [Option.some.injEq, Prod.mk.injEq] at H
  obtain ⟨rfl, rfl⟩ := H
  go_enter Tryd.func33, Tryd.ntmps33
  go_wp2_with (first | ((with_reducible refine gate_dst (N := 2) rfl ?_); refine box_event ?hg (N := 2) ?hd (cs := #[.bool false, .slice none 0 0]) (t := 24) ?hr ?_; (case hd => rfl); (case hg => rfl); (case hr => first | (go_simp; done) | (go_simp; rfl)); intro gb992 hg w5 hbox hb; have BK992 := Aside0.mk (hbox); have GW992 := Aside0.mk (bxLe HB.out hg); have GE992 := GW992; replace HB := Aside0.mk (below_step HB.out hb); clear hb hbox hg) | ((with_reducible refine gate_callee (f := 55) rfl ?_); refine goL (some 10) Tryd.func55 [.int .u64 (IntKind.u64.wrap ((IntKind.u64.wrap (wrap64 (-(wrap64 (a0 + 1))))) + 1))] ?_; (with_reducible refine (gudgeonref01_Of.calls k (IntKind.u64.wrap ((IntKind.u64.wrap (wrap64 (-(wrap64 (a0 + 1))))) + 1)) t993 _ A3.out).mono ?_); rintro e w6 ⟨v994, rfl, ho0, hb⟩; refine ⟨_, rfl, ?_⟩; have HO995 := Aside0.mk (Kd.R_lower ho0 (below_size HB.out)); replace BK992 := Aside0.mk (blk_below BK992.out hb); replace HB := Aside0.mk (below_step HB.out hb); obtain ⟨Ao7, co7, eo7⟩ := Kd.R_slice HO995.out; subst eo7) | ((with_reducible refine gate_callee (f := 17) rfl ?_); refine goL (some 12) Tryd.func17 [.agg #[.bool true, .slice Ao7 t993.length co7]] ?_; (with_reducible refine (gudgeonref02_Norm.calls k true _ _ t993 t996 t997 _ ?side1 ?side2 A4.out).mono ?_); (case side1 => exact (Kd.R_reads' HO995.out).2.2); (case side2 => exact (Kd.R_reads' HO995.out).2.1); rintro e w8 ⟨v998, rfl, ho0, hb⟩; refine ⟨_, rfl, ?_⟩; have HO999 := Aside0.mk (Kd.R_lower (Kd.R_new' ho0 (Kd.R_lt HO995.out)) (below_size HB.out)); replace HO995 := Aside0.mk (Kd.R_elder' HO995.out (Kd.R_base ho0) hb); replace BK992 := Aside0.mk (blk_below BK992.out hb); replace HB := Aside0.mk (below_step HB.out hb); have hcz9_0 := bc0 BK992.out; have hcz9_1 := bc1 BK992.out; have hfz9_0 := blk_frozen BK992.out 0; have hfz9_1 := blk_frozen BK992.out 1; obtain ⟨Ao10, co10, eo10⟩ := Kd.R_slice HO999.out; subst eo10))
  refine bodyPost_ret (results_cell_row rfl _ _ gb992 24 #[.bool t996, .slice Ao10 t997.length co10] (0, 0) _ rfl (by refine blk_put (cs := #[.bool t996, .slice none 0 0]) ?_ 1 _ rfl; refine blk_put (cs := #[.bool false, .slice none 0 0]) ?_ 0 _ rfl; exact BK992.out) Tryd.underlying24 rfl (by kernel_rfl)) rfl ?_
  exact ⟨_, by first | rfl | (simp [errW_none, errW_some] <;> rfl) | (simp [*, errW_none, errW_some] <;> rfl), by (with_reducible repeat (first | apply Kd.R_alloc | apply Kd.R_drewN | apply Kd.R_drew)); exact Kd.R_mono (Kd.R_far (p := ⟨gb992, 1, none⟩) (Kd.R_far (p := ⟨gb992, 0, none⟩) (Kd.R_types HO999.out BK992.out (by decide)) (fun _ hk => hk.2) (.bool t996)) (fun _ hk => hk.2) (.slice Ao10 t997.length co10)) (fun _ hk => trivial), by repeat (first | (with_reducible first | exact HB.out | apply below_alloc | apply pw_below_drewN | apply below_drew1 | refine below_set ?_ GE992.out) | exact HB.out)⟩
 ·rw [if_neg c2] at H
  have c2b0 : decide (a0 < 0) = false := decide_eq_false c2
  clear c2
  replace H := Option.bind_eq_some_iff.mp H
  obtain ⟨t1000, A110, H⟩ := H
  replace H : ((gudgeonref02_Norm.f k false t1000).bind fun bt1003 => (some (bt1003.1, bt1003.2))) = some (r1, r2) := H
  have A11 := Aside0.mk A110
  clear A110
  replace H := Option.bind_eq_some_iff.mp H
  obtain ⟨⟨t1003, t1004⟩, A120, H⟩ := H
  replace H : (some (t1003, t1004)) = some (r1, r2) := H
  have A12 := Aside0.mk A120
  clear A120
  simp only [Option.some.injEq, Prod.mk.injEq] at H
  obtain ⟨rfl, rfl⟩ := H
  go_enter Tryd.func33, Tryd.ntmps33
  go_wp2_with (first | ((with_reducible refine gate_dst (N := 2) rfl ?_); refine box_event ?hg (N := 2) ?hd (cs := #[.bool false, .slice none 0 0]) (t := 24) ?hr ?_; (case hd => rfl); (case hg => rfl); (case hr => first | (go_simp; done) | (go_simp; rfl)); intro gb992 hg w13 hbox hb; have BK992 := Aside0.mk (hbox); have GW992 := Aside0.mk (bxLe HB.out hg); have GE992 := GW992; replace HB := Aside0.mk (below_step HB.out hb); clear hb hbox hg) | ((with_reducible refine gate_callee (f := 55) rfl ?_); refine goL (some 15) Tryd.func55 [.int .u64 (IntKind.u64.wrap (a0))] ?_; (with_reducible refine (gudgeonref01_Of.calls k (IntKind.u64.wrap (a0)) t1000 _ A11.out).mono ?_); rintro e w14 ⟨v1001, rfl, ho0, hb⟩; refine ⟨_, rfl, ?_⟩; have HO1002 := Aside0.mk (Kd.R_lower ho0 (below_size HB.out)); replace BK992 := Aside0.mk (blk_below BK992.out hb); replace HB := Aside0.mk (below_step HB.out hb); obtain ⟨Ao15, co15, eo15⟩ := Kd.R_slice HO1002.out; subst eo15) | ((with_reducible refine gate_callee (f := 17) rfl ?_); refine goL (some 17) Tryd.func17 [.agg #[.bool false, .slice Ao15 t1000.length co15]] ?_; (with_reducible refine (gudgeonref02_Norm.calls k false _ _ t1000 t1003 t1004 _ ?side1 ?side2 A12.out).mono ?_); (case side1 => exact (Kd.R_reads' HO1002.out).2.2); (case side2 => exact (Kd.R_reads' HO1002.out).2.1); rintro e w16 ⟨v1005, rfl, ho0, hb⟩; refine ⟨_, rfl, ?_⟩; have HO1006 := Aside0.mk (Kd.R_lower (Kd.R_new' ho0 (Kd.R_lt HO1002.out)) (below_size HB.out)); replace HO1002 := Aside0.mk (Kd.R_elder' HO1002.out (Kd.R_base ho0) hb); replace BK992 := Aside0.mk (blk_below BK992.out hb); replace HB := Aside0.mk (below_step HB.out hb); have hcz17_0 := bc0 BK992.out; have hcz17_1 := bc1 BK992.out; have hfz17_0 := blk_frozen BK992.out 0; have hfz17_1 := blk_frozen BK992.out 1; obtain ⟨Ao18, co18, eo18⟩ := Kd.R_slice HO1006.out; subst eo18))
  refine bodyPost_ret (results_cell_row rfl _ _ gb992 24 #[.bool t1003, .slice Ao18 t1004.length co18] (0, 0) _ rfl (by refine blk_put (cs := #[.bool t1003, .slice none 0 0]) ?_ 1 _ rfl; refine blk_put (cs := #[.bool false, .slice none 0 0]) ?_ 0 _ rfl; exact BK992.out) Tryd.underlying24 rfl (by kernel_rfl)) rfl ?_
  exact ⟨_, by first | rfl | (simp [errW_none, errW_some] <;> rfl) | (simp [*, errW_none, errW_some] <;> rfl), by (with_reducible repeat (first | apply Kd.R_alloc | apply Kd.R_drewN | apply Kd.R_drew)); exact Kd.R_mono (Kd.R_far (p := ⟨gb992, 1, none⟩) (Kd.R_far (p := ⟨gb992, 0, none⟩) (Kd.R_types HO1006.out BK992.out (by decide)) (fun _ hk => hk.2) (.bool t1003)) (fun _ hk => hk.2) (.slice Ao18 t1004.length co18)) (fun _ hk => trivial), by repeat (first | (with_reducible first | exact HB.out | apply below_alloc | apply pw_below_drewN | apply below_drew1 | refine below_set ?_ GE992.out) | exact HB.out)⟩

/-! ### gudgeonref01_Int: function 57 -/
def gudgeonref01_Int.l0 : Nat → List Bool → Int → Int → Option (Int × Bool)
 | 0, _, _, _ => none
 | k + 1, x4, x5, x6 => if x6 ≥ 0 then (if 0 ≤ x6 then (if x6 < (x4.length : Int) then (if rdOf false x4 x6 = true then (gudgeonref01_Int.l0 k x4 (wrap64 ((wrap64 (x5 * 2)) + 1)) (wrap64 (x6 - 1))) else (gudgeonref01_Int.l0 k x4 (wrap64 (x5 * 2)) (wrap64 (x6 - 1)))) else (none)) else (none)) else (some (x5, true))
def gudgeonref01_Int.f (k : Nat) (l0 : List Int) : Option (Int × Bool) := (gudgeonref01_Bits.f k l0).bind fun t1007 => (if (t1007.length : Int) > 62 then (some (0, false)) else (gudgeonref01_Int.l0 k t1007 0 (wrap64 ((t1007.length : Int) - 1))))
set_option maxHeartbeats 8000000 in
set_option maxRecDepth 100000 in
theorem gudgeonref01_Int.calls (k : Nat) (A0 : Option Addr) (c0 : Nat) (l0 : List Int) (r1 : Int) (r2 : Bool) (w : World) (hr0 : Kd.C (Kd.int .u32) w A0 l0.length l0) (hc0 : l0.length ≤ c0) (h : gudgeonref01_Int.f k l0 = some (r1, r2)) :
  Calls Tryd.prog 57 #[.slice A0 l0.length c0] w fun e w' => e = .returned (.tuple #[.int .i64 r1, .bool r2]) ∧ Below w.heap.size w w' := by
 have HR0 := Aside0.mk hr0
 have HC0 := Aside0.mk hc0
 clear hr0 hc0
 have HB := Aside0.mk (Below.refl w.heap.size w)
 have H : ((gudgeonref01_Bits.f k l0).bind fun t1007 => (if (t1007.length : Int) > 62 then (some (0, false)) else (gudgeonref01_Int.l0 k t1007 0 (wrap64 ((t1007.length : Int) - 1))))) = some (r1, r2) := h
 clear h
 replace H := Option.bind_eq_some_iff.mp H
 obtain ⟨t1007, A20, H⟩ := H
 replace H : (if (t1007.length : Int) > 62 then (some (0, false)) else (gudgeonref01_Int.l0 k t1007 0 (wrap64 ((t1007.length : Int) - 1)))) = some (r1, r2) := H
 have A2 := Aside0.mk A20
 clear A20
 by_cases c3 : (t1007.length : Int) > 62
 ·rw [if_pos c3] at H
  have c3b0 : decide (62 < (t1007.length : Int)) = true := decide_eq_true c3
  have c3b1 : decide (62 < t1007.length) = true := decide_eq_true (by omega)
  clear c3
  simp only [Option.some.injEq, Prod.mk.injEq] at H
  obtain ⟨rfl, rfl⟩ := H
  go_enter Tryd.func57, Tryd.ntmps57
  go_wp2_with (first | ((with_reducible refine gate_callee (f := 67) rfl ?_); refine goL (some 8) Tryd.func67 [.slice A0 l0.length c0] ?_; (with_reducible refine (gudgeonref01_Bits.calls k _ _ l0 t1007 _ ?side1 ?side2 A2.out).mono ?_); (case side1 => exact HR0.out); (case side2 => exact HC0.out); rintro e w4 ⟨v1008, rfl, ho0, hb⟩; refine ⟨_, rfl, ?_⟩; have HO1009 := Aside0.mk (Kd.R_lower ho0 (below_size HB.out)); replace HB := Aside0.mk (below_step HB.out hb); obtain ⟨Ao5, co5, eo5⟩ := Kd.R_slice HO1009.out; subst eo5))
  go_ret2
  exact ⟨by first | rfl | (simp [errW_none, errW_some] <;> rfl) | (refine congrArg (fun z_ => Ending.returned (Value.bool z_)) (decide_eq_decide.mpr ?_); unfold wrap64; omega) | (simp [*, errW_none, errW_some] <;> rfl), by repeat (first | (with_reducible first | exact HB.out | apply below_alloc | apply pw_below_drewN | apply below_drew1) | exact HB.out)⟩
 ·rw [if_neg c3] at H
  have c3b0 : decide (62 < (t1007.length : Int)) = false := decide_eq_false c3
  have c3b1 : decide (62 < t1007.length) = false := decide_eq_false (by omega)
  clear c3
  have H' := Aside0.mk H
  clear H
  go_enter Tryd.func57, Tryd.ntmps57
  go_wp2_with (first | ((with_reducible refine gate_callee (f := 67) rfl ?_); refine goL (some 8) Tryd.func67 [.slice A0 l0.length c0] ?_; (with_reducible refine (gudgeonref01_Bits.calls k _ _ l0 t1007 _ ?side1 ?side2 A2.out).mono ?_); (case side1 => exact HR0.out); (case side2 => exact HC0.out); rintro e w6 ⟨v1008, rfl, ho0, hb⟩; refine ⟨_, rfl, ?_⟩; have HO1009 := Aside0.mk (Kd.R_lower ho0 (below_size HB.out)); replace HB := Aside0.mk (below_step HB.out hb); obtain ⟨Ao7, co7, eo7⟩ := Kd.R_slice HO1009.out; subst eo7))
  go_loopg [5, 6] k (fun kq v5 v6 w' => ∃ (x5_1 : Int) (x6_1 : Int), v5 = .int .i64 x5_1 ∧ v6 = .int .i64 x6_1 ∧ Aside0 (gudgeonref01_Int.l0 kq t1007 x5_1 x6_1 = some (r1, r2)) ∧ Aside0 (kq ≤ k) ∧ Aside0 (Kd.R Kd.bool 4 w' w.heap.size (fun _ => True) (.slice Ao7 t1007.length co7) t1007) ∧ Aside0 (Below w.heap.size w w'))
  case atStart => exact ⟨(0), (wrap64 ((t1007.length : Int) - 1)), (by first | rfl | (simp; done) | (simp [*]; done) | (refine congrArg (Value.int _) ?_; omega) | (refine congrArg Value.bool ?_; generalize ByteArray.toList _ = z_; cases z_ <;> rfl)), (by first | rfl | (simp; done) | (simp [*]; done) | (refine congrArg (Value.int _) ?_; omega) | (refine congrArg Value.bool ?_; generalize ByteArray.toList _ = z_; cases z_ <;> rfl)), H', ⟨Nat.le_refl _⟩, ⟨by (with_reducible repeat (first | apply Kd.R_alloc | apply Kd.R_drewN | apply Kd.R_drew)); exact HO1009.out⟩, ⟨by repeat (first | (with_reducible first | exact HB.out | apply below_alloc | apply pw_below_drewN | apply below_drew1) | exact HB.out)⟩⟩
  case round =>
   clear H'
   try clear p2
   try clear c3
   try clear c3b0
   try clear c3b1
   try clear c5
   try clear c6
   try clear p6
   obtain ⟨x5_1, x6_1, rfl, rfl, HA, HK1, HO_4, HB⟩ := hrel
   cases gk with
   | zero => exact absurd HA.out (by simp [gudgeonref01_Int.l0])
   | succ k1 =>
    have H := HA.out
    clear HA
    simp only [gudgeonref01_Int.l0] at H
    by_cases c8 : x6_1 ≥ 0
    ·rw [if_pos c8] at H
     have c8b0 : decide (0 ≤ x6_1) = true := decide_eq_true c8
     clear c8
     by_cases c9 : 0 ≤ x6_1
     ·rw [if_pos c9] at H
      have c9b0 : decide (0 ≤ x6_1) = true := decide_eq_true c9
      clear c9
      by_cases c10 : x6_1 < (t1007.length : Int)
      ·rw [if_pos c10] at H
       have c10b0 : decide (x6_1 < (t1007.length : Int)) = true := decide_eq_true c10
       clear c10
       obtain ⟨bq11, hbq11⟩ : ∃ b_ : Bool, b_ = (rdOf false t1007 x6_1) := ⟨_, rfl⟩
       replace H : (if bq11 = true then (gudgeonref01_Int.l0 k1 t1007 (wrap64 ((wrap64 (x5_1 * 2)) + 1)) (wrap64 (x6_1 - 1))) else (gudgeonref01_Int.l0 k1 t1007 (wrap64 (x5_1 * 2)) (wrap64 (x6_1 - 1)))) = some (r1, r2) := by rw [← hbq11] at H; exact H
       have Nbq11 := Aside0.mk hbq11
       clear hbq11
       by_cases c12 : bq11 = true
       ·subst c12
        have H1 : (gudgeonref01_Int.l0 k1 t1007 (wrap64 ((wrap64 (x5_1 * 2)) + 1)) (wrap64 (x6_1 - 1))) = some (r1, r2) := by rw [if_pos rfl] at H; exact H
        clear H
        have H := H1
        clear H1
        have H' := Aside0.mk H
        clear H
        have p1010 : 0 ≤ (x6_1 : Int) := of_decide_eq_true (by first | (with_reducible assumption) | assumption)
        have q1010 : x6_1 < (t1007.length : Int) := of_decide_eq_true (by first | (with_reducible assumption) | assumption)
        obtain ⟨ad1010, e1010, hx1010_0⟩ := Kd.at_bool (Kd.R_reads' HO_4.out).2.2 x6_1 p1010 q1010
        (try rw [← Nbq11.out] at hx1010_0)
        cases e1010
        replace p1010 := eq_true p1010
        replace q1010 := eq_true q1010
        go_wp2
        go_roundg k1
        case measure => have := HK1.out; omega
        case rel => exact ⟨(wrap64 ((wrap64 (x5_1 * 2)) + 1)), (wrap64 (x6_1 - 1)), (by first | rfl | (simp; done) | (simp [*]; done) | (refine congrArg (Value.int _) ?_; omega) | (refine congrArg Value.bool ?_; generalize ByteArray.toList _ = z_; cases z_ <;> rfl)), (by first | rfl | (simp; done) | (simp [*]; done) | (refine congrArg (Value.int _) ?_; omega) | (refine congrArg Value.bool ?_; generalize ByteArray.toList _ = z_; cases z_ <;> rfl)), H', ⟨by have := HK1.out; omega⟩, ⟨by (with_reducible repeat (first | apply Kd.R_alloc | apply Kd.R_drewN | apply Kd.R_drew)); exact HO_4.out⟩, ⟨by repeat (first | (with_reducible first | exact HB.out | apply below_alloc | apply pw_below_drewN | apply below_drew1) | exact HB.out)⟩⟩
       ·replace c12 := Bool.eq_false_iff.mpr c12
        subst c12
        have H1 : (gudgeonref01_Int.l0 k1 t1007 (wrap64 (x5_1 * 2)) (wrap64 (x6_1 - 1))) = some (r1, r2) := by rw [if_neg (show ¬ (false = true) by decide)] at H; exact H
        clear H
        have H := H1
        clear H1
        have H' := Aside0.mk H
        clear H
        have p1010 : 0 ≤ (x6_1 : Int) := of_decide_eq_true (by first | (with_reducible assumption) | assumption)
        have q1010 : x6_1 < (t1007.length : Int) := of_decide_eq_true (by first | (with_reducible assumption) | assumption)
        obtain ⟨ad1010, e1010, hx1010_0⟩ := Kd.at_bool (Kd.R_reads' HO_4.out).2.2 x6_1 p1010 q1010
        (try rw [← Nbq11.out] at hx1010_0)
        cases e1010
        replace p1010 := eq_true p1010
        replace q1010 := eq_true q1010
        go_wp2
        go_roundg k1
        case measure => have := HK1.out; omega
        case rel => exact ⟨(wrap64 (x5_1 * 2)), (wrap64 (x6_1 - 1)), (by first | rfl | (simp; done) | (simp [*]; done) | (refine congrArg (Value.int _) ?_; omega) | (refine congrArg Value.bool ?_; generalize ByteArray.toList _ = z_; cases z_ <;> rfl)), (by first | rfl | (simp; done) | (simp [*]; done) | (refine congrArg (Value.int _) ?_; omega) | (refine congrArg Value.bool ?_; generalize ByteArray.toList _ = z_; cases z_ <;> rfl)), H', ⟨by have := HK1.out; omega⟩, ⟨by (with_reducible repeat (first | apply Kd.R_alloc | apply Kd.R_drewN | apply Kd.R_drew)); exact HO_4.out⟩, ⟨by repeat (first | (with_reducible first | exact HB.out | apply below_alloc | apply pw_below_drewN | apply below_drew1) | exact HB.out)⟩⟩
      ·rw [if_neg c10] at H
       exact absurd H (by simp)
     ·rw [if_neg c9] at H
      exact absurd H (by simp)
    ·rw [if_neg c8] at H
     have c8b0 : decide (0 ≤ x6_1) = false := decide_eq_false c8
     clear c8
     simp only [Option.some.injEq, Prod.mk.injEq] at H
     obtain ⟨rfl, rfl⟩ := H
     go_wp2
     go_ret2
     exact ⟨by first | rfl | (simp [errW_none, errW_some] <;> rfl) | (refine congrArg (fun z_ => Ending.returned (Value.bool z_)) (decide_eq_decide.mpr ?_); unfold wrap64; omega) | (simp [*, errW_none, errW_some] <;> rfl), by repeat (first | (with_reducible first | exact HB.out | apply below_alloc | apply pw_below_drewN | apply below_drew1) | exact HB.out)⟩

/-! ### gudgeonref02_Int: function 35 -/
def gudgeonref02_Int.f (k : Nat) (a0_0 : Bool) (l0_1 : List Int) : Option (Int × Bool) := (gudgeonref01_Int.f k l0_1).bind fun bt1012 => (if a0_0 = true then (some (wrap64 (-bt1012.1), bt1012.2)) else (some (bt1012.1, bt1012.2)))
set_option maxHeartbeats 8000000 in
set_option maxRecDepth 100000 in
theorem gudgeonref02_Int.calls (k : Nat) (a0_0 : Bool) (A0_1 : Option Addr) (c0_1 : Nat) (l0_1 : List Int) (r1 : Int) (r2 : Bool) (w : World) (hr0_1 : Kd.C (Kd.int .u32) w A0_1 l0_1.length l0_1) (hc0_1 : l0_1.length ≤ c0_1) (h : gudgeonref02_Int.f k a0_0 l0_1 = some (r1, r2)) :
  Calls Tryd.prog 35 #[.agg #[.bool a0_0, .slice A0_1 l0_1.length c0_1]] w fun e w' => e = .returned (.tuple #[.int .i64 r1, .bool r2]) ∧ Below w.heap.size w w' := by
 have hu24 := Tryd.underlying24
 have HR0_1 := Aside0.mk hr0_1
 have HC0_1 := Aside0.mk hc0_1
 clear hr0_1 hc0_1
 have HB := Aside0.mk (Below.refl w.heap.size w)
 have H : ((gudgeonref01_Int.f k l0_1).bind fun bt1012 => (if a0_0 = true then (some (wrap64 (-bt1012.1), bt1012.2)) else (some (bt1012.1, bt1012.2)))) = some (r1, r2) := h
 clear h
 replace H := Option.bind_eq_some_iff.mp H
 obtain ⟨⟨t1012, t1013⟩, A20, H⟩ := H
 replace H : (if a0_0 = true then (some (wrap64 (-t1012), t1013)) else (some (t1012, t1013))) = some (r1, r2) := H
 have A2 := Aside0.mk A20
 clear A20
 by_cases c3 : a0_0 = true
 ·subst c3
  have H1 : (some (wrap64 (-t1012), t1013)) = some (r1, r2) := by rw [if_pos rfl] at H; exact H
  clear H
  have H := H1
  clear H1
  simp only [Option.some.injEq, Prod.mk.injEq] at H
  obtain ⟨rfl, rfl⟩ := H
  go_enter Tryd.func35, Tryd.ntmps35
  go_wp2_with (first | ((with_reducible refine gate_dst (N := 1) rfl ?_); refine box_event ?hg (N := 1) ?hd (cs := #[.bool true, .slice A0_1 l0_1.length c0_1]) (t := 24) ?hr ?_; (case hd => rfl); (case hg => rfl); (case hr => first | (go_simp; done) | (go_simp; rfl)); intro gb1011 hg w4 hbox hb; have BK1011 := Aside0.mk (hbox); have GW1011 := Aside0.mk (bxLe HB.out hg); have GE1011 := GW1011; replace HB := Aside0.mk (below_step HB.out hb); clear hb hbox hg; have hcz5_0 := bc0 BK1011.out; have hcz5_1 := bc1 BK1011.out; have hfz5_0 := blk_frozen BK1011.out 0; have hfz5_1 := blk_frozen BK1011.out 1) | ((with_reducible refine gate_callee (f := 57) rfl ?_); refine goL (some 9) Tryd.func57 [.slice A0_1 l0_1.length c0_1] ?_; (with_reducible refine (gudgeonref01_Int.calls k _ _ l0_1 t1012 t1013 _ ?side1 ?side2 A2.out).mono ?_); (case side1 => exact (Kd.C_below HR0_1.out HB.out)); (case side2 => exact HC0_1.out); rintro e w6 ⟨rfl, hb⟩; refine ⟨_, rfl, ?_⟩; replace BK1011 := Aside0.mk (blk_below BK1011.out hb); replace HB := Aside0.mk (below_step HB.out hb); (try clear hb); (try clear hb2); (try clear hk); (try clear hi); have hcz7_0 := bc0 BK1011.out; have hcz7_1 := bc1 BK1011.out; have hfz7_0 := blk_frozen BK1011.out 0; have hfz7_1 := blk_frozen BK1011.out 1))
  go_ret2
  exact ⟨by first | rfl | (simp [errW_none, errW_some] <;> rfl) | (refine congrArg (fun z_ => Ending.returned (Value.bool z_)) (decide_eq_decide.mpr ?_); unfold wrap64; omega) | (simp [*, errW_none, errW_some] <;> rfl), by repeat (first | (with_reducible first | exact HB.out | apply below_alloc | apply pw_below_drewN | apply below_drew1 | refine below_set ?_ GE1011.out) | exact HB.out)⟩
 ·replace c3 := Bool.eq_false_iff.mpr c3
  subst c3
  have H1 : (some (t1012, t1013)) = some (r1, r2) := by rw [if_neg (show ¬ (false = true) by decide)] at H; exact H
  clear H
  have H := H1
  clear H1
  simp only [Option.some.injEq, Prod.mk.injEq] at H
  obtain ⟨rfl, rfl⟩ := H
  go_enter Tryd.func35, Tryd.ntmps35
  go_wp2_with (first | ((with_reducible refine gate_dst (N := 1) rfl ?_); refine box_event ?hg (N := 1) ?hd (cs := #[.bool false, .slice A0_1 l0_1.length c0_1]) (t := 24) ?hr ?_; (case hd => rfl); (case hg => rfl); (case hr => first | (go_simp; done) | (go_simp; rfl)); intro gb1011 hg w8 hbox hb; have BK1011 := Aside0.mk (hbox); have GW1011 := Aside0.mk (bxLe HB.out hg); have GE1011 := GW1011; replace HB := Aside0.mk (below_step HB.out hb); clear hb hbox hg; have hcz9_0 := bc0 BK1011.out; have hcz9_1 := bc1 BK1011.out; have hfz9_0 := blk_frozen BK1011.out 0; have hfz9_1 := blk_frozen BK1011.out 1) | ((with_reducible refine gate_callee (f := 57) rfl ?_); refine goL (some 9) Tryd.func57 [.slice A0_1 l0_1.length c0_1] ?_; (with_reducible refine (gudgeonref01_Int.calls k _ _ l0_1 t1012 t1013 _ ?side1 ?side2 A2.out).mono ?_); (case side1 => exact (Kd.C_below HR0_1.out HB.out)); (case side2 => exact HC0_1.out); rintro e w10 ⟨rfl, hb⟩; refine ⟨_, rfl, ?_⟩; replace BK1011 := Aside0.mk (blk_below BK1011.out hb); replace HB := Aside0.mk (below_step HB.out hb); (try clear hb); (try clear hb2); (try clear hk); (try clear hi); have hcz11_0 := bc0 BK1011.out; have hcz11_1 := bc1 BK1011.out; have hfz11_0 := blk_frozen BK1011.out 0; have hfz11_1 := blk_frozen BK1011.out 1))
  go_ret2
  exact ⟨by first | rfl | (simp [errW_none, errW_some] <;> rfl) | (refine congrArg (fun z_ => Ending.returned (Value.bool z_)) (decide_eq_decide.mpr ?_); unfold wrap64; omega) | (simp [*, errW_none, errW_some] <;> rfl), by repeat (first | (with_reducible first | exact HB.out | apply below_alloc | apply pw_below_drewN | apply below_drew1 | refine below_set ?_ GE1011.out) | exact HB.out)⟩

end Go.Proofs.YthnfmmaolkenkaaDoor.PA
/- Written by a program of this session, wip/tools/patch_print.py, over the kit's print of the loaded functions. -/
namespace Go.Proofs.YthnfmmaolkenkaaDoor.H
end Go.Proofs.YthnfmmaolkenkaaDoor.H
namespace Go.Proofs.YthnfmmaolkenkaaDoor.PA
open Go.RowKit Go.Proofs.YthnfmmaolkenkaaDoorW.PrintWords Go.Proofs.YthnfmmaolkenkaaDoorW.PrintLast Go.Proofs.YthnfmmaolkenkaaDoorW.PrintMore Go.Proofs.YthnfmmaolkenkaaDoor.H
attribute [local go_sem] max2_int min2_int max_two min_two max_three min_three max_four min_four   -- for this text's walks alone
set_option linter.unusedVariables false
set_option linter.unusedSimpArgs false

/-! ### gudgeonref01_Text: function 59 -/
mutual
def gudgeonref01_Text.l0 : Nat → List Bool → List Int → Int → Option (ByteArray)
 | 0, _, _, _ => none
 | k + 1, x3, x4, x5 => if x5 ≥ 0 then (if 0 ≤ x5 then (if x5 < (x3.length : Int) then (if rdOf false x3 x5 = true then (gudgeonref01_Text.j1 k x3 x4 x5 1) else (gudgeonref01_Text.j1 k x3 x4 x5 0)) else (none)) else (none)) else (if (x4.length : Int) = 0 then (some (⟨#[48]⟩ : ByteArray)) else (gudgeonref01_Text.l2 k x4 ([] : List Int) (wrap64 ((x4.length : Int) - 1))))
def gudgeonref01_Text.j1 : Nat → List Bool → List Int → Int → Int → Option (ByteArray)
 | 0, _, _, _, _ => none
 | k + 1, x3, x4, x5, x6 => gudgeonref01_Text.l1 k x3 x4 x5 x6 0
def gudgeonref01_Text.l1 : Nat → List Bool → List Int → Int → Int → Int → Option (ByteArray)
 | 0, _, _, _, _, _ => none
 | k + 1, x3, x4, x5, x6, x7 => if x7 < (x4.length : Int) then (if 0 ≤ x7 then (gudgeonref01_Text.l1 k x3 (x4.set (x7 : Int).toNat (Int.tmod (wrap64 ((wrap64 (2 * (rd x4 x7))) + x6)) 10)) x5 (wrap64 (Int.tdiv (wrap64 ((wrap64 (2 * (rd x4 x7))) + x6)) 10)) (wrap64 (x7 + 1))) else (none)) else (if x6 > 0 then (if x4.length < 17592186044416 then (gudgeonref01_Text.l0 k x3 (x4 ++ [x6]) (wrap64 (x5 - 1))) else (none)) else (gudgeonref01_Text.l0 k x3 x4 (wrap64 (x5 - 1))))
def gudgeonref01_Text.l2 : Nat → List Int → List Int → Int → Option (ByteArray)
 | 0, _, _, _ => none
 | k + 1, x4, x9, x10 => if x10 ≥ 0 then (if 0 ≤ x10 then (if x10 < (x4.length : Int) then (if x9.length < 140737488355328 then (gudgeonref01_Text.l2 k x4 (x9 ++ [(wrap64 (48 + (rd x4 x10))) % 256]) (wrap64 (x10 - 1))) else (none)) else (none)) else (none)) else (some (strOfNums x9))
end
def gudgeonref01_Text.f (k : Nat) (l0 : List Int) : Option (ByteArray) := (gudgeonref01_Bits.f k l0).bind fun t1014 => (gudgeonref01_Text.l0 k t1014 ([] : List Int) (wrap64 ((t1014.length : Int) - 1)))
set_option maxHeartbeats 8000000 in
set_option maxRecDepth 100000 in
theorem gudgeonref01_Text.calls (k : Nat) (A0 : Option Addr) (c0 : Nat) (l0 : List Int) (r : ByteArray) (w : World) (hr0 : Kd.C (Kd.int .u32) w A0 l0.length l0) (hc0 : l0.length ≤ c0) (h : gudgeonref01_Text.f k l0 = some r) :
  Calls Tryd.prog 59 #[.slice A0 l0.length c0] w fun e w' => e = .returned (.string r) ∧ Below w.heap.size w w' := by
 have HR0 := Aside0.mk hr0
 have HC0 := Aside0.mk hc0
 clear hr0 hc0
 have HB := Aside0.mk (Below.refl w.heap.size w)
 have H : ((gudgeonref01_Bits.f k l0).bind fun t1014 => (gudgeonref01_Text.l0 k t1014 ([] : List Int) (wrap64 ((t1014.length : Int) - 1)))) = some r := h
 clear h
 replace H := Option.bind_eq_some_iff.mp H
 obtain ⟨t1014, A20, H⟩ := H
 replace H : (gudgeonref01_Text.l0 k t1014 ([] : List Int) (wrap64 ((t1014.length : Int) - 1))) = some r := H
 have A2 := Aside0.mk A20
 clear A20
 have H' := Aside0.mk H
 clear H
 go_enter Tryd.func59, Tryd.ntmps59
 go_wp2_with (first | ((with_reducible refine gate_callee (f := 67) rfl ?_); refine goL (some 12) Tryd.func67 [.slice A0 l0.length c0] ?_; (with_reducible refine (gudgeonref01_Bits.calls k _ _ l0 t1014 _ ?side1 ?side2 A2.out).mono ?_); (case side1 => exact HR0.out); (case side2 => exact HC0.out); rintro e w3 ⟨v1015, rfl, ho0, hb⟩; refine ⟨_, rfl, ?_⟩; have HO1016 := Aside0.mk (Kd.R_lower ho0 (below_size HB.out)); replace HB := Aside0.mk (below_step HB.out hb); obtain ⟨Ao4, co4, eo4⟩ := Kd.R_slice HO1016.out; subst eo4))
 go_loopg [4, 5] k (fun kq v4 v5 w' => ∃ (x4_1 : List Int) (x5_1 : Int), v5 = .int .i64 x5_1 ∧ Aside0 (gudgeonref01_Text.l0 kq t1014 x4_1 x5_1 = some r) ∧ Aside0 (kq ≤ k) ∧ Aside0 (Kd.R Kd.bool 4 w' w.heap.size (fun _ => True) (.slice Ao4 t1014.length co4) t1014) ∧ Aside0 (Kd.R (Kd.int .i64) 3 w' w.heap.size (fun _ => True) v4 x4_1) ∧ Aside0 (Below w.heap.size w w'))
 case atStart => exact ⟨(([] : List Int)), (wrap64 ((t1014.length : Int) - 1)), (by first | rfl | (simp; done) | (simp [*]; done) | (refine congrArg (Value.int _) ?_; omega) | (refine congrArg Value.bool ?_; generalize ByteArray.toList _ = z_; cases z_ <;> rfl)), H', ⟨Nat.le_refl _⟩, ⟨by (with_reducible repeat (first | apply Kd.R_alloc | apply Kd.R_drewN | apply Kd.R_drew)); exact HO1016.out⟩, ⟨by first | exact Kd.R_nil _ _ _ _ _ | exact Kd.N_nil _ _ _ _ _ | exact Kd.V_nil _ _ _ _ _ | exact Kd.Q_nil _ _ _ _ _ | exact Kd.S_nil _ _ _ _ _⟩, ⟨by repeat (first | (with_reducible first | exact HB.out | apply below_alloc | apply pw_below_drewN | apply below_drew1) | exact HB.out)⟩⟩
 case round =>
  clear H'
  try clear p2
  obtain ⟨x4_1, x5_1, rfl, HA, HK1, HO_3, HO_4, HB⟩ := hrel
  cases gk with
  | zero => exact absurd HA.out (by simp [gudgeonref01_Text.l0])
  | succ k1 =>
   have H := HA.out
   clear HA
   simp only [gudgeonref01_Text.l0] at H
   by_cases c5 : x5_1 ≥ 0
   ·rw [if_pos c5] at H
    have c5b0 : decide (0 ≤ x5_1) = true := decide_eq_true c5
    clear c5
    by_cases c6 : 0 ≤ x5_1
    ·rw [if_pos c6] at H
     have c6b0 : decide (0 ≤ x5_1) = true := decide_eq_true c6
     clear c6
     by_cases c7 : x5_1 < (t1014.length : Int)
     ·rw [if_pos c7] at H
      have c7b0 : decide (x5_1 < (t1014.length : Int)) = true := decide_eq_true c7
      clear c7
      have HC8 := Aside0.mk H
      clear H
      have p1017 : 0 ≤ (x5_1 : Int) := of_decide_eq_true (by first | (with_reducible assumption) | assumption)
      have q1017 : x5_1 < (t1014.length : Int) := of_decide_eq_true (by first | (with_reducible assumption) | assumption)
      obtain ⟨ad1017, e1017, hx1017_0⟩ := Kd.at_bool (Kd.R_reads' HO_3.out).2.2 x5_1 p1017 q1017
      cases e1017
      replace p1017 := eq_true p1017
      replace q1017 := eq_true q1017
      go_upto_if 23 with (fail)
      go_cut [6] (fun v6 wc => ∃ (kq : Nat) (x6_7 : Int), v6 = .int .i64 x6_7 ∧ Aside0 (gudgeonref01_Text.j1 kq t1014 x4_1 x5_1 x6_7 = some r) ∧ Aside0 (kq ≤ k1) ∧ Aside0 (Kd.R Kd.bool 4 wc w.heap.size (fun _ => True) (.slice (some ad1017) t1014.length co4) t1014) ∧ Aside0 (Kd.R (Kd.int .i64) 3 wc w.heap.size (fun _ => True) u4 x4_1) ∧ Aside0 (Below w.heap.size w wc))
      case first =>
       have H := HC8.out
       clear HC8
       obtain ⟨bq9, hbq9⟩ : ∃ b_ : Bool, b_ = (rdOf false t1014 x5_1) := ⟨_, rfl⟩
       replace H : (if bq9 = true then (gudgeonref01_Text.j1 k1 t1014 x4_1 x5_1 1) else (gudgeonref01_Text.j1 k1 t1014 x4_1 x5_1 0)) = some r := by rw [← hbq9] at H; exact H
       have Nbq9 := Aside0.mk hbq9
       clear hbq9
       (try rw [← Nbq9.out])
       by_cases c10 : bq9 = true
       ·subst c10
        have H1 : (gudgeonref01_Text.j1 k1 t1014 x4_1 x5_1 1) = some r := by rw [if_pos rfl] at H; exact H
        clear H
        have H := H1
        clear H1
        have H' := Aside0.mk H
        clear H
        go_wp2
        go_meet
        case rel => exact ⟨_, (1), (by first | rfl | (simp; done) | (simp [*]; done) | (refine congrArg (Value.int _) ?_; omega) | (refine congrArg Value.bool ?_; generalize ByteArray.toList _ = z_; cases z_ <;> rfl)), H', ⟨by have := HK1.out; first | omega | exact Nat.le_refl _⟩, ⟨by (with_reducible repeat (first | apply Kd.R_alloc | apply Kd.R_drewN | apply Kd.R_drew)); exact HO_3.out⟩, ⟨by (with_reducible repeat (first | apply Kd.R_alloc | apply Kd.R_drewN | apply Kd.R_drew)); exact HO_4.out⟩, ⟨by repeat (first | (with_reducible first | exact HB.out | apply below_alloc | apply pw_below_drewN | apply below_drew1) | exact HB.out)⟩⟩
       ·replace c10 := Bool.eq_false_iff.mpr c10
        subst c10
        have H1 : (gudgeonref01_Text.j1 k1 t1014 x4_1 x5_1 0) = some r := by rw [if_neg (show ¬ (false = true) by decide)] at H; exact H
        clear H
        have H := H1
        clear H1
        have H' := Aside0.mk H
        clear H
        go_wp2
        go_meet
        case rel => exact ⟨_, (0), (by first | rfl | (simp; done) | (simp [*]; done) | (refine congrArg (Value.int _) ?_; omega) | (refine congrArg Value.bool ?_; generalize ByteArray.toList _ = z_; cases z_ <;> rfl)), H', ⟨by have := HK1.out; first | omega | exact Nat.le_refl _⟩, ⟨by (with_reducible repeat (first | apply Kd.R_alloc | apply Kd.R_drewN | apply Kd.R_drew)); exact HO_3.out⟩, ⟨by (with_reducible repeat (first | apply Kd.R_alloc | apply Kd.R_drewN | apply Kd.R_drew)); exact HO_4.out⟩, ⟨by repeat (first | (with_reducible first | exact HB.out | apply below_alloc | apply pw_below_drewN | apply below_drew1) | exact HB.out)⟩⟩
      case rest =>
       clear HC8
       try clear c1
       try clear p1
       try clear q1
       try clear hx1
       try clear p2
       try clear c5
       try clear c5b0
       try clear c6
       try clear c6b0
       try clear p6
       try clear c7
       try clear c7b0
       try clear q9
       try clear c10
       try clear p10
       try clear q10
       try clear hx10
       try clear hx1017_0
       try clear p1017
       try clear p2
       try clear q1017
       obtain ⟨kq, x6_7, rfl, HA, HJ7, HO_3, HO_4, HB⟩ := hcut
       cases kq with
       | zero => exact absurd HA.out (by simp [gudgeonref01_Text.j1])
       | succ kj7 =>
        have H := HA.out
        clear HA
        simp only [gudgeonref01_Text.j1] at H
        have H' := Aside0.mk H
        clear H
        go_wp2
        go_loopg [6, 7] kj7 (fun kq v6 v7 w' => ∃ (x4_3 : List Int) (x6_3 : Int) (x7_3 : Int), v6 = .int .i64 x6_3 ∧ v7 = .int .i64 x7_3 ∧ Aside0 (gudgeonref01_Text.l1 kq t1014 x4_3 x5_1 x6_3 x7_3 = some r) ∧ Aside0 (kq ≤ kj7) ∧ Aside0 (Kd.R Kd.bool 4 w' w.heap.size (fun _ => True) (.slice (some ad1017) t1014.length co4) t1014) ∧ Aside0 (Kd.R (Kd.int .i64) 3 w' w.heap.size (fun _ => True) u4 x4_3) ∧ Aside0 (Below w.heap.size w w'))
        case atStart => exact ⟨(x4_1), (x6_7), (0), (by first | rfl | (simp; done) | (simp [*]; done) | (refine congrArg (Value.int _) ?_; omega) | (refine congrArg Value.bool ?_; generalize ByteArray.toList _ = z_; cases z_ <;> rfl)), (by first | rfl | (simp; done) | (simp [*]; done) | (refine congrArg (Value.int _) ?_; omega) | (refine congrArg Value.bool ?_; generalize ByteArray.toList _ = z_; cases z_ <;> rfl)), H', ⟨Nat.le_refl _⟩, ⟨by (with_reducible repeat (first | apply Kd.R_alloc | apply Kd.R_drewN | apply Kd.R_drew)); exact HO_3.out⟩, ⟨by (with_reducible repeat (first | apply Kd.R_alloc | apply Kd.R_drewN | apply Kd.R_drew)); exact HO_4.out⟩, ⟨by repeat (first | (with_reducible first | exact HB.out | apply below_alloc | apply pw_below_drewN | apply below_drew1) | exact HB.out)⟩⟩
        case round =>
         clear H'
         try clear c1
         try clear p1
         try clear q1
         try clear hx1
         try clear p2
         try clear c5
         try clear c5b0
         try clear c6
         try clear c6b0
         try clear p6
         try clear c7
         try clear c7b0
         try clear q9
         try clear c10
         try clear p10
         try clear q10
         try clear hx10
         try clear hx1017_0
         try clear p1
         try clear p10
         try clear p1017
         try clear p2
         try clear p6
         try clear q1
         try clear q10
         try clear q1017
         try clear q9
         obtain ⟨x4_3, x6_3, x7_3, rfl, rfl, HA, HK3, HO_3, HO_4, HB⟩ := hrel
         cases gk with
         | zero => exact absurd HA.out (by simp [gudgeonref01_Text.l1])
         | succ k3 =>
          have H := HA.out
          clear HA
          simp only [gudgeonref01_Text.l1] at H
          by_cases c11 : x7_3 < (x4_3.length : Int)
          ·rw [if_pos c11] at H
           have c11b0 : decide (x7_3 < (x4_3.length : Int)) = true := decide_eq_true c11
           clear c11
           by_cases c12 : 0 ≤ x7_3
           ·rw [if_pos c12] at H
            have c12b0 : decide (0 ≤ x7_3) = true := decide_eq_true c12
            clear c12
            obtain ⟨y1019, hy1019⟩ : ∃ y_ : List Int, y_ = (x4_3.set (x7_3 : Int).toNat (Int.tmod (wrap64 ((wrap64 (2 * (rd x4_3 x7_3))) + x6_3)) 10)) := ⟨_, rfl⟩
            replace H : (gudgeonref01_Text.l1 k3 t1014 y1019 x5_1 (wrap64 (Int.tdiv (wrap64 ((wrap64 (2 * (rd x4_3 x7_3))) + x6_3)) 10)) (wrap64 (x7_3 + 1))) = some r := by first | (rw [hy1019]; with_reducible exact H) | (have H2_ := (Option.bind_some _ _).symm.trans H; rw [hy1019]; with_reducible exact H2_) | (have H2_ := (Option.bind_some _ _).symm.trans H; with_reducible exact H2_) | with_reducible exact H | (rw [hy1019]; exact H) | exact H
            have Ny1019 := Aside0.mk hy1019
            clear hy1019
            have H' := Aside0.mk H
            clear H
            obtain ⟨Ao14, co14, eo14⟩ := Kd.R_slice HO_4.out
            subst eo14
            have p1018 : 0 ≤ (x7_3 : Int) := of_decide_eq_true (by first | (with_reducible assumption) | assumption)
            have q1018 : x7_3 < (x4_3.length : Int) := of_decide_eq_true (by first | (with_reducible assumption) | assumption)
            obtain ⟨ad1018, e1018, hx1018_0⟩ := Kd.at_int (Kd.R_reads' HO_4.out).2.2 x7_3 p1018 q1018
            cases e1018
            replace p1018 := eq_true p1018
            replace q1018 := eq_true q1018
            have p13 : 0 ≤ (x7_3 : Int) := of_decide_eq_true (by first | (with_reducible assumption) | assumption)
            have q13 : (x7_3 : Int) < ((x4_3.length : Int) : Int) := of_decide_eq_true (by first | (with_reducible assumption) | assumption)
            obtain ⟨go13, co13, eo13, gb13, gl13, cl13, HG13⟩ := Kd.R_form HO_4.out (by omega)
            (first | cases eo13 | (injection eo13 with ea_ en_ ec_; (first | subst ea_ | (injection ea_ with ea_; subst ea_)); subst ec_; clear en_))
            have GB13 := Aside0.mk gb13
            have GG13 := Aside0.mk HG13
            clear gb13 gl13 HG13
            (first | simp only [add_plain] at hx1018_0 | skip)
            obtain ⟨hx13_0, hf13_0⟩ := Kd.R_celln 0 HO_4.out (x7_3 : Int) p13 q13
            replace p13 := eq_true p13
            replace q13 := eq_true q13
            have HP15 := Kd.R_putg HO_4.out (x7_3 : Int) (Int.tmod (wrap64 ((wrap64 (2 * (rd x4_3 x7_3))) + x6_3)) 10)
            go_wp2_with (first | ((with_reducible refine gate_store (t := 3) (p := 41) rfl ?_); refine store_event (t := 3) (p := 41) (v := ?vo_w16) (w1 := (wr.setCell ⟨go13, (x7_3 : Int).toNat, none⟩ (.int .i64 (Int.tmod (wrap64 ((wrap64 (2 * (rd x4_3 x7_3))) + x6_3)) 10)))) ?hg ?ho ?hn ?hr ?_; (case ho => rfl); (case hg => rfl); (case hn => rfl); (case hr => first | (go_simp; done) | (go_simp; rfl)); intro w16 hw; have hg : wr.grownBy w16 (some go13) := (by rw [hw]; exact HP15.2); have hp_ : Kd.R (Kd.int .i64) 3 w16 w.heap.size (fun _ => True) (.slice (some ⟨go13, 0, none⟩) x4_3.length co14) y1019 := (by rw [hw, Ny1019.out]; exact HP15.1); clear HP15; replace HO_3 := Aside0.mk (Kd.R_over' (v := (.slice (some ⟨go13, 0, none⟩) x4_3.length co14)) HO_3.out (Kd.R_typed HO_4.out) (by decide) hg); replace HO_4 := Aside0.mk (hp_); replace HB := Aside0.mk ((by rw [hw]; exact below_set (HB.out) GB13.out : Below w.heap.size w w16)); clear hg hw hp_))
            go_roundg k3
            case measure => have := HK1.out; have := HJ7.out; have := HK3.out; omega
            case rel => exact ⟨(y1019), (wrap64 (Int.tdiv (wrap64 ((wrap64 (2 * (rd x4_3 x7_3))) + x6_3)) 10)), (wrap64 (x7_3 + 1)), (by first | rfl | (simp; done) | (simp [*]; done) | (refine congrArg (Value.int _) ?_; omega) | (refine congrArg Value.bool ?_; generalize ByteArray.toList _ = z_; cases z_ <;> rfl)), (by first | rfl | (simp; done) | (simp [*]; done) | (refine congrArg (Value.int _) ?_; omega) | (refine congrArg Value.bool ?_; generalize ByteArray.toList _ = z_; cases z_ <;> rfl)), H', ⟨by have := HK1.out; have := HJ7.out; have := HK3.out; omega⟩, ⟨by (with_reducible repeat (first | apply Kd.R_alloc | apply Kd.R_drewN | apply Kd.R_drew)); exact HO_3.out⟩, ⟨by (with_reducible repeat (first | apply Kd.R_alloc | apply Kd.R_drewN | apply Kd.R_drew)); exact HO_4.out⟩, ⟨by repeat (first | (with_reducible first | exact HB.out | apply below_alloc | apply pw_below_drewN | apply below_drew1) | exact HB.out)⟩⟩
           ·rw [if_neg c12] at H
            exact absurd H (by simp)
          ·rw [if_neg c11] at H
           have c11b0 : decide (x7_3 < (x4_3.length : Int)) = false := decide_eq_false c11
           clear c11
           by_cases c17 : x6_3 > 0
           ·rw [if_pos c17] at H
            have c17b0 : decide (0 < x6_3) = true := decide_eq_true c17
            clear c17
            by_cases c18 : x4_3.length < 17592186044416
            ·rw [if_pos c18] at H
             have LMc18 := Aside0.mk c18
             clear c18
             obtain ⟨y1020, hy1020⟩ : ∃ y_ : List Int, y_ = (x4_3 ++ [x6_3]) := ⟨_, rfl⟩
             replace H : (gudgeonref01_Text.l0 k3 t1014 y1020 (wrap64 (x5_1 - 1))) = some r := by first | (rw [hy1020]; with_reducible exact H) | (have H2_ := (Option.bind_some _ _).symm.trans H; rw [hy1020]; with_reducible exact H2_) | (have H2_ := (Option.bind_some _ _).symm.trans H; with_reducible exact H2_) | with_reducible exact H | (rw [hy1020]; exact H) | exact H
             have Ny1020 := Aside0.mk hy1020
             clear hy1020
             have H' := Aside0.mk H
             clear H
             obtain ⟨Ao19, co19, eo19⟩ := Kd.R_slice HO_4.out
             subst eo19
             go_wp2_with (first | ((with_reducible refine gate_builtin (b := .append) (xs := #[.tmp 46, .tmp 48]) rfl ?_); at_builtin; refine Kd.R_append (Kd.int .i64) (w0 := w) w.heap.size rfl (.tmp 46) (.tmp 48) 80 3 (.int .i64 0) 8 rfl Tryd.underlying80 info3 rfl (by decide) (by omega) (.slice Ao19 x4_3.length co19) x4_3 x6_3 [.int .i64 x6_3] (fun _ => True) (fun _ => False) rfl rfl ?aP (fun _ hk => hk.elim) ?aF ?aO ?aB ?aS ?aL ?_; (case aP => exact rfl); (case aB => exact HB.out); (case aF => exact (fun _ _ => trivial)); (case aO => exact HO_4.out); (case aS => exact (below_size HB.out)); (case aL => have := LMc18.out; omega); intro v1021 w20 ho hb hg hat; rw [← Ny1020.out] at ho; have n0_ := Aside0.mk (Kd.R_over' HO_3.out (Kd.R_typed HO_4.out) (by decide) hg); have n1_ := Aside0.mk (hb); have n2_ := Aside0.mk (ho); clear HO_3; clear HB; clear HO_4; have HO_3 := n0_; have HB := n1_; have HO1022 := n2_; clear n0_ n1_ n2_; clear ho hb hg hat))
             go_roundg k3
             case measure => have := HK1.out; have := HJ7.out; have := HK3.out; omega
             case rel => exact ⟨(y1020), (wrap64 (x5_1 - 1)), (by first | rfl | (simp; done) | (simp [*]; done) | (refine congrArg (Value.int _) ?_; omega) | (refine congrArg Value.bool ?_; generalize ByteArray.toList _ = z_; cases z_ <;> rfl)), H', ⟨by have := HK1.out; have := HJ7.out; have := HK3.out; omega⟩, ⟨by (with_reducible repeat (first | apply Kd.R_alloc | apply Kd.R_drewN | apply Kd.R_drew)); exact HO_3.out⟩, ⟨by (with_reducible repeat (first | apply Kd.R_alloc | apply Kd.R_drewN | apply Kd.R_drew)); exact HO1022.out⟩, ⟨by repeat (first | (with_reducible first | exact HB.out | apply below_alloc | apply pw_below_drewN | apply below_drew1) | exact HB.out)⟩⟩
            ·rw [if_neg c18] at H
             exact absurd H (by simp)
           ·rw [if_neg c17] at H
            have c17b0 : decide (0 < x6_3) = false := decide_eq_false c17
            clear c17
            have H' := Aside0.mk H
            clear H
            obtain ⟨Ao21, co21, eo21⟩ := Kd.R_slice HO_4.out
            subst eo21
            go_wp2
            go_roundg k3
            case measure => have := HK1.out; have := HJ7.out; have := HK3.out; omega
            case rel => exact ⟨(x4_3), (wrap64 (x5_1 - 1)), (by first | rfl | (simp; done) | (simp [*]; done) | (refine congrArg (Value.int _) ?_; omega) | (refine congrArg Value.bool ?_; generalize ByteArray.toList _ = z_; cases z_ <;> rfl)), H', ⟨by have := HK1.out; have := HJ7.out; have := HK3.out; omega⟩, ⟨by (with_reducible repeat (first | apply Kd.R_alloc | apply Kd.R_drewN | apply Kd.R_drew)); exact HO_3.out⟩, ⟨by (with_reducible repeat (first | apply Kd.R_alloc | apply Kd.R_drewN | apply Kd.R_drew)); exact HO_4.out⟩, ⟨by repeat (first | (with_reducible first | exact HB.out | apply below_alloc | apply pw_below_drewN | apply below_drew1) | exact HB.out)⟩⟩
     ·rw [if_neg c7] at H
      exact absurd H (by simp)
    ·rw [if_neg c6] at H
     exact absurd H (by simp)
   ·rw [if_neg c5] at H
    have c5b0 : decide (0 ≤ x5_1) = false := decide_eq_false c5
    clear c5
    by_cases c22 : (x4_1.length : Int) = 0
    ·rw [if_pos c22] at H
     have c22b0 : ((x4_1.length : Int) == 0) = true := beq_iff_eq.mpr c22
     have c22b1 : ((x4_1.length : Int) != 0) = false := bne_eq_false_iff_eq.mpr c22
     clear c22
     obtain rfl := Option.some.inj H
     obtain ⟨Ao23, co23, eo23⟩ := Kd.R_slice HO_4.out
     subst eo23
     go_wp2
     go_ret
     exact ⟨by first | rfl | (simp [errW_none, errW_some] <;> rfl) | (refine congrArg (fun z_ => Ending.returned (Value.bool z_)) (decide_eq_decide.mpr ?_); unfold wrap64; omega) | (simp [*, errW_none, errW_some] <;> rfl), by repeat (first | (with_reducible first | exact HB.out | apply below_alloc | apply pw_below_drewN | apply below_drew1) | exact HB.out)⟩
    ·rw [if_neg c22] at H
     have c22b0 : ((x4_1.length : Int) == 0) = false := beq_eq_false_iff_ne.mpr c22
     have c22b1 : ((x4_1.length : Int) != 0) = true := bne_iff_ne.mpr c22
     have c22b2 : ¬ (x4_1 = []) := fun h_ => c22 (by rw [h_]; rfl)
     have H' := Aside0.mk H
     clear H
     obtain ⟨Ao24, co24, eo24⟩ := Kd.R_slice HO_4.out
     subst eo24
     go_wp2
     go_loopg [9, 10] k1 (fun kq v9 v10 w' => ∃ (x9_2 : List Int) (x10_2 : Int), v10 = .int .i64 x10_2 ∧ Aside0 (gudgeonref01_Text.l2 kq x4_1 x9_2 x10_2 = some r) ∧ Aside0 (kq ≤ k1) ∧ Aside0 (Kd.R (Kd.int .i64) 3 w' w.heap.size (fun _ => True) (.slice Ao24 x4_1.length co24) x4_1) ∧ Aside0 (Kd.R (Kd.int .u8) 5 w' w.heap.size (fun _ => True) v9 x9_2) ∧ Aside0 (Below w.heap.size w w'))
     case atStart => exact ⟨(([] : List Int)), (wrap64 ((x4_1.length : Int) - 1)), (by first | rfl | (simp; done) | (simp [*]; done) | (refine congrArg (Value.int _) ?_; omega) | (refine congrArg Value.bool ?_; generalize ByteArray.toList _ = z_; cases z_ <;> rfl)), H', ⟨Nat.le_refl _⟩, ⟨by (with_reducible repeat (first | apply Kd.R_alloc | apply Kd.R_drewN | apply Kd.R_drew)); exact HO_4.out⟩, ⟨by first | exact Kd.R_nil _ _ _ _ _ | exact Kd.N_nil _ _ _ _ _ | exact Kd.V_nil _ _ _ _ _ | exact Kd.Q_nil _ _ _ _ _ | exact Kd.S_nil _ _ _ _ _⟩, ⟨by repeat (first | (with_reducible first | exact HB.out | apply below_alloc | apply pw_below_drewN | apply below_drew1) | exact HB.out)⟩⟩
     case round =>
      clear H'
      try clear c1
      try clear p1
      try clear q1
      try clear hx1
      try clear hf1
      try clear c2
      try clear p2
      try clear c5
      try clear c5b0
      try clear c6
      try clear c6b0
      try clear p6
      try clear c7
      try clear c7b0
      try clear q9
      try clear c10
      try clear p10
      try clear q10
      try clear hx10
      try clear c11
      try clear c11b0
      try clear c12
      try clear c12b0
      try clear p13
      try clear q13
      try clear hx13
      try clear hf13
      try clear c17
      try clear c17b0
      try clear c18
      try clear c22
      try clear c22b0
      try clear c22b1
      try clear c22b2
      try clear hx1017_0
      try clear hx1018_0
      try clear hx13_0
      try clear p1
      try clear p10
      try clear p1017
      try clear p1018
      try clear p13
      try clear p2
      try clear p6
      try clear q1
      try clear q10
      try clear q1017
      try clear q1018
      try clear q13
      try clear q9
      obtain ⟨x9_2, x10_2, rfl, HA, HK2, HO_4, HO_9, HB⟩ := hrel
      cases gk with
      | zero => exact absurd HA.out (by simp [gudgeonref01_Text.l2])
      | succ k2 =>
       have H := HA.out
       clear HA
       simp only [gudgeonref01_Text.l2] at H
       by_cases c25 : x10_2 ≥ 0
       ·rw [if_pos c25] at H
        have c25b0 : decide (0 ≤ x10_2) = true := decide_eq_true c25
        clear c25
        by_cases c26 : 0 ≤ x10_2
        ·rw [if_pos c26] at H
         have c26b0 : decide (0 ≤ x10_2) = true := decide_eq_true c26
         clear c26
         by_cases c27 : x10_2 < (x4_1.length : Int)
         ·rw [if_pos c27] at H
          have c27b0 : decide (x10_2 < (x4_1.length : Int)) = true := decide_eq_true c27
          clear c27
          by_cases c28 : x9_2.length < 140737488355328
          ·rw [if_pos c28] at H
           have LMc28 := Aside0.mk c28
           clear c28
           obtain ⟨y1024, hy1024⟩ : ∃ y_ : List Int, y_ = (x9_2 ++ [(wrap64 (48 + (rd x4_1 x10_2))) % 256]) := ⟨_, rfl⟩
           replace H : (gudgeonref01_Text.l2 k2 x4_1 y1024 (wrap64 (x10_2 - 1))) = some r := by first | (rw [hy1024]; with_reducible exact H) | (have H2_ := (Option.bind_some _ _).symm.trans H; rw [hy1024]; with_reducible exact H2_) | (have H2_ := (Option.bind_some _ _).symm.trans H; with_reducible exact H2_) | with_reducible exact H | (rw [hy1024]; exact H) | exact H
           have Ny1024 := Aside0.mk hy1024
           clear hy1024
           have H' := Aside0.mk H
           clear H
           have p1023 : 0 ≤ (x10_2 : Int) := of_decide_eq_true (by first | (with_reducible assumption) | assumption)
           have q1023 : x10_2 < (x4_1.length : Int) := of_decide_eq_true (by first | (with_reducible assumption) | assumption)
           obtain ⟨ad1023, e1023, hx1023_0⟩ := Kd.at_int (Kd.R_reads' HO_4.out).2.2 x10_2 p1023 q1023
           cases e1023
           replace p1023 := eq_true p1023
           replace q1023 := eq_true q1023
           go_wp2_with (first | ((with_reducible refine gate_builtin (b := .append) (xs := #[.tmp 60, .tmp 67]) rfl ?_); at_builtin; refine Kd.R_append (Kd.int .u8) (w0 := w) w.heap.size rfl (.tmp 60) (.tmp 67) 77 5 (.int .u8 0) 1 rfl Tryd.underlying77 info5 rfl (by decide) (by omega) u9 x9_2 ((wrap64 (48 + (rd x4_1 x10_2))) % 256) [.int .u8 ((wrap64 (48 + (rd x4_1 x10_2))) % 256)] (fun _ => True) (fun _ => False) rfl rfl ?aP (fun _ hk => hk.elim) ?aF ?aO ?aB ?aS ?aL ?_; (case aP => exact rfl); (case aB => exact HB.out); (case aF => exact (fun _ _ => trivial)); (case aO => exact HO_9.out); (case aS => exact (below_size HB.out)); (case aL => have := LMc28.out; omega); intro v1025 w29 ho hb hg hat; rw [← Ny1024.out] at ho; have n0_ := Aside0.mk (Kd.R_over' HO_4.out (Kd.R_typed HO_9.out) (by decide) hg); have n1_ := Aside0.mk (hb); have n2_ := Aside0.mk (ho); clear HO_4; clear HB; clear HO_9; have HO_4 := n0_; have HB := n1_; have HO1026 := n2_; clear n0_ n1_ n2_; clear ho hb hg hat))
           go_roundg k2
           case measure => have := HK1.out; have := HK2.out; omega
           case rel => exact ⟨(y1024), (wrap64 (x10_2 - 1)), (by first | rfl | (simp; done) | (simp [*]; done) | (refine congrArg (Value.int _) ?_; omega) | (refine congrArg Value.bool ?_; generalize ByteArray.toList _ = z_; cases z_ <;> rfl)), H', ⟨by have := HK1.out; have := HK2.out; omega⟩, ⟨by (with_reducible repeat (first | apply Kd.R_alloc | apply Kd.R_drewN | apply Kd.R_drew)); exact HO_4.out⟩, ⟨by (with_reducible repeat (first | apply Kd.R_alloc | apply Kd.R_drewN | apply Kd.R_drew)); exact HO1026.out⟩, ⟨by repeat (first | (with_reducible first | exact HB.out | apply below_alloc | apply pw_below_drewN | apply below_drew1) | exact HB.out)⟩⟩
          ·rw [if_neg c28] at H
           exact absurd H (by simp)
         ·rw [if_neg c27] at H
          exact absurd H (by simp)
        ·rw [if_neg c26] at H
         exact absurd H (by simp)
       ·rw [if_neg c25] at H
        have c25b0 : decide (0 ≤ x10_2) = false := decide_eq_false c25
        clear c25
        obtain rfl := Option.some.inj H
        have hcv30 := own_string (P := Tryd.prog) Tryd.underlying77 Tryd.underlying5 Tryd.underlying9 (Kd.own_of_R HO_9.out); have hcv30d := fun m_ => own_string (P := Tryd.prog) Tryd.underlying77 Tryd.underlying5 Tryd.underlying9 (Kd.own_of_R (Kd.R_drewN HO_9.out m_))
        go_wp2
        go_ret
        exact ⟨by first | rfl | (simp [errW_none, errW_some] <;> rfl) | (refine congrArg (fun z_ => Ending.returned (Value.bool z_)) (decide_eq_decide.mpr ?_); unfold wrap64; omega) | (simp [*, errW_none, errW_some] <;> rfl), by repeat (first | (with_reducible first | exact HB.out | apply below_alloc | apply pw_below_drewN | apply below_drew1) | exact HB.out)⟩

/-! ### gudgeonref02_Text: function 37 -/
def gudgeonref02_Text.f (k : Nat) (a0_0 : Bool) (l0_1 : List Int) : Option (ByteArray) := (gudgeonref02_Sign.f k a0_0 l0_1).bind fun t1028 => (if t1028 < 0 then ((gudgeonref01_Text.f k l0_1).bind fun t1029 => (if 1 + t1029.size ≤ 9223372036854775807 then (some ((⟨#[45]⟩ : ByteArray) ++ t1029)) else (none))) else ((gudgeonref01_Text.f k l0_1).bind fun t1030 => (some t1030)))
set_option maxHeartbeats 8000000 in
set_option maxRecDepth 100000 in
theorem gudgeonref02_Text.calls (k : Nat) (a0_0 : Bool) (A0_1 : Option Addr) (c0_1 : Nat) (l0_1 : List Int) (r : ByteArray) (w : World) (hr0_1 : Kd.C (Kd.int .u32) w A0_1 l0_1.length l0_1) (hc0_1 : l0_1.length ≤ c0_1) (h : gudgeonref02_Text.f k a0_0 l0_1 = some r) :
  Calls Tryd.prog 37 #[.agg #[.bool a0_0, .slice A0_1 l0_1.length c0_1]] w fun e w' => e = .returned (.string r) ∧ Below w.heap.size w w' := by
 have hu24 := Tryd.underlying24
 have HR0_1 := Aside0.mk hr0_1
 have HC0_1 := Aside0.mk hc0_1
 clear hr0_1 hc0_1
 have HB := Aside0.mk (Below.refl w.heap.size w)
 have H : ((gudgeonref02_Sign.f k a0_0 l0_1).bind fun t1028 => (if t1028 < 0 then ((gudgeonref01_Text.f k l0_1).bind fun t1029 => (if 1 + t1029.size ≤ 9223372036854775807 then (some ((⟨#[45]⟩ : ByteArray) ++ t1029)) else (none))) else ((gudgeonref01_Text.f k l0_1).bind fun t1030 => (some t1030)))) = some r := h
 clear h
 replace H := Option.bind_eq_some_iff.mp H
 obtain ⟨t1028, A20, H⟩ := H
 replace H : (if t1028 < 0 then ((gudgeonref01_Text.f k l0_1).bind fun t1029 => (if 1 + t1029.size ≤ 9223372036854775807 then (some ((⟨#[45]⟩ : ByteArray) ++ t1029)) else (none))) else ((gudgeonref01_Text.f k l0_1).bind fun t1030 => (some t1030))) = some r := H
 have A2 := Aside0.mk A20
 clear A20
 by_cases c3 : t1028 < 0
 ·rw [if_pos c3] at H
  have c3b0 : decide (t1028 < 0) = true := decide_eq_true c3
  clear c3
  replace H := Option.bind_eq_some_iff.mp H
  obtain ⟨t1029, A40, H⟩ := H
  replace H : (if 1 + t1029.size ≤ 9223372036854775807 then (some ((⟨#[45]⟩ : ByteArray) ++ t1029)) else (none)) = some r := H
  have A4 := Aside0.mk A40
  clear A40
  by_cases c5 : 1 + t1029.size ≤ 9223372036854775807
  ·rw [if_pos c5] at H
   have c5b0 := eq_true c5
   have c5b1 : decide (1 + t1029.size ≤ 9223372036854775807) = true := decide_eq_true c5
   try have c5b2 : (9223372036854775807 < 1 + t1029.size) = False := eq_false (Nat.not_lt.2 c5)
   obtain rfl := Option.some.inj H
   go_enter Tryd.func37, Tryd.ntmps37
   go_wp2_with (first | ((with_reducible refine gate_dst (N := 1) rfl ?_); refine box_event ?hg (N := 1) ?hd (cs := #[.bool a0_0, .slice A0_1 l0_1.length c0_1]) (t := 24) ?hr ?_; (case hd => rfl); (case hg => rfl); (case hr => first | (go_simp; done) | (go_simp; rfl)); intro gb1027 hg w6 hbox hb; have BK1027 := Aside0.mk (hbox); have GW1027 := Aside0.mk (bxLe HB.out hg); have GE1027 := GW1027; replace HB := Aside0.mk (below_step HB.out hb); clear hb hbox hg; have hcz7_0 := bc0 BK1027.out; have hcz7_1 := bc1 BK1027.out; have hfz7_0 := blk_frozen BK1027.out 0; have hfz7_1 := blk_frozen BK1027.out 1) | ((with_reducible refine gate_callee (f := 29) rfl ?_); refine goL (some 4) Tryd.func29 [.agg #[.bool a0_0, .slice A0_1 l0_1.length c0_1]] ?_; (with_reducible refine (gudgeonref02_Sign.calls k a0_0 _ _ l0_1 t1028 _ ?side1 ?side2 A2.out).mono ?_); (case side1 => exact (Kd.C_below HR0_1.out HB.out)); (case side2 => exact HC0_1.out); rintro e w8 ⟨rfl, hb⟩; refine ⟨_, rfl, ?_⟩; replace BK1027 := Aside0.mk (blk_below BK1027.out hb); replace HB := Aside0.mk (below_step HB.out hb); (try clear hb); (try clear hb2); (try clear hk); (try clear hi); have hcz9_0 := bc0 BK1027.out; have hcz9_1 := bc1 BK1027.out; have hfz9_0 := blk_frozen BK1027.out 0; have hfz9_1 := blk_frozen BK1027.out 1) | ((with_reducible refine gate_callee (f := 59) rfl ?_); refine goL (some 8) Tryd.func59 [.slice A0_1 l0_1.length c0_1] ?_; (with_reducible refine (gudgeonref01_Text.calls k _ _ l0_1 t1029 _ ?side1 ?side2 A4.out).mono ?_); (case side1 => exact (Kd.C_below HR0_1.out HB.out)); (case side2 => exact HC0_1.out); rintro e w10 ⟨rfl, hb⟩; refine ⟨_, rfl, ?_⟩; replace BK1027 := Aside0.mk (blk_below BK1027.out hb); replace HB := Aside0.mk (below_step HB.out hb); (try clear hb); (try clear hb2); (try clear hk); (try clear hi)))
   go_ret
   exact ⟨by first | rfl | (simp [errW_none, errW_some] <;> rfl) | (refine congrArg (fun z_ => Ending.returned (Value.bool z_)) (decide_eq_decide.mpr ?_); unfold wrap64; omega) | (simp [*, errW_none, errW_some] <;> rfl), by repeat (first | (with_reducible first | exact HB.out | apply below_alloc | apply pw_below_drewN | apply below_drew1 | refine below_set ?_ GE1027.out) | exact HB.out)⟩
  ·rw [if_neg c5] at H
   exact absurd H (by simp)
 ·rw [if_neg c3] at H
  have c3b0 : decide (t1028 < 0) = false := decide_eq_false c3
  clear c3
  replace H := Option.bind_eq_some_iff.mp H
  obtain ⟨t1030, A110, H⟩ := H
  replace H : (some t1030) = some r := H
  have A11 := Aside0.mk A110
  clear A110
  obtain rfl := Option.some.inj H
  go_enter Tryd.func37, Tryd.ntmps37
  go_wp2_with (first | ((with_reducible refine gate_dst (N := 1) rfl ?_); refine box_event ?hg (N := 1) ?hd (cs := #[.bool a0_0, .slice A0_1 l0_1.length c0_1]) (t := 24) ?hr ?_; (case hd => rfl); (case hg => rfl); (case hr => first | (go_simp; done) | (go_simp; rfl)); intro gb1027 hg w12 hbox hb; have BK1027 := Aside0.mk (hbox); have GW1027 := Aside0.mk (bxLe HB.out hg); have GE1027 := GW1027; replace HB := Aside0.mk (below_step HB.out hb); clear hb hbox hg; have hcz13_0 := bc0 BK1027.out; have hcz13_1 := bc1 BK1027.out; have hfz13_0 := blk_frozen BK1027.out 0; have hfz13_1 := blk_frozen BK1027.out 1) | ((with_reducible refine gate_callee (f := 29) rfl ?_); refine goL (some 4) Tryd.func29 [.agg #[.bool a0_0, .slice A0_1 l0_1.length c0_1]] ?_; (with_reducible refine (gudgeonref02_Sign.calls k a0_0 _ _ l0_1 t1028 _ ?side1 ?side2 A2.out).mono ?_); (case side1 => exact (Kd.C_below HR0_1.out HB.out)); (case side2 => exact HC0_1.out); rintro e w14 ⟨rfl, hb⟩; refine ⟨_, rfl, ?_⟩; replace BK1027 := Aside0.mk (blk_below BK1027.out hb); replace HB := Aside0.mk (below_step HB.out hb); (try clear hb); (try clear hb2); (try clear hk); (try clear hi); have hcz15_0 := bc0 BK1027.out; have hcz15_1 := bc1 BK1027.out; have hfz15_0 := blk_frozen BK1027.out 0; have hfz15_1 := blk_frozen BK1027.out 1) | ((with_reducible refine gate_callee (f := 59) rfl ?_); refine goL (some 12) Tryd.func59 [.slice A0_1 l0_1.length c0_1] ?_; (with_reducible refine (gudgeonref01_Text.calls k _ _ l0_1 t1030 _ ?side1 ?side2 A11.out).mono ?_); (case side1 => exact (Kd.C_below HR0_1.out HB.out)); (case side2 => exact HC0_1.out); rintro e w16 ⟨rfl, hb⟩; refine ⟨_, rfl, ?_⟩; replace BK1027 := Aside0.mk (blk_below BK1027.out hb); replace HB := Aside0.mk (below_step HB.out hb); (try clear hb); (try clear hb2); (try clear hk); (try clear hi)))
  go_ret
  exact ⟨by first | rfl | (simp [errW_none, errW_some] <;> rfl) | (refine congrArg (fun z_ => Ending.returned (Value.bool z_)) (decide_eq_decide.mpr ?_); unfold wrap64; omega) | (simp [*, errW_none, errW_some] <;> rfl), by repeat (first | (with_reducible first | exact HB.out | apply below_alloc | apply pw_below_drewN | apply below_drew1 | refine below_set ?_ GE1027.out) | exact HB.out)⟩

end Go.Proofs.YthnfmmaolkenkaaDoor.PA
/- Written by a program of this session, wip/tools/patch_print.py, over the kit's print of the loaded functions. -/
namespace Go.Proofs.YthnfmmaolkenkaaDoor.H
end Go.Proofs.YthnfmmaolkenkaaDoor.H
namespace Go.Proofs.YthnfmmaolkenkaaDoor.PA
open Go.RowKit Go.Proofs.YthnfmmaolkenkaaDoorW.PrintWords Go.Proofs.YthnfmmaolkenkaaDoorW.PrintLast Go.Proofs.YthnfmmaolkenkaaDoorW.PrintMore Go.Proofs.YthnfmmaolkenkaaDoor.H
attribute [local go_sem] max2_int min2_int max_two min_two max_three min_three max_four min_four   -- for this text's walks alone
attribute [local go_sem] box_twice
set_option linter.unusedVariables false
set_option linter.unusedSimpArgs false

/-! ### gudgeonlaw02_WholeTexts: function 7 -/
def gudgeonlaw02_WholeTexts.j0 : Nat → ByteArray → Int → Bool → Bool → Bool → List Int → Option (Bool)
 | 0, _, _, _, _, _, _ => none
 | k + 1, x1, x2, x7, x31, x1032000, x1032001 => if x31 = true then (some x7) else ((whole_Parse.f k x1).bind fun bt1033 => ((gudgeonref02_Parse.f k x1).bind fun bt1039 => ((gudgeonref02_Same.f k bt1033.1 bt1033.2.1 bt1039.1 bt1039.2.1).bind fun t1045 => ((whole_Of.f x2).bind fun bt1046 => ((gudgeonref02_Of.f k x2).bind fun bt1050 => ((gudgeonref02_Same.f k bt1046.1 bt1046.2 bt1050.1 bt1050.2).bind fun t1054 => ((whole_Int.f k x1032000 x1032001).bind fun bt1055 => ((gudgeonref02_Int.f k x1032000 x1032001).bind fun bt1057 => (if t1045 = true then (if t1054 = true then (if bt1033.2.2 = bt1039.2.2 then (if bt1055.1 = bt1057.1 then (if (bt1055.2 == bt1057.2) = true then ((whole_Text.f k x1032000 x1032001).bind fun t1059 => ((gudgeonref02_Text.f k x1032000 x1032001).bind fun t1060 => (some (t1059.toList == t1060.toList)))) else (some false)) else (some false)) else (some false)) else (some false)) else (some false))))))))))
def gudgeonlaw02_WholeTexts.f (k : Nat) (a0_0 : Bool) (l0_1 : List Int) (a1 : ByteArray) (a2 : Int) : Option (Bool) := (gudgeonlaw02_awake.f k).bind fun t1032 => (if t1032 = true then (if (l0_1.length : Int) > 16 then (gudgeonlaw02_WholeTexts.j0 k a1 a2 t1032 true a0_0 l0_1) else (gudgeonlaw02_WholeTexts.j0 k a1 a2 t1032 (decide ((a1.size : Int) > 200)) a0_0 l0_1)) else (gudgeonlaw02_WholeTexts.j0 k a1 a2 t1032 true a0_0 l0_1))
def gudgeonlaw02_WholeTexts.T10 : Bool × List (List Nat × List Nat) := (true, [([], []), ([0], [0]), ([1], [1]), ([1, 2], [1, 2]), ([3, 1], [3]), ([4], [4]), ([4], [4]), ([5, 6, 4], [4, 5, 6]), ([4, 7], [4, 7]), ([8, 4], [8]), ([9], [9]), ([9], [9]), ([10, 11, 9], [9, 10, 11]), ([9, 12], [9, 12]), ([13, 9], [13]), ([14], [14]), ([14], [14]), ([15, 16, 14], [14, 15, 16]), ([14, 17], [14, 17]), ([18, 14], [18]), ([19], [19]), ([20, 19, 19], [19, 20]), ([19], [19]), ([22, 21, 19], [19, 22]), ([21, 23, 19], [19, 21, 23]), ([19, 24], [19, 24]), ([25, 23, 0, 1, 2, 3, 4, 5, 6, 7, 8, 9, 10, 11, 12, 13, 14, 15, 16, 17, 18, 19, 20, 21, 22, 23, 24, 25], [25])])
def gudgeonlaw02_WholeTexts.B10 : List Nat := [0, 1, 3, 7, 15, 31, 31, 127, 255, 511, 1023, 1023, 4095, 8191, 16383, 32767, 32767, 131071, 262143, 524287, 1048575, 2097151, 1048575, 8388607, 16777215, 33554431, 67108863]
theorem gudgeonlaw02_WholeTexts.tab10 : rtab .any (opsOf Tryd.f7 10) = gudgeonlaw02_WholeTexts.T10 := by kernel_rfl
theorem gudgeonlaw02_WholeTexts.bits10 : waitsOk gudgeonlaw02_WholeTexts.T10.2 gudgeonlaw02_WholeTexts.B10 = true := by kernel_rfl
set_option maxHeartbeats 8000000 in
set_option maxRecDepth 100000 in
theorem gudgeonlaw02_WholeTexts.calls (k : Nat) (a0_0 : Bool) (A0_1 : Option Addr) (c0_1 : Nat) (l0_1 : List Int) (a1 : ByteArray) (a2 : Int) (r : Bool) (w : World) (hr0_1 : Kd.C (Kd.int .u32) w A0_1 l0_1.length l0_1) (hc0_1 : l0_1.length ≤ c0_1) (h : gudgeonlaw02_WholeTexts.f k a0_0 l0_1 a1 a2 = some r) :
  Calls Tryd.prog 7 #[.agg #[.bool a0_0, .slice A0_1 l0_1.length c0_1], .string a1, .int .i64 a2] w fun e w' => e = .returned (.bool r) ∧ Below w.heap.size w w' := by
 have hu24 := Tryd.underlying24
 have HR0_1 := Aside0.mk hr0_1
 have HC0_1 := Aside0.mk hc0_1
 clear hr0_1 hc0_1
 have HB := Aside0.mk (Below.refl w.heap.size w)
 have H : ((gudgeonlaw02_awake.f k).bind fun t1032 => (if t1032 = true then (if (l0_1.length : Int) > 16 then (gudgeonlaw02_WholeTexts.j0 k a1 a2 t1032 true a0_0 l0_1) else (gudgeonlaw02_WholeTexts.j0 k a1 a2 t1032 (decide ((a1.size : Int) > 200)) a0_0 l0_1)) else (gudgeonlaw02_WholeTexts.j0 k a1 a2 t1032 true a0_0 l0_1))) = some r := h
 clear h
 replace H := Option.bind_eq_some_iff.mp H
 obtain ⟨t1032, A40, H⟩ := H
 replace H : (if t1032 = true then (if (l0_1.length : Int) > 16 then (gudgeonlaw02_WholeTexts.j0 k a1 a2 t1032 true a0_0 l0_1) else (gudgeonlaw02_WholeTexts.j0 k a1 a2 t1032 (decide ((a1.size : Int) > 200)) a0_0 l0_1)) else (gudgeonlaw02_WholeTexts.j0 k a1 a2 t1032 true a0_0 l0_1)) = some r := H
 have A4 := Aside0.mk A40
 clear A40
 have HC5 := Aside0.mk H
 clear H
 go_enter Tryd.func7, Tryd.ntmps7
 go_upto_region 2 with (first | ((with_reducible refine gate_dst (N := 3) rfl ?_); (try (refine gate_guard (by rfl) ?_; dsimp only)); refine box_event ?hg (N := 3) ?hd (cs := #[.bool a0_0, .slice A0_1 l0_1.length c0_1]) (t := 24) ?hr ?_; (case hd => rfl); (case hg => rfl); (case hr => first | (go_simp; done) | (go_simp; rfl)); intro gb1031 hg w6 hbox hb; have BK1031 := Aside0.mk (hbox); have GW1031 := Aside0.mk (bxLe HB.out hg); have GE1031 := GW1031; replace HB := Aside0.mk (below_step HB.out hb); clear hb hbox hg) | ((with_reducible refine gate_callee (f := 9) rfl ?_); refine goL (some 18) Tryd.func9 [] ?_; (with_reducible refine (gudgeonlaw02_awake.calls k  t1032 _ A4.out).mono ?_); rintro e w7 ⟨rfl, hb⟩; refine ⟨_, rfl, ?_⟩; replace BK1031 := Aside0.mk (blk_below BK1031.out hb); replace HB := Aside0.mk (below_step HB.out hb); (try clear hb); (try clear hb2); (try clear hk); (try clear hi)))
 (try simp only [Act.put, List.setIfInBounds_toArray, List.set_cons_zero, List.set_cons_succ])
 go_cut [31] (fun v31 wc => ∃ (kq : Nat) (x31_4 : Bool), v31 = .bool x31_4 ∧ Aside0 (gudgeonlaw02_WholeTexts.j0 kq a1 a2 t1032 x31_4 a0_0 l0_1 = some r) ∧ Aside0 (kq ≤ k) ∧ Aside0 (wc.heap[gb1031]? = some (.cells #[.bool a0_0, (.slice A0_1 l0_1.length c0_1)] 24 (0, 0))) ∧ Aside0 (Below w.heap.size w wc))
 case first =>
  have H := HC5.out
  clear HC5
  by_cases c8 : t1032 = true
  ·subst c8
   have H1 : (if (l0_1.length : Int) > 16 then (gudgeonlaw02_WholeTexts.j0 k a1 a2 true true a0_0 l0_1) else (gudgeonlaw02_WholeTexts.j0 k a1 a2 true (decide ((a1.size : Int) > 200)) a0_0 l0_1)) = some r := by rw [if_pos rfl] at H; exact H
   clear H
   have H := H1
   clear H1
   by_cases c9 : (l0_1.length : Int) > 16
   ·rw [if_pos c9] at H
    have c9b0 : decide (16 < (l0_1.length : Int)) = true := decide_eq_true c9
    have c9b1 : decide (16 < l0_1.length) = true := decide_eq_true (by omega)
    clear c9
    (first | rw [c9b0] | rw [c9b1] | (simp only [i64_w, i32_w]; rw [c9b0]) | skip)
    have H' := Aside0.mk H
    clear H
    have hcz10_0 := bc0 BK1031.out
    have hcz10_1 := bc1 BK1031.out
    have hfz10_0 := blk_frozen BK1031.out 0
    have hfz10_1 := blk_frozen BK1031.out 1
    go_wp2
    go_meet
    case rel => exact ⟨_, (true), (by first | rfl | (simp; done) | (simp [*]; done) | (refine congrArg (Value.int _) ?_; omega) | (refine congrArg Value.bool ?_; generalize ByteArray.toList _ = z_; cases z_ <;> rfl)), H', ⟨by first | omega | exact Nat.le_refl _⟩, ⟨by (with_reducible repeat (first | refine blk_drewN ?_ _ | refine blk_drew ?_ | refine blk_alloc ?_ _)); exact BK1031.out⟩, ⟨by repeat (first | (with_reducible first | exact HB.out | apply below_alloc | apply pw_below_drewN | apply below_drew1 | refine below_set ?_ GE1031.out) | exact HB.out)⟩⟩
   ·rw [if_neg c9] at H
    have c9b0 : decide (16 < (l0_1.length : Int)) = false := decide_eq_false c9
    have c9b1 : decide (16 < l0_1.length) = false := decide_eq_false (by omega)
    clear c9
    (first | rw [c9b0] | rw [c9b1] | (simp only [i64_w, i32_w]; rw [c9b0]) | skip)
    have H' := Aside0.mk H
    clear H
    have hcz11_0 := bc0 BK1031.out
    have hcz11_1 := bc1 BK1031.out
    have hfz11_0 := blk_frozen BK1031.out 0
    have hfz11_1 := blk_frozen BK1031.out 1
    go_wp2
    go_meet
    case rel => exact ⟨_, (decide ((a1.size : Int) > 200)), (by first | rfl | (simp; done) | (simp [*]; done) | (refine congrArg (Value.int _) ?_; omega) | (refine congrArg Value.bool ?_; generalize ByteArray.toList _ = z_; cases z_ <;> rfl)), H', ⟨by first | omega | exact Nat.le_refl _⟩, ⟨by (with_reducible repeat (first | refine blk_drewN ?_ _ | refine blk_drew ?_ | refine blk_alloc ?_ _)); exact BK1031.out⟩, ⟨by repeat (first | (with_reducible first | exact HB.out | apply below_alloc | apply pw_below_drewN | apply below_drew1 | refine below_set ?_ GE1031.out) | exact HB.out)⟩⟩
  ·replace c8 := Bool.eq_false_iff.mpr c8
   subst c8
   have H1 : (gudgeonlaw02_WholeTexts.j0 k a1 a2 false true a0_0 l0_1) = some r := by rw [if_neg (show ¬ (false = true) by decide)] at H; exact H
   clear H
   have H := H1
   clear H1
   have H' := Aside0.mk H
   clear H
   go_wp2
   go_meet
   case rel => exact ⟨_, (true), (by first | rfl | (simp; done) | (simp [*]; done) | (refine congrArg (Value.int _) ?_; omega) | (refine congrArg Value.bool ?_; generalize ByteArray.toList _ = z_; cases z_ <;> rfl)), H', ⟨by first | omega | exact Nat.le_refl _⟩, ⟨by (with_reducible repeat (first | refine blk_drewN ?_ _ | refine blk_drew ?_ | refine blk_alloc ?_ _)); exact BK1031.out⟩, ⟨by repeat (first | (with_reducible first | exact HB.out | apply below_alloc | apply pw_below_drewN | apply below_drew1 | refine below_set ?_ GE1031.out) | exact HB.out)⟩⟩
 case rest =>
  clear HC5
  try clear p2
  try clear c7
  try clear c8
  try clear c9
  try clear c9b0
  try clear c9b1
  try clear hcz10_0
  try clear hcz10_1
  try clear hcz11_0
  try clear hcz11_1
  try clear hfz10_0
  try clear hfz10_1
  try clear hfz11_0
  try clear hfz11_1
  obtain ⟨kq, x31_4, rfl, HA, HJ4, BK1031, HB⟩ := hcut
  cases kq with
  | zero => exact absurd HA.out (by simp [gudgeonlaw02_WholeTexts.j0])
  | succ kj4 =>
   have H := HA.out
   clear HA
   simp only [gudgeonlaw02_WholeTexts.j0] at H
   by_cases c12 : x31_4 = true
   ·subst c12
    have H1 : (some t1032) = some r := by rw [if_pos rfl] at H; exact H
    clear H
    have H := H1
    clear H1
    obtain rfl := Option.some.inj H
    go_wp2
    go_ret
    exact ⟨by first | rfl | (simp [errW_none, errW_some] <;> rfl) | (refine congrArg (fun z_ => Ending.returned (Value.bool z_)) (decide_eq_decide.mpr ?_); unfold wrap64; omega) | (simp [*, errW_none, errW_some] <;> rfl), by repeat (first | (with_reducible first | exact HB.out | apply below_alloc | apply pw_below_drewN | apply below_drew1 | refine below_set ?_ GE1031.out) | exact HB.out)⟩
   ·replace c12 := Bool.eq_false_iff.mpr c12
    subst c12
    have H1 : ((whole_Parse.f kj4 a1).bind fun bt1033 => ((gudgeonref02_Parse.f kj4 a1).bind fun bt1039 => ((gudgeonref02_Same.f kj4 bt1033.1 bt1033.2.1 bt1039.1 bt1039.2.1).bind fun t1045 => ((whole_Of.f a2).bind fun bt1046 => ((gudgeonref02_Of.f kj4 a2).bind fun bt1050 => ((gudgeonref02_Same.f kj4 bt1046.1 bt1046.2 bt1050.1 bt1050.2).bind fun t1054 => ((whole_Int.f kj4 a0_0 l0_1).bind fun bt1055 => ((gudgeonref02_Int.f kj4 a0_0 l0_1).bind fun bt1057 => (if t1045 = true then (if t1054 = true then (if bt1033.2.2 = bt1039.2.2 then (if bt1055.1 = bt1057.1 then (if (bt1055.2 == bt1057.2) = true then ((whole_Text.f kj4 a0_0 l0_1).bind fun t1059 => ((gudgeonref02_Text.f kj4 a0_0 l0_1).bind fun t1060 => (some (t1059.toList == t1060.toList)))) else (some false)) else (some false)) else (some false)) else (some false)) else (some false)))))))))) = some r := by rw [if_neg (show ¬ (false = true) by decide)] at H; exact H
    clear H
    have H := H1
    clear H1
    replace H := Option.bind_eq_some_iff.mp H
    obtain ⟨⟨t1033, t1034, t1037⟩, A130, H⟩ := H
    replace H : ((gudgeonref02_Parse.f kj4 a1).bind fun bt1039 => ((gudgeonref02_Same.f kj4 t1033 t1034 bt1039.1 bt1039.2.1).bind fun t1045 => ((whole_Of.f a2).bind fun bt1046 => ((gudgeonref02_Of.f kj4 a2).bind fun bt1050 => ((gudgeonref02_Same.f kj4 bt1046.1 bt1046.2 bt1050.1 bt1050.2).bind fun t1054 => ((whole_Int.f kj4 a0_0 l0_1).bind fun bt1055 => ((gudgeonref02_Int.f kj4 a0_0 l0_1).bind fun bt1057 => (if t1045 = true then (if t1054 = true then (if t1037 = bt1039.2.2 then (if bt1055.1 = bt1057.1 then (if (bt1055.2 == bt1057.2) = true then ((whole_Text.f kj4 a0_0 l0_1).bind fun t1059 => ((gudgeonref02_Text.f kj4 a0_0 l0_1).bind fun t1060 => (some (t1059.toList == t1060.toList)))) else (some false)) else (some false)) else (some false)) else (some false)) else (some false))))))))) = some r := H
    have A13 := Aside0.mk A130
    clear A130
    replace H := Option.bind_eq_some_iff.mp H
    obtain ⟨⟨t1039, t1040, t1043⟩, A140, H⟩ := H
    replace H : ((gudgeonref02_Same.f kj4 t1033 t1034 t1039 t1040).bind fun t1045 => ((whole_Of.f a2).bind fun bt1046 => ((gudgeonref02_Of.f kj4 a2).bind fun bt1050 => ((gudgeonref02_Same.f kj4 bt1046.1 bt1046.2 bt1050.1 bt1050.2).bind fun t1054 => ((whole_Int.f kj4 a0_0 l0_1).bind fun bt1055 => ((gudgeonref02_Int.f kj4 a0_0 l0_1).bind fun bt1057 => (if t1045 = true then (if t1054 = true then (if t1037 = t1043 then (if bt1055.1 = bt1057.1 then (if (bt1055.2 == bt1057.2) = true then ((whole_Text.f kj4 a0_0 l0_1).bind fun t1059 => ((gudgeonref02_Text.f kj4 a0_0 l0_1).bind fun t1060 => (some (t1059.toList == t1060.toList)))) else (some false)) else (some false)) else (some false)) else (some false)) else (some false)))))))) = some r := H
    have A14 := Aside0.mk A140
    clear A140
    replace H := Option.bind_eq_some_iff.mp H
    obtain ⟨t1045, A150, H⟩ := H
    replace H : ((whole_Of.f a2).bind fun bt1046 => ((gudgeonref02_Of.f kj4 a2).bind fun bt1050 => ((gudgeonref02_Same.f kj4 bt1046.1 bt1046.2 bt1050.1 bt1050.2).bind fun t1054 => ((whole_Int.f kj4 a0_0 l0_1).bind fun bt1055 => ((gudgeonref02_Int.f kj4 a0_0 l0_1).bind fun bt1057 => (if t1045 = true then (if t1054 = true then (if t1037 = t1043 then (if bt1055.1 = bt1057.1 then (if (bt1055.2 == bt1057.2) = true then ((whole_Text.f kj4 a0_0 l0_1).bind fun t1059 => ((gudgeonref02_Text.f kj4 a0_0 l0_1).bind fun t1060 => (some (t1059.toList == t1060.toList)))) else (some false)) else (some false)) else (some false)) else (some false)) else (some false))))))) = some r := H
    have A15 := Aside0.mk A150
    clear A150
    replace H := Option.bind_eq_some_iff.mp H
    obtain ⟨⟨t1046, t1047⟩, A160, H⟩ := H
    replace H : ((gudgeonref02_Of.f kj4 a2).bind fun bt1050 => ((gudgeonref02_Same.f kj4 t1046 t1047 bt1050.1 bt1050.2).bind fun t1054 => ((whole_Int.f kj4 a0_0 l0_1).bind fun bt1055 => ((gudgeonref02_Int.f kj4 a0_0 l0_1).bind fun bt1057 => (if t1045 = true then (if t1054 = true then (if t1037 = t1043 then (if bt1055.1 = bt1057.1 then (if (bt1055.2 == bt1057.2) = true then ((whole_Text.f kj4 a0_0 l0_1).bind fun t1059 => ((gudgeonref02_Text.f kj4 a0_0 l0_1).bind fun t1060 => (some (t1059.toList == t1060.toList)))) else (some false)) else (some false)) else (some false)) else (some false)) else (some false)))))) = some r := H
    have A16 := Aside0.mk A160
    clear A160
    replace H := Option.bind_eq_some_iff.mp H
    obtain ⟨⟨t1050, t1051⟩, A170, H⟩ := H
    replace H : ((gudgeonref02_Same.f kj4 t1046 t1047 t1050 t1051).bind fun t1054 => ((whole_Int.f kj4 a0_0 l0_1).bind fun bt1055 => ((gudgeonref02_Int.f kj4 a0_0 l0_1).bind fun bt1057 => (if t1045 = true then (if t1054 = true then (if t1037 = t1043 then (if bt1055.1 = bt1057.1 then (if (bt1055.2 == bt1057.2) = true then ((whole_Text.f kj4 a0_0 l0_1).bind fun t1059 => ((gudgeonref02_Text.f kj4 a0_0 l0_1).bind fun t1060 => (some (t1059.toList == t1060.toList)))) else (some false)) else (some false)) else (some false)) else (some false)) else (some false))))) = some r := H
    have A17 := Aside0.mk A170
    clear A170
    replace H := Option.bind_eq_some_iff.mp H
    obtain ⟨t1054, A180, H⟩ := H
    replace H : ((whole_Int.f kj4 a0_0 l0_1).bind fun bt1055 => ((gudgeonref02_Int.f kj4 a0_0 l0_1).bind fun bt1057 => (if t1045 = true then (if t1054 = true then (if t1037 = t1043 then (if bt1055.1 = bt1057.1 then (if (bt1055.2 == bt1057.2) = true then ((whole_Text.f kj4 a0_0 l0_1).bind fun t1059 => ((gudgeonref02_Text.f kj4 a0_0 l0_1).bind fun t1060 => (some (t1059.toList == t1060.toList)))) else (some false)) else (some false)) else (some false)) else (some false)) else (some false)))) = some r := H
    have A18 := Aside0.mk A180
    clear A180
    replace H := Option.bind_eq_some_iff.mp H
    obtain ⟨⟨t1055, t1056⟩, A190, H⟩ := H
    replace H : ((gudgeonref02_Int.f kj4 a0_0 l0_1).bind fun bt1057 => (if t1045 = true then (if t1054 = true then (if t1037 = t1043 then (if t1055 = bt1057.1 then (if (t1056 == bt1057.2) = true then ((whole_Text.f kj4 a0_0 l0_1).bind fun t1059 => ((gudgeonref02_Text.f kj4 a0_0 l0_1).bind fun t1060 => (some (t1059.toList == t1060.toList)))) else (some false)) else (some false)) else (some false)) else (some false)) else (some false))) = some r := H
    have A19 := Aside0.mk A190
    clear A190
    replace H := Option.bind_eq_some_iff.mp H
    obtain ⟨⟨t1057, t1058⟩, A200, H⟩ := H
    replace H : (if t1045 = true then (if t1054 = true then (if t1037 = t1043 then (if t1055 = t1057 then (if (t1056 == t1058) = true then ((whole_Text.f kj4 a0_0 l0_1).bind fun t1059 => ((gudgeonref02_Text.f kj4 a0_0 l0_1).bind fun t1060 => (some (t1059.toList == t1060.toList)))) else (some false)) else (some false)) else (some false)) else (some false)) else (some false)) = some r := H
    have A20 := Aside0.mk A200
    clear A200
    by_cases c21 : t1045 = true
    ·subst c21
     have H1 : (if t1054 = true then (if t1037 = t1043 then (if t1055 = t1057 then (if (t1056 == t1058) = true then ((whole_Text.f kj4 a0_0 l0_1).bind fun t1059 => ((gudgeonref02_Text.f kj4 a0_0 l0_1).bind fun t1060 => (some (t1059.toList == t1060.toList)))) else (some false)) else (some false)) else (some false)) else (some false)) = some r := by rw [if_pos rfl] at H; exact H
     clear H
     have H := H1
     clear H1
     by_cases c22 : t1054 = true
     ·subst c22
      have H1 : (if t1037 = t1043 then (if t1055 = t1057 then (if (t1056 == t1058) = true then ((whole_Text.f kj4 a0_0 l0_1).bind fun t1059 => ((gudgeonref02_Text.f kj4 a0_0 l0_1).bind fun t1060 => (some (t1059.toList == t1060.toList)))) else (some false)) else (some false)) else (some false)) = some r := by rw [if_pos rfl] at H; exact H
      clear H
      have H := H1
      clear H1
      by_cases c23 : t1037 = t1043
      ·rw [if_pos c23] at H
       have c23b0 : (t1037 == t1043) = true := beq_iff_eq.mpr c23
       have c23b1 : (t1037 != t1043) = false := bne_eq_false_iff_eq.mpr c23
       clear c23
       by_cases c24 : t1055 = t1057
       ·rw [if_pos c24] at H
        have c24b0 : (t1055 == t1057) = true := beq_iff_eq.mpr c24
        have c24b1 : (t1055 != t1057) = false := bne_eq_false_iff_eq.mpr c24
        clear c24
        by_cases c25 : (t1056 == t1058) = true
        ·rw [if_pos c25] at H
         have c25b0 : (t1056 == t1058) = true := c25
         (try (have c25b1 : decide (t1056 = t1058) = true := by simpa using c25))
         (try (have c25b2 : (t1056 == t1058) = true := by simpa using c25))
         clear c25
         replace H := Option.bind_eq_some_iff.mp H
         obtain ⟨t1059, A260, H⟩ := H
         replace H : ((gudgeonref02_Text.f kj4 a0_0 l0_1).bind fun t1060 => (some (t1059.toList == t1060.toList))) = some r := H
         have A26 := Aside0.mk A260
         clear A260
         replace H := Option.bind_eq_some_iff.mp H
         obtain ⟨t1060, A270, H⟩ := H
         replace H : (some (t1059.toList == t1060.toList)) = some r := H
         have A27 := Aside0.mk A270
         clear A270
         obtain rfl := Option.some.inj H
         try go_wp2_with (first | ((with_reducible refine gate_callee (f := 30) rfl ?_); refine goL (some 35) Tryd.func30 [.string a1] ?_; (with_reducible refine (whole_Parse.calls kj4 a1 t1033 t1034 t1037 _ A13.out).mono ?_); rintro e w28 ⟨v1035, rfl, ho0, hb⟩; refine ⟨_, rfl, ?_⟩; have HO1036 := Aside0.mk (Kd.R_lower ho0 (below_size HB.out)); replace BK1031 := Aside0.mk (blk_below BK1031.out hb); replace HB := Aside0.mk (below_step HB.out hb)) | ((with_reducible refine gate_dst (N := 8) rfl ?_); (try (refine gate_guard (by rfl) ?_; dsimp only)); refine box_event ?hg (N := 8) ?hd (cs := #[.bool false, .slice none 0 0]) (t := 24) ?hr ?_; (case hd => rfl); (case hg => rfl); (case hr => first | (go_simp; done) | (go_simp; rfl)); intro gb1038 hg w29 hbox hb; replace HO1036 := Aside0.mk (Kd.R_below HO1036.out hb); have BK1038 := Aside0.mk (hbox); have GW1038 := Aside0.mk (bxLe HB.out hg); have GE1038 := GW1038; replace HB := Aside0.mk (below_step HB.out hb); have NB1031_1038 := Aside0.mk (neL BK1031.out hg); have NB1038_1031 := Aside0.mk (neR BK1031.out hg); replace BK1031 := Aside0.mk (blk_below BK1031.out hb); clear hb hbox hg; have hnb30 := NB1038_1031.out; have hnc30 := NB1031_1038.out; have hcz31_0 := bc0 BK1038.out; have hcz31_1 := bc1 BK1038.out; have hfz31_0 := blk_frozen BK1038.out 0; have hfz31_1 := blk_frozen BK1038.out 1; obtain ⟨Ao32, co32, eo32⟩ := Kd.R_slice HO1036.out; subst eo32) | ((with_reducible refine gate_callee (f := 31) rfl ?_); refine goL (some 40) Tryd.func31 [.string a1] ?_; (with_reducible refine (gudgeonref02_Parse.calls kj4 a1 t1039 t1040 t1043 _ A14.out).mono ?_); rintro e w33 ⟨v1041, rfl, ho0, hb⟩; refine ⟨_, rfl, ?_⟩; have HO1042 := Aside0.mk (Kd.R_lower (Kd.R_new' ho0 (Kd.R_lt (Kd.R_mono (Kd.R_far (p := ⟨gb1038, 1, none⟩) (Kd.R_far (p := ⟨gb1038, 0, none⟩) (Kd.R_types HO1036.out BK1038.out (by decide)) (fun _ hk => hk.2) (.bool t1033)) (fun _ hk => hk.2) (.slice Ao32 t1034.length co32)) (fun _ h_ => h_.1)))) (below_size (by repeat first | exact HB.out | refine bxSet ?_ (by assumption) | apply below_alloc | apply pw_below_drewN))); replace HO1036 := Aside0.mk (Kd.R_elder' (Kd.R_mono (Kd.R_far (p := ⟨gb1038, 1, none⟩) (Kd.R_far (p := ⟨gb1038, 0, none⟩) (Kd.R_types HO1036.out BK1038.out (by decide)) (fun _ hk => hk.2) (.bool t1033)) (fun _ hk => hk.2) (.slice Ao32 t1034.length co32)) (fun _ h_ => h_.1)) (Kd.R_base ho0) hb); replace BK1031 := Aside0.mk (blk_below (g := gb1031) (o := .cells #[.bool a0_0, .slice A0_1 l0_1.length c0_1] 24 (0, 0)) (by refine blk_far ?_ NB1031_1038.out _; refine blk_far ?_ NB1031_1038.out _; exact BK1031.out) hb); replace BK1038 := Aside0.mk (blk_below (g := gb1038) (o := .cells #[.bool t1033, .slice Ao32 t1034.length co32] 24 (0, 0)) (by refine blk_put (cs := #[.bool t1033, .slice none 0 0]) ?_ 1 _ rfl; refine blk_put (cs := #[.bool false, .slice none 0 0]) ?_ 0 _ rfl; exact BK1038.out) hb); replace HB := Aside0.mk (below_step (by repeat first | exact HB.out | refine bxSet ?_ (by assumption) | apply below_alloc | apply pw_below_drewN) hb)) | ((with_reducible refine gate_dst (N := 10) rfl ?_); (try (refine gate_guard (by rfl) ?_; dsimp only)); refine box_event ?hg (N := 10) ?hd (cs := #[.bool false, .slice none 0 0]) (t := 24) ?hr ?_; (case hd => rfl); (case hg => rfl); (case hr => first | (go_simp; done) | (go_simp; rfl)); intro gb1044 hg w34 hbox hb; replace HO1036 := Aside0.mk (Kd.R_below HO1036.out hb); replace HO1042 := Aside0.mk (Kd.R_below HO1042.out hb); have BK1044 := Aside0.mk (hbox); have GW1044 := Aside0.mk (bxLe HB.out hg); have GE1044 := GW1044; replace HB := Aside0.mk (below_step HB.out hb); have NB1031_1044 := Aside0.mk (neL BK1031.out hg); have NB1044_1031 := Aside0.mk (neR BK1031.out hg); replace BK1031 := Aside0.mk (blk_below BK1031.out hb); have NB1038_1044 := Aside0.mk (neL BK1038.out hg); have NB1044_1038 := Aside0.mk (neR BK1038.out hg); replace BK1038 := Aside0.mk (blk_below BK1038.out hb); clear hb hbox hg; have hnb35 := NB1044_1031.out; have hnc35 := NB1031_1044.out; have hnb36 := NB1044_1038.out; have hnc36 := NB1038_1044.out; have hcz37_0 := bc0 BK1044.out; have hcz37_1 := bc1 BK1044.out; have hfz37_0 := blk_frozen BK1044.out 0; have hfz37_1 := blk_frozen BK1044.out 1; obtain ⟨Ao38, co38, eo38⟩ := Kd.R_slice HO1042.out; subst eo38; have hcz39_0 := bc0 BK1038.out; have hcz39_1 := bc1 BK1038.out; have hfz39_0 := blk_frozen BK1038.out 0; have hfz39_1 := blk_frozen BK1038.out 1) | ((with_reducible refine gate_callee (f := 15) rfl ?_); refine goL (some 45) Tryd.func15 [.agg #[.bool t1033, .slice Ao32 t1034.length co32], .agg #[.bool t1039, .slice Ao38 t1040.length co38]] ?_; (with_reducible refine (gudgeonref02_Same.calls kj4 t1033 _ _ t1034 t1039 _ _ t1040 true _ ?side1 ?side2 ?side3 ?side4 A15.out).mono ?_); (case side1 => refine (Kd.R_reads' (e := 51) (base := w.heap.size) (ok := fun k_ => (True ∧ some k_ ≠ (.slice Ao38 t1040.length co38 : Value).ownBlock)) (n := t1034.length) (c := co32) ?_).2.2; exact (Kd.R_mono (Kd.R_far (p := ⟨gb1044, 1, none⟩) (Kd.R_far (p := ⟨gb1044, 0, none⟩) (Kd.R_types HO1036.out BK1044.out (by decide)) (fun _ hk => hk.2) (.bool t1039)) (fun _ hk => hk.2) (.slice Ao38 t1040.length co38)) (fun _ h_ => h_.1))); (case side2 => exact (Kd.R_reads' HO1036.out).2.1); (case side3 => refine (Kd.R_reads' (e := 51) (base := w.heap.size) (ok := fun k_ => (True ∧ some k_ ≠ (.slice Ao32 t1034.length co32 : Value).ownBlock)) (n := t1040.length) (c := co38) ?_).2.2; exact (Kd.R_mono (Kd.R_far (p := ⟨gb1044, 1, none⟩) (Kd.R_far (p := ⟨gb1044, 0, none⟩) (Kd.R_types HO1042.out BK1044.out (by decide)) (fun _ hk => hk.2) (.bool t1039)) (fun _ hk => hk.2) (.slice Ao38 t1040.length co38)) (fun _ h_ => h_.1))); (case side4 => exact (Kd.R_reads' HO1042.out).2.1); rintro e w40 ⟨rfl, hb⟩; refine ⟨_, rfl, ?_⟩; replace HO1036 := Aside0.mk (Kd.R_below (Kd.R_mono (Kd.R_far (p := ⟨gb1044, 1, none⟩) (Kd.R_far (p := ⟨gb1044, 0, none⟩) (Kd.R_types HO1036.out BK1044.out (by decide)) (fun _ hk => hk.2) (.bool t1039)) (fun _ hk => hk.2) (.slice Ao38 t1040.length co38)) (fun _ h_ => h_.1)) hb); replace HO1042 := Aside0.mk (Kd.R_below (Kd.R_mono (Kd.R_far (p := ⟨gb1044, 1, none⟩) (Kd.R_far (p := ⟨gb1044, 0, none⟩) (Kd.R_types HO1042.out BK1044.out (by decide)) (fun _ hk => hk.2) (.bool t1039)) (fun _ hk => hk.2) (.slice Ao38 t1040.length co38)) (fun _ h_ => h_.1)) hb); replace BK1031 := Aside0.mk (blk_below (g := gb1031) (o := .cells #[.bool a0_0, .slice A0_1 l0_1.length c0_1] 24 (0, 0)) (by refine blk_far ?_ NB1031_1044.out _; refine blk_far ?_ NB1031_1044.out _; exact BK1031.out) hb); replace BK1038 := Aside0.mk (blk_below (g := gb1038) (o := .cells #[.bool t1033, .slice Ao32 t1034.length co32] 24 (0, 0)) (by refine blk_far ?_ NB1038_1044.out _; refine blk_far ?_ NB1038_1044.out _; exact BK1038.out) hb); replace BK1044 := Aside0.mk (blk_below (g := gb1044) (o := .cells #[.bool t1039, .slice Ao38 t1040.length co38] 24 (0, 0)) (by refine blk_put (cs := #[.bool t1039, .slice none 0 0]) ?_ 1 _ rfl; refine blk_put (cs := #[.bool false, .slice none 0 0]) ?_ 0 _ rfl; exact BK1044.out) hb); replace HB := Aside0.mk (below_step (by repeat first | exact HB.out | refine bxSet ?_ (by assumption) | apply below_alloc | apply pw_below_drewN) hb); (try clear hb); (try clear hb2); (try clear hk); (try clear hi)) | ((with_reducible refine gate_callee (f := 32) rfl ?_); refine goL (some 47) Tryd.func32 [.int .i64 a2] ?_; (with_reducible refine (whole_Of.calls a2 t1046 t1047 _ A16.out).mono ?_); rintro e w41 ⟨v1048, rfl, ho0, hb⟩; refine ⟨_, rfl, ?_⟩; have HO1049 := Aside0.mk (Kd.R_lower (Kd.R_new' (Kd.R_new' ho0 (Kd.R_lt HO1036.out)) (Kd.R_lt HO1042.out)) (below_size HB.out)); replace HO1036 := Aside0.mk (Kd.R_elder' HO1036.out (Kd.R_base ho0) hb); replace HO1042 := Aside0.mk (Kd.R_elder' HO1042.out (Kd.R_base ho0) hb); replace BK1031 := Aside0.mk (blk_below BK1031.out hb); replace BK1038 := Aside0.mk (blk_below BK1038.out hb); replace BK1044 := Aside0.mk (blk_below BK1044.out hb); replace HB := Aside0.mk (below_step HB.out hb)) | ((with_reducible refine gate_callee (f := 33) rfl ?_); refine goL (some 49) Tryd.func33 [.int .i64 a2] ?_; (with_reducible refine (gudgeonref02_Of.calls kj4 a2 t1050 t1051 _ A17.out).mono ?_); rintro e w42 ⟨v1052, rfl, ho0, hb⟩; refine ⟨_, rfl, ?_⟩; have HO1053 := Aside0.mk (Kd.R_lower (Kd.R_new' (Kd.R_new' (Kd.R_new' ho0 (Kd.R_lt HO1036.out)) (Kd.R_lt HO1042.out)) (Kd.R_lt HO1049.out)) (below_size HB.out)); replace HO1036 := Aside0.mk (Kd.R_elder' HO1036.out (Kd.R_base ho0) hb); replace HO1042 := Aside0.mk (Kd.R_elder' HO1042.out (Kd.R_base ho0) hb); replace HO1049 := Aside0.mk (Kd.R_elder' HO1049.out (Kd.R_base ho0) hb); replace BK1031 := Aside0.mk (blk_below BK1031.out hb); replace BK1038 := Aside0.mk (blk_below BK1038.out hb); replace BK1044 := Aside0.mk (blk_below BK1044.out hb); replace HB := Aside0.mk (below_step HB.out hb); obtain ⟨Ao43, co43, eo43⟩ := Kd.R_slice HO1049.out; subst eo43; obtain ⟨Ao44, co44, eo44⟩ := Kd.R_slice HO1053.out; subst eo44) | ((with_reducible refine gate_callee (f := 15) rfl ?_); refine goL (some 50) Tryd.func15 [.agg #[.bool t1046, .slice Ao43 t1047.length co43], .agg #[.bool t1050, .slice Ao44 t1051.length co44]] ?_; (with_reducible refine (gudgeonref02_Same.calls kj4 t1046 _ _ t1047 t1050 _ _ t1051 true _ ?side1 ?side2 ?side3 ?side4 A18.out).mono ?_); (case side1 => exact (Kd.R_reads' HO1049.out).2.2); (case side2 => exact (Kd.R_reads' HO1049.out).2.1); (case side3 => exact (Kd.R_reads' HO1053.out).2.2); (case side4 => exact (Kd.R_reads' HO1053.out).2.1); rintro e w45 ⟨rfl, hb⟩; refine ⟨_, rfl, ?_⟩; replace HO1036 := Aside0.mk (Kd.R_below HO1036.out hb); replace HO1042 := Aside0.mk (Kd.R_below HO1042.out hb); replace HO1049 := Aside0.mk (Kd.R_below HO1049.out hb); replace HO1053 := Aside0.mk (Kd.R_below HO1053.out hb); replace BK1031 := Aside0.mk (blk_below BK1031.out hb); replace BK1038 := Aside0.mk (blk_below BK1038.out hb); replace BK1044 := Aside0.mk (blk_below BK1044.out hb); replace HB := Aside0.mk (below_step HB.out hb); (try clear hb); (try clear hb2); (try clear hk); (try clear hi); have hcz46_0 := bc0 BK1031.out; have hcz46_1 := bc1 BK1031.out; have hfz46_0 := blk_frozen BK1031.out 0; have hfz46_1 := blk_frozen BK1031.out 1) | ((with_reducible refine gate_callee (f := 34) rfl ?_); refine goL (some 53) Tryd.func34 [.agg #[.bool a0_0, .slice A0_1 l0_1.length c0_1]] ?_; (with_reducible refine (whole_Int.calls kj4 a0_0 _ _ l0_1 t1055 t1056 _ ?side1 ?side2 A19.out).mono ?_); (case side1 => exact (Kd.C_below HR0_1.out HB.out)); (case side2 => exact HC0_1.out); rintro e w47 ⟨rfl, hb⟩; refine ⟨_, rfl, ?_⟩; replace HO1036 := Aside0.mk (Kd.R_below HO1036.out hb); replace HO1042 := Aside0.mk (Kd.R_below HO1042.out hb); replace HO1049 := Aside0.mk (Kd.R_below HO1049.out hb); replace HO1053 := Aside0.mk (Kd.R_below HO1053.out hb); replace BK1031 := Aside0.mk (blk_below BK1031.out hb); replace BK1038 := Aside0.mk (blk_below BK1038.out hb); replace BK1044 := Aside0.mk (blk_below BK1044.out hb); replace HB := Aside0.mk (below_step HB.out hb); (try clear hb); (try clear hb2); (try clear hk); (try clear hi); have hcz48_0 := bc0 BK1031.out; have hcz48_1 := bc1 BK1031.out; have hfz48_0 := blk_frozen BK1031.out 0; have hfz48_1 := blk_frozen BK1031.out 1) | ((with_reducible refine gate_callee (f := 35) rfl ?_); refine goL (some 58) Tryd.func35 [.agg #[.bool a0_0, .slice A0_1 l0_1.length c0_1]] ?_; (with_reducible refine (gudgeonref02_Int.calls kj4 a0_0 _ _ l0_1 t1057 t1058 _ ?side1 ?side2 A20.out).mono ?_); (case side1 => exact (Kd.C_below HR0_1.out HB.out)); (case side2 => exact HC0_1.out); rintro e w49 ⟨rfl, hb⟩; refine ⟨_, rfl, ?_⟩; replace HO1036 := Aside0.mk (Kd.R_below HO1036.out hb); replace HO1042 := Aside0.mk (Kd.R_below HO1042.out hb); replace HO1049 := Aside0.mk (Kd.R_below HO1049.out hb); replace HO1053 := Aside0.mk (Kd.R_below HO1053.out hb); replace BK1031 := Aside0.mk (blk_below BK1031.out hb); replace BK1038 := Aside0.mk (blk_below BK1038.out hb); replace BK1044 := Aside0.mk (blk_below BK1044.out hb); replace HB := Aside0.mk (below_step HB.out hb); (try clear hb); (try clear hb2); (try clear hk); (try clear hi)))
         replace HO1036 := Aside0.mk (Kd.R_drew HO1036.out)
         replace HO1042 := Aside0.mk (Kd.R_drew HO1042.out)
         replace HO1049 := Aside0.mk (Kd.R_drew HO1049.out)
         replace HO1053 := Aside0.mk (Kd.R_drew HO1053.out)
         replace BK1031 := Aside0.mk (blk_drew BK1031.out)
         replace BK1038 := Aside0.mk (blk_drew BK1038.out)
         replace BK1044 := Aside0.mk (blk_drew BK1044.out)
         replace HB := Aside0.mk (below_drew1 HB.out)
         refine start_ (n := 27) (S := fun w' => w'.cell? ⟨gb1031, 0, none⟩ = some (.bool a0_0) ∧ w'.cell? ⟨gb1031, 1, none⟩ = some (.slice A0_1 l0_1.length c0_1)) (ds := []) #[false, false, false, false, false, false, false, false, false, false, false, false, false, false, false, false, false, false, false, false, false, false, false, false, false, false, false] (by kernel_rfl) rfl rfl ⟨(blk_cell BK1031.out 0).trans rfl, (blk_cell BK1031.out 1).trans rfl⟩ (fun hHeld => ?_); refine with_tabW gudgeonlaw02_WholeTexts.tab10 gudgeonlaw02_WholeTexts.bits10 (fun HT_ HW_ => ?_)
         generalize w49.drew = w50 at HO1036 HO1042 HO1049 HO1053 BK1031 BK1038 BK1044 HB hHeld ⊢
         refine pure_ (i := 0) (N := some 61) (v := ?_) (a' := ?_) #[true, false, false, false, false, false, false, false, false, false, false, false, false, false, false, false, false, false, false, false, false, false, false, false, false, false, false] rfl rfl (any_of HT_.out (by kernel_rfl)) (fun _ _ _ h => h) (Or.inl ⟨by rfl, ?_⟩) ?_ ?_
         rotate_left
         ·intro w'
          go_simp
          with_reducible rfl
         rotate_left
         ·simp only [Act.put, List.setIfInBounds_toArray, List.set_cons_zero, List.set_cons_succ, i64_w, i32_w]
          rfl
         refine pure_ (i := 1) (N := some 62) (v := ?_) (a' := ?_) #[true, true, false, false, false, false, false, false, false, false, false, false, false, false, false, false, false, false, false, false, false, false, false, false, false, false, false] rfl rfl (any_of HT_.out (by kernel_rfl)) (fun _ _ _ h => h) (Or.inl ⟨by rfl, ?_⟩) ?_ ?_
         rotate_left
         ·intro w'
          go_simp
          with_reducible rfl
         rotate_left
         ·simp only [Act.put, List.setIfInBounds_toArray, List.set_cons_zero, List.set_cons_succ, i64_w, i32_w]
          rfl
         refine pure_ (i := 2) (N := some 63) (v := ?_) (a' := ?_) #[true, true, true, false, false, false, false, false, false, false, false, false, false, false, false, false, false, false, false, false, false, false, false, false, false, false, false] rfl rfl (any_of HT_.out (by kernel_rfl)) (fun _ _ _ h => h) (Or.inl ⟨by rfl, ?_⟩) ?_ ?_
         rotate_left
         ·intro w'
          go_simp
          with_reducible rfl
         rotate_left
         ·simp only [Act.put, List.setIfInBounds_toArray, List.set_cons_zero, List.set_cons_succ, i64_w, i32_w]
          rfl
         refine pure_ (i := 3) (N := some 64) (v := ?_) (a' := ?_) #[true, true, true, true, false, false, false, false, false, false, false, false, false, false, false, false, false, false, false, false, false, false, false, false, false, false, false] rfl rfl (any_of HT_.out (by kernel_rfl)) (fun _ _ _ h => h) (Or.inl ⟨by rfl, ?_⟩) ?_ ?_
         rotate_left
         ·intro w'
          go_simp
          with_reducible rfl
         rotate_left
         ·simp only [Act.put, List.setIfInBounds_toArray, List.set_cons_zero, List.set_cons_succ, i64_w, i32_w]
          rfl
         refine pure_ (i := 4) (N := some 65) (v := ?_) (a' := ?_) #[true, true, true, true, true, false, false, false, false, false, false, false, false, false, false, false, false, false, false, false, false, false, false, false, false, false, false] rfl rfl (any_of HT_.out (by kernel_rfl)) (fun _ _ _ h => h) (Or.inl ⟨by rfl, ?_⟩) ?_ ?_
         rotate_left
         ·intro w'
          go_simp
          with_reducible rfl
         rotate_left
         ·simp only [Act.put, List.setIfInBounds_toArray, List.set_cons_zero, List.set_cons_succ, i64_w, i32_w]
          rfl
         refine pure_ (i := 5) (N := some 66) (v := ?_) (a' := ?_) #[true, true, true, true, true, true, false, false, false, false, false, false, false, false, false, false, false, false, false, false, false, false, false, false, false, false, false] rfl rfl (any_of HT_.out (by kernel_rfl)) (fun _ _ _ h => h) (Or.inl ⟨by rfl, ?_⟩) ?_ ?_
         rotate_left
         ·intro w'
          go_simp
          with_reducible rfl
         rotate_left
         ·simp only [Act.put, List.setIfInBounds_toArray, List.set_cons_zero, List.set_cons_succ, i64_w, i32_w]
          rfl
         refine pure_ (i := 6) (N := some 67) (v := ?_) (a' := ?_) #[true, true, true, true, true, true, true, false, false, false, false, false, false, false, false, false, false, false, false, false, false, false, false, false, false, false, false] rfl rfl (any_of HT_.out (by kernel_rfl)) (fun _ _ _ h => h) (Or.inl ⟨by rfl, ?_⟩) ?_ ?_
         rotate_left
         ·intro w'
          go_simp
          with_reducible rfl
         rotate_left
         ·simp only [Act.put, List.setIfInBounds_toArray, List.set_cons_zero, List.set_cons_succ, i64_w, i32_w]
          rfl
         refine pure_ (i := 7) (N := some 68) (v := ?_) (a' := ?_) #[true, true, true, true, true, true, true, true, false, false, false, false, false, false, false, false, false, false, false, false, false, false, false, false, false, false, false] rfl rfl (any_of HT_.out (by kernel_rfl)) (fun _ _ _ h => h) (Or.inl ⟨by rfl, ?_⟩) ?_ ?_
         rotate_left
         ·intro w'
          go_simp
          with_reducible rfl
         rotate_left
         ·simp only [Act.put, List.setIfInBounds_toArray, List.set_cons_zero, List.set_cons_succ, i64_w, i32_w]
          rfl
         refine pure_ (i := 8) (N := some 69) (v := ?_) (a' := ?_) #[true, true, true, true, true, true, true, true, true, false, false, false, false, false, false, false, false, false, false, false, false, false, false, false, false, false, false] rfl rfl (any_of HT_.out (by kernel_rfl)) (fun _ _ _ h => h) (Or.inl ⟨by rfl, ?_⟩) ?_ ?_
         rotate_left
         ·intro w'
          go_simp
          with_reducible rfl
         rotate_left
         ·simp only [Act.put, List.setIfInBounds_toArray, List.set_cons_zero, List.set_cons_succ, i64_w, i32_w]
          rfl
         refine pure_ (i := 9) (N := some 70) (v := ?_) (a' := ?_) #[true, true, true, true, true, true, true, true, true, true, false, false, false, false, false, false, false, false, false, false, false, false, false, false, false, false, false] rfl rfl (any_of HT_.out (by kernel_rfl)) (fun _ _ _ h => h) (Or.inl ⟨by rfl, ?_⟩) ?_ ?_
         rotate_left
         ·intro w'
          go_simp
          with_reducible rfl
         rotate_left
         ·simp only [Act.put, List.setIfInBounds_toArray, List.set_cons_zero, List.set_cons_succ, i64_w, i32_w]
          rfl
         refine pure_ (i := 10) (N := some 71) (v := ?_) (a' := ?_) #[true, true, true, true, true, true, true, true, true, true, true, false, false, false, false, false, false, false, false, false, false, false, false, false, false, false, false] rfl rfl (any_of HT_.out (by kernel_rfl)) (fun _ _ _ h => h) (Or.inl ⟨by rfl, ?_⟩) ?_ ?_
         rotate_left
         ·intro w'
          go_simp
          with_reducible rfl
         rotate_left
         ·simp only [Act.put, List.setIfInBounds_toArray, List.set_cons_zero, List.set_cons_succ, i64_w, i32_w]
          rfl
         refine pure_ (i := 11) (N := some 72) (v := ?_) (a' := ?_) #[true, true, true, true, true, true, true, true, true, true, true, true, false, false, false, false, false, false, false, false, false, false, false, false, false, false, false] rfl rfl (any_of HT_.out (by kernel_rfl)) (fun _ _ _ h => h) (Or.inl ⟨by rfl, ?_⟩) ?_ ?_
         rotate_left
         ·intro w'
          go_simp
          with_reducible rfl
         rotate_left
         ·simp only [Act.put, List.setIfInBounds_toArray, List.set_cons_zero, List.set_cons_succ, i64_w, i32_w]
          rfl
         refine pure_ (i := 12) (N := some 73) (v := ?_) (a' := ?_) #[true, true, true, true, true, true, true, true, true, true, true, true, true, false, false, false, false, false, false, false, false, false, false, false, false, false, false] rfl rfl (any_of HT_.out (by kernel_rfl)) (fun _ _ _ h => h) (Or.inl ⟨by rfl, ?_⟩) ?_ ?_
         rotate_left
         ·intro w'
          go_simp
          with_reducible rfl
         rotate_left
         ·simp only [Act.put, List.setIfInBounds_toArray, List.set_cons_zero, List.set_cons_succ, i64_w, i32_w]
          rfl
         refine pure_ (i := 13) (N := some 74) (v := ?_) (a' := ?_) #[true, true, true, true, true, true, true, true, true, true, true, true, true, true, false, false, false, false, false, false, false, false, false, false, false, false, false] rfl rfl (any_of HT_.out (by kernel_rfl)) (fun _ _ _ h => h) (Or.inl ⟨by rfl, ?_⟩) ?_ ?_
         rotate_left
         ·intro w'
          go_simp
          with_reducible rfl
         rotate_left
         ·simp only [Act.put, List.setIfInBounds_toArray, List.set_cons_zero, List.set_cons_succ, i64_w, i32_w]
          rfl
         refine pure_ (i := 14) (N := some 75) (v := ?_) (a' := ?_) #[true, true, true, true, true, true, true, true, true, true, true, true, true, true, true, false, false, false, false, false, false, false, false, false, false, false, false] rfl rfl (any_of HT_.out (by kernel_rfl)) (fun _ _ _ h => h) (Or.inl ⟨by rfl, ?_⟩) ?_ ?_
         rotate_left
         ·intro w'
          go_simp
          with_reducible rfl
         rotate_left
         ·simp only [Act.put, List.setIfInBounds_toArray, List.set_cons_zero, List.set_cons_succ, i64_w, i32_w]
          rfl
         refine pure_ (i := 15) (N := some 76) (v := ?_) (a' := ?_) #[true, true, true, true, true, true, true, true, true, true, true, true, true, true, true, true, false, false, false, false, false, false, false, false, false, false, false] rfl rfl (any_of HT_.out (by kernel_rfl)) (fun _ _ _ h => h) (Or.inl ⟨by rfl, ?_⟩) ?_ ?_
         rotate_left
         ·intro w'
          go_simp
          with_reducible rfl
         rotate_left
         ·simp only [Act.put, List.setIfInBounds_toArray, List.set_cons_zero, List.set_cons_succ, i64_w, i32_w]
          rfl
         refine pure_ (i := 16) (N := some 77) (v := ?_) (a' := ?_) #[true, true, true, true, true, true, true, true, true, true, true, true, true, true, true, true, true, false, false, false, false, false, false, false, false, false, false] rfl rfl (any_of HT_.out (by kernel_rfl)) (fun _ _ _ h => h) (Or.inl ⟨by rfl, ?_⟩) ?_ ?_
         rotate_left
         ·intro w'
          go_simp
          with_reducible rfl
         rotate_left
         ·simp only [Act.put, List.setIfInBounds_toArray, List.set_cons_zero, List.set_cons_succ, i64_w, i32_w]
          rfl
         refine pure_ (i := 17) (N := some 78) (v := ?_) (a' := ?_) #[true, true, true, true, true, true, true, true, true, true, true, true, true, true, true, true, true, true, false, false, false, false, false, false, false, false, false] rfl rfl (any_of HT_.out (by kernel_rfl)) (fun _ _ _ h => h) (Or.inl ⟨by rfl, ?_⟩) ?_ ?_
         rotate_left
         ·intro w'
          go_simp
          with_reducible rfl
         rotate_left
         ·simp only [Act.put, List.setIfInBounds_toArray, List.set_cons_zero, List.set_cons_succ, i64_w, i32_w]
          rfl
         refine pure_ (i := 18) (N := some 79) (v := ?_) (a' := ?_) #[true, true, true, true, true, true, true, true, true, true, true, true, true, true, true, true, true, true, true, false, false, false, false, false, false, false, false] rfl rfl (any_of HT_.out (by kernel_rfl)) (fun _ _ _ h => h) (Or.inl ⟨by rfl, ?_⟩) ?_ ?_
         rotate_left
         ·intro w'
          go_simp
          with_reducible rfl
         rotate_left
         ·simp only [Act.put, List.setIfInBounds_toArray, List.set_cons_zero, List.set_cons_succ, i64_w, i32_w]
          rfl
         refine pure_ (i := 19) (N := some 80) (v := ?_) (a' := ?_) #[true, true, true, true, true, true, true, true, true, true, true, true, true, true, true, true, true, true, true, true, false, false, false, false, false, false, false] rfl rfl (any_of HT_.out (by kernel_rfl)) (fun _ _ _ h => h) (Or.inl ⟨by rfl, ?_⟩) ?_ ?_
         rotate_left
         ·intro w'
          go_simp
          with_reducible rfl
         rotate_left
         ·simp only [Act.put, List.setIfInBounds_toArray, List.set_cons_zero, List.set_cons_succ, i64_w, i32_w]
          rfl
         refine take_ (i := 20) (N := some 81) (v := ?_) (a' := ?_) #[true, true, true, true, true, true, true, true, true, true, true, true, true, true, true, true, true, true, true, true, true, false, false, false, false, false, false] rfl rfl (take_ofW HT_.out HW_.out (by kernel_rfl)) (fun _ _ _ h => h) (Or.inl ⟨by rfl, ?_⟩) hHeld ?_ ?_
         rotate_left
         ·rintro w' ⟨s0, s1⟩
          go_simp
          with_reducible rfl
         rotate_left
         ·simp only [Act.put, List.setIfInBounds_toArray, List.set_cons_zero, List.set_cons_succ, i64_w, i32_w]
          rfl
         refine take_ (i := 22) (N := some 83) (v := ?_) (a' := ?_) #[true, true, true, true, true, true, true, true, true, true, true, true, true, true, true, true, true, true, true, true, true, false, true, false, false, false, false] rfl rfl (take_ofW HT_.out HW_.out (by kernel_rfl)) (fun _ _ _ h => h) (Or.inl ⟨by rfl, ?_⟩) hHeld ?_ ?_
         rotate_left
         ·rintro w' ⟨s0, s1⟩
          go_simp
          with_reducible rfl
         rotate_left
         ·simp only [Act.put, List.setIfInBounds_toArray, List.set_cons_zero, List.set_cons_succ, i64_w, i32_w]
          rfl
         refine one_ (i := 21) (N := some 82) #[true, true, true, true, true, true, true, true, true, true, true, true, true, true, true, true, true, true, true, true, true, true, true, false, false, false, false] rfl rfl (one_of HT_.out (by kernel_rfl)) (by decide) (fun K hK => ?_)
         refine goR Tryd.func36 [.agg #[.bool a0_0, .slice A0_1 l0_1.length c0_1]] ?_
         with_reducible refine (whole_Text.calls kj4 a0_0 _ _ l0_1 t1059 _ ?side1 ?side2 A26.out).mono ?_
         (case side1 => exact (Kd.C_below HR0_1.out HB.out))
         (case side2 => exact HC0_1.out)
         rintro e w51 ⟨rfl, hb⟩
         refine ⟨_, rfl, ?_⟩
         replace HO1036 := Aside0.mk (Kd.R_below HO1036.out hb)
         replace HO1042 := Aside0.mk (Kd.R_below HO1042.out hb)
         replace HO1049 := Aside0.mk (Kd.R_below HO1049.out hb)
         replace HO1053 := Aside0.mk (Kd.R_below HO1053.out hb)
         replace BK1031 := Aside0.mk (blk_below BK1031.out hb)
         replace BK1038 := Aside0.mk (blk_below BK1038.out hb)
         replace BK1044 := Aside0.mk (blk_below BK1044.out hb)
         replace HB := Aside0.mk (below_step HB.out hb)
         (try clear hb)
         (try clear hb2)
         (try clear hk)
         (try clear hi)
         refine hK.out _ _ ⟨(blk_cell BK1031.out 0).trans rfl, (blk_cell BK1031.out 1).trans rfl⟩ (fun hHeld => ?_)
         clear hK K
         refine norm_ (a' := ?_) ?_ ?_
         rotate_left
         ·show Act.put _ (some 82) _ = _
          simp only [Act.put, List.setIfInBounds_toArray, List.set_cons_zero, List.set_cons_succ, i64_w, i32_w]
          rfl
         refine one_ (i := 23) (N := some 84) #[true, true, true, true, true, true, true, true, true, true, true, true, true, true, true, true, true, true, true, true, true, true, true, true, false, false, false] rfl rfl (one_of HT_.out (by kernel_rfl)) (by decide) (fun K hK => ?_)
         refine goR Tryd.func37 [.agg #[.bool a0_0, .slice A0_1 l0_1.length c0_1]] ?_
         with_reducible refine (gudgeonref02_Text.calls kj4 a0_0 _ _ l0_1 t1060 _ ?side1 ?side2 A27.out).mono ?_
         (case side1 => exact (Kd.C_below HR0_1.out HB.out))
         (case side2 => exact HC0_1.out)
         rintro e w52 ⟨rfl, hb⟩
         refine ⟨_, rfl, ?_⟩
         replace HO1036 := Aside0.mk (Kd.R_below HO1036.out hb)
         replace HO1042 := Aside0.mk (Kd.R_below HO1042.out hb)
         replace HO1049 := Aside0.mk (Kd.R_below HO1049.out hb)
         replace HO1053 := Aside0.mk (Kd.R_below HO1053.out hb)
         replace BK1031 := Aside0.mk (blk_below BK1031.out hb)
         replace BK1038 := Aside0.mk (blk_below BK1038.out hb)
         replace BK1044 := Aside0.mk (blk_below BK1044.out hb)
         replace HB := Aside0.mk (below_step HB.out hb)
         (try clear hb)
         (try clear hb2)
         (try clear hk)
         (try clear hi)
         refine hK.out _ _ ⟨(blk_cell BK1031.out 0).trans rfl, (blk_cell BK1031.out 1).trans rfl⟩ (fun hHeld => ?_)
         clear hK K
         refine norm_ (a' := ?_) ?_ ?_
         rotate_left
         ·show Act.put _ (some 84) _ = _
          simp only [Act.put, List.setIfInBounds_toArray, List.set_cons_zero, List.set_cons_succ, i64_w, i32_w]
          rfl
         refine pure_ (i := 24) (N := some 85) (v := ?_) (a' := ?_) #[true, true, true, true, true, true, true, true, true, true, true, true, true, true, true, true, true, true, true, true, true, true, true, true, true, false, false] rfl rfl (any_of HT_.out (by kernel_rfl)) (fun _ _ _ h => h) (Or.inl ⟨by rfl, ?_⟩) ?_ ?_
         rotate_left
         ·intro w'
          go_simp
          with_reducible rfl
         rotate_left
         ·simp only [Act.put, List.setIfInBounds_toArray, List.set_cons_zero, List.set_cons_succ, i64_w, i32_w]
          rfl
         refine pure_ (i := 25) (N := some 86) (v := ?_) (a' := ?_) #[true, true, true, true, true, true, true, true, true, true, true, true, true, true, true, true, true, true, true, true, true, true, true, true, true, true, false] rfl rfl (any_of HT_.out (by kernel_rfl)) (fun _ _ _ h => h) (Or.inl ⟨by rfl, ?_⟩) ?_ ?_
         rotate_left
         ·intro w'
          go_simp
          with_reducible rfl
         rotate_left
         ·simp only [Act.put, List.setIfInBounds_toArray, List.set_cons_zero, List.set_cons_succ, i64_w, i32_w]
          rfl
         refine pure_ (i := 26) (N := some 6) (v := ?_) (a' := ?_) #[true, true, true, true, true, true, true, true, true, true, true, true, true, true, true, true, true, true, true, true, true, true, true, true, true, true, true] rfl rfl (any_of HT_.out (by kernel_rfl)) (fun _ _ _ h => h) (Or.inl ⟨by rfl, ?_⟩) ?_ ?_
         rotate_left
         ·intro w'
          go_simp
          with_reducible rfl
         rotate_left
         ·simp only [Act.put, List.setIfInBounds_toArray, List.set_cons_zero, List.set_cons_succ, i64_w, i32_w]
          rfl
         refine done_ (done_of HT_.out (by kernel_rfl)) ?_
         try go_wp2
         go_ret
         exact ⟨by first | rfl | (simp [errW_none, errW_some] <;> rfl) | (refine congrArg (fun z_ => Ending.returned (Value.bool z_)) (decide_eq_decide.mpr ?_); unfold wrap64; omega) | (simp [*, errW_none, errW_some] <;> rfl), by repeat (first | (with_reducible first | exact HB.out | apply below_alloc | apply pw_below_drewN | apply below_drew1 | refine below_set ?_ GE1031.out | refine below_set ?_ GE1038.out | refine below_set ?_ GE1044.out) | exact HB.out)⟩
        ·rw [if_neg c25] at H
         have c25b0 : (t1056 == t1058) = false := by simpa using c25
         (try (have c25b1 : decide (t1056 = t1058) = false := by simpa using c25))
         (try (have c25b2 : (t1056 == t1058) = false := by simpa using c25))
         (try (have c25b3 : ¬ (t1056 = t1058) := by simpa using c25))
         clear c25
         obtain rfl := Option.some.inj H
         try go_wp2_with (first | ((with_reducible refine gate_callee (f := 30) rfl ?_); refine goL (some 35) Tryd.func30 [.string a1] ?_; (with_reducible refine (whole_Parse.calls kj4 a1 t1033 t1034 t1037 _ A13.out).mono ?_); rintro e w53 ⟨v1035, rfl, ho0, hb⟩; refine ⟨_, rfl, ?_⟩; have HO1036 := Aside0.mk (Kd.R_lower ho0 (below_size HB.out)); replace BK1031 := Aside0.mk (blk_below BK1031.out hb); replace HB := Aside0.mk (below_step HB.out hb)) | ((with_reducible refine gate_dst (N := 8) rfl ?_); (try (refine gate_guard (by rfl) ?_; dsimp only)); refine box_event ?hg (N := 8) ?hd (cs := #[.bool false, .slice none 0 0]) (t := 24) ?hr ?_; (case hd => rfl); (case hg => rfl); (case hr => first | (go_simp; done) | (go_simp; rfl)); intro gb1038 hg w54 hbox hb; replace HO1036 := Aside0.mk (Kd.R_below HO1036.out hb); have BK1038 := Aside0.mk (hbox); have GW1038 := Aside0.mk (bxLe HB.out hg); have GE1038 := GW1038; replace HB := Aside0.mk (below_step HB.out hb); have NB1031_1038 := Aside0.mk (neL BK1031.out hg); have NB1038_1031 := Aside0.mk (neR BK1031.out hg); replace BK1031 := Aside0.mk (blk_below BK1031.out hb); clear hb hbox hg; have hnb55 := NB1038_1031.out; have hnc55 := NB1031_1038.out; have hcz56_0 := bc0 BK1038.out; have hcz56_1 := bc1 BK1038.out; have hfz56_0 := blk_frozen BK1038.out 0; have hfz56_1 := blk_frozen BK1038.out 1; obtain ⟨Ao57, co57, eo57⟩ := Kd.R_slice HO1036.out; subst eo57) | ((with_reducible refine gate_callee (f := 31) rfl ?_); refine goL (some 40) Tryd.func31 [.string a1] ?_; (with_reducible refine (gudgeonref02_Parse.calls kj4 a1 t1039 t1040 t1043 _ A14.out).mono ?_); rintro e w58 ⟨v1041, rfl, ho0, hb⟩; refine ⟨_, rfl, ?_⟩; have HO1042 := Aside0.mk (Kd.R_lower (Kd.R_new' ho0 (Kd.R_lt (Kd.R_mono (Kd.R_far (p := ⟨gb1038, 1, none⟩) (Kd.R_far (p := ⟨gb1038, 0, none⟩) (Kd.R_types HO1036.out BK1038.out (by decide)) (fun _ hk => hk.2) (.bool t1033)) (fun _ hk => hk.2) (.slice Ao57 t1034.length co57)) (fun _ h_ => h_.1)))) (below_size (by repeat first | exact HB.out | refine bxSet ?_ (by assumption) | apply below_alloc | apply pw_below_drewN))); replace HO1036 := Aside0.mk (Kd.R_elder' (Kd.R_mono (Kd.R_far (p := ⟨gb1038, 1, none⟩) (Kd.R_far (p := ⟨gb1038, 0, none⟩) (Kd.R_types HO1036.out BK1038.out (by decide)) (fun _ hk => hk.2) (.bool t1033)) (fun _ hk => hk.2) (.slice Ao57 t1034.length co57)) (fun _ h_ => h_.1)) (Kd.R_base ho0) hb); replace BK1031 := Aside0.mk (blk_below (g := gb1031) (o := .cells #[.bool a0_0, .slice A0_1 l0_1.length c0_1] 24 (0, 0)) (by refine blk_far ?_ NB1031_1038.out _; refine blk_far ?_ NB1031_1038.out _; exact BK1031.out) hb); replace BK1038 := Aside0.mk (blk_below (g := gb1038) (o := .cells #[.bool t1033, .slice Ao57 t1034.length co57] 24 (0, 0)) (by refine blk_put (cs := #[.bool t1033, .slice none 0 0]) ?_ 1 _ rfl; refine blk_put (cs := #[.bool false, .slice none 0 0]) ?_ 0 _ rfl; exact BK1038.out) hb); replace HB := Aside0.mk (below_step (by repeat first | exact HB.out | refine bxSet ?_ (by assumption) | apply below_alloc | apply pw_below_drewN) hb)) | ((with_reducible refine gate_dst (N := 10) rfl ?_); (try (refine gate_guard (by rfl) ?_; dsimp only)); refine box_event ?hg (N := 10) ?hd (cs := #[.bool false, .slice none 0 0]) (t := 24) ?hr ?_; (case hd => rfl); (case hg => rfl); (case hr => first | (go_simp; done) | (go_simp; rfl)); intro gb1044 hg w59 hbox hb; replace HO1036 := Aside0.mk (Kd.R_below HO1036.out hb); replace HO1042 := Aside0.mk (Kd.R_below HO1042.out hb); have BK1044 := Aside0.mk (hbox); have GW1044 := Aside0.mk (bxLe HB.out hg); have GE1044 := GW1044; replace HB := Aside0.mk (below_step HB.out hb); have NB1031_1044 := Aside0.mk (neL BK1031.out hg); have NB1044_1031 := Aside0.mk (neR BK1031.out hg); replace BK1031 := Aside0.mk (blk_below BK1031.out hb); have NB1038_1044 := Aside0.mk (neL BK1038.out hg); have NB1044_1038 := Aside0.mk (neR BK1038.out hg); replace BK1038 := Aside0.mk (blk_below BK1038.out hb); clear hb hbox hg; have hnb60 := NB1044_1031.out; have hnc60 := NB1031_1044.out; have hnb61 := NB1044_1038.out; have hnc61 := NB1038_1044.out; have hcz62_0 := bc0 BK1044.out; have hcz62_1 := bc1 BK1044.out; have hfz62_0 := blk_frozen BK1044.out 0; have hfz62_1 := blk_frozen BK1044.out 1; obtain ⟨Ao63, co63, eo63⟩ := Kd.R_slice HO1042.out; subst eo63; have hcz64_0 := bc0 BK1038.out; have hcz64_1 := bc1 BK1038.out; have hfz64_0 := blk_frozen BK1038.out 0; have hfz64_1 := blk_frozen BK1038.out 1) | ((with_reducible refine gate_callee (f := 15) rfl ?_); refine goL (some 45) Tryd.func15 [.agg #[.bool t1033, .slice Ao57 t1034.length co57], .agg #[.bool t1039, .slice Ao63 t1040.length co63]] ?_; (with_reducible refine (gudgeonref02_Same.calls kj4 t1033 _ _ t1034 t1039 _ _ t1040 true _ ?side1 ?side2 ?side3 ?side4 A15.out).mono ?_); (case side1 => refine (Kd.R_reads' (e := 51) (base := w.heap.size) (ok := fun k_ => (True ∧ some k_ ≠ (.slice Ao63 t1040.length co63 : Value).ownBlock)) (n := t1034.length) (c := co57) ?_).2.2; exact (Kd.R_mono (Kd.R_far (p := ⟨gb1044, 1, none⟩) (Kd.R_far (p := ⟨gb1044, 0, none⟩) (Kd.R_types HO1036.out BK1044.out (by decide)) (fun _ hk => hk.2) (.bool t1039)) (fun _ hk => hk.2) (.slice Ao63 t1040.length co63)) (fun _ h_ => h_.1))); (case side2 => exact (Kd.R_reads' HO1036.out).2.1); (case side3 => refine (Kd.R_reads' (e := 51) (base := w.heap.size) (ok := fun k_ => (True ∧ some k_ ≠ (.slice Ao57 t1034.length co57 : Value).ownBlock)) (n := t1040.length) (c := co63) ?_).2.2; exact (Kd.R_mono (Kd.R_far (p := ⟨gb1044, 1, none⟩) (Kd.R_far (p := ⟨gb1044, 0, none⟩) (Kd.R_types HO1042.out BK1044.out (by decide)) (fun _ hk => hk.2) (.bool t1039)) (fun _ hk => hk.2) (.slice Ao63 t1040.length co63)) (fun _ h_ => h_.1))); (case side4 => exact (Kd.R_reads' HO1042.out).2.1); rintro e w65 ⟨rfl, hb⟩; refine ⟨_, rfl, ?_⟩; replace HO1036 := Aside0.mk (Kd.R_below (Kd.R_mono (Kd.R_far (p := ⟨gb1044, 1, none⟩) (Kd.R_far (p := ⟨gb1044, 0, none⟩) (Kd.R_types HO1036.out BK1044.out (by decide)) (fun _ hk => hk.2) (.bool t1039)) (fun _ hk => hk.2) (.slice Ao63 t1040.length co63)) (fun _ h_ => h_.1)) hb); replace HO1042 := Aside0.mk (Kd.R_below (Kd.R_mono (Kd.R_far (p := ⟨gb1044, 1, none⟩) (Kd.R_far (p := ⟨gb1044, 0, none⟩) (Kd.R_types HO1042.out BK1044.out (by decide)) (fun _ hk => hk.2) (.bool t1039)) (fun _ hk => hk.2) (.slice Ao63 t1040.length co63)) (fun _ h_ => h_.1)) hb); replace BK1031 := Aside0.mk (blk_below (g := gb1031) (o := .cells #[.bool a0_0, .slice A0_1 l0_1.length c0_1] 24 (0, 0)) (by refine blk_far ?_ NB1031_1044.out _; refine blk_far ?_ NB1031_1044.out _; exact BK1031.out) hb); replace BK1038 := Aside0.mk (blk_below (g := gb1038) (o := .cells #[.bool t1033, .slice Ao57 t1034.length co57] 24 (0, 0)) (by refine blk_far ?_ NB1038_1044.out _; refine blk_far ?_ NB1038_1044.out _; exact BK1038.out) hb); replace BK1044 := Aside0.mk (blk_below (g := gb1044) (o := .cells #[.bool t1039, .slice Ao63 t1040.length co63] 24 (0, 0)) (by refine blk_put (cs := #[.bool t1039, .slice none 0 0]) ?_ 1 _ rfl; refine blk_put (cs := #[.bool false, .slice none 0 0]) ?_ 0 _ rfl; exact BK1044.out) hb); replace HB := Aside0.mk (below_step (by repeat first | exact HB.out | refine bxSet ?_ (by assumption) | apply below_alloc | apply pw_below_drewN) hb); (try clear hb); (try clear hb2); (try clear hk); (try clear hi)) | ((with_reducible refine gate_callee (f := 32) rfl ?_); refine goL (some 47) Tryd.func32 [.int .i64 a2] ?_; (with_reducible refine (whole_Of.calls a2 t1046 t1047 _ A16.out).mono ?_); rintro e w66 ⟨v1048, rfl, ho0, hb⟩; refine ⟨_, rfl, ?_⟩; have HO1049 := Aside0.mk (Kd.R_lower (Kd.R_new' (Kd.R_new' ho0 (Kd.R_lt HO1036.out)) (Kd.R_lt HO1042.out)) (below_size HB.out)); replace HO1036 := Aside0.mk (Kd.R_elder' HO1036.out (Kd.R_base ho0) hb); replace HO1042 := Aside0.mk (Kd.R_elder' HO1042.out (Kd.R_base ho0) hb); replace BK1031 := Aside0.mk (blk_below BK1031.out hb); replace BK1038 := Aside0.mk (blk_below BK1038.out hb); replace BK1044 := Aside0.mk (blk_below BK1044.out hb); replace HB := Aside0.mk (below_step HB.out hb)) | ((with_reducible refine gate_callee (f := 33) rfl ?_); refine goL (some 49) Tryd.func33 [.int .i64 a2] ?_; (with_reducible refine (gudgeonref02_Of.calls kj4 a2 t1050 t1051 _ A17.out).mono ?_); rintro e w67 ⟨v1052, rfl, ho0, hb⟩; refine ⟨_, rfl, ?_⟩; have HO1053 := Aside0.mk (Kd.R_lower (Kd.R_new' (Kd.R_new' (Kd.R_new' ho0 (Kd.R_lt HO1036.out)) (Kd.R_lt HO1042.out)) (Kd.R_lt HO1049.out)) (below_size HB.out)); replace HO1036 := Aside0.mk (Kd.R_elder' HO1036.out (Kd.R_base ho0) hb); replace HO1042 := Aside0.mk (Kd.R_elder' HO1042.out (Kd.R_base ho0) hb); replace HO1049 := Aside0.mk (Kd.R_elder' HO1049.out (Kd.R_base ho0) hb); replace BK1031 := Aside0.mk (blk_below BK1031.out hb); replace BK1038 := Aside0.mk (blk_below BK1038.out hb); replace BK1044 := Aside0.mk (blk_below BK1044.out hb); replace HB := Aside0.mk (below_step HB.out hb); obtain ⟨Ao68, co68, eo68⟩ := Kd.R_slice HO1049.out; subst eo68; obtain ⟨Ao69, co69, eo69⟩ := Kd.R_slice HO1053.out; subst eo69) | ((with_reducible refine gate_callee (f := 15) rfl ?_); refine goL (some 50) Tryd.func15 [.agg #[.bool t1046, .slice Ao68 t1047.length co68], .agg #[.bool t1050, .slice Ao69 t1051.length co69]] ?_; (with_reducible refine (gudgeonref02_Same.calls kj4 t1046 _ _ t1047 t1050 _ _ t1051 true _ ?side1 ?side2 ?side3 ?side4 A18.out).mono ?_); (case side1 => exact (Kd.R_reads' HO1049.out).2.2); (case side2 => exact (Kd.R_reads' HO1049.out).2.1); (case side3 => exact (Kd.R_reads' HO1053.out).2.2); (case side4 => exact (Kd.R_reads' HO1053.out).2.1); rintro e w70 ⟨rfl, hb⟩; refine ⟨_, rfl, ?_⟩; replace HO1036 := Aside0.mk (Kd.R_below HO1036.out hb); replace HO1042 := Aside0.mk (Kd.R_below HO1042.out hb); replace HO1049 := Aside0.mk (Kd.R_below HO1049.out hb); replace HO1053 := Aside0.mk (Kd.R_below HO1053.out hb); replace BK1031 := Aside0.mk (blk_below BK1031.out hb); replace BK1038 := Aside0.mk (blk_below BK1038.out hb); replace BK1044 := Aside0.mk (blk_below BK1044.out hb); replace HB := Aside0.mk (below_step HB.out hb); (try clear hb); (try clear hb2); (try clear hk); (try clear hi); have hcz71_0 := bc0 BK1031.out; have hcz71_1 := bc1 BK1031.out; have hfz71_0 := blk_frozen BK1031.out 0; have hfz71_1 := blk_frozen BK1031.out 1) | ((with_reducible refine gate_callee (f := 34) rfl ?_); refine goL (some 53) Tryd.func34 [.agg #[.bool a0_0, .slice A0_1 l0_1.length c0_1]] ?_; (with_reducible refine (whole_Int.calls kj4 a0_0 _ _ l0_1 t1055 t1056 _ ?side1 ?side2 A19.out).mono ?_); (case side1 => exact (Kd.C_below HR0_1.out HB.out)); (case side2 => exact HC0_1.out); rintro e w72 ⟨rfl, hb⟩; refine ⟨_, rfl, ?_⟩; replace HO1036 := Aside0.mk (Kd.R_below HO1036.out hb); replace HO1042 := Aside0.mk (Kd.R_below HO1042.out hb); replace HO1049 := Aside0.mk (Kd.R_below HO1049.out hb); replace HO1053 := Aside0.mk (Kd.R_below HO1053.out hb); replace BK1031 := Aside0.mk (blk_below BK1031.out hb); replace BK1038 := Aside0.mk (blk_below BK1038.out hb); replace BK1044 := Aside0.mk (blk_below BK1044.out hb); replace HB := Aside0.mk (below_step HB.out hb); (try clear hb); (try clear hb2); (try clear hk); (try clear hi); have hcz73_0 := bc0 BK1031.out; have hcz73_1 := bc1 BK1031.out; have hfz73_0 := blk_frozen BK1031.out 0; have hfz73_1 := blk_frozen BK1031.out 1) | ((with_reducible refine gate_callee (f := 35) rfl ?_); refine goL (some 58) Tryd.func35 [.agg #[.bool a0_0, .slice A0_1 l0_1.length c0_1]] ?_; (with_reducible refine (gudgeonref02_Int.calls kj4 a0_0 _ _ l0_1 t1057 t1058 _ ?side1 ?side2 A20.out).mono ?_); (case side1 => exact (Kd.C_below HR0_1.out HB.out)); (case side2 => exact HC0_1.out); rintro e w74 ⟨rfl, hb⟩; refine ⟨_, rfl, ?_⟩; replace HO1036 := Aside0.mk (Kd.R_below HO1036.out hb); replace HO1042 := Aside0.mk (Kd.R_below HO1042.out hb); replace HO1049 := Aside0.mk (Kd.R_below HO1049.out hb); replace HO1053 := Aside0.mk (Kd.R_below HO1053.out hb); replace BK1031 := Aside0.mk (blk_below BK1031.out hb); replace BK1038 := Aside0.mk (blk_below BK1038.out hb); replace BK1044 := Aside0.mk (blk_below BK1044.out hb); replace HB := Aside0.mk (below_step HB.out hb); (try clear hb); (try clear hb2); (try clear hk); (try clear hi)))
         replace HO1036 := Aside0.mk (Kd.R_drew HO1036.out)
         replace HO1042 := Aside0.mk (Kd.R_drew HO1042.out)
         replace HO1049 := Aside0.mk (Kd.R_drew HO1049.out)
         replace HO1053 := Aside0.mk (Kd.R_drew HO1053.out)
         replace BK1031 := Aside0.mk (blk_drew BK1031.out)
         replace BK1038 := Aside0.mk (blk_drew BK1038.out)
         replace BK1044 := Aside0.mk (blk_drew BK1044.out)
         replace HB := Aside0.mk (below_drew1 HB.out)
         refine start_ (n := 27) (S := fun w' => True) (ds := []) #[false, false, false, false, false, false, false, false, false, false, false, false, false, false, false, false, false, false, false, false, false, false, false, false, false, false, false] (by kernel_rfl) rfl rfl trivial (fun hHeld => ?_); refine with_tabW gudgeonlaw02_WholeTexts.tab10 gudgeonlaw02_WholeTexts.bits10 (fun HT_ HW_ => ?_)
         generalize w74.drew = w75 at HO1036 HO1042 HO1049 HO1053 BK1031 BK1038 BK1044 HB hHeld ⊢
         refine pure_ (i := 0) (N := some 61) (v := ?_) (a' := ?_) #[true, false, false, false, false, false, false, false, false, false, false, false, false, false, false, false, false, false, false, false, false, false, false, false, false, false, false] rfl rfl (any_of HT_.out (by kernel_rfl)) (fun _ _ _ h => h) (Or.inl ⟨by rfl, ?_⟩) ?_ ?_
         rotate_left
         ·intro w'
          go_simp
          with_reducible rfl
         rotate_left
         ·simp only [Act.put, List.setIfInBounds_toArray, List.set_cons_zero, List.set_cons_succ, i64_w, i32_w]
          rfl
         refine pure_ (i := 1) (N := some 62) (v := ?_) (a' := ?_) #[true, true, false, false, false, false, false, false, false, false, false, false, false, false, false, false, false, false, false, false, false, false, false, false, false, false, false] rfl rfl (any_of HT_.out (by kernel_rfl)) (fun _ _ _ h => h) (Or.inl ⟨by rfl, ?_⟩) ?_ ?_
         rotate_left
         ·intro w'
          go_simp
          with_reducible rfl
         rotate_left
         ·simp only [Act.put, List.setIfInBounds_toArray, List.set_cons_zero, List.set_cons_succ, i64_w, i32_w]
          rfl
         refine pure_ (i := 2) (N := some 63) (v := ?_) (a' := ?_) #[true, true, true, false, false, false, false, false, false, false, false, false, false, false, false, false, false, false, false, false, false, false, false, false, false, false, false] rfl rfl (any_of HT_.out (by kernel_rfl)) (fun _ _ _ h => h) (Or.inl ⟨by rfl, ?_⟩) ?_ ?_
         rotate_left
         ·intro w'
          go_simp
          with_reducible rfl
         rotate_left
         ·simp only [Act.put, List.setIfInBounds_toArray, List.set_cons_zero, List.set_cons_succ, i64_w, i32_w]
          rfl
         refine pure_ (i := 3) (N := some 64) (v := ?_) (a' := ?_) #[true, true, true, true, false, false, false, false, false, false, false, false, false, false, false, false, false, false, false, false, false, false, false, false, false, false, false] rfl rfl (any_of HT_.out (by kernel_rfl)) (fun _ _ _ h => h) (Or.inl ⟨by rfl, ?_⟩) ?_ ?_
         rotate_left
         ·intro w'
          go_simp
          with_reducible rfl
         rotate_left
         ·simp only [Act.put, List.setIfInBounds_toArray, List.set_cons_zero, List.set_cons_succ, i64_w, i32_w]
          rfl
         refine pure_ (i := 4) (N := some 65) (v := ?_) (a' := ?_) #[true, true, true, true, true, false, false, false, false, false, false, false, false, false, false, false, false, false, false, false, false, false, false, false, false, false, false] rfl rfl (any_of HT_.out (by kernel_rfl)) (fun _ _ _ h => h) (Or.inl ⟨by rfl, ?_⟩) ?_ ?_
         rotate_left
         ·intro w'
          go_simp
          with_reducible rfl
         rotate_left
         ·simp only [Act.put, List.setIfInBounds_toArray, List.set_cons_zero, List.set_cons_succ, i64_w, i32_w]
          rfl
         refine pure_ (i := 5) (N := some 66) (v := ?_) (a' := ?_) #[true, true, true, true, true, true, false, false, false, false, false, false, false, false, false, false, false, false, false, false, false, false, false, false, false, false, false] rfl rfl (any_of HT_.out (by kernel_rfl)) (fun _ _ _ h => h) (Or.inl ⟨by rfl, ?_⟩) ?_ ?_
         rotate_left
         ·intro w'
          go_simp
          with_reducible rfl
         rotate_left
         ·simp only [Act.put, List.setIfInBounds_toArray, List.set_cons_zero, List.set_cons_succ, i64_w, i32_w]
          rfl
         refine pure_ (i := 6) (N := some 67) (v := ?_) (a' := ?_) #[true, true, true, true, true, true, true, false, false, false, false, false, false, false, false, false, false, false, false, false, false, false, false, false, false, false, false] rfl rfl (any_of HT_.out (by kernel_rfl)) (fun _ _ _ h => h) (Or.inl ⟨by rfl, ?_⟩) ?_ ?_
         rotate_left
         ·intro w'
          go_simp
          with_reducible rfl
         rotate_left
         ·simp only [Act.put, List.setIfInBounds_toArray, List.set_cons_zero, List.set_cons_succ, i64_w, i32_w]
          rfl
         refine pure_ (i := 7) (N := some 68) (v := ?_) (a' := ?_) #[true, true, true, true, true, true, true, true, false, false, false, false, false, false, false, false, false, false, false, false, false, false, false, false, false, false, false] rfl rfl (any_of HT_.out (by kernel_rfl)) (fun _ _ _ h => h) (Or.inl ⟨by rfl, ?_⟩) ?_ ?_
         rotate_left
         ·intro w'
          go_simp
          with_reducible rfl
         rotate_left
         ·simp only [Act.put, List.setIfInBounds_toArray, List.set_cons_zero, List.set_cons_succ, i64_w, i32_w]
          rfl
         refine pure_ (i := 8) (N := some 69) (v := ?_) (a' := ?_) #[true, true, true, true, true, true, true, true, true, false, false, false, false, false, false, false, false, false, false, false, false, false, false, false, false, false, false] rfl rfl (any_of HT_.out (by kernel_rfl)) (fun _ _ _ h => h) (Or.inl ⟨by rfl, ?_⟩) ?_ ?_
         rotate_left
         ·intro w'
          go_simp
          with_reducible rfl
         rotate_left
         ·simp only [Act.put, List.setIfInBounds_toArray, List.set_cons_zero, List.set_cons_succ, i64_w, i32_w]
          rfl
         refine pure_ (i := 9) (N := some 70) (v := ?_) (a' := ?_) #[true, true, true, true, true, true, true, true, true, true, false, false, false, false, false, false, false, false, false, false, false, false, false, false, false, false, false] rfl rfl (any_of HT_.out (by kernel_rfl)) (fun _ _ _ h => h) (Or.inl ⟨by rfl, ?_⟩) ?_ ?_
         rotate_left
         ·intro w'
          go_simp
          with_reducible rfl
         rotate_left
         ·simp only [Act.put, List.setIfInBounds_toArray, List.set_cons_zero, List.set_cons_succ, i64_w, i32_w]
          rfl
         refine pure_ (i := 10) (N := some 71) (v := ?_) (a' := ?_) #[true, true, true, true, true, true, true, true, true, true, true, false, false, false, false, false, false, false, false, false, false, false, false, false, false, false, false] rfl rfl (any_of HT_.out (by kernel_rfl)) (fun _ _ _ h => h) (Or.inl ⟨by rfl, ?_⟩) ?_ ?_
         rotate_left
         ·intro w'
          go_simp
          with_reducible rfl
         rotate_left
         ·simp only [Act.put, List.setIfInBounds_toArray, List.set_cons_zero, List.set_cons_succ, i64_w, i32_w]
          rfl
         refine pure_ (i := 11) (N := some 72) (v := ?_) (a' := ?_) #[true, true, true, true, true, true, true, true, true, true, true, true, false, false, false, false, false, false, false, false, false, false, false, false, false, false, false] rfl rfl (any_of HT_.out (by kernel_rfl)) (fun _ _ _ h => h) (Or.inl ⟨by rfl, ?_⟩) ?_ ?_
         rotate_left
         ·intro w'
          go_simp
          with_reducible rfl
         rotate_left
         ·simp only [Act.put, List.setIfInBounds_toArray, List.set_cons_zero, List.set_cons_succ, i64_w, i32_w]
          rfl
         refine pure_ (i := 12) (N := some 73) (v := ?_) (a' := ?_) #[true, true, true, true, true, true, true, true, true, true, true, true, true, false, false, false, false, false, false, false, false, false, false, false, false, false, false] rfl rfl (any_of HT_.out (by kernel_rfl)) (fun _ _ _ h => h) (Or.inl ⟨by rfl, ?_⟩) ?_ ?_
         rotate_left
         ·intro w'
          go_simp
          with_reducible rfl
         rotate_left
         ·simp only [Act.put, List.setIfInBounds_toArray, List.set_cons_zero, List.set_cons_succ, i64_w, i32_w]
          rfl
         refine pure_ (i := 13) (N := some 74) (v := ?_) (a' := ?_) #[true, true, true, true, true, true, true, true, true, true, true, true, true, true, false, false, false, false, false, false, false, false, false, false, false, false, false] rfl rfl (any_of HT_.out (by kernel_rfl)) (fun _ _ _ h => h) (Or.inl ⟨by rfl, ?_⟩) ?_ ?_
         rotate_left
         ·intro w'
          go_simp
          with_reducible rfl
         rotate_left
         ·simp only [Act.put, List.setIfInBounds_toArray, List.set_cons_zero, List.set_cons_succ, i64_w, i32_w]
          rfl
         refine pure_ (i := 14) (N := some 75) (v := ?_) (a' := ?_) #[true, true, true, true, true, true, true, true, true, true, true, true, true, true, true, false, false, false, false, false, false, false, false, false, false, false, false] rfl rfl (any_of HT_.out (by kernel_rfl)) (fun _ _ _ h => h) (Or.inl ⟨by rfl, ?_⟩) ?_ ?_
         rotate_left
         ·intro w'
          go_simp
          with_reducible rfl
         rotate_left
         ·simp only [Act.put, List.setIfInBounds_toArray, List.set_cons_zero, List.set_cons_succ, i64_w, i32_w]
          rfl
         refine pure_ (i := 15) (N := some 76) (v := ?_) (a' := ?_) #[true, true, true, true, true, true, true, true, true, true, true, true, true, true, true, true, false, false, false, false, false, false, false, false, false, false, false] rfl rfl (any_of HT_.out (by kernel_rfl)) (fun _ _ _ h => h) (Or.inl ⟨by rfl, ?_⟩) ?_ ?_
         rotate_left
         ·intro w'
          go_simp
          with_reducible rfl
         rotate_left
         ·simp only [Act.put, List.setIfInBounds_toArray, List.set_cons_zero, List.set_cons_succ, i64_w, i32_w]
          rfl
         refine pure_ (i := 16) (N := some 77) (v := ?_) (a' := ?_) #[true, true, true, true, true, true, true, true, true, true, true, true, true, true, true, true, true, false, false, false, false, false, false, false, false, false, false] rfl rfl (any_of HT_.out (by kernel_rfl)) (fun _ _ _ h => h) (Or.inl ⟨by rfl, ?_⟩) ?_ ?_
         rotate_left
         ·intro w'
          go_simp
          with_reducible rfl
         rotate_left
         ·simp only [Act.put, List.setIfInBounds_toArray, List.set_cons_zero, List.set_cons_succ, i64_w, i32_w]
          rfl
         refine pure_ (i := 17) (N := some 78) (v := ?_) (a' := ?_) #[true, true, true, true, true, true, true, true, true, true, true, true, true, true, true, true, true, true, false, false, false, false, false, false, false, false, false] rfl rfl (any_of HT_.out (by kernel_rfl)) (fun _ _ _ h => h) (Or.inl ⟨by rfl, ?_⟩) ?_ ?_
         rotate_left
         ·intro w'
          go_simp
          with_reducible rfl
         rotate_left
         ·simp only [Act.put, List.setIfInBounds_toArray, List.set_cons_zero, List.set_cons_succ, i64_w, i32_w]
          rfl
         refine pure_ (i := 18) (N := some 79) (v := ?_) (a' := ?_) #[true, true, true, true, true, true, true, true, true, true, true, true, true, true, true, true, true, true, true, false, false, false, false, false, false, false, false] rfl rfl (any_of HT_.out (by kernel_rfl)) (fun _ _ _ h => h) (Or.inl ⟨by rfl, ?_⟩) ?_ ?_
         rotate_left
         ·intro w'
          go_simp
          with_reducible rfl
         rotate_left
         ·simp only [Act.put, List.setIfInBounds_toArray, List.set_cons_zero, List.set_cons_succ, i64_w, i32_w]
          rfl
         refine pure_ (i := 19) (N := some 80) (v := ?_) (a' := ?_) #[true, true, true, true, true, true, true, true, true, true, true, true, true, true, true, true, true, true, true, true, false, false, false, false, false, false, false] rfl rfl (any_of HT_.out (by kernel_rfl)) (fun _ _ _ h => h) (Or.inl ⟨by rfl, ?_⟩) ?_ ?_
         rotate_left
         ·intro w'
          go_simp
          with_reducible rfl
         rotate_left
         ·simp only [Act.put, List.setIfInBounds_toArray, List.set_cons_zero, List.set_cons_succ, i64_w, i32_w]
          rfl
         refine pure_ (i := 20) (N := some 81) (v := undef) (a' := ?_) #[true, true, true, true, true, true, true, true, true, true, true, true, true, true, true, true, true, true, true, true, true, false, false, false, false, false, false] rfl rfl (any_of HT_.out (by kernel_rfl)) (fun _ _ _ h => h) (Or.inr ⟨by rfl, rfl⟩) ?_ ?_
         rotate_left
         ·simp only [Act.put, List.setIfInBounds_toArray, List.set_cons_zero, List.set_cons_succ, i64_w, i32_w]
          rfl
         refine pure_ (i := 21) (N := some 82) (v := undef) (a' := ?_) #[true, true, true, true, true, true, true, true, true, true, true, true, true, true, true, true, true, true, true, true, true, true, false, false, false, false, false] rfl rfl (any_of HT_.out (by kernel_rfl)) (fun _ _ _ h => h) (Or.inr ⟨by rfl, rfl⟩) ?_ ?_
         rotate_left
         ·simp only [Act.put, List.setIfInBounds_toArray, List.set_cons_zero, List.set_cons_succ, i64_w, i32_w]
          rfl
         refine pure_ (i := 22) (N := some 83) (v := undef) (a' := ?_) #[true, true, true, true, true, true, true, true, true, true, true, true, true, true, true, true, true, true, true, true, true, true, true, false, false, false, false] rfl rfl (any_of HT_.out (by kernel_rfl)) (fun _ _ _ h => h) (Or.inr ⟨by rfl, rfl⟩) ?_ ?_
         rotate_left
         ·simp only [Act.put, List.setIfInBounds_toArray, List.set_cons_zero, List.set_cons_succ, i64_w, i32_w]
          rfl
         refine pure_ (i := 23) (N := some 84) (v := undef) (a' := ?_) #[true, true, true, true, true, true, true, true, true, true, true, true, true, true, true, true, true, true, true, true, true, true, true, true, false, false, false] rfl rfl (any_of HT_.out (by kernel_rfl)) (fun _ _ _ h => h) (Or.inr ⟨by rfl, rfl⟩) ?_ ?_
         rotate_left
         ·simp only [Act.put, List.setIfInBounds_toArray, List.set_cons_zero, List.set_cons_succ, i64_w, i32_w]
          rfl
         refine pure_ (i := 24) (N := some 85) (v := undef) (a' := ?_) #[true, true, true, true, true, true, true, true, true, true, true, true, true, true, true, true, true, true, true, true, true, true, true, true, true, false, false] rfl rfl (any_of HT_.out (by kernel_rfl)) (fun _ _ _ h => h) (Or.inr ⟨by rfl, rfl⟩) ?_ ?_
         rotate_left
         ·simp only [Act.put, List.setIfInBounds_toArray, List.set_cons_zero, List.set_cons_succ, i64_w, i32_w]
          rfl
         refine pure_ (i := 25) (N := some 86) (v := ?_) (a' := ?_) #[true, true, true, true, true, true, true, true, true, true, true, true, true, true, true, true, true, true, true, true, true, true, true, true, true, true, false] rfl rfl (any_of HT_.out (by kernel_rfl)) (fun _ _ _ h => h) (Or.inl ⟨by rfl, ?_⟩) ?_ ?_
         rotate_left
         ·intro w'
          go_simp
          with_reducible rfl
         rotate_left
         ·simp only [Act.put, List.setIfInBounds_toArray, List.set_cons_zero, List.set_cons_succ, i64_w, i32_w]
          rfl
         refine pure_ (i := 26) (N := some 6) (v := ?_) (a' := ?_) #[true, true, true, true, true, true, true, true, true, true, true, true, true, true, true, true, true, true, true, true, true, true, true, true, true, true, true] rfl rfl (any_of HT_.out (by kernel_rfl)) (fun _ _ _ h => h) (Or.inl ⟨by rfl, ?_⟩) ?_ ?_
         rotate_left
         ·intro w'
          go_simp
          with_reducible rfl
         rotate_left
         ·simp only [Act.put, List.setIfInBounds_toArray, List.set_cons_zero, List.set_cons_succ, i64_w, i32_w]
          rfl
         refine done_ (done_of HT_.out (by kernel_rfl)) ?_
         try go_wp2
         go_ret
         exact ⟨by first | rfl | (simp [errW_none, errW_some] <;> rfl) | (refine congrArg (fun z_ => Ending.returned (Value.bool z_)) (decide_eq_decide.mpr ?_); unfold wrap64; omega) | (simp [*, errW_none, errW_some] <;> rfl), by repeat (first | (with_reducible first | exact HB.out | apply below_alloc | apply pw_below_drewN | apply below_drew1 | refine below_set ?_ GE1031.out | refine below_set ?_ GE1038.out | refine below_set ?_ GE1044.out) | exact HB.out)⟩
       ·rw [if_neg c24] at H
        have c24b0 : (t1055 == t1057) = false := beq_eq_false_iff_ne.mpr c24
        have c24b1 : (t1055 != t1057) = true := bne_iff_ne.mpr c24
        obtain rfl := Option.some.inj H
        try go_wp2_with (first | ((with_reducible refine gate_callee (f := 30) rfl ?_); refine goL (some 35) Tryd.func30 [.string a1] ?_; (with_reducible refine (whole_Parse.calls kj4 a1 t1033 t1034 t1037 _ A13.out).mono ?_); rintro e w76 ⟨v1035, rfl, ho0, hb⟩; refine ⟨_, rfl, ?_⟩; have HO1036 := Aside0.mk (Kd.R_lower ho0 (below_size HB.out)); replace BK1031 := Aside0.mk (blk_below BK1031.out hb); replace HB := Aside0.mk (below_step HB.out hb)) | ((with_reducible refine gate_dst (N := 8) rfl ?_); (try (refine gate_guard (by rfl) ?_; dsimp only)); refine box_event ?hg (N := 8) ?hd (cs := #[.bool false, .slice none 0 0]) (t := 24) ?hr ?_; (case hd => rfl); (case hg => rfl); (case hr => first | (go_simp; done) | (go_simp; rfl)); intro gb1038 hg w77 hbox hb; replace HO1036 := Aside0.mk (Kd.R_below HO1036.out hb); have BK1038 := Aside0.mk (hbox); have GW1038 := Aside0.mk (bxLe HB.out hg); have GE1038 := GW1038; replace HB := Aside0.mk (below_step HB.out hb); have NB1031_1038 := Aside0.mk (neL BK1031.out hg); have NB1038_1031 := Aside0.mk (neR BK1031.out hg); replace BK1031 := Aside0.mk (blk_below BK1031.out hb); clear hb hbox hg; have hnb78 := NB1038_1031.out; have hnc78 := NB1031_1038.out; have hcz79_0 := bc0 BK1038.out; have hcz79_1 := bc1 BK1038.out; have hfz79_0 := blk_frozen BK1038.out 0; have hfz79_1 := blk_frozen BK1038.out 1; obtain ⟨Ao80, co80, eo80⟩ := Kd.R_slice HO1036.out; subst eo80) | ((with_reducible refine gate_callee (f := 31) rfl ?_); refine goL (some 40) Tryd.func31 [.string a1] ?_; (with_reducible refine (gudgeonref02_Parse.calls kj4 a1 t1039 t1040 t1043 _ A14.out).mono ?_); rintro e w81 ⟨v1041, rfl, ho0, hb⟩; refine ⟨_, rfl, ?_⟩; have HO1042 := Aside0.mk (Kd.R_lower (Kd.R_new' ho0 (Kd.R_lt (Kd.R_mono (Kd.R_far (p := ⟨gb1038, 1, none⟩) (Kd.R_far (p := ⟨gb1038, 0, none⟩) (Kd.R_types HO1036.out BK1038.out (by decide)) (fun _ hk => hk.2) (.bool t1033)) (fun _ hk => hk.2) (.slice Ao80 t1034.length co80)) (fun _ h_ => h_.1)))) (below_size (by repeat first | exact HB.out | refine bxSet ?_ (by assumption) | apply below_alloc | apply pw_below_drewN))); replace HO1036 := Aside0.mk (Kd.R_elder' (Kd.R_mono (Kd.R_far (p := ⟨gb1038, 1, none⟩) (Kd.R_far (p := ⟨gb1038, 0, none⟩) (Kd.R_types HO1036.out BK1038.out (by decide)) (fun _ hk => hk.2) (.bool t1033)) (fun _ hk => hk.2) (.slice Ao80 t1034.length co80)) (fun _ h_ => h_.1)) (Kd.R_base ho0) hb); replace BK1031 := Aside0.mk (blk_below (g := gb1031) (o := .cells #[.bool a0_0, .slice A0_1 l0_1.length c0_1] 24 (0, 0)) (by refine blk_far ?_ NB1031_1038.out _; refine blk_far ?_ NB1031_1038.out _; exact BK1031.out) hb); replace BK1038 := Aside0.mk (blk_below (g := gb1038) (o := .cells #[.bool t1033, .slice Ao80 t1034.length co80] 24 (0, 0)) (by refine blk_put (cs := #[.bool t1033, .slice none 0 0]) ?_ 1 _ rfl; refine blk_put (cs := #[.bool false, .slice none 0 0]) ?_ 0 _ rfl; exact BK1038.out) hb); replace HB := Aside0.mk (below_step (by repeat first | exact HB.out | refine bxSet ?_ (by assumption) | apply below_alloc | apply pw_below_drewN) hb)) | ((with_reducible refine gate_dst (N := 10) rfl ?_); (try (refine gate_guard (by rfl) ?_; dsimp only)); refine box_event ?hg (N := 10) ?hd (cs := #[.bool false, .slice none 0 0]) (t := 24) ?hr ?_; (case hd => rfl); (case hg => rfl); (case hr => first | (go_simp; done) | (go_simp; rfl)); intro gb1044 hg w82 hbox hb; replace HO1036 := Aside0.mk (Kd.R_below HO1036.out hb); replace HO1042 := Aside0.mk (Kd.R_below HO1042.out hb); have BK1044 := Aside0.mk (hbox); have GW1044 := Aside0.mk (bxLe HB.out hg); have GE1044 := GW1044; replace HB := Aside0.mk (below_step HB.out hb); have NB1031_1044 := Aside0.mk (neL BK1031.out hg); have NB1044_1031 := Aside0.mk (neR BK1031.out hg); replace BK1031 := Aside0.mk (blk_below BK1031.out hb); have NB1038_1044 := Aside0.mk (neL BK1038.out hg); have NB1044_1038 := Aside0.mk (neR BK1038.out hg); replace BK1038 := Aside0.mk (blk_below BK1038.out hb); clear hb hbox hg; have hnb83 := NB1044_1031.out; have hnc83 := NB1031_1044.out; have hnb84 := NB1044_1038.out; have hnc84 := NB1038_1044.out; have hcz85_0 := bc0 BK1044.out; have hcz85_1 := bc1 BK1044.out; have hfz85_0 := blk_frozen BK1044.out 0; have hfz85_1 := blk_frozen BK1044.out 1; obtain ⟨Ao86, co86, eo86⟩ := Kd.R_slice HO1042.out; subst eo86; have hcz87_0 := bc0 BK1038.out; have hcz87_1 := bc1 BK1038.out; have hfz87_0 := blk_frozen BK1038.out 0; have hfz87_1 := blk_frozen BK1038.out 1) | ((with_reducible refine gate_callee (f := 15) rfl ?_); refine goL (some 45) Tryd.func15 [.agg #[.bool t1033, .slice Ao80 t1034.length co80], .agg #[.bool t1039, .slice Ao86 t1040.length co86]] ?_; (with_reducible refine (gudgeonref02_Same.calls kj4 t1033 _ _ t1034 t1039 _ _ t1040 true _ ?side1 ?side2 ?side3 ?side4 A15.out).mono ?_); (case side1 => refine (Kd.R_reads' (e := 51) (base := w.heap.size) (ok := fun k_ => (True ∧ some k_ ≠ (.slice Ao86 t1040.length co86 : Value).ownBlock)) (n := t1034.length) (c := co80) ?_).2.2; exact (Kd.R_mono (Kd.R_far (p := ⟨gb1044, 1, none⟩) (Kd.R_far (p := ⟨gb1044, 0, none⟩) (Kd.R_types HO1036.out BK1044.out (by decide)) (fun _ hk => hk.2) (.bool t1039)) (fun _ hk => hk.2) (.slice Ao86 t1040.length co86)) (fun _ h_ => h_.1))); (case side2 => exact (Kd.R_reads' HO1036.out).2.1); (case side3 => refine (Kd.R_reads' (e := 51) (base := w.heap.size) (ok := fun k_ => (True ∧ some k_ ≠ (.slice Ao80 t1034.length co80 : Value).ownBlock)) (n := t1040.length) (c := co86) ?_).2.2; exact (Kd.R_mono (Kd.R_far (p := ⟨gb1044, 1, none⟩) (Kd.R_far (p := ⟨gb1044, 0, none⟩) (Kd.R_types HO1042.out BK1044.out (by decide)) (fun _ hk => hk.2) (.bool t1039)) (fun _ hk => hk.2) (.slice Ao86 t1040.length co86)) (fun _ h_ => h_.1))); (case side4 => exact (Kd.R_reads' HO1042.out).2.1); rintro e w88 ⟨rfl, hb⟩; refine ⟨_, rfl, ?_⟩; replace HO1036 := Aside0.mk (Kd.R_below (Kd.R_mono (Kd.R_far (p := ⟨gb1044, 1, none⟩) (Kd.R_far (p := ⟨gb1044, 0, none⟩) (Kd.R_types HO1036.out BK1044.out (by decide)) (fun _ hk => hk.2) (.bool t1039)) (fun _ hk => hk.2) (.slice Ao86 t1040.length co86)) (fun _ h_ => h_.1)) hb); replace HO1042 := Aside0.mk (Kd.R_below (Kd.R_mono (Kd.R_far (p := ⟨gb1044, 1, none⟩) (Kd.R_far (p := ⟨gb1044, 0, none⟩) (Kd.R_types HO1042.out BK1044.out (by decide)) (fun _ hk => hk.2) (.bool t1039)) (fun _ hk => hk.2) (.slice Ao86 t1040.length co86)) (fun _ h_ => h_.1)) hb); replace BK1031 := Aside0.mk (blk_below (g := gb1031) (o := .cells #[.bool a0_0, .slice A0_1 l0_1.length c0_1] 24 (0, 0)) (by refine blk_far ?_ NB1031_1044.out _; refine blk_far ?_ NB1031_1044.out _; exact BK1031.out) hb); replace BK1038 := Aside0.mk (blk_below (g := gb1038) (o := .cells #[.bool t1033, .slice Ao80 t1034.length co80] 24 (0, 0)) (by refine blk_far ?_ NB1038_1044.out _; refine blk_far ?_ NB1038_1044.out _; exact BK1038.out) hb); replace BK1044 := Aside0.mk (blk_below (g := gb1044) (o := .cells #[.bool t1039, .slice Ao86 t1040.length co86] 24 (0, 0)) (by refine blk_put (cs := #[.bool t1039, .slice none 0 0]) ?_ 1 _ rfl; refine blk_put (cs := #[.bool false, .slice none 0 0]) ?_ 0 _ rfl; exact BK1044.out) hb); replace HB := Aside0.mk (below_step (by repeat first | exact HB.out | refine bxSet ?_ (by assumption) | apply below_alloc | apply pw_below_drewN) hb); (try clear hb); (try clear hb2); (try clear hk); (try clear hi)) | ((with_reducible refine gate_callee (f := 32) rfl ?_); refine goL (some 47) Tryd.func32 [.int .i64 a2] ?_; (with_reducible refine (whole_Of.calls a2 t1046 t1047 _ A16.out).mono ?_); rintro e w89 ⟨v1048, rfl, ho0, hb⟩; refine ⟨_, rfl, ?_⟩; have HO1049 := Aside0.mk (Kd.R_lower (Kd.R_new' (Kd.R_new' ho0 (Kd.R_lt HO1036.out)) (Kd.R_lt HO1042.out)) (below_size HB.out)); replace HO1036 := Aside0.mk (Kd.R_elder' HO1036.out (Kd.R_base ho0) hb); replace HO1042 := Aside0.mk (Kd.R_elder' HO1042.out (Kd.R_base ho0) hb); replace BK1031 := Aside0.mk (blk_below BK1031.out hb); replace BK1038 := Aside0.mk (blk_below BK1038.out hb); replace BK1044 := Aside0.mk (blk_below BK1044.out hb); replace HB := Aside0.mk (below_step HB.out hb)) | ((with_reducible refine gate_callee (f := 33) rfl ?_); refine goL (some 49) Tryd.func33 [.int .i64 a2] ?_; (with_reducible refine (gudgeonref02_Of.calls kj4 a2 t1050 t1051 _ A17.out).mono ?_); rintro e w90 ⟨v1052, rfl, ho0, hb⟩; refine ⟨_, rfl, ?_⟩; have HO1053 := Aside0.mk (Kd.R_lower (Kd.R_new' (Kd.R_new' (Kd.R_new' ho0 (Kd.R_lt HO1036.out)) (Kd.R_lt HO1042.out)) (Kd.R_lt HO1049.out)) (below_size HB.out)); replace HO1036 := Aside0.mk (Kd.R_elder' HO1036.out (Kd.R_base ho0) hb); replace HO1042 := Aside0.mk (Kd.R_elder' HO1042.out (Kd.R_base ho0) hb); replace HO1049 := Aside0.mk (Kd.R_elder' HO1049.out (Kd.R_base ho0) hb); replace BK1031 := Aside0.mk (blk_below BK1031.out hb); replace BK1038 := Aside0.mk (blk_below BK1038.out hb); replace BK1044 := Aside0.mk (blk_below BK1044.out hb); replace HB := Aside0.mk (below_step HB.out hb); obtain ⟨Ao91, co91, eo91⟩ := Kd.R_slice HO1049.out; subst eo91; obtain ⟨Ao92, co92, eo92⟩ := Kd.R_slice HO1053.out; subst eo92) | ((with_reducible refine gate_callee (f := 15) rfl ?_); refine goL (some 50) Tryd.func15 [.agg #[.bool t1046, .slice Ao91 t1047.length co91], .agg #[.bool t1050, .slice Ao92 t1051.length co92]] ?_; (with_reducible refine (gudgeonref02_Same.calls kj4 t1046 _ _ t1047 t1050 _ _ t1051 true _ ?side1 ?side2 ?side3 ?side4 A18.out).mono ?_); (case side1 => exact (Kd.R_reads' HO1049.out).2.2); (case side2 => exact (Kd.R_reads' HO1049.out).2.1); (case side3 => exact (Kd.R_reads' HO1053.out).2.2); (case side4 => exact (Kd.R_reads' HO1053.out).2.1); rintro e w93 ⟨rfl, hb⟩; refine ⟨_, rfl, ?_⟩; replace HO1036 := Aside0.mk (Kd.R_below HO1036.out hb); replace HO1042 := Aside0.mk (Kd.R_below HO1042.out hb); replace HO1049 := Aside0.mk (Kd.R_below HO1049.out hb); replace HO1053 := Aside0.mk (Kd.R_below HO1053.out hb); replace BK1031 := Aside0.mk (blk_below BK1031.out hb); replace BK1038 := Aside0.mk (blk_below BK1038.out hb); replace BK1044 := Aside0.mk (blk_below BK1044.out hb); replace HB := Aside0.mk (below_step HB.out hb); (try clear hb); (try clear hb2); (try clear hk); (try clear hi); have hcz94_0 := bc0 BK1031.out; have hcz94_1 := bc1 BK1031.out; have hfz94_0 := blk_frozen BK1031.out 0; have hfz94_1 := blk_frozen BK1031.out 1) | ((with_reducible refine gate_callee (f := 34) rfl ?_); refine goL (some 53) Tryd.func34 [.agg #[.bool a0_0, .slice A0_1 l0_1.length c0_1]] ?_; (with_reducible refine (whole_Int.calls kj4 a0_0 _ _ l0_1 t1055 t1056 _ ?side1 ?side2 A19.out).mono ?_); (case side1 => exact (Kd.C_below HR0_1.out HB.out)); (case side2 => exact HC0_1.out); rintro e w95 ⟨rfl, hb⟩; refine ⟨_, rfl, ?_⟩; replace HO1036 := Aside0.mk (Kd.R_below HO1036.out hb); replace HO1042 := Aside0.mk (Kd.R_below HO1042.out hb); replace HO1049 := Aside0.mk (Kd.R_below HO1049.out hb); replace HO1053 := Aside0.mk (Kd.R_below HO1053.out hb); replace BK1031 := Aside0.mk (blk_below BK1031.out hb); replace BK1038 := Aside0.mk (blk_below BK1038.out hb); replace BK1044 := Aside0.mk (blk_below BK1044.out hb); replace HB := Aside0.mk (below_step HB.out hb); (try clear hb); (try clear hb2); (try clear hk); (try clear hi); have hcz96_0 := bc0 BK1031.out; have hcz96_1 := bc1 BK1031.out; have hfz96_0 := blk_frozen BK1031.out 0; have hfz96_1 := blk_frozen BK1031.out 1) | ((with_reducible refine gate_callee (f := 35) rfl ?_); refine goL (some 58) Tryd.func35 [.agg #[.bool a0_0, .slice A0_1 l0_1.length c0_1]] ?_; (with_reducible refine (gudgeonref02_Int.calls kj4 a0_0 _ _ l0_1 t1057 t1058 _ ?side1 ?side2 A20.out).mono ?_); (case side1 => exact (Kd.C_below HR0_1.out HB.out)); (case side2 => exact HC0_1.out); rintro e w97 ⟨rfl, hb⟩; refine ⟨_, rfl, ?_⟩; replace HO1036 := Aside0.mk (Kd.R_below HO1036.out hb); replace HO1042 := Aside0.mk (Kd.R_below HO1042.out hb); replace HO1049 := Aside0.mk (Kd.R_below HO1049.out hb); replace HO1053 := Aside0.mk (Kd.R_below HO1053.out hb); replace BK1031 := Aside0.mk (blk_below BK1031.out hb); replace BK1038 := Aside0.mk (blk_below BK1038.out hb); replace BK1044 := Aside0.mk (blk_below BK1044.out hb); replace HB := Aside0.mk (below_step HB.out hb); (try clear hb); (try clear hb2); (try clear hk); (try clear hi)))
        replace HO1036 := Aside0.mk (Kd.R_drew HO1036.out)
        replace HO1042 := Aside0.mk (Kd.R_drew HO1042.out)
        replace HO1049 := Aside0.mk (Kd.R_drew HO1049.out)
        replace HO1053 := Aside0.mk (Kd.R_drew HO1053.out)
        replace BK1031 := Aside0.mk (blk_drew BK1031.out)
        replace BK1038 := Aside0.mk (blk_drew BK1038.out)
        replace BK1044 := Aside0.mk (blk_drew BK1044.out)
        replace HB := Aside0.mk (below_drew1 HB.out)
        refine start_ (n := 27) (S := fun w' => True) (ds := []) #[false, false, false, false, false, false, false, false, false, false, false, false, false, false, false, false, false, false, false, false, false, false, false, false, false, false, false] (by kernel_rfl) rfl rfl trivial (fun hHeld => ?_); refine with_tabW gudgeonlaw02_WholeTexts.tab10 gudgeonlaw02_WholeTexts.bits10 (fun HT_ HW_ => ?_)
        generalize w97.drew = w98 at HO1036 HO1042 HO1049 HO1053 BK1031 BK1038 BK1044 HB hHeld ⊢
        refine pure_ (i := 0) (N := some 61) (v := ?_) (a' := ?_) #[true, false, false, false, false, false, false, false, false, false, false, false, false, false, false, false, false, false, false, false, false, false, false, false, false, false, false] rfl rfl (any_of HT_.out (by kernel_rfl)) (fun _ _ _ h => h) (Or.inl ⟨by rfl, ?_⟩) ?_ ?_
        rotate_left
        ·intro w'
         go_simp
         with_reducible rfl
        rotate_left
        ·simp only [Act.put, List.setIfInBounds_toArray, List.set_cons_zero, List.set_cons_succ, i64_w, i32_w]
         rfl
        refine pure_ (i := 1) (N := some 62) (v := ?_) (a' := ?_) #[true, true, false, false, false, false, false, false, false, false, false, false, false, false, false, false, false, false, false, false, false, false, false, false, false, false, false] rfl rfl (any_of HT_.out (by kernel_rfl)) (fun _ _ _ h => h) (Or.inl ⟨by rfl, ?_⟩) ?_ ?_
        rotate_left
        ·intro w'
         go_simp
         with_reducible rfl
        rotate_left
        ·simp only [Act.put, List.setIfInBounds_toArray, List.set_cons_zero, List.set_cons_succ, i64_w, i32_w]
         rfl
        refine pure_ (i := 2) (N := some 63) (v := ?_) (a' := ?_) #[true, true, true, false, false, false, false, false, false, false, false, false, false, false, false, false, false, false, false, false, false, false, false, false, false, false, false] rfl rfl (any_of HT_.out (by kernel_rfl)) (fun _ _ _ h => h) (Or.inl ⟨by rfl, ?_⟩) ?_ ?_
        rotate_left
        ·intro w'
         go_simp
         with_reducible rfl
        rotate_left
        ·simp only [Act.put, List.setIfInBounds_toArray, List.set_cons_zero, List.set_cons_succ, i64_w, i32_w]
         rfl
        refine pure_ (i := 3) (N := some 64) (v := ?_) (a' := ?_) #[true, true, true, true, false, false, false, false, false, false, false, false, false, false, false, false, false, false, false, false, false, false, false, false, false, false, false] rfl rfl (any_of HT_.out (by kernel_rfl)) (fun _ _ _ h => h) (Or.inl ⟨by rfl, ?_⟩) ?_ ?_
        rotate_left
        ·intro w'
         go_simp
         with_reducible rfl
        rotate_left
        ·simp only [Act.put, List.setIfInBounds_toArray, List.set_cons_zero, List.set_cons_succ, i64_w, i32_w]
         rfl
        refine pure_ (i := 4) (N := some 65) (v := ?_) (a' := ?_) #[true, true, true, true, true, false, false, false, false, false, false, false, false, false, false, false, false, false, false, false, false, false, false, false, false, false, false] rfl rfl (any_of HT_.out (by kernel_rfl)) (fun _ _ _ h => h) (Or.inl ⟨by rfl, ?_⟩) ?_ ?_
        rotate_left
        ·intro w'
         go_simp
         with_reducible rfl
        rotate_left
        ·simp only [Act.put, List.setIfInBounds_toArray, List.set_cons_zero, List.set_cons_succ, i64_w, i32_w]
         rfl
        refine pure_ (i := 5) (N := some 66) (v := ?_) (a' := ?_) #[true, true, true, true, true, true, false, false, false, false, false, false, false, false, false, false, false, false, false, false, false, false, false, false, false, false, false] rfl rfl (any_of HT_.out (by kernel_rfl)) (fun _ _ _ h => h) (Or.inl ⟨by rfl, ?_⟩) ?_ ?_
        rotate_left
        ·intro w'
         go_simp
         with_reducible rfl
        rotate_left
        ·simp only [Act.put, List.setIfInBounds_toArray, List.set_cons_zero, List.set_cons_succ, i64_w, i32_w]
         rfl
        refine pure_ (i := 6) (N := some 67) (v := ?_) (a' := ?_) #[true, true, true, true, true, true, true, false, false, false, false, false, false, false, false, false, false, false, false, false, false, false, false, false, false, false, false] rfl rfl (any_of HT_.out (by kernel_rfl)) (fun _ _ _ h => h) (Or.inl ⟨by rfl, ?_⟩) ?_ ?_
        rotate_left
        ·intro w'
         go_simp
         with_reducible rfl
        rotate_left
        ·simp only [Act.put, List.setIfInBounds_toArray, List.set_cons_zero, List.set_cons_succ, i64_w, i32_w]
         rfl
        refine pure_ (i := 7) (N := some 68) (v := ?_) (a' := ?_) #[true, true, true, true, true, true, true, true, false, false, false, false, false, false, false, false, false, false, false, false, false, false, false, false, false, false, false] rfl rfl (any_of HT_.out (by kernel_rfl)) (fun _ _ _ h => h) (Or.inl ⟨by rfl, ?_⟩) ?_ ?_
        rotate_left
        ·intro w'
         go_simp
         with_reducible rfl
        rotate_left
        ·simp only [Act.put, List.setIfInBounds_toArray, List.set_cons_zero, List.set_cons_succ, i64_w, i32_w]
         rfl
        refine pure_ (i := 8) (N := some 69) (v := ?_) (a' := ?_) #[true, true, true, true, true, true, true, true, true, false, false, false, false, false, false, false, false, false, false, false, false, false, false, false, false, false, false] rfl rfl (any_of HT_.out (by kernel_rfl)) (fun _ _ _ h => h) (Or.inl ⟨by rfl, ?_⟩) ?_ ?_
        rotate_left
        ·intro w'
         go_simp
         with_reducible rfl
        rotate_left
        ·simp only [Act.put, List.setIfInBounds_toArray, List.set_cons_zero, List.set_cons_succ, i64_w, i32_w]
         rfl
        refine pure_ (i := 9) (N := some 70) (v := ?_) (a' := ?_) #[true, true, true, true, true, true, true, true, true, true, false, false, false, false, false, false, false, false, false, false, false, false, false, false, false, false, false] rfl rfl (any_of HT_.out (by kernel_rfl)) (fun _ _ _ h => h) (Or.inl ⟨by rfl, ?_⟩) ?_ ?_
        rotate_left
        ·intro w'
         go_simp
         with_reducible rfl
        rotate_left
        ·simp only [Act.put, List.setIfInBounds_toArray, List.set_cons_zero, List.set_cons_succ, i64_w, i32_w]
         rfl
        refine pure_ (i := 10) (N := some 71) (v := ?_) (a' := ?_) #[true, true, true, true, true, true, true, true, true, true, true, false, false, false, false, false, false, false, false, false, false, false, false, false, false, false, false] rfl rfl (any_of HT_.out (by kernel_rfl)) (fun _ _ _ h => h) (Or.inl ⟨by rfl, ?_⟩) ?_ ?_
        rotate_left
        ·intro w'
         go_simp
         with_reducible rfl
        rotate_left
        ·simp only [Act.put, List.setIfInBounds_toArray, List.set_cons_zero, List.set_cons_succ, i64_w, i32_w]
         rfl
        refine pure_ (i := 11) (N := some 72) (v := ?_) (a' := ?_) #[true, true, true, true, true, true, true, true, true, true, true, true, false, false, false, false, false, false, false, false, false, false, false, false, false, false, false] rfl rfl (any_of HT_.out (by kernel_rfl)) (fun _ _ _ h => h) (Or.inl ⟨by rfl, ?_⟩) ?_ ?_
        rotate_left
        ·intro w'
         go_simp
         with_reducible rfl
        rotate_left
        ·simp only [Act.put, List.setIfInBounds_toArray, List.set_cons_zero, List.set_cons_succ, i64_w, i32_w]
         rfl
        refine pure_ (i := 12) (N := some 73) (v := ?_) (a' := ?_) #[true, true, true, true, true, true, true, true, true, true, true, true, true, false, false, false, false, false, false, false, false, false, false, false, false, false, false] rfl rfl (any_of HT_.out (by kernel_rfl)) (fun _ _ _ h => h) (Or.inl ⟨by rfl, ?_⟩) ?_ ?_
        rotate_left
        ·intro w'
         go_simp
         with_reducible rfl
        rotate_left
        ·simp only [Act.put, List.setIfInBounds_toArray, List.set_cons_zero, List.set_cons_succ, i64_w, i32_w]
         rfl
        refine pure_ (i := 13) (N := some 74) (v := ?_) (a' := ?_) #[true, true, true, true, true, true, true, true, true, true, true, true, true, true, false, false, false, false, false, false, false, false, false, false, false, false, false] rfl rfl (any_of HT_.out (by kernel_rfl)) (fun _ _ _ h => h) (Or.inl ⟨by rfl, ?_⟩) ?_ ?_
        rotate_left
        ·intro w'
         go_simp
         with_reducible rfl
        rotate_left
        ·simp only [Act.put, List.setIfInBounds_toArray, List.set_cons_zero, List.set_cons_succ, i64_w, i32_w]
         rfl
        refine pure_ (i := 14) (N := some 75) (v := ?_) (a' := ?_) #[true, true, true, true, true, true, true, true, true, true, true, true, true, true, true, false, false, false, false, false, false, false, false, false, false, false, false] rfl rfl (any_of HT_.out (by kernel_rfl)) (fun _ _ _ h => h) (Or.inl ⟨by rfl, ?_⟩) ?_ ?_
        rotate_left
        ·intro w'
         go_simp
         with_reducible rfl
        rotate_left
        ·simp only [Act.put, List.setIfInBounds_toArray, List.set_cons_zero, List.set_cons_succ, i64_w, i32_w]
         rfl
        refine pure_ (i := 15) (N := some 76) (v := undef) (a' := ?_) #[true, true, true, true, true, true, true, true, true, true, true, true, true, true, true, true, false, false, false, false, false, false, false, false, false, false, false] rfl rfl (any_of HT_.out (by kernel_rfl)) (fun _ _ _ h => h) (Or.inr ⟨by rfl, rfl⟩) ?_ ?_
        rotate_left
        ·simp only [Act.put, List.setIfInBounds_toArray, List.set_cons_zero, List.set_cons_succ, i64_w, i32_w]
         rfl
        refine pure_ (i := 16) (N := some 77) (v := undef) (a' := ?_) #[true, true, true, true, true, true, true, true, true, true, true, true, true, true, true, true, true, false, false, false, false, false, false, false, false, false, false] rfl rfl (any_of HT_.out (by kernel_rfl)) (fun _ _ _ h => h) (Or.inr ⟨by rfl, rfl⟩) ?_ ?_
        rotate_left
        ·simp only [Act.put, List.setIfInBounds_toArray, List.set_cons_zero, List.set_cons_succ, i64_w, i32_w]
         rfl
        refine pure_ (i := 17) (N := some 78) (v := undef) (a' := ?_) #[true, true, true, true, true, true, true, true, true, true, true, true, true, true, true, true, true, true, false, false, false, false, false, false, false, false, false] rfl rfl (any_of HT_.out (by kernel_rfl)) (fun _ _ _ h => h) (Or.inr ⟨by rfl, rfl⟩) ?_ ?_
        rotate_left
        ·simp only [Act.put, List.setIfInBounds_toArray, List.set_cons_zero, List.set_cons_succ, i64_w, i32_w]
         rfl
        refine pure_ (i := 18) (N := some 79) (v := ?_) (a' := ?_) #[true, true, true, true, true, true, true, true, true, true, true, true, true, true, true, true, true, true, true, false, false, false, false, false, false, false, false] rfl rfl (any_of HT_.out (by kernel_rfl)) (fun _ _ _ h => h) (Or.inl ⟨by rfl, ?_⟩) ?_ ?_
        rotate_left
        ·intro w'
         go_simp
         with_reducible rfl
        rotate_left
        ·simp only [Act.put, List.setIfInBounds_toArray, List.set_cons_zero, List.set_cons_succ, i64_w, i32_w]
         rfl
        refine pure_ (i := 19) (N := some 80) (v := ?_) (a' := ?_) #[true, true, true, true, true, true, true, true, true, true, true, true, true, true, true, true, true, true, true, true, false, false, false, false, false, false, false] rfl rfl (any_of HT_.out (by kernel_rfl)) (fun _ _ _ h => h) (Or.inl ⟨by rfl, ?_⟩) ?_ ?_
        rotate_left
        ·intro w'
         go_simp
         with_reducible rfl
        rotate_left
        ·simp only [Act.put, List.setIfInBounds_toArray, List.set_cons_zero, List.set_cons_succ, i64_w, i32_w]
         rfl
        refine pure_ (i := 20) (N := some 81) (v := undef) (a' := ?_) #[true, true, true, true, true, true, true, true, true, true, true, true, true, true, true, true, true, true, true, true, true, false, false, false, false, false, false] rfl rfl (any_of HT_.out (by kernel_rfl)) (fun _ _ _ h => h) (Or.inr ⟨by rfl, rfl⟩) ?_ ?_
        rotate_left
        ·simp only [Act.put, List.setIfInBounds_toArray, List.set_cons_zero, List.set_cons_succ, i64_w, i32_w]
         rfl
        refine pure_ (i := 21) (N := some 82) (v := undef) (a' := ?_) #[true, true, true, true, true, true, true, true, true, true, true, true, true, true, true, true, true, true, true, true, true, true, false, false, false, false, false] rfl rfl (any_of HT_.out (by kernel_rfl)) (fun _ _ _ h => h) (Or.inr ⟨by rfl, rfl⟩) ?_ ?_
        rotate_left
        ·simp only [Act.put, List.setIfInBounds_toArray, List.set_cons_zero, List.set_cons_succ, i64_w, i32_w]
         rfl
        refine pure_ (i := 22) (N := some 83) (v := undef) (a' := ?_) #[true, true, true, true, true, true, true, true, true, true, true, true, true, true, true, true, true, true, true, true, true, true, true, false, false, false, false] rfl rfl (any_of HT_.out (by kernel_rfl)) (fun _ _ _ h => h) (Or.inr ⟨by rfl, rfl⟩) ?_ ?_
        rotate_left
        ·simp only [Act.put, List.setIfInBounds_toArray, List.set_cons_zero, List.set_cons_succ, i64_w, i32_w]
         rfl
        refine pure_ (i := 23) (N := some 84) (v := undef) (a' := ?_) #[true, true, true, true, true, true, true, true, true, true, true, true, true, true, true, true, true, true, true, true, true, true, true, true, false, false, false] rfl rfl (any_of HT_.out (by kernel_rfl)) (fun _ _ _ h => h) (Or.inr ⟨by rfl, rfl⟩) ?_ ?_
        rotate_left
        ·simp only [Act.put, List.setIfInBounds_toArray, List.set_cons_zero, List.set_cons_succ, i64_w, i32_w]
         rfl
        refine pure_ (i := 24) (N := some 85) (v := undef) (a' := ?_) #[true, true, true, true, true, true, true, true, true, true, true, true, true, true, true, true, true, true, true, true, true, true, true, true, true, false, false] rfl rfl (any_of HT_.out (by kernel_rfl)) (fun _ _ _ h => h) (Or.inr ⟨by rfl, rfl⟩) ?_ ?_
        rotate_left
        ·simp only [Act.put, List.setIfInBounds_toArray, List.set_cons_zero, List.set_cons_succ, i64_w, i32_w]
         rfl
        refine pure_ (i := 25) (N := some 86) (v := ?_) (a' := ?_) #[true, true, true, true, true, true, true, true, true, true, true, true, true, true, true, true, true, true, true, true, true, true, true, true, true, true, false] rfl rfl (any_of HT_.out (by kernel_rfl)) (fun _ _ _ h => h) (Or.inl ⟨by rfl, ?_⟩) ?_ ?_
        rotate_left
        ·intro w'
         go_simp
         with_reducible rfl
        rotate_left
        ·simp only [Act.put, List.setIfInBounds_toArray, List.set_cons_zero, List.set_cons_succ, i64_w, i32_w]
         rfl
        refine pure_ (i := 26) (N := some 6) (v := ?_) (a' := ?_) #[true, true, true, true, true, true, true, true, true, true, true, true, true, true, true, true, true, true, true, true, true, true, true, true, true, true, true] rfl rfl (any_of HT_.out (by kernel_rfl)) (fun _ _ _ h => h) (Or.inl ⟨by rfl, ?_⟩) ?_ ?_
        rotate_left
        ·intro w'
         go_simp
         with_reducible rfl
        rotate_left
        ·simp only [Act.put, List.setIfInBounds_toArray, List.set_cons_zero, List.set_cons_succ, i64_w, i32_w]
         rfl
        refine done_ (done_of HT_.out (by kernel_rfl)) ?_
        try go_wp2
        go_ret
        exact ⟨by first | rfl | (simp [errW_none, errW_some] <;> rfl) | (refine congrArg (fun z_ => Ending.returned (Value.bool z_)) (decide_eq_decide.mpr ?_); unfold wrap64; omega) | (simp [*, errW_none, errW_some] <;> rfl), by repeat (first | (with_reducible first | exact HB.out | apply below_alloc | apply pw_below_drewN | apply below_drew1 | refine below_set ?_ GE1031.out | refine below_set ?_ GE1038.out | refine below_set ?_ GE1044.out) | exact HB.out)⟩
      ·rw [if_neg c23] at H
       have c23b0 : (t1037 == t1043) = false := beq_eq_false_iff_ne.mpr c23
       have c23b1 : (t1037 != t1043) = true := bne_iff_ne.mpr c23
       obtain rfl := Option.some.inj H
       try go_wp2_with (first | ((with_reducible refine gate_callee (f := 30) rfl ?_); refine goL (some 35) Tryd.func30 [.string a1] ?_; (with_reducible refine (whole_Parse.calls kj4 a1 t1033 t1034 t1037 _ A13.out).mono ?_); rintro e w99 ⟨v1035, rfl, ho0, hb⟩; refine ⟨_, rfl, ?_⟩; have HO1036 := Aside0.mk (Kd.R_lower ho0 (below_size HB.out)); replace BK1031 := Aside0.mk (blk_below BK1031.out hb); replace HB := Aside0.mk (below_step HB.out hb)) | ((with_reducible refine gate_dst (N := 8) rfl ?_); (try (refine gate_guard (by rfl) ?_; dsimp only)); refine box_event ?hg (N := 8) ?hd (cs := #[.bool false, .slice none 0 0]) (t := 24) ?hr ?_; (case hd => rfl); (case hg => rfl); (case hr => first | (go_simp; done) | (go_simp; rfl)); intro gb1038 hg w100 hbox hb; replace HO1036 := Aside0.mk (Kd.R_below HO1036.out hb); have BK1038 := Aside0.mk (hbox); have GW1038 := Aside0.mk (bxLe HB.out hg); have GE1038 := GW1038; replace HB := Aside0.mk (below_step HB.out hb); have NB1031_1038 := Aside0.mk (neL BK1031.out hg); have NB1038_1031 := Aside0.mk (neR BK1031.out hg); replace BK1031 := Aside0.mk (blk_below BK1031.out hb); clear hb hbox hg; have hnb101 := NB1038_1031.out; have hnc101 := NB1031_1038.out; have hcz102_0 := bc0 BK1038.out; have hcz102_1 := bc1 BK1038.out; have hfz102_0 := blk_frozen BK1038.out 0; have hfz102_1 := blk_frozen BK1038.out 1; obtain ⟨Ao103, co103, eo103⟩ := Kd.R_slice HO1036.out; subst eo103) | ((with_reducible refine gate_callee (f := 31) rfl ?_); refine goL (some 40) Tryd.func31 [.string a1] ?_; (with_reducible refine (gudgeonref02_Parse.calls kj4 a1 t1039 t1040 t1043 _ A14.out).mono ?_); rintro e w104 ⟨v1041, rfl, ho0, hb⟩; refine ⟨_, rfl, ?_⟩; have HO1042 := Aside0.mk (Kd.R_lower (Kd.R_new' ho0 (Kd.R_lt (Kd.R_mono (Kd.R_far (p := ⟨gb1038, 1, none⟩) (Kd.R_far (p := ⟨gb1038, 0, none⟩) (Kd.R_types HO1036.out BK1038.out (by decide)) (fun _ hk => hk.2) (.bool t1033)) (fun _ hk => hk.2) (.slice Ao103 t1034.length co103)) (fun _ h_ => h_.1)))) (below_size (by repeat first | exact HB.out | refine bxSet ?_ (by assumption) | apply below_alloc | apply pw_below_drewN))); replace HO1036 := Aside0.mk (Kd.R_elder' (Kd.R_mono (Kd.R_far (p := ⟨gb1038, 1, none⟩) (Kd.R_far (p := ⟨gb1038, 0, none⟩) (Kd.R_types HO1036.out BK1038.out (by decide)) (fun _ hk => hk.2) (.bool t1033)) (fun _ hk => hk.2) (.slice Ao103 t1034.length co103)) (fun _ h_ => h_.1)) (Kd.R_base ho0) hb); replace BK1031 := Aside0.mk (blk_below (g := gb1031) (o := .cells #[.bool a0_0, .slice A0_1 l0_1.length c0_1] 24 (0, 0)) (by refine blk_far ?_ NB1031_1038.out _; refine blk_far ?_ NB1031_1038.out _; exact BK1031.out) hb); replace BK1038 := Aside0.mk (blk_below (g := gb1038) (o := .cells #[.bool t1033, .slice Ao103 t1034.length co103] 24 (0, 0)) (by refine blk_put (cs := #[.bool t1033, .slice none 0 0]) ?_ 1 _ rfl; refine blk_put (cs := #[.bool false, .slice none 0 0]) ?_ 0 _ rfl; exact BK1038.out) hb); replace HB := Aside0.mk (below_step (by repeat first | exact HB.out | refine bxSet ?_ (by assumption) | apply below_alloc | apply pw_below_drewN) hb)) | ((with_reducible refine gate_dst (N := 10) rfl ?_); (try (refine gate_guard (by rfl) ?_; dsimp only)); refine box_event ?hg (N := 10) ?hd (cs := #[.bool false, .slice none 0 0]) (t := 24) ?hr ?_; (case hd => rfl); (case hg => rfl); (case hr => first | (go_simp; done) | (go_simp; rfl)); intro gb1044 hg w105 hbox hb; replace HO1036 := Aside0.mk (Kd.R_below HO1036.out hb); replace HO1042 := Aside0.mk (Kd.R_below HO1042.out hb); have BK1044 := Aside0.mk (hbox); have GW1044 := Aside0.mk (bxLe HB.out hg); have GE1044 := GW1044; replace HB := Aside0.mk (below_step HB.out hb); have NB1031_1044 := Aside0.mk (neL BK1031.out hg); have NB1044_1031 := Aside0.mk (neR BK1031.out hg); replace BK1031 := Aside0.mk (blk_below BK1031.out hb); have NB1038_1044 := Aside0.mk (neL BK1038.out hg); have NB1044_1038 := Aside0.mk (neR BK1038.out hg); replace BK1038 := Aside0.mk (blk_below BK1038.out hb); clear hb hbox hg; have hnb106 := NB1044_1031.out; have hnc106 := NB1031_1044.out; have hnb107 := NB1044_1038.out; have hnc107 := NB1038_1044.out; have hcz108_0 := bc0 BK1044.out; have hcz108_1 := bc1 BK1044.out; have hfz108_0 := blk_frozen BK1044.out 0; have hfz108_1 := blk_frozen BK1044.out 1; obtain ⟨Ao109, co109, eo109⟩ := Kd.R_slice HO1042.out; subst eo109; have hcz110_0 := bc0 BK1038.out; have hcz110_1 := bc1 BK1038.out; have hfz110_0 := blk_frozen BK1038.out 0; have hfz110_1 := blk_frozen BK1038.out 1) | ((with_reducible refine gate_callee (f := 15) rfl ?_); refine goL (some 45) Tryd.func15 [.agg #[.bool t1033, .slice Ao103 t1034.length co103], .agg #[.bool t1039, .slice Ao109 t1040.length co109]] ?_; (with_reducible refine (gudgeonref02_Same.calls kj4 t1033 _ _ t1034 t1039 _ _ t1040 true _ ?side1 ?side2 ?side3 ?side4 A15.out).mono ?_); (case side1 => refine (Kd.R_reads' (e := 51) (base := w.heap.size) (ok := fun k_ => (True ∧ some k_ ≠ (.slice Ao109 t1040.length co109 : Value).ownBlock)) (n := t1034.length) (c := co103) ?_).2.2; exact (Kd.R_mono (Kd.R_far (p := ⟨gb1044, 1, none⟩) (Kd.R_far (p := ⟨gb1044, 0, none⟩) (Kd.R_types HO1036.out BK1044.out (by decide)) (fun _ hk => hk.2) (.bool t1039)) (fun _ hk => hk.2) (.slice Ao109 t1040.length co109)) (fun _ h_ => h_.1))); (case side2 => exact (Kd.R_reads' HO1036.out).2.1); (case side3 => refine (Kd.R_reads' (e := 51) (base := w.heap.size) (ok := fun k_ => (True ∧ some k_ ≠ (.slice Ao103 t1034.length co103 : Value).ownBlock)) (n := t1040.length) (c := co109) ?_).2.2; exact (Kd.R_mono (Kd.R_far (p := ⟨gb1044, 1, none⟩) (Kd.R_far (p := ⟨gb1044, 0, none⟩) (Kd.R_types HO1042.out BK1044.out (by decide)) (fun _ hk => hk.2) (.bool t1039)) (fun _ hk => hk.2) (.slice Ao109 t1040.length co109)) (fun _ h_ => h_.1))); (case side4 => exact (Kd.R_reads' HO1042.out).2.1); rintro e w111 ⟨rfl, hb⟩; refine ⟨_, rfl, ?_⟩; replace HO1036 := Aside0.mk (Kd.R_below (Kd.R_mono (Kd.R_far (p := ⟨gb1044, 1, none⟩) (Kd.R_far (p := ⟨gb1044, 0, none⟩) (Kd.R_types HO1036.out BK1044.out (by decide)) (fun _ hk => hk.2) (.bool t1039)) (fun _ hk => hk.2) (.slice Ao109 t1040.length co109)) (fun _ h_ => h_.1)) hb); replace HO1042 := Aside0.mk (Kd.R_below (Kd.R_mono (Kd.R_far (p := ⟨gb1044, 1, none⟩) (Kd.R_far (p := ⟨gb1044, 0, none⟩) (Kd.R_types HO1042.out BK1044.out (by decide)) (fun _ hk => hk.2) (.bool t1039)) (fun _ hk => hk.2) (.slice Ao109 t1040.length co109)) (fun _ h_ => h_.1)) hb); replace BK1031 := Aside0.mk (blk_below (g := gb1031) (o := .cells #[.bool a0_0, .slice A0_1 l0_1.length c0_1] 24 (0, 0)) (by refine blk_far ?_ NB1031_1044.out _; refine blk_far ?_ NB1031_1044.out _; exact BK1031.out) hb); replace BK1038 := Aside0.mk (blk_below (g := gb1038) (o := .cells #[.bool t1033, .slice Ao103 t1034.length co103] 24 (0, 0)) (by refine blk_far ?_ NB1038_1044.out _; refine blk_far ?_ NB1038_1044.out _; exact BK1038.out) hb); replace BK1044 := Aside0.mk (blk_below (g := gb1044) (o := .cells #[.bool t1039, .slice Ao109 t1040.length co109] 24 (0, 0)) (by refine blk_put (cs := #[.bool t1039, .slice none 0 0]) ?_ 1 _ rfl; refine blk_put (cs := #[.bool false, .slice none 0 0]) ?_ 0 _ rfl; exact BK1044.out) hb); replace HB := Aside0.mk (below_step (by repeat first | exact HB.out | refine bxSet ?_ (by assumption) | apply below_alloc | apply pw_below_drewN) hb); (try clear hb); (try clear hb2); (try clear hk); (try clear hi)) | ((with_reducible refine gate_callee (f := 32) rfl ?_); refine goL (some 47) Tryd.func32 [.int .i64 a2] ?_; (with_reducible refine (whole_Of.calls a2 t1046 t1047 _ A16.out).mono ?_); rintro e w112 ⟨v1048, rfl, ho0, hb⟩; refine ⟨_, rfl, ?_⟩; have HO1049 := Aside0.mk (Kd.R_lower (Kd.R_new' (Kd.R_new' ho0 (Kd.R_lt HO1036.out)) (Kd.R_lt HO1042.out)) (below_size HB.out)); replace HO1036 := Aside0.mk (Kd.R_elder' HO1036.out (Kd.R_base ho0) hb); replace HO1042 := Aside0.mk (Kd.R_elder' HO1042.out (Kd.R_base ho0) hb); replace BK1031 := Aside0.mk (blk_below BK1031.out hb); replace BK1038 := Aside0.mk (blk_below BK1038.out hb); replace BK1044 := Aside0.mk (blk_below BK1044.out hb); replace HB := Aside0.mk (below_step HB.out hb)) | ((with_reducible refine gate_callee (f := 33) rfl ?_); refine goL (some 49) Tryd.func33 [.int .i64 a2] ?_; (with_reducible refine (gudgeonref02_Of.calls kj4 a2 t1050 t1051 _ A17.out).mono ?_); rintro e w113 ⟨v1052, rfl, ho0, hb⟩; refine ⟨_, rfl, ?_⟩; have HO1053 := Aside0.mk (Kd.R_lower (Kd.R_new' (Kd.R_new' (Kd.R_new' ho0 (Kd.R_lt HO1036.out)) (Kd.R_lt HO1042.out)) (Kd.R_lt HO1049.out)) (below_size HB.out)); replace HO1036 := Aside0.mk (Kd.R_elder' HO1036.out (Kd.R_base ho0) hb); replace HO1042 := Aside0.mk (Kd.R_elder' HO1042.out (Kd.R_base ho0) hb); replace HO1049 := Aside0.mk (Kd.R_elder' HO1049.out (Kd.R_base ho0) hb); replace BK1031 := Aside0.mk (blk_below BK1031.out hb); replace BK1038 := Aside0.mk (blk_below BK1038.out hb); replace BK1044 := Aside0.mk (blk_below BK1044.out hb); replace HB := Aside0.mk (below_step HB.out hb); obtain ⟨Ao114, co114, eo114⟩ := Kd.R_slice HO1049.out; subst eo114; obtain ⟨Ao115, co115, eo115⟩ := Kd.R_slice HO1053.out; subst eo115) | ((with_reducible refine gate_callee (f := 15) rfl ?_); refine goL (some 50) Tryd.func15 [.agg #[.bool t1046, .slice Ao114 t1047.length co114], .agg #[.bool t1050, .slice Ao115 t1051.length co115]] ?_; (with_reducible refine (gudgeonref02_Same.calls kj4 t1046 _ _ t1047 t1050 _ _ t1051 true _ ?side1 ?side2 ?side3 ?side4 A18.out).mono ?_); (case side1 => exact (Kd.R_reads' HO1049.out).2.2); (case side2 => exact (Kd.R_reads' HO1049.out).2.1); (case side3 => exact (Kd.R_reads' HO1053.out).2.2); (case side4 => exact (Kd.R_reads' HO1053.out).2.1); rintro e w116 ⟨rfl, hb⟩; refine ⟨_, rfl, ?_⟩; replace HO1036 := Aside0.mk (Kd.R_below HO1036.out hb); replace HO1042 := Aside0.mk (Kd.R_below HO1042.out hb); replace HO1049 := Aside0.mk (Kd.R_below HO1049.out hb); replace HO1053 := Aside0.mk (Kd.R_below HO1053.out hb); replace BK1031 := Aside0.mk (blk_below BK1031.out hb); replace BK1038 := Aside0.mk (blk_below BK1038.out hb); replace BK1044 := Aside0.mk (blk_below BK1044.out hb); replace HB := Aside0.mk (below_step HB.out hb); (try clear hb); (try clear hb2); (try clear hk); (try clear hi); have hcz117_0 := bc0 BK1031.out; have hcz117_1 := bc1 BK1031.out; have hfz117_0 := blk_frozen BK1031.out 0; have hfz117_1 := blk_frozen BK1031.out 1) | ((with_reducible refine gate_callee (f := 34) rfl ?_); refine goL (some 53) Tryd.func34 [.agg #[.bool a0_0, .slice A0_1 l0_1.length c0_1]] ?_; (with_reducible refine (whole_Int.calls kj4 a0_0 _ _ l0_1 t1055 t1056 _ ?side1 ?side2 A19.out).mono ?_); (case side1 => exact (Kd.C_below HR0_1.out HB.out)); (case side2 => exact HC0_1.out); rintro e w118 ⟨rfl, hb⟩; refine ⟨_, rfl, ?_⟩; replace HO1036 := Aside0.mk (Kd.R_below HO1036.out hb); replace HO1042 := Aside0.mk (Kd.R_below HO1042.out hb); replace HO1049 := Aside0.mk (Kd.R_below HO1049.out hb); replace HO1053 := Aside0.mk (Kd.R_below HO1053.out hb); replace BK1031 := Aside0.mk (blk_below BK1031.out hb); replace BK1038 := Aside0.mk (blk_below BK1038.out hb); replace BK1044 := Aside0.mk (blk_below BK1044.out hb); replace HB := Aside0.mk (below_step HB.out hb); (try clear hb); (try clear hb2); (try clear hk); (try clear hi); have hcz119_0 := bc0 BK1031.out; have hcz119_1 := bc1 BK1031.out; have hfz119_0 := blk_frozen BK1031.out 0; have hfz119_1 := blk_frozen BK1031.out 1) | ((with_reducible refine gate_callee (f := 35) rfl ?_); refine goL (some 58) Tryd.func35 [.agg #[.bool a0_0, .slice A0_1 l0_1.length c0_1]] ?_; (with_reducible refine (gudgeonref02_Int.calls kj4 a0_0 _ _ l0_1 t1057 t1058 _ ?side1 ?side2 A20.out).mono ?_); (case side1 => exact (Kd.C_below HR0_1.out HB.out)); (case side2 => exact HC0_1.out); rintro e w120 ⟨rfl, hb⟩; refine ⟨_, rfl, ?_⟩; replace HO1036 := Aside0.mk (Kd.R_below HO1036.out hb); replace HO1042 := Aside0.mk (Kd.R_below HO1042.out hb); replace HO1049 := Aside0.mk (Kd.R_below HO1049.out hb); replace HO1053 := Aside0.mk (Kd.R_below HO1053.out hb); replace BK1031 := Aside0.mk (blk_below BK1031.out hb); replace BK1038 := Aside0.mk (blk_below BK1038.out hb); replace BK1044 := Aside0.mk (blk_below BK1044.out hb); replace HB := Aside0.mk (below_step HB.out hb); (try clear hb); (try clear hb2); (try clear hk); (try clear hi)))
       replace HO1036 := Aside0.mk (Kd.R_drew HO1036.out)
       replace HO1042 := Aside0.mk (Kd.R_drew HO1042.out)
       replace HO1049 := Aside0.mk (Kd.R_drew HO1049.out)
       replace HO1053 := Aside0.mk (Kd.R_drew HO1053.out)
       replace BK1031 := Aside0.mk (blk_drew BK1031.out)
       replace BK1038 := Aside0.mk (blk_drew BK1038.out)
       replace BK1044 := Aside0.mk (blk_drew BK1044.out)
       replace HB := Aside0.mk (below_drew1 HB.out)
       refine start_ (n := 27) (S := fun w' => True) (ds := []) #[false, false, false, false, false, false, false, false, false, false, false, false, false, false, false, false, false, false, false, false, false, false, false, false, false, false, false] (by kernel_rfl) rfl rfl trivial (fun hHeld => ?_); refine with_tabW gudgeonlaw02_WholeTexts.tab10 gudgeonlaw02_WholeTexts.bits10 (fun HT_ HW_ => ?_)
       generalize w120.drew = w121 at HO1036 HO1042 HO1049 HO1053 BK1031 BK1038 BK1044 HB hHeld ⊢
       refine pure_ (i := 0) (N := some 61) (v := ?_) (a' := ?_) #[true, false, false, false, false, false, false, false, false, false, false, false, false, false, false, false, false, false, false, false, false, false, false, false, false, false, false] rfl rfl (any_of HT_.out (by kernel_rfl)) (fun _ _ _ h => h) (Or.inl ⟨by rfl, ?_⟩) ?_ ?_
       rotate_left
       ·intro w'
        go_simp
        with_reducible rfl
       rotate_left
       ·simp only [Act.put, List.setIfInBounds_toArray, List.set_cons_zero, List.set_cons_succ, i64_w, i32_w]
        rfl
       refine pure_ (i := 1) (N := some 62) (v := ?_) (a' := ?_) #[true, true, false, false, false, false, false, false, false, false, false, false, false, false, false, false, false, false, false, false, false, false, false, false, false, false, false] rfl rfl (any_of HT_.out (by kernel_rfl)) (fun _ _ _ h => h) (Or.inl ⟨by rfl, ?_⟩) ?_ ?_
       rotate_left
       ·intro w'
        go_simp
        with_reducible rfl
       rotate_left
       ·simp only [Act.put, List.setIfInBounds_toArray, List.set_cons_zero, List.set_cons_succ, i64_w, i32_w]
        rfl
       refine pure_ (i := 2) (N := some 63) (v := ?_) (a' := ?_) #[true, true, true, false, false, false, false, false, false, false, false, false, false, false, false, false, false, false, false, false, false, false, false, false, false, false, false] rfl rfl (any_of HT_.out (by kernel_rfl)) (fun _ _ _ h => h) (Or.inl ⟨by rfl, ?_⟩) ?_ ?_
       rotate_left
       ·intro w'
        go_simp
        with_reducible rfl
       rotate_left
       ·simp only [Act.put, List.setIfInBounds_toArray, List.set_cons_zero, List.set_cons_succ, i64_w, i32_w]
        rfl
       refine pure_ (i := 3) (N := some 64) (v := ?_) (a' := ?_) #[true, true, true, true, false, false, false, false, false, false, false, false, false, false, false, false, false, false, false, false, false, false, false, false, false, false, false] rfl rfl (any_of HT_.out (by kernel_rfl)) (fun _ _ _ h => h) (Or.inl ⟨by rfl, ?_⟩) ?_ ?_
       rotate_left
       ·intro w'
        go_simp
        with_reducible rfl
       rotate_left
       ·simp only [Act.put, List.setIfInBounds_toArray, List.set_cons_zero, List.set_cons_succ, i64_w, i32_w]
        rfl
       refine pure_ (i := 4) (N := some 65) (v := ?_) (a' := ?_) #[true, true, true, true, true, false, false, false, false, false, false, false, false, false, false, false, false, false, false, false, false, false, false, false, false, false, false] rfl rfl (any_of HT_.out (by kernel_rfl)) (fun _ _ _ h => h) (Or.inl ⟨by rfl, ?_⟩) ?_ ?_
       rotate_left
       ·intro w'
        go_simp
        with_reducible rfl
       rotate_left
       ·simp only [Act.put, List.setIfInBounds_toArray, List.set_cons_zero, List.set_cons_succ, i64_w, i32_w]
        rfl
       refine pure_ (i := 5) (N := some 66) (v := ?_) (a' := ?_) #[true, true, true, true, true, true, false, false, false, false, false, false, false, false, false, false, false, false, false, false, false, false, false, false, false, false, false] rfl rfl (any_of HT_.out (by kernel_rfl)) (fun _ _ _ h => h) (Or.inl ⟨by rfl, ?_⟩) ?_ ?_
       rotate_left
       ·intro w'
        go_simp
        with_reducible rfl
       rotate_left
       ·simp only [Act.put, List.setIfInBounds_toArray, List.set_cons_zero, List.set_cons_succ, i64_w, i32_w]
        rfl
       refine pure_ (i := 6) (N := some 67) (v := ?_) (a' := ?_) #[true, true, true, true, true, true, true, false, false, false, false, false, false, false, false, false, false, false, false, false, false, false, false, false, false, false, false] rfl rfl (any_of HT_.out (by kernel_rfl)) (fun _ _ _ h => h) (Or.inl ⟨by rfl, ?_⟩) ?_ ?_
       rotate_left
       ·intro w'
        go_simp
        with_reducible rfl
       rotate_left
       ·simp only [Act.put, List.setIfInBounds_toArray, List.set_cons_zero, List.set_cons_succ, i64_w, i32_w]
        rfl
       refine pure_ (i := 7) (N := some 68) (v := ?_) (a' := ?_) #[true, true, true, true, true, true, true, true, false, false, false, false, false, false, false, false, false, false, false, false, false, false, false, false, false, false, false] rfl rfl (any_of HT_.out (by kernel_rfl)) (fun _ _ _ h => h) (Or.inl ⟨by rfl, ?_⟩) ?_ ?_
       rotate_left
       ·intro w'
        go_simp
        with_reducible rfl
       rotate_left
       ·simp only [Act.put, List.setIfInBounds_toArray, List.set_cons_zero, List.set_cons_succ, i64_w, i32_w]
        rfl
       refine pure_ (i := 8) (N := some 69) (v := ?_) (a' := ?_) #[true, true, true, true, true, true, true, true, true, false, false, false, false, false, false, false, false, false, false, false, false, false, false, false, false, false, false] rfl rfl (any_of HT_.out (by kernel_rfl)) (fun _ _ _ h => h) (Or.inl ⟨by rfl, ?_⟩) ?_ ?_
       rotate_left
       ·intro w'
        go_simp
        with_reducible rfl
       rotate_left
       ·simp only [Act.put, List.setIfInBounds_toArray, List.set_cons_zero, List.set_cons_succ, i64_w, i32_w]
        rfl
       refine pure_ (i := 9) (N := some 70) (v := ?_) (a' := ?_) #[true, true, true, true, true, true, true, true, true, true, false, false, false, false, false, false, false, false, false, false, false, false, false, false, false, false, false] rfl rfl (any_of HT_.out (by kernel_rfl)) (fun _ _ _ h => h) (Or.inl ⟨by rfl, ?_⟩) ?_ ?_
       rotate_left
       ·intro w'
        go_simp
        with_reducible rfl
       rotate_left
       ·simp only [Act.put, List.setIfInBounds_toArray, List.set_cons_zero, List.set_cons_succ, i64_w, i32_w]
        rfl
       refine pure_ (i := 10) (N := some 71) (v := undef) (a' := ?_) #[true, true, true, true, true, true, true, true, true, true, true, false, false, false, false, false, false, false, false, false, false, false, false, false, false, false, false] rfl rfl (any_of HT_.out (by kernel_rfl)) (fun _ _ _ h => h) (Or.inr ⟨by rfl, rfl⟩) ?_ ?_
       rotate_left
       ·simp only [Act.put, List.setIfInBounds_toArray, List.set_cons_zero, List.set_cons_succ, i64_w, i32_w]
        rfl
       refine pure_ (i := 11) (N := some 72) (v := undef) (a' := ?_) #[true, true, true, true, true, true, true, true, true, true, true, true, false, false, false, false, false, false, false, false, false, false, false, false, false, false, false] rfl rfl (any_of HT_.out (by kernel_rfl)) (fun _ _ _ h => h) (Or.inr ⟨by rfl, rfl⟩) ?_ ?_
       rotate_left
       ·simp only [Act.put, List.setIfInBounds_toArray, List.set_cons_zero, List.set_cons_succ, i64_w, i32_w]
        rfl
       refine pure_ (i := 12) (N := some 73) (v := undef) (a' := ?_) #[true, true, true, true, true, true, true, true, true, true, true, true, true, false, false, false, false, false, false, false, false, false, false, false, false, false, false] rfl rfl (any_of HT_.out (by kernel_rfl)) (fun _ _ _ h => h) (Or.inr ⟨by rfl, rfl⟩) ?_ ?_
       rotate_left
       ·simp only [Act.put, List.setIfInBounds_toArray, List.set_cons_zero, List.set_cons_succ, i64_w, i32_w]
        rfl
       refine pure_ (i := 13) (N := some 74) (v := ?_) (a' := ?_) #[true, true, true, true, true, true, true, true, true, true, true, true, true, true, false, false, false, false, false, false, false, false, false, false, false, false, false] rfl rfl (any_of HT_.out (by kernel_rfl)) (fun _ _ _ h => h) (Or.inl ⟨by rfl, ?_⟩) ?_ ?_
       rotate_left
       ·intro w'
        go_simp
        with_reducible rfl
       rotate_left
       ·simp only [Act.put, List.setIfInBounds_toArray, List.set_cons_zero, List.set_cons_succ, i64_w, i32_w]
        rfl
       refine pure_ (i := 14) (N := some 75) (v := ?_) (a' := ?_) #[true, true, true, true, true, true, true, true, true, true, true, true, true, true, true, false, false, false, false, false, false, false, false, false, false, false, false] rfl rfl (any_of HT_.out (by kernel_rfl)) (fun _ _ _ h => h) (Or.inl ⟨by rfl, ?_⟩) ?_ ?_
       rotate_left
       ·intro w'
        go_simp
        with_reducible rfl
       rotate_left
       ·simp only [Act.put, List.setIfInBounds_toArray, List.set_cons_zero, List.set_cons_succ, i64_w, i32_w]
        rfl
       refine pure_ (i := 15) (N := some 76) (v := undef) (a' := ?_) #[true, true, true, true, true, true, true, true, true, true, true, true, true, true, true, true, false, false, false, false, false, false, false, false, false, false, false] rfl rfl (any_of HT_.out (by kernel_rfl)) (fun _ _ _ h => h) (Or.inr ⟨by rfl, rfl⟩) ?_ ?_
       rotate_left
       ·simp only [Act.put, List.setIfInBounds_toArray, List.set_cons_zero, List.set_cons_succ, i64_w, i32_w]
        rfl
       refine pure_ (i := 16) (N := some 77) (v := undef) (a' := ?_) #[true, true, true, true, true, true, true, true, true, true, true, true, true, true, true, true, true, false, false, false, false, false, false, false, false, false, false] rfl rfl (any_of HT_.out (by kernel_rfl)) (fun _ _ _ h => h) (Or.inr ⟨by rfl, rfl⟩) ?_ ?_
       rotate_left
       ·simp only [Act.put, List.setIfInBounds_toArray, List.set_cons_zero, List.set_cons_succ, i64_w, i32_w]
        rfl
       refine pure_ (i := 17) (N := some 78) (v := undef) (a' := ?_) #[true, true, true, true, true, true, true, true, true, true, true, true, true, true, true, true, true, true, false, false, false, false, false, false, false, false, false] rfl rfl (any_of HT_.out (by kernel_rfl)) (fun _ _ _ h => h) (Or.inr ⟨by rfl, rfl⟩) ?_ ?_
       rotate_left
       ·simp only [Act.put, List.setIfInBounds_toArray, List.set_cons_zero, List.set_cons_succ, i64_w, i32_w]
        rfl
       refine pure_ (i := 18) (N := some 79) (v := ?_) (a' := ?_) #[true, true, true, true, true, true, true, true, true, true, true, true, true, true, true, true, true, true, true, false, false, false, false, false, false, false, false] rfl rfl (any_of HT_.out (by kernel_rfl)) (fun _ _ _ h => h) (Or.inl ⟨by rfl, ?_⟩) ?_ ?_
       rotate_left
       ·intro w'
        go_simp
        with_reducible rfl
       rotate_left
       ·simp only [Act.put, List.setIfInBounds_toArray, List.set_cons_zero, List.set_cons_succ, i64_w, i32_w]
        rfl
       refine pure_ (i := 19) (N := some 80) (v := ?_) (a' := ?_) #[true, true, true, true, true, true, true, true, true, true, true, true, true, true, true, true, true, true, true, true, false, false, false, false, false, false, false] rfl rfl (any_of HT_.out (by kernel_rfl)) (fun _ _ _ h => h) (Or.inl ⟨by rfl, ?_⟩) ?_ ?_
       rotate_left
       ·intro w'
        go_simp
        with_reducible rfl
       rotate_left
       ·simp only [Act.put, List.setIfInBounds_toArray, List.set_cons_zero, List.set_cons_succ, i64_w, i32_w]
        rfl
       refine pure_ (i := 20) (N := some 81) (v := undef) (a' := ?_) #[true, true, true, true, true, true, true, true, true, true, true, true, true, true, true, true, true, true, true, true, true, false, false, false, false, false, false] rfl rfl (any_of HT_.out (by kernel_rfl)) (fun _ _ _ h => h) (Or.inr ⟨by rfl, rfl⟩) ?_ ?_
       rotate_left
       ·simp only [Act.put, List.setIfInBounds_toArray, List.set_cons_zero, List.set_cons_succ, i64_w, i32_w]
        rfl
       refine pure_ (i := 21) (N := some 82) (v := undef) (a' := ?_) #[true, true, true, true, true, true, true, true, true, true, true, true, true, true, true, true, true, true, true, true, true, true, false, false, false, false, false] rfl rfl (any_of HT_.out (by kernel_rfl)) (fun _ _ _ h => h) (Or.inr ⟨by rfl, rfl⟩) ?_ ?_
       rotate_left
       ·simp only [Act.put, List.setIfInBounds_toArray, List.set_cons_zero, List.set_cons_succ, i64_w, i32_w]
        rfl
       refine pure_ (i := 22) (N := some 83) (v := undef) (a' := ?_) #[true, true, true, true, true, true, true, true, true, true, true, true, true, true, true, true, true, true, true, true, true, true, true, false, false, false, false] rfl rfl (any_of HT_.out (by kernel_rfl)) (fun _ _ _ h => h) (Or.inr ⟨by rfl, rfl⟩) ?_ ?_
       rotate_left
       ·simp only [Act.put, List.setIfInBounds_toArray, List.set_cons_zero, List.set_cons_succ, i64_w, i32_w]
        rfl
       refine pure_ (i := 23) (N := some 84) (v := undef) (a' := ?_) #[true, true, true, true, true, true, true, true, true, true, true, true, true, true, true, true, true, true, true, true, true, true, true, true, false, false, false] rfl rfl (any_of HT_.out (by kernel_rfl)) (fun _ _ _ h => h) (Or.inr ⟨by rfl, rfl⟩) ?_ ?_
       rotate_left
       ·simp only [Act.put, List.setIfInBounds_toArray, List.set_cons_zero, List.set_cons_succ, i64_w, i32_w]
        rfl
       refine pure_ (i := 24) (N := some 85) (v := undef) (a' := ?_) #[true, true, true, true, true, true, true, true, true, true, true, true, true, true, true, true, true, true, true, true, true, true, true, true, true, false, false] rfl rfl (any_of HT_.out (by kernel_rfl)) (fun _ _ _ h => h) (Or.inr ⟨by rfl, rfl⟩) ?_ ?_
       rotate_left
       ·simp only [Act.put, List.setIfInBounds_toArray, List.set_cons_zero, List.set_cons_succ, i64_w, i32_w]
        rfl
       refine pure_ (i := 25) (N := some 86) (v := ?_) (a' := ?_) #[true, true, true, true, true, true, true, true, true, true, true, true, true, true, true, true, true, true, true, true, true, true, true, true, true, true, false] rfl rfl (any_of HT_.out (by kernel_rfl)) (fun _ _ _ h => h) (Or.inl ⟨by rfl, ?_⟩) ?_ ?_
       rotate_left
       ·intro w'
        go_simp
        with_reducible rfl
       rotate_left
       ·simp only [Act.put, List.setIfInBounds_toArray, List.set_cons_zero, List.set_cons_succ, i64_w, i32_w]
        rfl
       refine pure_ (i := 26) (N := some 6) (v := ?_) (a' := ?_) #[true, true, true, true, true, true, true, true, true, true, true, true, true, true, true, true, true, true, true, true, true, true, true, true, true, true, true] rfl rfl (any_of HT_.out (by kernel_rfl)) (fun _ _ _ h => h) (Or.inl ⟨by rfl, ?_⟩) ?_ ?_
       rotate_left
       ·intro w'
        go_simp
        with_reducible rfl
       rotate_left
       ·simp only [Act.put, List.setIfInBounds_toArray, List.set_cons_zero, List.set_cons_succ, i64_w, i32_w]
        rfl
       refine done_ (done_of HT_.out (by kernel_rfl)) ?_
       try go_wp2
       go_ret
       exact ⟨by first | rfl | (simp [errW_none, errW_some] <;> rfl) | (refine congrArg (fun z_ => Ending.returned (Value.bool z_)) (decide_eq_decide.mpr ?_); unfold wrap64; omega) | (simp [*, errW_none, errW_some] <;> rfl), by repeat (first | (with_reducible first | exact HB.out | apply below_alloc | apply pw_below_drewN | apply below_drew1 | refine below_set ?_ GE1031.out | refine below_set ?_ GE1038.out | refine below_set ?_ GE1044.out) | exact HB.out)⟩
     ·replace c22 := Bool.eq_false_iff.mpr c22
      subst c22
      have H1 : (some false) = some r := by rw [if_neg (show ¬ (false = true) by decide)] at H; exact H
      clear H
      have H := H1
      clear H1
      obtain rfl := Option.some.inj H
      try go_wp2_with (first | ((with_reducible refine gate_callee (f := 30) rfl ?_); refine goL (some 35) Tryd.func30 [.string a1] ?_; (with_reducible refine (whole_Parse.calls kj4 a1 t1033 t1034 t1037 _ A13.out).mono ?_); rintro e w122 ⟨v1035, rfl, ho0, hb⟩; refine ⟨_, rfl, ?_⟩; have HO1036 := Aside0.mk (Kd.R_lower ho0 (below_size HB.out)); replace BK1031 := Aside0.mk (blk_below BK1031.out hb); replace HB := Aside0.mk (below_step HB.out hb)) | ((with_reducible refine gate_dst (N := 8) rfl ?_); (try (refine gate_guard (by rfl) ?_; dsimp only)); refine box_event ?hg (N := 8) ?hd (cs := #[.bool false, .slice none 0 0]) (t := 24) ?hr ?_; (case hd => rfl); (case hg => rfl); (case hr => first | (go_simp; done) | (go_simp; rfl)); intro gb1038 hg w123 hbox hb; replace HO1036 := Aside0.mk (Kd.R_below HO1036.out hb); have BK1038 := Aside0.mk (hbox); have GW1038 := Aside0.mk (bxLe HB.out hg); have GE1038 := GW1038; replace HB := Aside0.mk (below_step HB.out hb); have NB1031_1038 := Aside0.mk (neL BK1031.out hg); have NB1038_1031 := Aside0.mk (neR BK1031.out hg); replace BK1031 := Aside0.mk (blk_below BK1031.out hb); clear hb hbox hg; have hnb124 := NB1038_1031.out; have hnc124 := NB1031_1038.out; have hcz125_0 := bc0 BK1038.out; have hcz125_1 := bc1 BK1038.out; have hfz125_0 := blk_frozen BK1038.out 0; have hfz125_1 := blk_frozen BK1038.out 1; obtain ⟨Ao126, co126, eo126⟩ := Kd.R_slice HO1036.out; subst eo126) | ((with_reducible refine gate_callee (f := 31) rfl ?_); refine goL (some 40) Tryd.func31 [.string a1] ?_; (with_reducible refine (gudgeonref02_Parse.calls kj4 a1 t1039 t1040 t1043 _ A14.out).mono ?_); rintro e w127 ⟨v1041, rfl, ho0, hb⟩; refine ⟨_, rfl, ?_⟩; have HO1042 := Aside0.mk (Kd.R_lower (Kd.R_new' ho0 (Kd.R_lt (Kd.R_mono (Kd.R_far (p := ⟨gb1038, 1, none⟩) (Kd.R_far (p := ⟨gb1038, 0, none⟩) (Kd.R_types HO1036.out BK1038.out (by decide)) (fun _ hk => hk.2) (.bool t1033)) (fun _ hk => hk.2) (.slice Ao126 t1034.length co126)) (fun _ h_ => h_.1)))) (below_size (by repeat first | exact HB.out | refine bxSet ?_ (by assumption) | apply below_alloc | apply pw_below_drewN))); replace HO1036 := Aside0.mk (Kd.R_elder' (Kd.R_mono (Kd.R_far (p := ⟨gb1038, 1, none⟩) (Kd.R_far (p := ⟨gb1038, 0, none⟩) (Kd.R_types HO1036.out BK1038.out (by decide)) (fun _ hk => hk.2) (.bool t1033)) (fun _ hk => hk.2) (.slice Ao126 t1034.length co126)) (fun _ h_ => h_.1)) (Kd.R_base ho0) hb); replace BK1031 := Aside0.mk (blk_below (g := gb1031) (o := .cells #[.bool a0_0, .slice A0_1 l0_1.length c0_1] 24 (0, 0)) (by refine blk_far ?_ NB1031_1038.out _; refine blk_far ?_ NB1031_1038.out _; exact BK1031.out) hb); replace BK1038 := Aside0.mk (blk_below (g := gb1038) (o := .cells #[.bool t1033, .slice Ao126 t1034.length co126] 24 (0, 0)) (by refine blk_put (cs := #[.bool t1033, .slice none 0 0]) ?_ 1 _ rfl; refine blk_put (cs := #[.bool false, .slice none 0 0]) ?_ 0 _ rfl; exact BK1038.out) hb); replace HB := Aside0.mk (below_step (by repeat first | exact HB.out | refine bxSet ?_ (by assumption) | apply below_alloc | apply pw_below_drewN) hb)) | ((with_reducible refine gate_dst (N := 10) rfl ?_); (try (refine gate_guard (by rfl) ?_; dsimp only)); refine box_event ?hg (N := 10) ?hd (cs := #[.bool false, .slice none 0 0]) (t := 24) ?hr ?_; (case hd => rfl); (case hg => rfl); (case hr => first | (go_simp; done) | (go_simp; rfl)); intro gb1044 hg w128 hbox hb; replace HO1036 := Aside0.mk (Kd.R_below HO1036.out hb); replace HO1042 := Aside0.mk (Kd.R_below HO1042.out hb); have BK1044 := Aside0.mk (hbox); have GW1044 := Aside0.mk (bxLe HB.out hg); have GE1044 := GW1044; replace HB := Aside0.mk (below_step HB.out hb); have NB1031_1044 := Aside0.mk (neL BK1031.out hg); have NB1044_1031 := Aside0.mk (neR BK1031.out hg); replace BK1031 := Aside0.mk (blk_below BK1031.out hb); have NB1038_1044 := Aside0.mk (neL BK1038.out hg); have NB1044_1038 := Aside0.mk (neR BK1038.out hg); replace BK1038 := Aside0.mk (blk_below BK1038.out hb); clear hb hbox hg; have hnb129 := NB1044_1031.out; have hnc129 := NB1031_1044.out; have hnb130 := NB1044_1038.out; have hnc130 := NB1038_1044.out; have hcz131_0 := bc0 BK1044.out; have hcz131_1 := bc1 BK1044.out; have hfz131_0 := blk_frozen BK1044.out 0; have hfz131_1 := blk_frozen BK1044.out 1; obtain ⟨Ao132, co132, eo132⟩ := Kd.R_slice HO1042.out; subst eo132; have hcz133_0 := bc0 BK1038.out; have hcz133_1 := bc1 BK1038.out; have hfz133_0 := blk_frozen BK1038.out 0; have hfz133_1 := blk_frozen BK1038.out 1) | ((with_reducible refine gate_callee (f := 15) rfl ?_); refine goL (some 45) Tryd.func15 [.agg #[.bool t1033, .slice Ao126 t1034.length co126], .agg #[.bool t1039, .slice Ao132 t1040.length co132]] ?_; (with_reducible refine (gudgeonref02_Same.calls kj4 t1033 _ _ t1034 t1039 _ _ t1040 true _ ?side1 ?side2 ?side3 ?side4 A15.out).mono ?_); (case side1 => refine (Kd.R_reads' (e := 51) (base := w.heap.size) (ok := fun k_ => (True ∧ some k_ ≠ (.slice Ao132 t1040.length co132 : Value).ownBlock)) (n := t1034.length) (c := co126) ?_).2.2; exact (Kd.R_mono (Kd.R_far (p := ⟨gb1044, 1, none⟩) (Kd.R_far (p := ⟨gb1044, 0, none⟩) (Kd.R_types HO1036.out BK1044.out (by decide)) (fun _ hk => hk.2) (.bool t1039)) (fun _ hk => hk.2) (.slice Ao132 t1040.length co132)) (fun _ h_ => h_.1))); (case side2 => exact (Kd.R_reads' HO1036.out).2.1); (case side3 => refine (Kd.R_reads' (e := 51) (base := w.heap.size) (ok := fun k_ => (True ∧ some k_ ≠ (.slice Ao126 t1034.length co126 : Value).ownBlock)) (n := t1040.length) (c := co132) ?_).2.2; exact (Kd.R_mono (Kd.R_far (p := ⟨gb1044, 1, none⟩) (Kd.R_far (p := ⟨gb1044, 0, none⟩) (Kd.R_types HO1042.out BK1044.out (by decide)) (fun _ hk => hk.2) (.bool t1039)) (fun _ hk => hk.2) (.slice Ao132 t1040.length co132)) (fun _ h_ => h_.1))); (case side4 => exact (Kd.R_reads' HO1042.out).2.1); rintro e w134 ⟨rfl, hb⟩; refine ⟨_, rfl, ?_⟩; replace HO1036 := Aside0.mk (Kd.R_below (Kd.R_mono (Kd.R_far (p := ⟨gb1044, 1, none⟩) (Kd.R_far (p := ⟨gb1044, 0, none⟩) (Kd.R_types HO1036.out BK1044.out (by decide)) (fun _ hk => hk.2) (.bool t1039)) (fun _ hk => hk.2) (.slice Ao132 t1040.length co132)) (fun _ h_ => h_.1)) hb); replace HO1042 := Aside0.mk (Kd.R_below (Kd.R_mono (Kd.R_far (p := ⟨gb1044, 1, none⟩) (Kd.R_far (p := ⟨gb1044, 0, none⟩) (Kd.R_types HO1042.out BK1044.out (by decide)) (fun _ hk => hk.2) (.bool t1039)) (fun _ hk => hk.2) (.slice Ao132 t1040.length co132)) (fun _ h_ => h_.1)) hb); replace BK1031 := Aside0.mk (blk_below (g := gb1031) (o := .cells #[.bool a0_0, .slice A0_1 l0_1.length c0_1] 24 (0, 0)) (by refine blk_far ?_ NB1031_1044.out _; refine blk_far ?_ NB1031_1044.out _; exact BK1031.out) hb); replace BK1038 := Aside0.mk (blk_below (g := gb1038) (o := .cells #[.bool t1033, .slice Ao126 t1034.length co126] 24 (0, 0)) (by refine blk_far ?_ NB1038_1044.out _; refine blk_far ?_ NB1038_1044.out _; exact BK1038.out) hb); replace BK1044 := Aside0.mk (blk_below (g := gb1044) (o := .cells #[.bool t1039, .slice Ao132 t1040.length co132] 24 (0, 0)) (by refine blk_put (cs := #[.bool t1039, .slice none 0 0]) ?_ 1 _ rfl; refine blk_put (cs := #[.bool false, .slice none 0 0]) ?_ 0 _ rfl; exact BK1044.out) hb); replace HB := Aside0.mk (below_step (by repeat first | exact HB.out | refine bxSet ?_ (by assumption) | apply below_alloc | apply pw_below_drewN) hb); (try clear hb); (try clear hb2); (try clear hk); (try clear hi)) | ((with_reducible refine gate_callee (f := 32) rfl ?_); refine goL (some 47) Tryd.func32 [.int .i64 a2] ?_; (with_reducible refine (whole_Of.calls a2 t1046 t1047 _ A16.out).mono ?_); rintro e w135 ⟨v1048, rfl, ho0, hb⟩; refine ⟨_, rfl, ?_⟩; have HO1049 := Aside0.mk (Kd.R_lower (Kd.R_new' (Kd.R_new' ho0 (Kd.R_lt HO1036.out)) (Kd.R_lt HO1042.out)) (below_size HB.out)); replace HO1036 := Aside0.mk (Kd.R_elder' HO1036.out (Kd.R_base ho0) hb); replace HO1042 := Aside0.mk (Kd.R_elder' HO1042.out (Kd.R_base ho0) hb); replace BK1031 := Aside0.mk (blk_below BK1031.out hb); replace BK1038 := Aside0.mk (blk_below BK1038.out hb); replace BK1044 := Aside0.mk (blk_below BK1044.out hb); replace HB := Aside0.mk (below_step HB.out hb)) | ((with_reducible refine gate_callee (f := 33) rfl ?_); refine goL (some 49) Tryd.func33 [.int .i64 a2] ?_; (with_reducible refine (gudgeonref02_Of.calls kj4 a2 t1050 t1051 _ A17.out).mono ?_); rintro e w136 ⟨v1052, rfl, ho0, hb⟩; refine ⟨_, rfl, ?_⟩; have HO1053 := Aside0.mk (Kd.R_lower (Kd.R_new' (Kd.R_new' (Kd.R_new' ho0 (Kd.R_lt HO1036.out)) (Kd.R_lt HO1042.out)) (Kd.R_lt HO1049.out)) (below_size HB.out)); replace HO1036 := Aside0.mk (Kd.R_elder' HO1036.out (Kd.R_base ho0) hb); replace HO1042 := Aside0.mk (Kd.R_elder' HO1042.out (Kd.R_base ho0) hb); replace HO1049 := Aside0.mk (Kd.R_elder' HO1049.out (Kd.R_base ho0) hb); replace BK1031 := Aside0.mk (blk_below BK1031.out hb); replace BK1038 := Aside0.mk (blk_below BK1038.out hb); replace BK1044 := Aside0.mk (blk_below BK1044.out hb); replace HB := Aside0.mk (below_step HB.out hb); obtain ⟨Ao137, co137, eo137⟩ := Kd.R_slice HO1049.out; subst eo137; obtain ⟨Ao138, co138, eo138⟩ := Kd.R_slice HO1053.out; subst eo138) | ((with_reducible refine gate_callee (f := 15) rfl ?_); refine goL (some 50) Tryd.func15 [.agg #[.bool t1046, .slice Ao137 t1047.length co137], .agg #[.bool t1050, .slice Ao138 t1051.length co138]] ?_; (with_reducible refine (gudgeonref02_Same.calls kj4 t1046 _ _ t1047 t1050 _ _ t1051 false _ ?side1 ?side2 ?side3 ?side4 A18.out).mono ?_); (case side1 => exact (Kd.R_reads' HO1049.out).2.2); (case side2 => exact (Kd.R_reads' HO1049.out).2.1); (case side3 => exact (Kd.R_reads' HO1053.out).2.2); (case side4 => exact (Kd.R_reads' HO1053.out).2.1); rintro e w139 ⟨rfl, hb⟩; refine ⟨_, rfl, ?_⟩; replace HO1036 := Aside0.mk (Kd.R_below HO1036.out hb); replace HO1042 := Aside0.mk (Kd.R_below HO1042.out hb); replace HO1049 := Aside0.mk (Kd.R_below HO1049.out hb); replace HO1053 := Aside0.mk (Kd.R_below HO1053.out hb); replace BK1031 := Aside0.mk (blk_below BK1031.out hb); replace BK1038 := Aside0.mk (blk_below BK1038.out hb); replace BK1044 := Aside0.mk (blk_below BK1044.out hb); replace HB := Aside0.mk (below_step HB.out hb); (try clear hb); (try clear hb2); (try clear hk); (try clear hi); have hcz140_0 := bc0 BK1031.out; have hcz140_1 := bc1 BK1031.out; have hfz140_0 := blk_frozen BK1031.out 0; have hfz140_1 := blk_frozen BK1031.out 1) | ((with_reducible refine gate_callee (f := 34) rfl ?_); refine goL (some 53) Tryd.func34 [.agg #[.bool a0_0, .slice A0_1 l0_1.length c0_1]] ?_; (with_reducible refine (whole_Int.calls kj4 a0_0 _ _ l0_1 t1055 t1056 _ ?side1 ?side2 A19.out).mono ?_); (case side1 => exact (Kd.C_below HR0_1.out HB.out)); (case side2 => exact HC0_1.out); rintro e w141 ⟨rfl, hb⟩; refine ⟨_, rfl, ?_⟩; replace HO1036 := Aside0.mk (Kd.R_below HO1036.out hb); replace HO1042 := Aside0.mk (Kd.R_below HO1042.out hb); replace HO1049 := Aside0.mk (Kd.R_below HO1049.out hb); replace HO1053 := Aside0.mk (Kd.R_below HO1053.out hb); replace BK1031 := Aside0.mk (blk_below BK1031.out hb); replace BK1038 := Aside0.mk (blk_below BK1038.out hb); replace BK1044 := Aside0.mk (blk_below BK1044.out hb); replace HB := Aside0.mk (below_step HB.out hb); (try clear hb); (try clear hb2); (try clear hk); (try clear hi); have hcz142_0 := bc0 BK1031.out; have hcz142_1 := bc1 BK1031.out; have hfz142_0 := blk_frozen BK1031.out 0; have hfz142_1 := blk_frozen BK1031.out 1) | ((with_reducible refine gate_callee (f := 35) rfl ?_); refine goL (some 58) Tryd.func35 [.agg #[.bool a0_0, .slice A0_1 l0_1.length c0_1]] ?_; (with_reducible refine (gudgeonref02_Int.calls kj4 a0_0 _ _ l0_1 t1057 t1058 _ ?side1 ?side2 A20.out).mono ?_); (case side1 => exact (Kd.C_below HR0_1.out HB.out)); (case side2 => exact HC0_1.out); rintro e w143 ⟨rfl, hb⟩; refine ⟨_, rfl, ?_⟩; replace HO1036 := Aside0.mk (Kd.R_below HO1036.out hb); replace HO1042 := Aside0.mk (Kd.R_below HO1042.out hb); replace HO1049 := Aside0.mk (Kd.R_below HO1049.out hb); replace HO1053 := Aside0.mk (Kd.R_below HO1053.out hb); replace BK1031 := Aside0.mk (blk_below BK1031.out hb); replace BK1038 := Aside0.mk (blk_below BK1038.out hb); replace BK1044 := Aside0.mk (blk_below BK1044.out hb); replace HB := Aside0.mk (below_step HB.out hb); (try clear hb); (try clear hb2); (try clear hk); (try clear hi)))
      replace HO1036 := Aside0.mk (Kd.R_drew HO1036.out)
      replace HO1042 := Aside0.mk (Kd.R_drew HO1042.out)
      replace HO1049 := Aside0.mk (Kd.R_drew HO1049.out)
      replace HO1053 := Aside0.mk (Kd.R_drew HO1053.out)
      replace BK1031 := Aside0.mk (blk_drew BK1031.out)
      replace BK1038 := Aside0.mk (blk_drew BK1038.out)
      replace BK1044 := Aside0.mk (blk_drew BK1044.out)
      replace HB := Aside0.mk (below_drew1 HB.out)
      refine start_ (n := 27) (S := fun w' => True) (ds := []) #[false, false, false, false, false, false, false, false, false, false, false, false, false, false, false, false, false, false, false, false, false, false, false, false, false, false, false] (by kernel_rfl) rfl rfl trivial (fun hHeld => ?_); refine with_tabW gudgeonlaw02_WholeTexts.tab10 gudgeonlaw02_WholeTexts.bits10 (fun HT_ HW_ => ?_)
      generalize w143.drew = w144 at HO1036 HO1042 HO1049 HO1053 BK1031 BK1038 BK1044 HB hHeld ⊢
      refine pure_ (i := 0) (N := some 61) (v := ?_) (a' := ?_) #[true, false, false, false, false, false, false, false, false, false, false, false, false, false, false, false, false, false, false, false, false, false, false, false, false, false, false] rfl rfl (any_of HT_.out (by kernel_rfl)) (fun _ _ _ h => h) (Or.inl ⟨by rfl, ?_⟩) ?_ ?_
      rotate_left
      ·intro w'
       go_simp
       with_reducible rfl
      rotate_left
      ·simp only [Act.put, List.setIfInBounds_toArray, List.set_cons_zero, List.set_cons_succ, i64_w, i32_w]
       rfl
      refine pure_ (i := 1) (N := some 62) (v := ?_) (a' := ?_) #[true, true, false, false, false, false, false, false, false, false, false, false, false, false, false, false, false, false, false, false, false, false, false, false, false, false, false] rfl rfl (any_of HT_.out (by kernel_rfl)) (fun _ _ _ h => h) (Or.inl ⟨by rfl, ?_⟩) ?_ ?_
      rotate_left
      ·intro w'
       go_simp
       with_reducible rfl
      rotate_left
      ·simp only [Act.put, List.setIfInBounds_toArray, List.set_cons_zero, List.set_cons_succ, i64_w, i32_w]
       rfl
      refine pure_ (i := 2) (N := some 63) (v := ?_) (a' := ?_) #[true, true, true, false, false, false, false, false, false, false, false, false, false, false, false, false, false, false, false, false, false, false, false, false, false, false, false] rfl rfl (any_of HT_.out (by kernel_rfl)) (fun _ _ _ h => h) (Or.inl ⟨by rfl, ?_⟩) ?_ ?_
      rotate_left
      ·intro w'
       go_simp
       with_reducible rfl
      rotate_left
      ·simp only [Act.put, List.setIfInBounds_toArray, List.set_cons_zero, List.set_cons_succ, i64_w, i32_w]
       rfl
      refine pure_ (i := 3) (N := some 64) (v := ?_) (a' := ?_) #[true, true, true, true, false, false, false, false, false, false, false, false, false, false, false, false, false, false, false, false, false, false, false, false, false, false, false] rfl rfl (any_of HT_.out (by kernel_rfl)) (fun _ _ _ h => h) (Or.inl ⟨by rfl, ?_⟩) ?_ ?_
      rotate_left
      ·intro w'
       go_simp
       with_reducible rfl
      rotate_left
      ·simp only [Act.put, List.setIfInBounds_toArray, List.set_cons_zero, List.set_cons_succ, i64_w, i32_w]
       rfl
      refine pure_ (i := 4) (N := some 65) (v := ?_) (a' := ?_) #[true, true, true, true, true, false, false, false, false, false, false, false, false, false, false, false, false, false, false, false, false, false, false, false, false, false, false] rfl rfl (any_of HT_.out (by kernel_rfl)) (fun _ _ _ h => h) (Or.inl ⟨by rfl, ?_⟩) ?_ ?_
      rotate_left
      ·intro w'
       go_simp
       with_reducible rfl
      rotate_left
      ·simp only [Act.put, List.setIfInBounds_toArray, List.set_cons_zero, List.set_cons_succ, i64_w, i32_w]
       rfl
      refine pure_ (i := 5) (N := some 66) (v := undef) (a' := ?_) #[true, true, true, true, true, true, false, false, false, false, false, false, false, false, false, false, false, false, false, false, false, false, false, false, false, false, false] rfl rfl (any_of HT_.out (by kernel_rfl)) (fun _ _ _ h => h) (Or.inr ⟨by rfl, rfl⟩) ?_ ?_
      rotate_left
      ·simp only [Act.put, List.setIfInBounds_toArray, List.set_cons_zero, List.set_cons_succ, i64_w, i32_w]
       rfl
      refine pure_ (i := 6) (N := some 67) (v := undef) (a' := ?_) #[true, true, true, true, true, true, true, false, false, false, false, false, false, false, false, false, false, false, false, false, false, false, false, false, false, false, false] rfl rfl (any_of HT_.out (by kernel_rfl)) (fun _ _ _ h => h) (Or.inr ⟨by rfl, rfl⟩) ?_ ?_
      rotate_left
      ·simp only [Act.put, List.setIfInBounds_toArray, List.set_cons_zero, List.set_cons_succ, i64_w, i32_w]
       rfl
      refine pure_ (i := 7) (N := some 68) (v := undef) (a' := ?_) #[true, true, true, true, true, true, true, true, false, false, false, false, false, false, false, false, false, false, false, false, false, false, false, false, false, false, false] rfl rfl (any_of HT_.out (by kernel_rfl)) (fun _ _ _ h => h) (Or.inr ⟨by rfl, rfl⟩) ?_ ?_
      rotate_left
      ·simp only [Act.put, List.setIfInBounds_toArray, List.set_cons_zero, List.set_cons_succ, i64_w, i32_w]
       rfl
      refine pure_ (i := 8) (N := some 69) (v := ?_) (a' := ?_) #[true, true, true, true, true, true, true, true, true, false, false, false, false, false, false, false, false, false, false, false, false, false, false, false, false, false, false] rfl rfl (any_of HT_.out (by kernel_rfl)) (fun _ _ _ h => h) (Or.inl ⟨by rfl, ?_⟩) ?_ ?_
      rotate_left
      ·intro w'
       go_simp
       with_reducible rfl
      rotate_left
      ·simp only [Act.put, List.setIfInBounds_toArray, List.set_cons_zero, List.set_cons_succ, i64_w, i32_w]
       rfl
      refine pure_ (i := 9) (N := some 70) (v := ?_) (a' := ?_) #[true, true, true, true, true, true, true, true, true, true, false, false, false, false, false, false, false, false, false, false, false, false, false, false, false, false, false] rfl rfl (any_of HT_.out (by kernel_rfl)) (fun _ _ _ h => h) (Or.inl ⟨by rfl, ?_⟩) ?_ ?_
      rotate_left
      ·intro w'
       go_simp
       with_reducible rfl
      rotate_left
      ·simp only [Act.put, List.setIfInBounds_toArray, List.set_cons_zero, List.set_cons_succ, i64_w, i32_w]
       rfl
      refine pure_ (i := 10) (N := some 71) (v := undef) (a' := ?_) #[true, true, true, true, true, true, true, true, true, true, true, false, false, false, false, false, false, false, false, false, false, false, false, false, false, false, false] rfl rfl (any_of HT_.out (by kernel_rfl)) (fun _ _ _ h => h) (Or.inr ⟨by rfl, rfl⟩) ?_ ?_
      rotate_left
      ·simp only [Act.put, List.setIfInBounds_toArray, List.set_cons_zero, List.set_cons_succ, i64_w, i32_w]
       rfl
      refine pure_ (i := 11) (N := some 72) (v := undef) (a' := ?_) #[true, true, true, true, true, true, true, true, true, true, true, true, false, false, false, false, false, false, false, false, false, false, false, false, false, false, false] rfl rfl (any_of HT_.out (by kernel_rfl)) (fun _ _ _ h => h) (Or.inr ⟨by rfl, rfl⟩) ?_ ?_
      rotate_left
      ·simp only [Act.put, List.setIfInBounds_toArray, List.set_cons_zero, List.set_cons_succ, i64_w, i32_w]
       rfl
      refine pure_ (i := 12) (N := some 73) (v := undef) (a' := ?_) #[true, true, true, true, true, true, true, true, true, true, true, true, true, false, false, false, false, false, false, false, false, false, false, false, false, false, false] rfl rfl (any_of HT_.out (by kernel_rfl)) (fun _ _ _ h => h) (Or.inr ⟨by rfl, rfl⟩) ?_ ?_
      rotate_left
      ·simp only [Act.put, List.setIfInBounds_toArray, List.set_cons_zero, List.set_cons_succ, i64_w, i32_w]
       rfl
      refine pure_ (i := 13) (N := some 74) (v := ?_) (a' := ?_) #[true, true, true, true, true, true, true, true, true, true, true, true, true, true, false, false, false, false, false, false, false, false, false, false, false, false, false] rfl rfl (any_of HT_.out (by kernel_rfl)) (fun _ _ _ h => h) (Or.inl ⟨by rfl, ?_⟩) ?_ ?_
      rotate_left
      ·intro w'
       go_simp
       with_reducible rfl
      rotate_left
      ·simp only [Act.put, List.setIfInBounds_toArray, List.set_cons_zero, List.set_cons_succ, i64_w, i32_w]
       rfl
      refine pure_ (i := 14) (N := some 75) (v := ?_) (a' := ?_) #[true, true, true, true, true, true, true, true, true, true, true, true, true, true, true, false, false, false, false, false, false, false, false, false, false, false, false] rfl rfl (any_of HT_.out (by kernel_rfl)) (fun _ _ _ h => h) (Or.inl ⟨by rfl, ?_⟩) ?_ ?_
      rotate_left
      ·intro w'
       go_simp
       with_reducible rfl
      rotate_left
      ·simp only [Act.put, List.setIfInBounds_toArray, List.set_cons_zero, List.set_cons_succ, i64_w, i32_w]
       rfl
      refine pure_ (i := 15) (N := some 76) (v := undef) (a' := ?_) #[true, true, true, true, true, true, true, true, true, true, true, true, true, true, true, true, false, false, false, false, false, false, false, false, false, false, false] rfl rfl (any_of HT_.out (by kernel_rfl)) (fun _ _ _ h => h) (Or.inr ⟨by rfl, rfl⟩) ?_ ?_
      rotate_left
      ·simp only [Act.put, List.setIfInBounds_toArray, List.set_cons_zero, List.set_cons_succ, i64_w, i32_w]
       rfl
      refine pure_ (i := 16) (N := some 77) (v := undef) (a' := ?_) #[true, true, true, true, true, true, true, true, true, true, true, true, true, true, true, true, true, false, false, false, false, false, false, false, false, false, false] rfl rfl (any_of HT_.out (by kernel_rfl)) (fun _ _ _ h => h) (Or.inr ⟨by rfl, rfl⟩) ?_ ?_
      rotate_left
      ·simp only [Act.put, List.setIfInBounds_toArray, List.set_cons_zero, List.set_cons_succ, i64_w, i32_w]
       rfl
      refine pure_ (i := 17) (N := some 78) (v := undef) (a' := ?_) #[true, true, true, true, true, true, true, true, true, true, true, true, true, true, true, true, true, true, false, false, false, false, false, false, false, false, false] rfl rfl (any_of HT_.out (by kernel_rfl)) (fun _ _ _ h => h) (Or.inr ⟨by rfl, rfl⟩) ?_ ?_
      rotate_left
      ·simp only [Act.put, List.setIfInBounds_toArray, List.set_cons_zero, List.set_cons_succ, i64_w, i32_w]
       rfl
      refine pure_ (i := 18) (N := some 79) (v := ?_) (a' := ?_) #[true, true, true, true, true, true, true, true, true, true, true, true, true, true, true, true, true, true, true, false, false, false, false, false, false, false, false] rfl rfl (any_of HT_.out (by kernel_rfl)) (fun _ _ _ h => h) (Or.inl ⟨by rfl, ?_⟩) ?_ ?_
      rotate_left
      ·intro w'
       go_simp
       with_reducible rfl
      rotate_left
      ·simp only [Act.put, List.setIfInBounds_toArray, List.set_cons_zero, List.set_cons_succ, i64_w, i32_w]
       rfl
      refine pure_ (i := 19) (N := some 80) (v := ?_) (a' := ?_) #[true, true, true, true, true, true, true, true, true, true, true, true, true, true, true, true, true, true, true, true, false, false, false, false, false, false, false] rfl rfl (any_of HT_.out (by kernel_rfl)) (fun _ _ _ h => h) (Or.inl ⟨by rfl, ?_⟩) ?_ ?_
      rotate_left
      ·intro w'
       go_simp
       with_reducible rfl
      rotate_left
      ·simp only [Act.put, List.setIfInBounds_toArray, List.set_cons_zero, List.set_cons_succ, i64_w, i32_w]
       rfl
      refine pure_ (i := 20) (N := some 81) (v := undef) (a' := ?_) #[true, true, true, true, true, true, true, true, true, true, true, true, true, true, true, true, true, true, true, true, true, false, false, false, false, false, false] rfl rfl (any_of HT_.out (by kernel_rfl)) (fun _ _ _ h => h) (Or.inr ⟨by rfl, rfl⟩) ?_ ?_
      rotate_left
      ·simp only [Act.put, List.setIfInBounds_toArray, List.set_cons_zero, List.set_cons_succ, i64_w, i32_w]
       rfl
      refine pure_ (i := 21) (N := some 82) (v := undef) (a' := ?_) #[true, true, true, true, true, true, true, true, true, true, true, true, true, true, true, true, true, true, true, true, true, true, false, false, false, false, false] rfl rfl (any_of HT_.out (by kernel_rfl)) (fun _ _ _ h => h) (Or.inr ⟨by rfl, rfl⟩) ?_ ?_
      rotate_left
      ·simp only [Act.put, List.setIfInBounds_toArray, List.set_cons_zero, List.set_cons_succ, i64_w, i32_w]
       rfl
      refine pure_ (i := 22) (N := some 83) (v := undef) (a' := ?_) #[true, true, true, true, true, true, true, true, true, true, true, true, true, true, true, true, true, true, true, true, true, true, true, false, false, false, false] rfl rfl (any_of HT_.out (by kernel_rfl)) (fun _ _ _ h => h) (Or.inr ⟨by rfl, rfl⟩) ?_ ?_
      rotate_left
      ·simp only [Act.put, List.setIfInBounds_toArray, List.set_cons_zero, List.set_cons_succ, i64_w, i32_w]
       rfl
      refine pure_ (i := 23) (N := some 84) (v := undef) (a' := ?_) #[true, true, true, true, true, true, true, true, true, true, true, true, true, true, true, true, true, true, true, true, true, true, true, true, false, false, false] rfl rfl (any_of HT_.out (by kernel_rfl)) (fun _ _ _ h => h) (Or.inr ⟨by rfl, rfl⟩) ?_ ?_
      rotate_left
      ·simp only [Act.put, List.setIfInBounds_toArray, List.set_cons_zero, List.set_cons_succ, i64_w, i32_w]
       rfl
      refine pure_ (i := 24) (N := some 85) (v := undef) (a' := ?_) #[true, true, true, true, true, true, true, true, true, true, true, true, true, true, true, true, true, true, true, true, true, true, true, true, true, false, false] rfl rfl (any_of HT_.out (by kernel_rfl)) (fun _ _ _ h => h) (Or.inr ⟨by rfl, rfl⟩) ?_ ?_
      rotate_left
      ·simp only [Act.put, List.setIfInBounds_toArray, List.set_cons_zero, List.set_cons_succ, i64_w, i32_w]
       rfl
      refine pure_ (i := 25) (N := some 86) (v := ?_) (a' := ?_) #[true, true, true, true, true, true, true, true, true, true, true, true, true, true, true, true, true, true, true, true, true, true, true, true, true, true, false] rfl rfl (any_of HT_.out (by kernel_rfl)) (fun _ _ _ h => h) (Or.inl ⟨by rfl, ?_⟩) ?_ ?_
      rotate_left
      ·intro w'
       go_simp
       with_reducible rfl
      rotate_left
      ·simp only [Act.put, List.setIfInBounds_toArray, List.set_cons_zero, List.set_cons_succ, i64_w, i32_w]
       rfl
      refine pure_ (i := 26) (N := some 6) (v := ?_) (a' := ?_) #[true, true, true, true, true, true, true, true, true, true, true, true, true, true, true, true, true, true, true, true, true, true, true, true, true, true, true] rfl rfl (any_of HT_.out (by kernel_rfl)) (fun _ _ _ h => h) (Or.inl ⟨by rfl, ?_⟩) ?_ ?_
      rotate_left
      ·intro w'
       go_simp
       with_reducible rfl
      rotate_left
      ·simp only [Act.put, List.setIfInBounds_toArray, List.set_cons_zero, List.set_cons_succ, i64_w, i32_w]
       rfl
      refine done_ (done_of HT_.out (by kernel_rfl)) ?_
      try go_wp2
      go_ret
      exact ⟨by first | rfl | (simp [errW_none, errW_some] <;> rfl) | (refine congrArg (fun z_ => Ending.returned (Value.bool z_)) (decide_eq_decide.mpr ?_); unfold wrap64; omega) | (simp [*, errW_none, errW_some] <;> rfl), by repeat (first | (with_reducible first | exact HB.out | apply below_alloc | apply pw_below_drewN | apply below_drew1 | refine below_set ?_ GE1031.out | refine below_set ?_ GE1038.out | refine below_set ?_ GE1044.out) | exact HB.out)⟩
    ·replace c21 := Bool.eq_false_iff.mpr c21
     subst c21
     have H1 : (some false) = some r := by rw [if_neg (show ¬ (false = true) by decide)] at H; exact H
     clear H
     have H := H1
     clear H1
     obtain rfl := Option.some.inj H
     try go_wp2_with (first | ((with_reducible refine gate_callee (f := 30) rfl ?_); refine goL (some 35) Tryd.func30 [.string a1] ?_; (with_reducible refine (whole_Parse.calls kj4 a1 t1033 t1034 t1037 _ A13.out).mono ?_); rintro e w145 ⟨v1035, rfl, ho0, hb⟩; refine ⟨_, rfl, ?_⟩; have HO1036 := Aside0.mk (Kd.R_lower ho0 (below_size HB.out)); replace BK1031 := Aside0.mk (blk_below BK1031.out hb); replace HB := Aside0.mk (below_step HB.out hb)) | ((with_reducible refine gate_dst (N := 8) rfl ?_); (try (refine gate_guard (by rfl) ?_; dsimp only)); refine box_event ?hg (N := 8) ?hd (cs := #[.bool false, .slice none 0 0]) (t := 24) ?hr ?_; (case hd => rfl); (case hg => rfl); (case hr => first | (go_simp; done) | (go_simp; rfl)); intro gb1038 hg w146 hbox hb; replace HO1036 := Aside0.mk (Kd.R_below HO1036.out hb); have BK1038 := Aside0.mk (hbox); have GW1038 := Aside0.mk (bxLe HB.out hg); have GE1038 := GW1038; replace HB := Aside0.mk (below_step HB.out hb); have NB1031_1038 := Aside0.mk (neL BK1031.out hg); have NB1038_1031 := Aside0.mk (neR BK1031.out hg); replace BK1031 := Aside0.mk (blk_below BK1031.out hb); clear hb hbox hg; have hnb147 := NB1038_1031.out; have hnc147 := NB1031_1038.out; have hcz148_0 := bc0 BK1038.out; have hcz148_1 := bc1 BK1038.out; have hfz148_0 := blk_frozen BK1038.out 0; have hfz148_1 := blk_frozen BK1038.out 1; obtain ⟨Ao149, co149, eo149⟩ := Kd.R_slice HO1036.out; subst eo149) | ((with_reducible refine gate_callee (f := 31) rfl ?_); refine goL (some 40) Tryd.func31 [.string a1] ?_; (with_reducible refine (gudgeonref02_Parse.calls kj4 a1 t1039 t1040 t1043 _ A14.out).mono ?_); rintro e w150 ⟨v1041, rfl, ho0, hb⟩; refine ⟨_, rfl, ?_⟩; have HO1042 := Aside0.mk (Kd.R_lower (Kd.R_new' ho0 (Kd.R_lt (Kd.R_mono (Kd.R_far (p := ⟨gb1038, 1, none⟩) (Kd.R_far (p := ⟨gb1038, 0, none⟩) (Kd.R_types HO1036.out BK1038.out (by decide)) (fun _ hk => hk.2) (.bool t1033)) (fun _ hk => hk.2) (.slice Ao149 t1034.length co149)) (fun _ h_ => h_.1)))) (below_size (by repeat first | exact HB.out | refine bxSet ?_ (by assumption) | apply below_alloc | apply pw_below_drewN))); replace HO1036 := Aside0.mk (Kd.R_elder' (Kd.R_mono (Kd.R_far (p := ⟨gb1038, 1, none⟩) (Kd.R_far (p := ⟨gb1038, 0, none⟩) (Kd.R_types HO1036.out BK1038.out (by decide)) (fun _ hk => hk.2) (.bool t1033)) (fun _ hk => hk.2) (.slice Ao149 t1034.length co149)) (fun _ h_ => h_.1)) (Kd.R_base ho0) hb); replace BK1031 := Aside0.mk (blk_below (g := gb1031) (o := .cells #[.bool a0_0, .slice A0_1 l0_1.length c0_1] 24 (0, 0)) (by refine blk_far ?_ NB1031_1038.out _; refine blk_far ?_ NB1031_1038.out _; exact BK1031.out) hb); replace BK1038 := Aside0.mk (blk_below (g := gb1038) (o := .cells #[.bool t1033, .slice Ao149 t1034.length co149] 24 (0, 0)) (by refine blk_put (cs := #[.bool t1033, .slice none 0 0]) ?_ 1 _ rfl; refine blk_put (cs := #[.bool false, .slice none 0 0]) ?_ 0 _ rfl; exact BK1038.out) hb); replace HB := Aside0.mk (below_step (by repeat first | exact HB.out | refine bxSet ?_ (by assumption) | apply below_alloc | apply pw_below_drewN) hb)) | ((with_reducible refine gate_dst (N := 10) rfl ?_); (try (refine gate_guard (by rfl) ?_; dsimp only)); refine box_event ?hg (N := 10) ?hd (cs := #[.bool false, .slice none 0 0]) (t := 24) ?hr ?_; (case hd => rfl); (case hg => rfl); (case hr => first | (go_simp; done) | (go_simp; rfl)); intro gb1044 hg w151 hbox hb; replace HO1036 := Aside0.mk (Kd.R_below HO1036.out hb); replace HO1042 := Aside0.mk (Kd.R_below HO1042.out hb); have BK1044 := Aside0.mk (hbox); have GW1044 := Aside0.mk (bxLe HB.out hg); have GE1044 := GW1044; replace HB := Aside0.mk (below_step HB.out hb); have NB1031_1044 := Aside0.mk (neL BK1031.out hg); have NB1044_1031 := Aside0.mk (neR BK1031.out hg); replace BK1031 := Aside0.mk (blk_below BK1031.out hb); have NB1038_1044 := Aside0.mk (neL BK1038.out hg); have NB1044_1038 := Aside0.mk (neR BK1038.out hg); replace BK1038 := Aside0.mk (blk_below BK1038.out hb); clear hb hbox hg; have hnb152 := NB1044_1031.out; have hnc152 := NB1031_1044.out; have hnb153 := NB1044_1038.out; have hnc153 := NB1038_1044.out; have hcz154_0 := bc0 BK1044.out; have hcz154_1 := bc1 BK1044.out; have hfz154_0 := blk_frozen BK1044.out 0; have hfz154_1 := blk_frozen BK1044.out 1; obtain ⟨Ao155, co155, eo155⟩ := Kd.R_slice HO1042.out; subst eo155; have hcz156_0 := bc0 BK1038.out; have hcz156_1 := bc1 BK1038.out; have hfz156_0 := blk_frozen BK1038.out 0; have hfz156_1 := blk_frozen BK1038.out 1) | ((with_reducible refine gate_callee (f := 15) rfl ?_); refine goL (some 45) Tryd.func15 [.agg #[.bool t1033, .slice Ao149 t1034.length co149], .agg #[.bool t1039, .slice Ao155 t1040.length co155]] ?_; (with_reducible refine (gudgeonref02_Same.calls kj4 t1033 _ _ t1034 t1039 _ _ t1040 false _ ?side1 ?side2 ?side3 ?side4 A15.out).mono ?_); (case side1 => refine (Kd.R_reads' (e := 51) (base := w.heap.size) (ok := fun k_ => (True ∧ some k_ ≠ (.slice Ao155 t1040.length co155 : Value).ownBlock)) (n := t1034.length) (c := co149) ?_).2.2; exact (Kd.R_mono (Kd.R_far (p := ⟨gb1044, 1, none⟩) (Kd.R_far (p := ⟨gb1044, 0, none⟩) (Kd.R_types HO1036.out BK1044.out (by decide)) (fun _ hk => hk.2) (.bool t1039)) (fun _ hk => hk.2) (.slice Ao155 t1040.length co155)) (fun _ h_ => h_.1))); (case side2 => exact (Kd.R_reads' HO1036.out).2.1); (case side3 => refine (Kd.R_reads' (e := 51) (base := w.heap.size) (ok := fun k_ => (True ∧ some k_ ≠ (.slice Ao149 t1034.length co149 : Value).ownBlock)) (n := t1040.length) (c := co155) ?_).2.2; exact (Kd.R_mono (Kd.R_far (p := ⟨gb1044, 1, none⟩) (Kd.R_far (p := ⟨gb1044, 0, none⟩) (Kd.R_types HO1042.out BK1044.out (by decide)) (fun _ hk => hk.2) (.bool t1039)) (fun _ hk => hk.2) (.slice Ao155 t1040.length co155)) (fun _ h_ => h_.1))); (case side4 => exact (Kd.R_reads' HO1042.out).2.1); rintro e w157 ⟨rfl, hb⟩; refine ⟨_, rfl, ?_⟩; replace HO1036 := Aside0.mk (Kd.R_below (Kd.R_mono (Kd.R_far (p := ⟨gb1044, 1, none⟩) (Kd.R_far (p := ⟨gb1044, 0, none⟩) (Kd.R_types HO1036.out BK1044.out (by decide)) (fun _ hk => hk.2) (.bool t1039)) (fun _ hk => hk.2) (.slice Ao155 t1040.length co155)) (fun _ h_ => h_.1)) hb); replace HO1042 := Aside0.mk (Kd.R_below (Kd.R_mono (Kd.R_far (p := ⟨gb1044, 1, none⟩) (Kd.R_far (p := ⟨gb1044, 0, none⟩) (Kd.R_types HO1042.out BK1044.out (by decide)) (fun _ hk => hk.2) (.bool t1039)) (fun _ hk => hk.2) (.slice Ao155 t1040.length co155)) (fun _ h_ => h_.1)) hb); replace BK1031 := Aside0.mk (blk_below (g := gb1031) (o := .cells #[.bool a0_0, .slice A0_1 l0_1.length c0_1] 24 (0, 0)) (by refine blk_far ?_ NB1031_1044.out _; refine blk_far ?_ NB1031_1044.out _; exact BK1031.out) hb); replace BK1038 := Aside0.mk (blk_below (g := gb1038) (o := .cells #[.bool t1033, .slice Ao149 t1034.length co149] 24 (0, 0)) (by refine blk_far ?_ NB1038_1044.out _; refine blk_far ?_ NB1038_1044.out _; exact BK1038.out) hb); replace BK1044 := Aside0.mk (blk_below (g := gb1044) (o := .cells #[.bool t1039, .slice Ao155 t1040.length co155] 24 (0, 0)) (by refine blk_put (cs := #[.bool t1039, .slice none 0 0]) ?_ 1 _ rfl; refine blk_put (cs := #[.bool false, .slice none 0 0]) ?_ 0 _ rfl; exact BK1044.out) hb); replace HB := Aside0.mk (below_step (by repeat first | exact HB.out | refine bxSet ?_ (by assumption) | apply below_alloc | apply pw_below_drewN) hb); (try clear hb); (try clear hb2); (try clear hk); (try clear hi)) | ((with_reducible refine gate_callee (f := 32) rfl ?_); refine goL (some 47) Tryd.func32 [.int .i64 a2] ?_; (with_reducible refine (whole_Of.calls a2 t1046 t1047 _ A16.out).mono ?_); rintro e w158 ⟨v1048, rfl, ho0, hb⟩; refine ⟨_, rfl, ?_⟩; have HO1049 := Aside0.mk (Kd.R_lower (Kd.R_new' (Kd.R_new' ho0 (Kd.R_lt HO1036.out)) (Kd.R_lt HO1042.out)) (below_size HB.out)); replace HO1036 := Aside0.mk (Kd.R_elder' HO1036.out (Kd.R_base ho0) hb); replace HO1042 := Aside0.mk (Kd.R_elder' HO1042.out (Kd.R_base ho0) hb); replace BK1031 := Aside0.mk (blk_below BK1031.out hb); replace BK1038 := Aside0.mk (blk_below BK1038.out hb); replace BK1044 := Aside0.mk (blk_below BK1044.out hb); replace HB := Aside0.mk (below_step HB.out hb)) | ((with_reducible refine gate_callee (f := 33) rfl ?_); refine goL (some 49) Tryd.func33 [.int .i64 a2] ?_; (with_reducible refine (gudgeonref02_Of.calls kj4 a2 t1050 t1051 _ A17.out).mono ?_); rintro e w159 ⟨v1052, rfl, ho0, hb⟩; refine ⟨_, rfl, ?_⟩; have HO1053 := Aside0.mk (Kd.R_lower (Kd.R_new' (Kd.R_new' (Kd.R_new' ho0 (Kd.R_lt HO1036.out)) (Kd.R_lt HO1042.out)) (Kd.R_lt HO1049.out)) (below_size HB.out)); replace HO1036 := Aside0.mk (Kd.R_elder' HO1036.out (Kd.R_base ho0) hb); replace HO1042 := Aside0.mk (Kd.R_elder' HO1042.out (Kd.R_base ho0) hb); replace HO1049 := Aside0.mk (Kd.R_elder' HO1049.out (Kd.R_base ho0) hb); replace BK1031 := Aside0.mk (blk_below BK1031.out hb); replace BK1038 := Aside0.mk (blk_below BK1038.out hb); replace BK1044 := Aside0.mk (blk_below BK1044.out hb); replace HB := Aside0.mk (below_step HB.out hb); obtain ⟨Ao160, co160, eo160⟩ := Kd.R_slice HO1049.out; subst eo160; obtain ⟨Ao161, co161, eo161⟩ := Kd.R_slice HO1053.out; subst eo161) | ((with_reducible refine gate_callee (f := 15) rfl ?_); refine goL (some 50) Tryd.func15 [.agg #[.bool t1046, .slice Ao160 t1047.length co160], .agg #[.bool t1050, .slice Ao161 t1051.length co161]] ?_; (with_reducible refine (gudgeonref02_Same.calls kj4 t1046 _ _ t1047 t1050 _ _ t1051 t1054 _ ?side1 ?side2 ?side3 ?side4 A18.out).mono ?_); (case side1 => exact (Kd.R_reads' HO1049.out).2.2); (case side2 => exact (Kd.R_reads' HO1049.out).2.1); (case side3 => exact (Kd.R_reads' HO1053.out).2.2); (case side4 => exact (Kd.R_reads' HO1053.out).2.1); rintro e w162 ⟨rfl, hb⟩; refine ⟨_, rfl, ?_⟩; replace HO1036 := Aside0.mk (Kd.R_below HO1036.out hb); replace HO1042 := Aside0.mk (Kd.R_below HO1042.out hb); replace HO1049 := Aside0.mk (Kd.R_below HO1049.out hb); replace HO1053 := Aside0.mk (Kd.R_below HO1053.out hb); replace BK1031 := Aside0.mk (blk_below BK1031.out hb); replace BK1038 := Aside0.mk (blk_below BK1038.out hb); replace BK1044 := Aside0.mk (blk_below BK1044.out hb); replace HB := Aside0.mk (below_step HB.out hb); (try clear hb); (try clear hb2); (try clear hk); (try clear hi); have hcz163_0 := bc0 BK1031.out; have hcz163_1 := bc1 BK1031.out; have hfz163_0 := blk_frozen BK1031.out 0; have hfz163_1 := blk_frozen BK1031.out 1) | ((with_reducible refine gate_callee (f := 34) rfl ?_); refine goL (some 53) Tryd.func34 [.agg #[.bool a0_0, .slice A0_1 l0_1.length c0_1]] ?_; (with_reducible refine (whole_Int.calls kj4 a0_0 _ _ l0_1 t1055 t1056 _ ?side1 ?side2 A19.out).mono ?_); (case side1 => exact (Kd.C_below HR0_1.out HB.out)); (case side2 => exact HC0_1.out); rintro e w164 ⟨rfl, hb⟩; refine ⟨_, rfl, ?_⟩; replace HO1036 := Aside0.mk (Kd.R_below HO1036.out hb); replace HO1042 := Aside0.mk (Kd.R_below HO1042.out hb); replace HO1049 := Aside0.mk (Kd.R_below HO1049.out hb); replace HO1053 := Aside0.mk (Kd.R_below HO1053.out hb); replace BK1031 := Aside0.mk (blk_below BK1031.out hb); replace BK1038 := Aside0.mk (blk_below BK1038.out hb); replace BK1044 := Aside0.mk (blk_below BK1044.out hb); replace HB := Aside0.mk (below_step HB.out hb); (try clear hb); (try clear hb2); (try clear hk); (try clear hi); have hcz165_0 := bc0 BK1031.out; have hcz165_1 := bc1 BK1031.out; have hfz165_0 := blk_frozen BK1031.out 0; have hfz165_1 := blk_frozen BK1031.out 1) | ((with_reducible refine gate_callee (f := 35) rfl ?_); refine goL (some 58) Tryd.func35 [.agg #[.bool a0_0, .slice A0_1 l0_1.length c0_1]] ?_; (with_reducible refine (gudgeonref02_Int.calls kj4 a0_0 _ _ l0_1 t1057 t1058 _ ?side1 ?side2 A20.out).mono ?_); (case side1 => exact (Kd.C_below HR0_1.out HB.out)); (case side2 => exact HC0_1.out); rintro e w166 ⟨rfl, hb⟩; refine ⟨_, rfl, ?_⟩; replace HO1036 := Aside0.mk (Kd.R_below HO1036.out hb); replace HO1042 := Aside0.mk (Kd.R_below HO1042.out hb); replace HO1049 := Aside0.mk (Kd.R_below HO1049.out hb); replace HO1053 := Aside0.mk (Kd.R_below HO1053.out hb); replace BK1031 := Aside0.mk (blk_below BK1031.out hb); replace BK1038 := Aside0.mk (blk_below BK1038.out hb); replace BK1044 := Aside0.mk (blk_below BK1044.out hb); replace HB := Aside0.mk (below_step HB.out hb); (try clear hb); (try clear hb2); (try clear hk); (try clear hi)))
     replace HO1036 := Aside0.mk (Kd.R_drew HO1036.out)
     replace HO1042 := Aside0.mk (Kd.R_drew HO1042.out)
     replace HO1049 := Aside0.mk (Kd.R_drew HO1049.out)
     replace HO1053 := Aside0.mk (Kd.R_drew HO1053.out)
     replace BK1031 := Aside0.mk (blk_drew BK1031.out)
     replace BK1038 := Aside0.mk (blk_drew BK1038.out)
     replace BK1044 := Aside0.mk (blk_drew BK1044.out)
     replace HB := Aside0.mk (below_drew1 HB.out)
     refine start_ (n := 27) (S := fun w' => True) (ds := []) #[false, false, false, false, false, false, false, false, false, false, false, false, false, false, false, false, false, false, false, false, false, false, false, false, false, false, false] (by kernel_rfl) rfl rfl trivial (fun hHeld => ?_); refine with_tabW gudgeonlaw02_WholeTexts.tab10 gudgeonlaw02_WholeTexts.bits10 (fun HT_ HW_ => ?_)
     generalize w166.drew = w167 at HO1036 HO1042 HO1049 HO1053 BK1031 BK1038 BK1044 HB hHeld ⊢
     refine pure_ (i := 0) (N := some 61) (v := ?_) (a' := ?_) #[true, false, false, false, false, false, false, false, false, false, false, false, false, false, false, false, false, false, false, false, false, false, false, false, false, false, false] rfl rfl (any_of HT_.out (by kernel_rfl)) (fun _ _ _ h => h) (Or.inl ⟨by rfl, ?_⟩) ?_ ?_
     rotate_left
     ·intro w'
      go_simp
      with_reducible rfl
     rotate_left
     ·simp only [Act.put, List.setIfInBounds_toArray, List.set_cons_zero, List.set_cons_succ, i64_w, i32_w]
      rfl
     refine pure_ (i := 1) (N := some 62) (v := ?_) (a' := ?_) #[true, true, false, false, false, false, false, false, false, false, false, false, false, false, false, false, false, false, false, false, false, false, false, false, false, false, false] rfl rfl (any_of HT_.out (by kernel_rfl)) (fun _ _ _ h => h) (Or.inl ⟨by rfl, ?_⟩) ?_ ?_
     rotate_left
     ·intro w'
      go_simp
      with_reducible rfl
     rotate_left
     ·simp only [Act.put, List.setIfInBounds_toArray, List.set_cons_zero, List.set_cons_succ, i64_w, i32_w]
      rfl
     refine pure_ (i := 2) (N := some 63) (v := undef) (a' := ?_) #[true, true, true, false, false, false, false, false, false, false, false, false, false, false, false, false, false, false, false, false, false, false, false, false, false, false, false] rfl rfl (any_of HT_.out (by kernel_rfl)) (fun _ _ _ h => h) (Or.inr ⟨by rfl, rfl⟩) ?_ ?_
     rotate_left
     ·simp only [Act.put, List.setIfInBounds_toArray, List.set_cons_zero, List.set_cons_succ, i64_w, i32_w]
      rfl
     refine pure_ (i := 3) (N := some 64) (v := ?_) (a' := ?_) #[true, true, true, true, false, false, false, false, false, false, false, false, false, false, false, false, false, false, false, false, false, false, false, false, false, false, false] rfl rfl (any_of HT_.out (by kernel_rfl)) (fun _ _ _ h => h) (Or.inl ⟨by rfl, ?_⟩) ?_ ?_
     rotate_left
     ·intro w'
      go_simp
      with_reducible rfl
     rotate_left
     ·simp only [Act.put, List.setIfInBounds_toArray, List.set_cons_zero, List.set_cons_succ, i64_w, i32_w]
      rfl
     refine pure_ (i := 4) (N := some 65) (v := ?_) (a' := ?_) #[true, true, true, true, true, false, false, false, false, false, false, false, false, false, false, false, false, false, false, false, false, false, false, false, false, false, false] rfl rfl (any_of HT_.out (by kernel_rfl)) (fun _ _ _ h => h) (Or.inl ⟨by rfl, ?_⟩) ?_ ?_
     rotate_left
     ·intro w'
      go_simp
      with_reducible rfl
     rotate_left
     ·simp only [Act.put, List.setIfInBounds_toArray, List.set_cons_zero, List.set_cons_succ, i64_w, i32_w]
      rfl
     refine pure_ (i := 5) (N := some 66) (v := undef) (a' := ?_) #[true, true, true, true, true, true, false, false, false, false, false, false, false, false, false, false, false, false, false, false, false, false, false, false, false, false, false] rfl rfl (any_of HT_.out (by kernel_rfl)) (fun _ _ _ h => h) (Or.inr ⟨by rfl, rfl⟩) ?_ ?_
     rotate_left
     ·simp only [Act.put, List.setIfInBounds_toArray, List.set_cons_zero, List.set_cons_succ, i64_w, i32_w]
      rfl
     refine pure_ (i := 6) (N := some 67) (v := undef) (a' := ?_) #[true, true, true, true, true, true, true, false, false, false, false, false, false, false, false, false, false, false, false, false, false, false, false, false, false, false, false] rfl rfl (any_of HT_.out (by kernel_rfl)) (fun _ _ _ h => h) (Or.inr ⟨by rfl, rfl⟩) ?_ ?_
     rotate_left
     ·simp only [Act.put, List.setIfInBounds_toArray, List.set_cons_zero, List.set_cons_succ, i64_w, i32_w]
      rfl
     refine pure_ (i := 7) (N := some 68) (v := undef) (a' := ?_) #[true, true, true, true, true, true, true, true, false, false, false, false, false, false, false, false, false, false, false, false, false, false, false, false, false, false, false] rfl rfl (any_of HT_.out (by kernel_rfl)) (fun _ _ _ h => h) (Or.inr ⟨by rfl, rfl⟩) ?_ ?_
     rotate_left
     ·simp only [Act.put, List.setIfInBounds_toArray, List.set_cons_zero, List.set_cons_succ, i64_w, i32_w]
      rfl
     refine pure_ (i := 8) (N := some 69) (v := ?_) (a' := ?_) #[true, true, true, true, true, true, true, true, true, false, false, false, false, false, false, false, false, false, false, false, false, false, false, false, false, false, false] rfl rfl (any_of HT_.out (by kernel_rfl)) (fun _ _ _ h => h) (Or.inl ⟨by rfl, ?_⟩) ?_ ?_
     rotate_left
     ·intro w'
      go_simp
      with_reducible rfl
     rotate_left
     ·simp only [Act.put, List.setIfInBounds_toArray, List.set_cons_zero, List.set_cons_succ, i64_w, i32_w]
      rfl
     refine pure_ (i := 9) (N := some 70) (v := ?_) (a' := ?_) #[true, true, true, true, true, true, true, true, true, true, false, false, false, false, false, false, false, false, false, false, false, false, false, false, false, false, false] rfl rfl (any_of HT_.out (by kernel_rfl)) (fun _ _ _ h => h) (Or.inl ⟨by rfl, ?_⟩) ?_ ?_
     rotate_left
     ·intro w'
      go_simp
      with_reducible rfl
     rotate_left
     ·simp only [Act.put, List.setIfInBounds_toArray, List.set_cons_zero, List.set_cons_succ, i64_w, i32_w]
      rfl
     refine pure_ (i := 10) (N := some 71) (v := undef) (a' := ?_) #[true, true, true, true, true, true, true, true, true, true, true, false, false, false, false, false, false, false, false, false, false, false, false, false, false, false, false] rfl rfl (any_of HT_.out (by kernel_rfl)) (fun _ _ _ h => h) (Or.inr ⟨by rfl, rfl⟩) ?_ ?_
     rotate_left
     ·simp only [Act.put, List.setIfInBounds_toArray, List.set_cons_zero, List.set_cons_succ, i64_w, i32_w]
      rfl
     refine pure_ (i := 11) (N := some 72) (v := undef) (a' := ?_) #[true, true, true, true, true, true, true, true, true, true, true, true, false, false, false, false, false, false, false, false, false, false, false, false, false, false, false] rfl rfl (any_of HT_.out (by kernel_rfl)) (fun _ _ _ h => h) (Or.inr ⟨by rfl, rfl⟩) ?_ ?_
     rotate_left
     ·simp only [Act.put, List.setIfInBounds_toArray, List.set_cons_zero, List.set_cons_succ, i64_w, i32_w]
      rfl
     refine pure_ (i := 12) (N := some 73) (v := undef) (a' := ?_) #[true, true, true, true, true, true, true, true, true, true, true, true, true, false, false, false, false, false, false, false, false, false, false, false, false, false, false] rfl rfl (any_of HT_.out (by kernel_rfl)) (fun _ _ _ h => h) (Or.inr ⟨by rfl, rfl⟩) ?_ ?_
     rotate_left
     ·simp only [Act.put, List.setIfInBounds_toArray, List.set_cons_zero, List.set_cons_succ, i64_w, i32_w]
      rfl
     refine pure_ (i := 13) (N := some 74) (v := ?_) (a' := ?_) #[true, true, true, true, true, true, true, true, true, true, true, true, true, true, false, false, false, false, false, false, false, false, false, false, false, false, false] rfl rfl (any_of HT_.out (by kernel_rfl)) (fun _ _ _ h => h) (Or.inl ⟨by rfl, ?_⟩) ?_ ?_
     rotate_left
     ·intro w'
      go_simp
      with_reducible rfl
     rotate_left
     ·simp only [Act.put, List.setIfInBounds_toArray, List.set_cons_zero, List.set_cons_succ, i64_w, i32_w]
      rfl
     refine pure_ (i := 14) (N := some 75) (v := ?_) (a' := ?_) #[true, true, true, true, true, true, true, true, true, true, true, true, true, true, true, false, false, false, false, false, false, false, false, false, false, false, false] rfl rfl (any_of HT_.out (by kernel_rfl)) (fun _ _ _ h => h) (Or.inl ⟨by rfl, ?_⟩) ?_ ?_
     rotate_left
     ·intro w'
      go_simp
      with_reducible rfl
     rotate_left
     ·simp only [Act.put, List.setIfInBounds_toArray, List.set_cons_zero, List.set_cons_succ, i64_w, i32_w]
      rfl
     refine pure_ (i := 15) (N := some 76) (v := undef) (a' := ?_) #[true, true, true, true, true, true, true, true, true, true, true, true, true, true, true, true, false, false, false, false, false, false, false, false, false, false, false] rfl rfl (any_of HT_.out (by kernel_rfl)) (fun _ _ _ h => h) (Or.inr ⟨by rfl, rfl⟩) ?_ ?_
     rotate_left
     ·simp only [Act.put, List.setIfInBounds_toArray, List.set_cons_zero, List.set_cons_succ, i64_w, i32_w]
      rfl
     refine pure_ (i := 16) (N := some 77) (v := undef) (a' := ?_) #[true, true, true, true, true, true, true, true, true, true, true, true, true, true, true, true, true, false, false, false, false, false, false, false, false, false, false] rfl rfl (any_of HT_.out (by kernel_rfl)) (fun _ _ _ h => h) (Or.inr ⟨by rfl, rfl⟩) ?_ ?_
     rotate_left
     ·simp only [Act.put, List.setIfInBounds_toArray, List.set_cons_zero, List.set_cons_succ, i64_w, i32_w]
      rfl
     refine pure_ (i := 17) (N := some 78) (v := undef) (a' := ?_) #[true, true, true, true, true, true, true, true, true, true, true, true, true, true, true, true, true, true, false, false, false, false, false, false, false, false, false] rfl rfl (any_of HT_.out (by kernel_rfl)) (fun _ _ _ h => h) (Or.inr ⟨by rfl, rfl⟩) ?_ ?_
     rotate_left
     ·simp only [Act.put, List.setIfInBounds_toArray, List.set_cons_zero, List.set_cons_succ, i64_w, i32_w]
      rfl
     refine pure_ (i := 18) (N := some 79) (v := ?_) (a' := ?_) #[true, true, true, true, true, true, true, true, true, true, true, true, true, true, true, true, true, true, true, false, false, false, false, false, false, false, false] rfl rfl (any_of HT_.out (by kernel_rfl)) (fun _ _ _ h => h) (Or.inl ⟨by rfl, ?_⟩) ?_ ?_
     rotate_left
     ·intro w'
      go_simp
      with_reducible rfl
     rotate_left
     ·simp only [Act.put, List.setIfInBounds_toArray, List.set_cons_zero, List.set_cons_succ, i64_w, i32_w]
      rfl
     refine pure_ (i := 19) (N := some 80) (v := ?_) (a' := ?_) #[true, true, true, true, true, true, true, true, true, true, true, true, true, true, true, true, true, true, true, true, false, false, false, false, false, false, false] rfl rfl (any_of HT_.out (by kernel_rfl)) (fun _ _ _ h => h) (Or.inl ⟨by rfl, ?_⟩) ?_ ?_
     rotate_left
     ·intro w'
      go_simp
      with_reducible rfl
     rotate_left
     ·simp only [Act.put, List.setIfInBounds_toArray, List.set_cons_zero, List.set_cons_succ, i64_w, i32_w]
      rfl
     refine pure_ (i := 20) (N := some 81) (v := undef) (a' := ?_) #[true, true, true, true, true, true, true, true, true, true, true, true, true, true, true, true, true, true, true, true, true, false, false, false, false, false, false] rfl rfl (any_of HT_.out (by kernel_rfl)) (fun _ _ _ h => h) (Or.inr ⟨by rfl, rfl⟩) ?_ ?_
     rotate_left
     ·simp only [Act.put, List.setIfInBounds_toArray, List.set_cons_zero, List.set_cons_succ, i64_w, i32_w]
      rfl
     refine pure_ (i := 21) (N := some 82) (v := undef) (a' := ?_) #[true, true, true, true, true, true, true, true, true, true, true, true, true, true, true, true, true, true, true, true, true, true, false, false, false, false, false] rfl rfl (any_of HT_.out (by kernel_rfl)) (fun _ _ _ h => h) (Or.inr ⟨by rfl, rfl⟩) ?_ ?_
     rotate_left
     ·simp only [Act.put, List.setIfInBounds_toArray, List.set_cons_zero, List.set_cons_succ, i64_w, i32_w]
      rfl
     refine pure_ (i := 22) (N := some 83) (v := undef) (a' := ?_) #[true, true, true, true, true, true, true, true, true, true, true, true, true, true, true, true, true, true, true, true, true, true, true, false, false, false, false] rfl rfl (any_of HT_.out (by kernel_rfl)) (fun _ _ _ h => h) (Or.inr ⟨by rfl, rfl⟩) ?_ ?_
     rotate_left
     ·simp only [Act.put, List.setIfInBounds_toArray, List.set_cons_zero, List.set_cons_succ, i64_w, i32_w]
      rfl
     refine pure_ (i := 23) (N := some 84) (v := undef) (a' := ?_) #[true, true, true, true, true, true, true, true, true, true, true, true, true, true, true, true, true, true, true, true, true, true, true, true, false, false, false] rfl rfl (any_of HT_.out (by kernel_rfl)) (fun _ _ _ h => h) (Or.inr ⟨by rfl, rfl⟩) ?_ ?_
     rotate_left
     ·simp only [Act.put, List.setIfInBounds_toArray, List.set_cons_zero, List.set_cons_succ, i64_w, i32_w]
      rfl
     refine pure_ (i := 24) (N := some 85) (v := undef) (a' := ?_) #[true, true, true, true, true, true, true, true, true, true, true, true, true, true, true, true, true, true, true, true, true, true, true, true, true, false, false] rfl rfl (any_of HT_.out (by kernel_rfl)) (fun _ _ _ h => h) (Or.inr ⟨by rfl, rfl⟩) ?_ ?_
     rotate_left
     ·simp only [Act.put, List.setIfInBounds_toArray, List.set_cons_zero, List.set_cons_succ, i64_w, i32_w]
      rfl
     refine pure_ (i := 25) (N := some 86) (v := ?_) (a' := ?_) #[true, true, true, true, true, true, true, true, true, true, true, true, true, true, true, true, true, true, true, true, true, true, true, true, true, true, false] rfl rfl (any_of HT_.out (by kernel_rfl)) (fun _ _ _ h => h) (Or.inl ⟨by rfl, ?_⟩) ?_ ?_
     rotate_left
     ·intro w'
      go_simp
      with_reducible rfl
     rotate_left
     ·simp only [Act.put, List.setIfInBounds_toArray, List.set_cons_zero, List.set_cons_succ, i64_w, i32_w]
      rfl
     refine pure_ (i := 26) (N := some 6) (v := ?_) (a' := ?_) #[true, true, true, true, true, true, true, true, true, true, true, true, true, true, true, true, true, true, true, true, true, true, true, true, true, true, true] rfl rfl (any_of HT_.out (by kernel_rfl)) (fun _ _ _ h => h) (Or.inl ⟨by rfl, ?_⟩) ?_ ?_
     rotate_left
     ·intro w'
      go_simp
      with_reducible rfl
     rotate_left
     ·simp only [Act.put, List.setIfInBounds_toArray, List.set_cons_zero, List.set_cons_succ, i64_w, i32_w]
      rfl
     refine done_ (done_of HT_.out (by kernel_rfl)) ?_
     try go_wp2
     go_ret
     exact ⟨by first | rfl | (simp [errW_none, errW_some] <;> rfl) | (refine congrArg (fun z_ => Ending.returned (Value.bool z_)) (decide_eq_decide.mpr ?_); unfold wrap64; omega) | (simp [*, errW_none, errW_some] <;> rfl), by repeat (first | (with_reducible first | exact HB.out | apply below_alloc | apply pw_below_drewN | apply below_drew1 | refine below_set ?_ GE1031.out | refine below_set ?_ GE1038.out | refine below_set ?_ GE1044.out) | exact HB.out)⟩

end Go.Proofs.YthnfmmaolkenkaaDoor.PA
/- Numbers by limbs: what a list of limbs is worth, and its own form. -/
namespace Go.Proofs.YthnfmmaolkenkaaDoor.V
set_option linter.unusedVariables false
set_option linter.unusedSimpArgs false

/-- What limbs are worth. -/
def val : List Int → Int
  | [] => 0
  | x :: r => x + 4294967296 * val r
/-- Limbs of 32 bits. -/
def Lim (l : List Int) : Prop := ∀ x ∈ l, 0 ≤ x ∧ x < 4294967296
theorem Lim.nil : Lim [] := fun _ h => by cases h
theorem Lim.cons {x : Int} {l : List Int} (h0 : 0 ≤ x) (h1 : x < 4294967296) (h : Lim l) : Lim (x :: l) := fun y hy => by
  rcases List.mem_cons.1 hy with rfl | hy
  · exact ⟨h0, h1⟩
  · exact h y hy
theorem Lim.head {x : Int} {l : List Int} (h : Lim (x :: l)) : 0 ≤ x ∧ x < 4294967296 := h x List.mem_cons_self
theorem Lim.tail {x : Int} {l : List Int} (h : Lim (x :: l)) : Lim l := fun y hy => h y (List.mem_cons_of_mem _ hy)
theorem Lim.append {a b : List Int} (ha : Lim a) (hb : Lim b) : Lim (a ++ b) := fun y hy => by
  rcases List.mem_append.1 hy with hy | hy
  · exact ha y hy
  · exact hb y hy
theorem Lim.left {a b : List Int} (h : Lim (a ++ b)) : Lim a := fun y hy => h y (List.mem_append_left _ hy)
theorem Lim.right {a b : List Int} (h : Lim (a ++ b)) : Lim b := fun y hy => h y (List.mem_append_right _ hy)
theorem Lim.take {a : List Int} (n : Nat) (h : Lim a) : Lim (a.take n) := fun y hy => h y (List.mem_of_mem_take hy)
theorem Lim.drop {a : List Int} (n : Nat) (h : Lim a) : Lim (a.drop n) := fun y hy => h y (List.mem_of_mem_drop hy)
theorem Lim.get {l : List Int} (h : Lim l) (i : Nat) (hi : i < l.length) : 0 ≤ l[i] ∧ l[i] < 4294967296 := h _ (List.getElem_mem hi)
theorem Lim.set {l : List Int} (h : Lim l) (i : Nat) {x : Int} (h0 : 0 ≤ x) (h1 : x < 4294967296) : Lim (l.set i x) := fun y hy => by
  rcases List.mem_or_eq_of_mem_set hy with hy | rfl
  · exact h y hy
  · exact ⟨h0, h1⟩
theorem Lim.zeros (n : Nat) : Lim (List.replicate n 0) := fun y hy => by
  obtain rfl := List.eq_of_mem_replicate hy
  omega
theorem val_nonneg {l : List Int} (h : Lim l) : 0 ≤ val l := by
  induction l with
  | nil => simp [val]
  | cons x l ih =>
    have := ih h.tail
    have := h.head
    simp only [val]; omega
/-- The weight of the limb at a place. -/
def pw (n : Nat) : Int := 4294967296 ^ n
theorem pw_zero : pw 0 = 1 := rfl
theorem pw_succ (n : Nat) : pw (n + 1) = 4294967296 * pw n := by unfold pw; rw [Int.pow_succ]; omega
theorem pw_pos (n : Nat) : 0 < pw n := by
  induction n with
  | zero => decide
  | succ n ih => rw [pw_succ]; omega
theorem pw_add (m n : Nat) : pw (m + n) = pw m * pw n := by unfold pw; exact Int.pow_add ..
theorem val_lt {l : List Int} (h : Lim l) : val l < pw l.length := by
  induction l with
  | nil => simp [val, pw_zero]
  | cons x l ih =>
    have := ih h.tail
    have := h.head
    simp only [val, List.length_cons, pw_succ]; omega
theorem val_append (a b : List Int) : val (a ++ b) = val a + pw a.length * val b := by
  induction a with
  | nil => simp [val, pw_zero]
  | cons x a ih => simp only [List.cons_append, val, ih, List.length_cons, pw_succ]; grind
theorem val_zeros (n : Nat) : val (List.replicate n 0) = 0 := by
  induction n with
  | zero => rfl
  | succ n ih => simp only [List.replicate_succ, val, ih]; omega
/-- The limbs of a number, without noughts behind. -/
def digN (n : Nat) : List Int := if h : n = 0 then [] else ((n % 4294967296 : Nat) : Int) :: digN (n / 4294967296)
termination_by n
decreasing_by omega
def dig (n : Int) : List Int := digN n.toNat
theorem digN_lim (n : Nat) : Lim (digN n) := by
  induction n using Nat.strongRecOn with
  | _ n ih =>
    rw [digN]
    split
    · exact Lim.nil
    · exact Lim.cons (by omega) (by omega) (ih _ (by omega))
theorem val_digN (n : Nat) : val (digN n) = n := by
  induction n using Nat.strongRecOn with
  | _ n ih =>
    rw [digN]
    split
    · rename_i h; simp [val, h]
    · simp only [val]; rw [ih _ (by omega)]; omega
theorem dig_lim (n : Int) : Lim (dig n) := digN_lim _
theorem val_dig {n : Int} (h : 0 ≤ n) : val (dig n) = n := by unfold dig; rw [val_digN]; omega
theorem dig_zero : dig 0 = [] := by unfold dig; rw [digN]; rfl
theorem dig_eq_nil {n : Int} (h : 0 ≤ n) : dig n = [] ↔ n = 0 := by
  constructor
  · intro e
    have := val_dig h
    rw [e] at this
    exact this.symm
  · rintro rfl; exact dig_zero
theorem dig_cons {x n : Int} (h0 : 0 ≤ x) (h1 : x < 4294967296) (hn : 0 ≤ n) (h : x + 4294967296 * n ≠ 0) : dig (x + 4294967296 * n) = x :: dig n := by
  unfold dig
  rw [digN]
  rw [dif_neg (by omega)]
  have e1 : (((x + 4294967296 * n).toNat % 4294967296 : Nat) : Int) = x := by omega
  have e2 : (x + 4294967296 * n).toNat / 4294967296 = n.toNat := by omega
  rw [e1, e2]
theorem dig_length_le {n : Int} {k : Nat} (h0 : 0 ≤ n) (h : n < pw k) : (dig n).length ≤ k := by
  induction k generalizing n with
  | zero => rw [pw_zero] at h; rw [show n = 0 by omega, dig_zero]; simp
  | succ k ih =>
    rw [pw_succ] at h
    by_cases hn : n = 0
    · rw [hn, dig_zero]; simp
    · have e : n = n % 4294967296 + 4294967296 * (n / 4294967296) := by omega
      rw [e, dig_cons (by omega) (by omega) (by omega) (by omega)]
      have := ih (n := n / 4294967296) (by omega) (by omega)
      simp; omega
theorem lt_of_dig_length {n : Int} {k : Nat} (h0 : 0 ≤ n) (h : (dig n).length ≤ k) : n < pw k := by
  have := val_lt (dig_lim n)
  rw [val_dig h0] at this
  have hp : pw (dig n).length ≤ pw k := by
    obtain ⟨d, hd⟩ := Nat.exists_eq_add_of_le h
    rw [hd, pw_add]
    have := pw_pos (dig n).length
    have := pw_pos d
    calc pw (dig n).length = pw (dig n).length * 1 := by omega
      _ ≤ _ := Int.mul_le_mul_of_nonneg_left (by omega) (by omega)
  omega
/-- Without the noughts behind: as the machine's Norm. -/
theorem dropWhile_zeros (l : List Int) (h : Lim l) : (l.reverse.dropWhile (fun x => x == 0)).reverse = dig (val l) := by
  induction l with
  | nil => simp [val, dig_zero]
  | cons x l ih =>
    have ih := ih h.tail
    have hx := h.head
    have hv := val_nonneg h.tail
    simp only [val, List.reverse_cons]
    rw [List.dropWhile_append]
    by_cases hz : val l = 0
    · rw [hz, dig_zero] at ih
      have e : (List.dropWhile (fun x => x == 0) l.reverse) = [] := by simpa using ih
      rw [e, hz]
      by_cases h0 : x = 0
      · subst h0; simp [dig_zero]
      · have : dig (x + 4294967296 * 0) = x :: dig 0 := dig_cons (by omega) (by omega) (by omega) (by omega)
        rw [this, dig_zero]
        simp [h0]
    · have hne : dig (val l) ≠ [] := by rw [Ne, dig_eq_nil hv]; exact hz
      rw [dig_cons (by omega) (by omega) hv (by omega), ← ih]
      have e : (List.dropWhile (fun x => x == 0) l.reverse).isEmpty = false := by
        rw [← ih] at hne
        cases hd : List.dropWhile (fun x => x == 0) l.reverse with
        | nil => rw [hd] at hne; simp at hne
        | cons _ _ => rfl
      rw [e]; simp
theorem dig_last {n : Int} (hne : dig n ≠ []) : (dig n).getLast hne ≠ 0 := by
  have key : ∀ (m : Nat) (hne : digN m ≠ []), (digN m).getLast hne ≠ 0 := by
    intro m
    induction m using Nat.strongRecOn with
    | _ m ih =>
      rw [digN]
      split
      · intro h; exact absurd rfl h
      · intro _
        by_cases hd : digN (m / 4294967296) = []
        · have : m / 4294967296 = 0 := by
            have hv := val_digN (m / 4294967296)
            rw [hd] at hv
            simp only [val] at hv
            omega
          simp only [hd, List.getLast_singleton]
          omega
        · rw [List.getLast_cons hd]
          exact ih _ (by omega) hd
  exact key _ hne
theorem val_take_getD (l : List Int) (i : Nat) : val (l.take (i + 1)) = val (l.take i) + pw i * l.getD i 0 := by
  by_cases h : i < l.length
  · rw [List.take_succ_eq_append_getElem h, val_append, List.length_take, Nat.min_eq_left (Nat.le_of_lt h)]
    simp [val, h]
  · rw [List.take_of_length_le (by omega), List.take_of_length_le (by omega), List.getD_eq_getElem?_getD, List.getElem?_eq_none (by omega)]
    simp
theorem val_set_take (l : List Int) (i : Nat) (x : Int) (h : i < l.length) : val ((l.set i x).take (i + 1)) = val (l.take i) + pw i * x := by
  rw [val_take_getD, List.take_set_of_le (Nat.le_refl i)]
  simp [List.getD_eq_getElem?_getD, h]
theorem val_set (l : List Int) (i : Nat) (x : Int) (h : i < l.length) : val (l.set i x) = val l + pw i * (x - l[i]) := by
  induction l generalizing i with
  | nil => simp at h
  | cons y l ih =>
    cases i with
    | zero => simp [val, pw_zero]; omega
    | succ i =>
      have := ih i (by simpa using h)
      simp only [List.set_cons_succ, val, this, pw_succ, List.getElem_cons_succ]
      grind
theorem lim_one {x : Int} (h0 : 0 ≤ x) (h1 : x < 4294967296) : Lim [x] := Lim.cons h0 h1 Lim.nil
theorem val_one (x : Int) : val [x] = x := by simp [val]
theorem val_take_drop (l : List Int) (i : Nat) (h : i ≤ l.length) : val l = val (l.take i) + pw i * val (l.drop i) := by
  have := val_append (l.take i) (l.drop i)
  rwa [List.take_append_drop, List.length_take, Nat.min_eq_left h] at this
theorem val_take_succ (l : List Int) (i : Nat) (h : i < l.length) : val (l.take (i + 1)) = val (l.take i) + pw i * l[i] := by
  rw [List.take_succ_eq_append_getElem h, val_append, List.length_take, Nat.min_eq_left (Nat.le_of_lt h)]
  simp [val]
theorem val_drop_cons (l : List Int) (i : Nat) (h : i < l.length) : val (l.drop i) = l[i] + 4294967296 * val (l.drop (i + 1)) := by
  rw [List.drop_eq_getElem_cons h]; rfl
end Go.Proofs.YthnfmmaolkenkaaDoor.V
