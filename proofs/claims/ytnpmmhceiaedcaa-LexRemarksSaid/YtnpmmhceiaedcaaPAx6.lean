/- Written by a program of this session, wip/tools/patch_print.py, over the kit's print of the loaded functions. -/
import Derived.Test.YtnpmmhceiaedcaaPAx0
import Derived.Test.YtnpmmhceiaedcaaPAx4
import Derived.Test.YtnpmmhceiaedcaaPAx5
namespace Go.Proofs.Ytnpmmhceiaedcaa.H
end Go.Proofs.Ytnpmmhceiaedcaa.H
namespace Go.Proofs.Ytnpmmhceiaedcaa.PA
open Go.RowKit Go.Proofs.YtnpmmhceiaedcaaW.PrintWords Go.Proofs.YtnpmmhceiaedcaaW.PrintLast Go.Proofs.YtnpmmhceiaedcaaW.PrintMore Go.Proofs.Ytnpmmhceiaedcaa.H
attribute [local go_sem] max2_int min2_int max_two min_two max_three min_three max_four min_four   -- for this text's walks alone
set_option linter.unusedVariables false
set_option linter.unusedSimpArgs false

/-! ### gudgeonlaw05_LexRemarks: function 3 -/
mutual
def gudgeonlaw05_LexRemarks.j0 : Nat → ByteArray → ByteArray → ByteArray → Bool → Bool → Option (Bool)
  | 0, _, _, _, _, _ => none
  | k + 1, x0, x1, x2, x7, x37 => if x37 = true then (some x7) else (gudgeonlaw05_LexRemarks.l0 k x0 x1 x2 0)
def gudgeonlaw05_LexRemarks.l0 : Nat → ByteArray → ByteArray → ByteArray → Int → Option (Bool)
  | 0, _, _, _, _ => none
  | k + 1, x0, x1, x2, x8 => if x8 < (x2.size : Int) then (if 0 ≤ x8 then (if (bt x2 x8) < 32 then (some true) else (if (bt x2 x8) > 126 then (some true) else (gudgeonlaw05_LexRemarks.l0 k x0 x1 x2 (wrap64 (x8 + 1))))) else (none)) else ((lex_Lex.f k x0).bind fun bt185 => (if bt185.2.1 = 0 then ((lex_Lex.f k x1).bind fun bt190 => (if x0.size + 3 ≤ 9223372036854775807 then (if x0.size + 3 + x2.size ≤ 9223372036854775807 then (if x0.size + 3 + x2.size + 1 ≤ 9223372036854775807 then (if x0.size + 3 + x2.size + 1 + x1.size ≤ 9223372036854775807 then ((lex_Lex.f k ((((x0 ++ (⟨#[10, 32, 59]⟩ : ByteArray)) ++ x2) ++ (⟨#[10]⟩ : ByteArray)) ++ x1)).bind fun bt195 => (if ([] : List (S31)).length + bt185.1.length < 4398046511104 then ((some (([] : List (S31)) ++ bt185.1 : List (S31))).bind fun y200 => (if y200.length + bt190.1.length < 4398046511104 then ((gudgeonref05_Same.f k (y200 ++ bt190.1) bt195.1 false).bind fun t206 => (if t206 = true then (some (bt190.2.1 == bt195.2.1)) else (some false))) else (none))) else (none))) else (none)) else (none)) else (none)) else (none))) else (some true)))
end
def gudgeonlaw05_LexRemarks.f (k : Nat) (a0 : ByteArray) (a1 : ByteArray) (a2 : ByteArray) : Option (Bool) := (gudgeonlaw05_awake.f k).bind fun t184 => (if t184 = true then (if (a0.size : Int) > 2000 then (gudgeonlaw05_LexRemarks.j0 k a0 a1 a2 t184 true) else (if (a1.size : Int) > 2000 then (gudgeonlaw05_LexRemarks.j0 k a0 a1 a2 t184 true) else (gudgeonlaw05_LexRemarks.j0 k a0 a1 a2 t184 (decide ((a2.size : Int) > 2000))))) else (gudgeonlaw05_LexRemarks.j0 k a0 a1 a2 t184 true))
theorem gudgeonlaw05_LexRemarks.mono_l : ∀ k, (∀ y0 y1 y2 y3 y4, LeO (gudgeonlaw05_LexRemarks.j0 k y0 y1 y2 y3 y4) (gudgeonlaw05_LexRemarks.j0 (k + 1) y0 y1 y2 y3 y4)) ∧ (∀ y0 y1 y2 y3, LeO (gudgeonlaw05_LexRemarks.l0 k y0 y1 y2 y3) (gudgeonlaw05_LexRemarks.l0 (k + 1) y0 y1 y2 y3))
  | 0 => ⟨fun _ _ _ _ _ r h => by simp [gudgeonlaw05_LexRemarks.j0] at h, fun _ _ _ _ r h => by simp [gudgeonlaw05_LexRemarks.l0] at h⟩
  | k + 1 => by
    obtain ⟨ih0, ih1⟩ := gudgeonlaw05_LexRemarks.mono_l k
    refine ⟨?_, ?_⟩
    · intro y0 y1 y2 y3 y4
      unfold gudgeonlaw05_LexRemarks.j0
      repeat' first
      | (with_reducible exact ih0 _ _ _ _ _)
      | (with_reducible exact ih1 _ _ _ _)
      | (with_reducible exact gudgeonlaw05_awake.mono _)
      | (with_reducible exact gudgeonref05_Same.mono _ _ _ _)
      | (with_reducible exact lex_Lex.mono _ _)
      | (with_reducible exact LeO.refl _)
      | (with_reducible exact LeO.none _)
      | (with_reducible refine LeO.ite ?_ ?_)
      | (with_reducible refine LeO.bind ?_ (fun _ => ?_))
      | exact ih0 _ _ _ _ _
      | exact ih1 _ _ _ _
      | exact gudgeonlaw05_awake.mono _
      | exact gudgeonref05_Same.mono _ _ _ _
      | exact lex_Lex.mono _ _
      | exact LeO.none _
      | refine LeO.ite ?_ ?_
      | refine LeO.bind ?_ (fun _ => ?_)
    · intro y0 y1 y2 y3
      unfold gudgeonlaw05_LexRemarks.l0
      repeat' first
      | (with_reducible exact ih0 _ _ _ _ _)
      | (with_reducible exact ih1 _ _ _ _)
      | (with_reducible exact gudgeonlaw05_awake.mono _)
      | (with_reducible exact gudgeonref05_Same.mono _ _ _ _)
      | (with_reducible exact lex_Lex.mono _ _)
      | (with_reducible exact LeO.refl _)
      | (with_reducible exact LeO.none _)
      | (with_reducible refine LeO.ite ?_ ?_)
      | (with_reducible refine LeO.bind ?_ (fun _ => ?_))
      | exact ih0 _ _ _ _ _
      | exact ih1 _ _ _ _
      | exact gudgeonlaw05_awake.mono _
      | exact gudgeonref05_Same.mono _ _ _ _
      | exact lex_Lex.mono _ _
      | exact LeO.none _
      | refine LeO.ite ?_ ?_
      | refine LeO.bind ?_ (fun _ => ?_)
theorem gudgeonlaw05_LexRemarks.mono : ∀ a0 a1 a2 k, LeO (gudgeonlaw05_LexRemarks.f k a0 a1 a2) (gudgeonlaw05_LexRemarks.f (k + 1) a0 a1 a2) := by
  intro a0 a1 a2 k
  obtain ⟨ih0, ih1⟩ := gudgeonlaw05_LexRemarks.mono_l k
  unfold gudgeonlaw05_LexRemarks.f
  repeat' first
      | (with_reducible exact ih0 _ _ _ _ _)
      | (with_reducible exact ih1 _ _ _ _)
      | (with_reducible exact gudgeonlaw05_awake.mono _)
      | (with_reducible exact gudgeonref05_Same.mono _ _ _ _)
      | (with_reducible exact lex_Lex.mono _ _)
      | (with_reducible exact LeO.refl _)
      | (with_reducible exact LeO.none _)
      | (with_reducible refine LeO.ite ?_ ?_)
      | (with_reducible refine LeO.bind ?_ (fun _ => ?_))
      | exact ih0 _ _ _ _ _
      | exact ih1 _ _ _ _
      | exact gudgeonlaw05_awake.mono _
      | exact gudgeonref05_Same.mono _ _ _ _
      | exact lex_Lex.mono _ _
      | exact LeO.none _
      | refine LeO.ite ?_ ?_
      | refine LeO.bind ?_ (fun _ => ?_)
set_option maxHeartbeats 8000000 in
set_option maxRecDepth 100000 in
theorem gudgeonlaw05_LexRemarks.calls (k : Nat) (a0 : ByteArray) (a1 : ByteArray) (a2 : ByteArray) (r : Bool) (w : World) (h : gudgeonlaw05_LexRemarks.f k a0 a1 a2 = some r) :
    Calls Try.prog 3 #[.string a0, .string a1, .string a2] w fun e w' => e = .returned (.bool r) ∧ Below w.heap.size w w' := by
  have HB := Aside0.mk (Below.refl w.heap.size w)
  have H : ((gudgeonlaw05_awake.f k).bind fun t184 => (if t184 = true then (if (a0.size : Int) > 2000 then (gudgeonlaw05_LexRemarks.j0 k a0 a1 a2 t184 true) else (if (a1.size : Int) > 2000 then (gudgeonlaw05_LexRemarks.j0 k a0 a1 a2 t184 true) else (gudgeonlaw05_LexRemarks.j0 k a0 a1 a2 t184 (decide ((a2.size : Int) > 2000))))) else (gudgeonlaw05_LexRemarks.j0 k a0 a1 a2 t184 true))) = some r := h
  clear h
  replace H := Option.bind_eq_some_iff.mp H
  obtain ⟨t184, A40, H⟩ := H
  replace H : (if t184 = true then (if (a0.size : Int) > 2000 then (gudgeonlaw05_LexRemarks.j0 k a0 a1 a2 t184 true) else (if (a1.size : Int) > 2000 then (gudgeonlaw05_LexRemarks.j0 k a0 a1 a2 t184 true) else (gudgeonlaw05_LexRemarks.j0 k a0 a1 a2 t184 (decide ((a2.size : Int) > 2000))))) else (gudgeonlaw05_LexRemarks.j0 k a0 a1 a2 t184 true)) = some r := H
  have A4 := Aside0.mk A40
  clear A40
  have HC5 := Aside0.mk H
  clear H
  go_enter Try.func3, Try.ntmps3
  go_upto_region 2 with (first | ((with_reducible refine gate_callee (f := 5) rfl ?_); refine goesL_ (some 20) rfl rfl Try.func5 (by kernel_rfl) rfl #[] rfl (by (try simp only [List.map_toArray, List.map_cons, List.map_nil]); first | done | rfl | (simp only [List.length_drop, List.length_take]; rfl)) ?_; (with_reducible refine (gudgeonlaw05_awake.calls k  t184 _ A4.out).mono ?_); rintro e w6 ⟨rfl, hb⟩; refine ⟨_, rfl, ?_⟩; have n0_ := Aside0.mk (below_step (by repeat (first | (with_reducible first | exact HB.out | apply below_alloc | apply pw_below_drewN | apply below_drew1) | exact HB.out)) hb); clear HB; have HB := n0_; clear n0_; (try clear hb); (try clear hb2); (try clear hk); (try clear hi)))
  (try simp only [Act.put, List.setIfInBounds_toArray, List.set_cons_zero, List.set_cons_succ])
  go_cut [37] (fun v37 wc => ∃ (kq : Nat) (x37_4 : Bool), v37 = .bool x37_4 ∧ Aside0 (gudgeonlaw05_LexRemarks.j0 kq a0 a1 a2 t184 x37_4 = some r) ∧ Aside0 (kq ≤ k) ∧ Aside0 (Below w.heap.size w wc))
  case first =>
    have H := HC5.out
    clear HC5
    by_cases c7 : t184 = true
    · subst c7
      have H1 : (if (a0.size : Int) > 2000 then (gudgeonlaw05_LexRemarks.j0 k a0 a1 a2 true true) else (if (a1.size : Int) > 2000 then (gudgeonlaw05_LexRemarks.j0 k a0 a1 a2 true true) else (gudgeonlaw05_LexRemarks.j0 k a0 a1 a2 true (decide ((a2.size : Int) > 2000))))) = some r := by rw [if_pos rfl] at H; exact H
      clear H
      have H := H1
      clear H1
      by_cases c8 : (a0.size : Int) > 2000
      · rw [if_pos c8] at H
        have c8b0 : decide (2000 < (a0.size : Int)) = true := decide_eq_true c8
        have c8b1 : decide (2000 < a0.size) = true := decide_eq_true (by omega)
        clear c8
        (first | rw [c8b0] | rw [c8b1] | (simp only [i64_w, i32_w]; rw [c8b0]) | skip)
        have H' := Aside0.mk H
        clear H
        go_wp2
        go_meet
        case rel => exact ⟨_, (true), (by first | rfl | (simp; done) | (simp [*]; done) | (refine congrArg (Value.int _) ?_; omega) | (refine congrArg Value.bool ?_; generalize ByteArray.toList _ = z_; cases z_ <;> rfl)), H', ⟨by first | omega | exact Nat.le_refl _⟩, ⟨by repeat (first | (with_reducible first | exact HB.out | apply below_alloc | apply pw_below_drewN | apply below_drew1) | exact HB.out)⟩⟩
      · rw [if_neg c8] at H
        have c8b0 : decide (2000 < (a0.size : Int)) = false := decide_eq_false c8
        have c8b1 : decide (2000 < a0.size) = false := decide_eq_false (by omega)
        clear c8
        (first | rw [c8b0] | rw [c8b1] | (simp only [i64_w, i32_w]; rw [c8b0]) | skip)
        by_cases c9 : (a1.size : Int) > 2000
        · rw [if_pos c9] at H
          have c9b0 : decide (2000 < (a1.size : Int)) = true := decide_eq_true c9
          have c9b1 : decide (2000 < a1.size) = true := decide_eq_true (by omega)
          clear c9
          have H' := Aside0.mk H
          clear H
          go_wp2
          go_meet
          case rel => exact ⟨_, (true), (by first | rfl | (simp; done) | (simp [*]; done) | (refine congrArg (Value.int _) ?_; omega) | (refine congrArg Value.bool ?_; generalize ByteArray.toList _ = z_; cases z_ <;> rfl)), H', ⟨by first | omega | exact Nat.le_refl _⟩, ⟨by repeat (first | (with_reducible first | exact HB.out | apply below_alloc | apply pw_below_drewN | apply below_drew1) | exact HB.out)⟩⟩
        · rw [if_neg c9] at H
          have c9b0 : decide (2000 < (a1.size : Int)) = false := decide_eq_false c9
          have c9b1 : decide (2000 < a1.size) = false := decide_eq_false (by omega)
          clear c9
          have H' := Aside0.mk H
          clear H
          go_wp2
          go_meet
          case rel => exact ⟨_, (decide ((a2.size : Int) > 2000)), (by first | rfl | (simp; done) | (simp [*]; done) | (refine congrArg (Value.int _) ?_; omega) | (refine congrArg Value.bool ?_; generalize ByteArray.toList _ = z_; cases z_ <;> rfl)), H', ⟨by first | omega | exact Nat.le_refl _⟩, ⟨by repeat (first | (with_reducible first | exact HB.out | apply below_alloc | apply pw_below_drewN | apply below_drew1) | exact HB.out)⟩⟩
    · replace c7 := Bool.eq_false_iff.mpr c7
      subst c7
      have H1 : (gudgeonlaw05_LexRemarks.j0 k a0 a1 a2 false true) = some r := by rw [if_neg (show ¬ (false = true) by decide)] at H; exact H
      clear H
      have H := H1
      clear H1
      have H' := Aside0.mk H
      clear H
      go_wp2
      go_meet
      case rel => exact ⟨_, (true), (by first | rfl | (simp; done) | (simp [*]; done) | (refine congrArg (Value.int _) ?_; omega) | (refine congrArg Value.bool ?_; generalize ByteArray.toList _ = z_; cases z_ <;> rfl)), H', ⟨by first | omega | exact Nat.le_refl _⟩, ⟨by repeat (first | (with_reducible first | exact HB.out | apply below_alloc | apply pw_below_drewN | apply below_drew1) | exact HB.out)⟩⟩
  case rest =>
    clear HC5
    try clear p2
    try clear c3
    try clear c5
    try clear c7
    try clear c8
    try clear c8b0
    try clear c8b1
    try clear c9
    try clear c9b0
    try clear c9b1
    obtain ⟨kq, x37_4, rfl, HA, HJ4, HB⟩ := hcut
    cases kq with
    | zero => exact absurd HA.out (by simp [gudgeonlaw05_LexRemarks.j0])
    | succ kj4 =>
      have H := HA.out
      clear HA
      simp only [gudgeonlaw05_LexRemarks.j0] at H
      by_cases c10 : x37_4 = true
      · subst c10
        have H1 : (some t184) = some r := by rw [if_pos rfl] at H; exact H
        clear H
        have H := H1
        clear H1
        obtain rfl := Option.some.inj H
        go_wp2
        go_ret
        exact ⟨by first | rfl | (simp [errW_none, errW_some] <;> rfl) | (refine congrArg (fun z_ => Ending.returned (Value.bool z_)) (decide_eq_decide.mpr ?_); unfold wrap64; omega) | (simp [*, errW_none, errW_some] <;> rfl), by repeat (first | (with_reducible first | exact HB.out | apply below_alloc | apply pw_below_drewN | apply below_drew1) | exact HB.out)⟩
      · replace c10 := Bool.eq_false_iff.mpr c10
        subst c10
        have H1 : (gudgeonlaw05_LexRemarks.l0 kj4 a0 a1 a2 0) = some r := by rw [if_neg (show ¬ (false = true) by decide)] at H; exact H
        clear H
        have H := H1
        clear H1
        have H' := Aside0.mk H
        clear H
        go_wp2
        go_loopg [8] kj4 (fun kq v8 w' => ∃ (x8_2 : Int), v8 = .int .i64 x8_2 ∧ Aside0 (gudgeonlaw05_LexRemarks.l0 kq a0 a1 a2 x8_2 = some r) ∧ Aside0 (kq ≤ kj4) ∧ Aside0 (Below w.heap.size w w'))
        case atStart => exact ⟨(0), (by first | rfl | (simp; done) | (simp [*]; done) | (refine congrArg (Value.int _) ?_; omega) | (refine congrArg Value.bool ?_; generalize ByteArray.toList _ = z_; cases z_ <;> rfl)), H', ⟨Nat.le_refl _⟩, ⟨by repeat (first | (with_reducible first | exact HB.out | apply below_alloc | apply pw_below_drewN | apply below_drew1) | exact HB.out)⟩⟩
        case round =>
          clear H'
          try clear c1
          try clear p2
          try clear c3
          try clear c5
          try clear c7
          try clear c8
          try clear c8b0
          try clear c8b1
          try clear c9
          try clear c9b0
          try clear c9b1
          try clear c10
          try clear p2
          obtain ⟨x8_2, rfl, HA, HK2, HB⟩ := hrel
          cases gk with
          | zero => exact absurd HA.out (by simp [gudgeonlaw05_LexRemarks.l0])
          | succ k2 =>
            have H := HA.out
            clear HA
            simp only [gudgeonlaw05_LexRemarks.l0] at H
            by_cases c11 : x8_2 < (a2.size : Int)
            · rw [if_pos c11] at H
              have c11b0 : decide (x8_2 < (a2.size : Int)) = true := decide_eq_true c11
              clear c11
              by_cases c12 : 0 ≤ x8_2
              · rw [if_pos c12] at H
                have c12b0 : decide (0 ≤ x8_2) = true := decide_eq_true c12
                clear c12
                by_cases c14 : (bt a2 x8_2) < 32
                · rw [if_pos c14] at H
                  have c14b0 : decide ((bt a2 x8_2) < 32) = true := decide_eq_true c14
                  clear c14
                  obtain rfl := Option.some.inj H
                  have p13 : 0 ≤ (x8_2 : Int) := of_decide_eq_true (by first | (with_reducible assumption) | assumption)
                  have q13 : x8_2 < (a2.size : Int) := of_decide_eq_true (by first | (with_reducible assumption) | assumption)
                  have hx13 := bt_at a2 x8_2
                  replace p13 := eq_true p13
                  replace q13 := eq_true q13
                  go_wp2
                  go_ret
                  exact ⟨by first | rfl | (simp [errW_none, errW_some] <;> rfl) | (refine congrArg (fun z_ => Ending.returned (Value.bool z_)) (decide_eq_decide.mpr ?_); unfold wrap64; omega) | (simp [*, errW_none, errW_some] <;> rfl), by repeat (first | (with_reducible first | exact HB.out | apply below_alloc | apply pw_below_drewN | apply below_drew1) | exact HB.out)⟩
                · rw [if_neg c14] at H
                  have c14b0 : decide ((bt a2 x8_2) < 32) = false := decide_eq_false c14
                  clear c14
                  by_cases c16 : (bt a2 x8_2) > 126
                  · rw [if_pos c16] at H
                    have c16b0 : decide (126 < (bt a2 x8_2)) = true := decide_eq_true c16
                    clear c16
                    obtain rfl := Option.some.inj H
                    have p13 : 0 ≤ (x8_2 : Int) := of_decide_eq_true (by first | (with_reducible assumption) | assumption)
                    have q13 : x8_2 < (a2.size : Int) := of_decide_eq_true (by first | (with_reducible assumption) | assumption)
                    have hx13 := bt_at a2 x8_2
                    replace p13 := eq_true p13
                    replace q13 := eq_true q13
                    have p15 : 0 ≤ (x8_2 : Int) := of_decide_eq_true (by first | (with_reducible assumption) | assumption)
                    have q15 : x8_2 < (a2.size : Int) := of_decide_eq_true (by first | (with_reducible assumption) | assumption)
                    have hx15 := bt_at a2 x8_2
                    replace p15 := eq_true p15
                    replace q15 := eq_true q15
                    go_wp2
                    go_ret
                    exact ⟨by first | rfl | (simp [errW_none, errW_some] <;> rfl) | (refine congrArg (fun z_ => Ending.returned (Value.bool z_)) (decide_eq_decide.mpr ?_); unfold wrap64; omega) | (simp [*, errW_none, errW_some] <;> rfl), by repeat (first | (with_reducible first | exact HB.out | apply below_alloc | apply pw_below_drewN | apply below_drew1) | exact HB.out)⟩
                  · rw [if_neg c16] at H
                    have c16b0 : decide (126 < (bt a2 x8_2)) = false := decide_eq_false c16
                    clear c16
                    have H' := Aside0.mk H
                    clear H
                    have p13 : 0 ≤ (x8_2 : Int) := of_decide_eq_true (by first | (with_reducible assumption) | assumption)
                    have q13 : x8_2 < (a2.size : Int) := of_decide_eq_true (by first | (with_reducible assumption) | assumption)
                    have hx13 := bt_at a2 x8_2
                    replace p13 := eq_true p13
                    replace q13 := eq_true q13
                    have p15 : 0 ≤ (x8_2 : Int) := of_decide_eq_true (by first | (with_reducible assumption) | assumption)
                    have q15 : x8_2 < (a2.size : Int) := of_decide_eq_true (by first | (with_reducible assumption) | assumption)
                    have hx15 := bt_at a2 x8_2
                    replace p15 := eq_true p15
                    replace q15 := eq_true q15
                    go_wp2
                    go_roundg k2
                    case measure => have := HJ4.out; have := HK2.out; omega
                    case rel => exact ⟨(wrap64 (x8_2 + 1)), (by first | rfl | (simp; done) | (simp [*]; done) | (refine congrArg (Value.int _) ?_; omega) | (refine congrArg Value.bool ?_; generalize ByteArray.toList _ = z_; cases z_ <;> rfl)), H', ⟨by have := HJ4.out; have := HK2.out; omega⟩, ⟨by repeat (first | (with_reducible first | exact HB.out | apply below_alloc | apply pw_below_drewN | apply below_drew1) | exact HB.out)⟩⟩
              · rw [if_neg c12] at H
                exact absurd H (by simp)
            · rw [if_neg c11] at H
              have c11b0 : decide (x8_2 < (a2.size : Int)) = false := decide_eq_false c11
              clear c11
              replace H := Option.bind_eq_some_iff.mp H
              obtain ⟨⟨t185, t186, t187⟩, A170, H⟩ := H
              replace H : (if t186 = 0 then ((lex_Lex.f k2 a1).bind fun bt190 => (if a0.size + 3 ≤ 9223372036854775807 then (if a0.size + 3 + a2.size ≤ 9223372036854775807 then (if a0.size + 3 + a2.size + 1 ≤ 9223372036854775807 then (if a0.size + 3 + a2.size + 1 + a1.size ≤ 9223372036854775807 then ((lex_Lex.f k2 ((((a0 ++ (⟨#[10, 32, 59]⟩ : ByteArray)) ++ a2) ++ (⟨#[10]⟩ : ByteArray)) ++ a1)).bind fun bt195 => (if ([] : List (S31)).length + t185.length < 4398046511104 then ((some (([] : List (S31)) ++ t185 : List (S31))).bind fun y200 => (if y200.length + bt190.1.length < 4398046511104 then ((gudgeonref05_Same.f k2 (y200 ++ bt190.1) bt195.1 false).bind fun t206 => (if t206 = true then (some (bt190.2.1 == bt195.2.1)) else (some false))) else (none))) else (none))) else (none)) else (none)) else (none)) else (none))) else (some true)) = some r := H
              have A17 := Aside0.mk A170
              clear A170
              by_cases c18 : t186 = 0
              · rw [if_pos c18] at H
                have c18b0 : (t186 == 0) = true := beq_iff_eq.mpr c18
                have c18b1 : (t186 != 0) = false := bne_eq_false_iff_eq.mpr c18
                clear c18
                replace H := Option.bind_eq_some_iff.mp H
                obtain ⟨⟨t190, t191, t192⟩, A190, H⟩ := H
                replace H : (if a0.size + 3 ≤ 9223372036854775807 then (if a0.size + 3 + a2.size ≤ 9223372036854775807 then (if a0.size + 3 + a2.size + 1 ≤ 9223372036854775807 then (if a0.size + 3 + a2.size + 1 + a1.size ≤ 9223372036854775807 then ((lex_Lex.f k2 ((((a0 ++ (⟨#[10, 32, 59]⟩ : ByteArray)) ++ a2) ++ (⟨#[10]⟩ : ByteArray)) ++ a1)).bind fun bt195 => (if ([] : List (S31)).length + t185.length < 4398046511104 then ((some (([] : List (S31)) ++ t185 : List (S31))).bind fun y200 => (if y200.length + t190.length < 4398046511104 then ((gudgeonref05_Same.f k2 (y200 ++ t190) bt195.1 false).bind fun t206 => (if t206 = true then (some (t191 == bt195.2.1)) else (some false))) else (none))) else (none))) else (none)) else (none)) else (none)) else (none)) = some r := H
                have A19 := Aside0.mk A190
                clear A190
                by_cases c20 : a0.size + 3 ≤ 9223372036854775807
                · rw [if_pos c20] at H
                  have c20b0 := eq_true c20
                  have c20b1 : decide (a0.size + 3 ≤ 9223372036854775807) = true := decide_eq_true c20
                  try have c20b2 : (9223372036854775807 < a0.size + 3) = False := eq_false (Nat.not_lt.2 c20)
                  by_cases c21 : a0.size + 3 + a2.size ≤ 9223372036854775807
                  · rw [if_pos c21] at H
                    have c21b0 := eq_true c21
                    have c21b1 : decide (a0.size + 3 + a2.size ≤ 9223372036854775807) = true := decide_eq_true c21
                    try have c21b2 : (9223372036854775807 < a0.size + 3 + a2.size) = False := eq_false (Nat.not_lt.2 c21)
                    by_cases c22 : a0.size + 3 + a2.size + 1 ≤ 9223372036854775807
                    · rw [if_pos c22] at H
                      have c22b0 := eq_true c22
                      have c22b1 : decide (a0.size + 3 + a2.size + 1 ≤ 9223372036854775807) = true := decide_eq_true c22
                      try have c22b2 : (9223372036854775807 < a0.size + 3 + a2.size + 1) = False := eq_false (Nat.not_lt.2 c22)
                      by_cases c23 : a0.size + 3 + a2.size + 1 + a1.size ≤ 9223372036854775807
                      · rw [if_pos c23] at H
                        have c23b0 := eq_true c23
                        have c23b1 : decide (a0.size + 3 + a2.size + 1 + a1.size ≤ 9223372036854775807) = true := decide_eq_true c23
                        try have c23b2 : (9223372036854775807 < a0.size + 3 + a2.size + 1 + a1.size) = False := eq_false (Nat.not_lt.2 c23)
                        replace H := Option.bind_eq_some_iff.mp H
                        obtain ⟨⟨t195, t196, t197⟩, A240, H⟩ := H
                        replace H : (if ([] : List (S31)).length + t185.length < 4398046511104 then ((some (([] : List (S31)) ++ t185 : List (S31))).bind fun y200 => (if y200.length + t190.length < 4398046511104 then ((gudgeonref05_Same.f k2 (y200 ++ t190) t195 false).bind fun t206 => (if t206 = true then (some (t191 == t196)) else (some false))) else (none))) else (none)) = some r := H
                        have A24 := Aside0.mk A240
                        clear A240
                        by_cases c25 : ([] : List (S31)).length + t185.length < 4398046511104
                        · rw [if_pos c25] at H
                          have LMc25 := Aside0.mk c25
                          clear c25
                          obtain ⟨y200, hy200⟩ : ∃ y_ : List (S31), y_ = (([] : List (S31)) ++ t185) := ⟨_, rfl⟩
                          replace H : (if y200.length + t190.length < 4398046511104 then ((gudgeonref05_Same.f k2 (y200 ++ t190) t195 false).bind fun t206 => (if t206 = true then (some (t191 == t196)) else (some false))) else (none)) = some r := by first | (rw [hy200]; with_reducible exact H) | (have H2_ := (Option.bind_some _ _).symm.trans H; rw [hy200]; with_reducible exact H2_) | (have H2_ := (Option.bind_some _ _).symm.trans H; with_reducible exact H2_) | with_reducible exact H | (rw [hy200]; exact H) | exact H
                          have Ny200 := Aside0.mk hy200
                          clear hy200
                          by_cases c26 : y200.length + t190.length < 4398046511104
                          · rw [if_pos c26] at H
                            have LMc26 := Aside0.mk c26
                            clear c26
                            obtain ⟨y203, hy203⟩ : ∃ y_ : List (S31), y_ = (y200 ++ t190) := ⟨_, rfl⟩
                            replace H : ((gudgeonref05_Same.f k2 y203 t195 false).bind fun t206 => (if t206 = true then (some (t191 == t196)) else (some false))) = some r := by first | (rw [hy203]; with_reducible exact H) | (have H2_ := (Option.bind_some _ _).symm.trans H; rw [hy203]; with_reducible exact H2_) | (have H2_ := (Option.bind_some _ _).symm.trans H; with_reducible exact H2_) | with_reducible exact H | (rw [hy203]; exact H) | exact H
                            have Ny203 := Aside0.mk hy203
                            clear hy203
                            replace H := Option.bind_eq_some_iff.mp H
                            obtain ⟨t206, A270, H⟩ := H
                            replace H : (if t206 = true then (some (t191 == t196)) else (some false)) = some r := H
                            have A27 := Aside0.mk A270
                            clear A270
                            by_cases c28 : t206 = true
                            · subst c28
                              have H1 : (some (t191 == t196)) = some r := by rw [if_pos rfl] at H; exact H
                              clear H
                              have H := H1
                              clear H1
                              obtain rfl := Option.some.inj H
                              go_wp2_with (first | ((with_reducible refine gate_callee (f := 6) rfl ?_); refine goesL_ (some 57) rfl rfl Try.func6 (by kernel_rfl) rfl #[.string a0] rfl (by (try simp only [List.map_toArray, List.map_cons, List.map_nil]); first | done | rfl | (simp only [List.length_drop, List.length_take]; rfl)) ?_; (with_reducible refine (lex_Lex.calls k2 a0 t185 t186 t187 _ A17.out).mono ?_); rintro e w29 ⟨v188, rfl, ho0, hb⟩; refine ⟨_, rfl, ?_⟩; have n0_ := Aside0.mk (Kd.R_lower ho0 (below_size (by repeat (first | (with_reducible first | exact HB.out | apply below_alloc | apply pw_below_drewN | apply below_drew1) | exact HB.out)))); have n1_ := Aside0.mk (below_step (by repeat (first | (with_reducible first | exact HB.out | apply below_alloc | apply pw_below_drewN | apply below_drew1) | exact HB.out)) hb); clear HB; have HO189 := n0_; have HB := n1_; clear n0_ n1_; (try clear hb); (try clear hb2); (try clear hk); (try clear hi); (try clear ho0)) | ((with_reducible refine gate_callee (f := 6) rfl ?_); refine goesL_ (some 65) rfl rfl Try.func6 (by kernel_rfl) rfl #[.string a1] rfl (by (try simp only [List.map_toArray, List.map_cons, List.map_nil]); first | done | rfl | (simp only [List.length_drop, List.length_take]; rfl)) ?_; (with_reducible refine (lex_Lex.calls k2 a1 t190 t191 t192 _ A19.out).mono ?_); rintro e w30 ⟨v193, rfl, ho0, hb⟩; refine ⟨_, rfl, ?_⟩; have n0_ := Aside0.mk (Kd.R_elder' (by (with_reducible repeat (first | apply Kd.R_alloc | apply Kd.R_drewN | apply Kd.R_drew)); exact HO189.out) (Kd.R_base ho0) hb); have n1_ := Aside0.mk (Kd.R_lower (Kd.R_new' ho0 (Kd.R_lt (by (with_reducible repeat (first | apply Kd.R_alloc | apply Kd.R_drewN | apply Kd.R_drew)); exact HO189.out))) (below_size (by repeat (first | (with_reducible first | exact HB.out | apply below_alloc | apply pw_below_drewN | apply below_drew1) | exact HB.out)))); have n2_ := Aside0.mk (below_step (by repeat (first | (with_reducible first | exact HB.out | apply below_alloc | apply pw_below_drewN | apply below_drew1) | exact HB.out)) hb); clear HO189; clear HB; have HO189 := n0_; have HO194 := n1_; have HB := n2_; clear n0_ n1_ n2_; (try clear hb); (try clear hb2); (try clear hk); (try clear hi); (try clear ho0)) | ((with_reducible refine gate_callee (f := 6) rfl ?_); refine goesL_ (some 77) rfl rfl Try.func6 (by kernel_rfl) rfl #[.string ((((a0 ++ (⟨#[10, 32, 59]⟩ : ByteArray)) ++ a2) ++ (⟨#[10]⟩ : ByteArray)) ++ a1)] rfl (by (try simp only [List.map_toArray, List.map_cons, List.map_nil]); first | done | rfl | (simp only [List.length_drop, List.length_take]; rfl)) ?_; (with_reducible refine (lex_Lex.calls k2 ((((a0 ++ (⟨#[10, 32, 59]⟩ : ByteArray)) ++ a2) ++ (⟨#[10]⟩ : ByteArray)) ++ a1) t195 t196 t197 _ A24.out).mono ?_); rintro e w31 ⟨v198, rfl, ho0, hb⟩; refine ⟨_, rfl, ?_⟩; have n0_ := Aside0.mk (Kd.R_elder' (by (with_reducible repeat (first | apply Kd.R_alloc | apply Kd.R_drewN | apply Kd.R_drew)); exact HO189.out) (Kd.R_base ho0) hb); have n1_ := Aside0.mk (Kd.R_elder' (by (with_reducible repeat (first | apply Kd.R_alloc | apply Kd.R_drewN | apply Kd.R_drew)); exact HO194.out) (Kd.R_base ho0) hb); have n2_ := Aside0.mk (Kd.R_lower (Kd.R_new' (Kd.R_new' ho0 (Kd.R_lt (by (with_reducible repeat (first | apply Kd.R_alloc | apply Kd.R_drewN | apply Kd.R_drew)); exact HO189.out))) (Kd.R_lt (by (with_reducible repeat (first | apply Kd.R_alloc | apply Kd.R_drewN | apply Kd.R_drew)); exact HO194.out))) (below_size (by repeat (first | (with_reducible first | exact HB.out | apply below_alloc | apply pw_below_drewN | apply below_drew1) | exact HB.out)))); have n3_ := Aside0.mk (below_step (by repeat (first | (with_reducible first | exact HB.out | apply below_alloc | apply pw_below_drewN | apply below_drew1) | exact HB.out)) hb); clear HO189; clear HO194; clear HB; have HO189 := n0_; have HO194 := n1_; have HO199 := n2_; have HB := n3_; clear n0_ n1_ n2_ n3_; (try clear hb); (try clear hb2); (try clear hk); (try clear hi); (try clear ho0); obtain ⟨Ao33, co33, eo33⟩ := Kd.R_slice HO189.out; subst eo33) | ((with_reducible refine gate_builtin (b := .append) (xs := #[.const (.slice none 0 0), .tmp 81]) rfl ?_); (try (refine gate_guard (by rfl) ?_; dsimp only)); at_builtin; refine Kd.R_append_rows k31 (w0 := w) w.heap.size rfl (.const (.slice none 0 0)) (.tmp 81) 23 31 (.agg #[(.int .i64 0), (.string ⟨#[]⟩), (.int .i64 0)]) 32 rfl Try.underlying23 info31 rfl (by decide) (by omega) (.slice none 0 0) ([] : List (S31)) t185 _ _ _ (fun k_ => some k_ ≠ (.slice Ao33 t185.length co33 : Value).ownBlock ∧ some k_ ≠ (v193 : Value).ownBlock ∧ some k_ ≠ (v198 : Value).ownBlock) (fun _ => False) rfl rfl ?aO ?aR (fun _ _ h => h) (fun _ h => h.elim) ?aF ?aB ?aS ?aL ?_; (case aR => repeat (first | exact (Kd.R_reads' HO189.out).2.2 | (with_reducible refine Kd.C_alloc ?_ _) | (with_reducible refine Kd.C_drewN ?_ _) | (with_reducible refine Kd.C_drew ?_))); (case aB => exact (by repeat (first | (with_reducible first | exact HB.out | apply below_alloc | apply pw_below_drewN | apply below_drew1) | exact HB.out))); (case aF => exact (fun k_ hk => ⟨Kd.fresh' (Kd.R_lt (by (with_reducible repeat (first | apply Kd.R_alloc | apply Kd.R_drewN | apply Kd.R_drew)); exact HO189.out)) k_ hk, Kd.fresh' (Kd.R_lt (by (with_reducible repeat (first | apply Kd.R_alloc | apply Kd.R_drewN | apply Kd.R_drew)); exact HO194.out)) k_ hk, Kd.fresh' (Kd.R_lt (by (with_reducible repeat (first | apply Kd.R_alloc | apply Kd.R_drewN | apply Kd.R_drew)); exact HO199.out)) k_ hk⟩)); (case aO => exact ((Kd.R_nil _ _ _ _ (fun k_ => some k_ ≠ (.slice Ao33 t185.length co33 : Value).ownBlock ∧ some k_ ≠ (v193 : Value).ownBlock ∧ some k_ ≠ (v198 : Value).ownBlock)))); (case aS => exact (below_size (by repeat (first | (with_reducible first | exact HB.out | apply below_alloc | apply pw_below_drewN | apply below_drew1) | exact HB.out)))); (case aL => have := LMc25.out; omega); intro v201 w32 ho hb hg hat; rw [← Ny200.out] at ho; have n0_ := Aside0.mk (Kd.R_after (Kd.R_apart_nil (by (with_reducible repeat (first | apply Kd.R_alloc | apply Kd.R_drewN | apply Kd.R_drew)); exact HO189.out)) hg hat); have n1_ := Aside0.mk (Kd.R_after (Kd.R_apart_nil (by (with_reducible repeat (first | apply Kd.R_alloc | apply Kd.R_drewN | apply Kd.R_drew)); exact HO194.out)) hg hat); have n2_ := Aside0.mk (Kd.R_after (Kd.R_apart_nil (by (with_reducible repeat (first | apply Kd.R_alloc | apply Kd.R_drewN | apply Kd.R_drew)); exact HO199.out)) hg hat); have n3_ := Aside0.mk (hb); have n4_ := Aside0.mk (ho); clear HO189; clear HO194; clear HO199; clear HB; have HO189 := n0_; have HO194 := n1_; have HO199 := n2_; have HB := n3_; have HO202 := n4_; clear n0_ n1_ n2_ n3_ n4_; clear ho hb hg hat; obtain ⟨Ao35, co35, eo35⟩ := Kd.R_slice HO194.out; subst eo35) | ((with_reducible refine gate_builtin (b := .append) (xs := #[.tmp 83, .tmp 84]) rfl ?_); (try (refine gate_guard (by rfl) ?_; dsimp only)); at_builtin; refine Kd.R_append_rows k31 (w0 := w) w.heap.size rfl (.tmp 83) (.tmp 84) 23 31 (.agg #[(.int .i64 0), (.string ⟨#[]⟩), (.int .i64 0)]) 32 rfl Try.underlying23 info31 rfl (by decide) (by omega) v201 y200 t190 _ _ _ (fun k_ => some k_ ≠ (.slice Ao33 t185.length co33 : Value).ownBlock ∧ some k_ ≠ (.slice Ao35 t190.length co35 : Value).ownBlock ∧ some k_ ≠ (v198 : Value).ownBlock) (fun _ => False) rfl rfl ?aO ?aR (fun _ _ h => h) (fun _ h => h.elim) ?aF ?aB ?aS ?aL ?_; (case aR => repeat (first | exact (Kd.R_reads' HO194.out).2.2 | (with_reducible refine Kd.C_alloc ?_ _) | (with_reducible refine Kd.C_drewN ?_ _) | (with_reducible refine Kd.C_drew ?_))); (case aB => exact (by repeat (first | (with_reducible first | exact HB.out | apply below_alloc | apply pw_below_drewN | apply below_drew1) | exact HB.out))); (case aF => exact (fun k_ hk => ⟨Kd.fresh' (Kd.R_lt (by (with_reducible repeat (first | apply Kd.R_alloc | apply Kd.R_drewN | apply Kd.R_drew)); exact HO189.out)) k_ hk, Kd.fresh' (Kd.R_lt (by (with_reducible repeat (first | apply Kd.R_alloc | apply Kd.R_drewN | apply Kd.R_drew)); exact HO194.out)) k_ hk, Kd.fresh' (Kd.R_lt (by (with_reducible repeat (first | apply Kd.R_alloc | apply Kd.R_drewN | apply Kd.R_drew)); exact HO199.out)) k_ hk⟩)); (case aO => exact (by (with_reducible repeat (first | apply Kd.R_alloc | apply Kd.R_drewN | apply Kd.R_drew)); exact HO202.out)); (case aS => exact (below_size (by repeat (first | (with_reducible first | exact HB.out | apply below_alloc | apply pw_below_drewN | apply below_drew1) | exact HB.out)))); (case aL => have := LMc26.out; omega); intro v204 w34 ho hb hg hat; rw [← Ny203.out] at ho; have n0_ := Aside0.mk (Kd.R_after (ok := (fun k_ => some k_ ≠ (.slice Ao35 t190.length co35 : Value).ownBlock ∧ some k_ ≠ (v198 : Value).ownBlock)) (by (with_reducible repeat (first | apply Kd.R_alloc | apply Kd.R_drewN | apply Kd.R_drew)); exact Kd.R_mono HO189.out (fun _ hk => by first | exact ⟨⟨hk.1.1.2, hk.1.2⟩, hk.2⟩ | ((repeat' refine ⟨?_, ?_⟩) <;> (first | exact hk.1 | exact hk.2 | exact hk.1.1 | exact hk.1.2 | exact hk.2.1 | exact hk.2.2 | exact hk.1.1.1 | exact hk.1.1.2 | exact hk.1.2.1 | exact hk.1.2.2 | exact hk.2.1.1 | exact hk.2.1.2 | exact hk.2.2.1 | exact hk.2.2.2 | exact hk.1.1.1.1 | exact hk.1.1.1.2 | exact hk.1.1.2.1 | exact hk.1.1.2.2 | exact hk.1.2.1.1 | exact hk.1.2.1.2 | exact hk.1.2.2.1 | exact hk.1.2.2.2 | exact hk.2.1.1.1 | exact hk.2.1.1.2 | exact hk.2.1.2.1 | exact hk.2.1.2.2 | exact hk.2.2.1.1 | exact hk.2.2.1.2 | exact hk.2.2.2.1 | exact hk.2.2.2.2)))) hg hat); have n1_ := Aside0.mk (Kd.R_after (ok := (fun k_ => some k_ ≠ (.slice Ao33 t185.length co33 : Value).ownBlock ∧ some k_ ≠ (v198 : Value).ownBlock)) (by (with_reducible repeat (first | apply Kd.R_alloc | apply Kd.R_drewN | apply Kd.R_drew)); exact Kd.R_mono HO194.out (fun _ hk => by first | exact ⟨⟨hk.1.1.2, hk.1.2⟩, hk.2⟩ | ((repeat' refine ⟨?_, ?_⟩) <;> (first | exact hk.1 | exact hk.2 | exact hk.1.1 | exact hk.1.2 | exact hk.2.1 | exact hk.2.2 | exact hk.1.1.1 | exact hk.1.1.2 | exact hk.1.2.1 | exact hk.1.2.2 | exact hk.2.1.1 | exact hk.2.1.2 | exact hk.2.2.1 | exact hk.2.2.2 | exact hk.1.1.1.1 | exact hk.1.1.1.2 | exact hk.1.1.2.1 | exact hk.1.1.2.2 | exact hk.1.2.1.1 | exact hk.1.2.1.2 | exact hk.1.2.2.1 | exact hk.1.2.2.2 | exact hk.2.1.1.1 | exact hk.2.1.1.2 | exact hk.2.1.2.1 | exact hk.2.1.2.2 | exact hk.2.2.1.1 | exact hk.2.2.1.2 | exact hk.2.2.2.1 | exact hk.2.2.2.2)))) hg hat); have n2_ := Aside0.mk (Kd.R_after (ok := (fun k_ => some k_ ≠ (.slice Ao33 t185.length co33 : Value).ownBlock ∧ some k_ ≠ (.slice Ao35 t190.length co35 : Value).ownBlock)) (by (with_reducible repeat (first | apply Kd.R_alloc | apply Kd.R_drewN | apply Kd.R_drew)); exact Kd.R_mono HO199.out (fun _ hk => by first | exact ⟨⟨hk.1.1.2, hk.1.2⟩, hk.2⟩ | ((repeat' refine ⟨?_, ?_⟩) <;> (first | exact hk.1 | exact hk.2 | exact hk.1.1 | exact hk.1.2 | exact hk.2.1 | exact hk.2.2 | exact hk.1.1.1 | exact hk.1.1.2 | exact hk.1.2.1 | exact hk.1.2.2 | exact hk.2.1.1 | exact hk.2.1.2 | exact hk.2.2.1 | exact hk.2.2.2 | exact hk.1.1.1.1 | exact hk.1.1.1.2 | exact hk.1.1.2.1 | exact hk.1.1.2.2 | exact hk.1.2.1.1 | exact hk.1.2.1.2 | exact hk.1.2.2.1 | exact hk.1.2.2.2 | exact hk.2.1.1.1 | exact hk.2.1.1.2 | exact hk.2.1.2.1 | exact hk.2.1.2.2 | exact hk.2.2.1.1 | exact hk.2.2.1.2 | exact hk.2.2.2.1 | exact hk.2.2.2.2)))) hg hat); have n3_ := Aside0.mk (hb); have n4_ := Aside0.mk (ho); clear HO189; clear HO194; clear HO199; clear HB; clear HO202; have HO189 := n0_; have HO194 := n1_; have HO199 := n2_; have HB := n3_; have HO205 := n4_; clear n0_ n1_ n2_ n3_ n4_; clear ho hb hg hat; obtain ⟨Ao36, co36, eo36⟩ := Kd.R_slice HO205.out; subst eo36; obtain ⟨Ao37, co37, eo37⟩ := Kd.R_slice HO199.out; subst eo37) | ((with_reducible refine gate_callee (f := 7) rfl ?_); refine goesL_ (some 87) rfl rfl Try.func7 (by kernel_rfl) rfl #[.slice Ao36 y203.length co36, .slice Ao37 t195.length co37, .bool false] rfl (by (try simp only [List.map_toArray, List.map_cons, List.map_nil]); first | done | rfl | (simp only [List.length_drop, List.length_take]; rfl)) ?_; (with_reducible refine (gudgeonref05_Same.calls k2 _ _ y203 _ _ t195 false true _ ?side1 ?side2 ?side3 ?side4 A27.out).mono ?_); (case side1 => repeat (first | exact (Kd.R_reads' HO205.out).2.2 | (with_reducible refine Kd.C_alloc ?_ _) | (with_reducible refine Kd.C_drewN ?_ _) | (with_reducible refine Kd.C_drew ?_))); (case side2 => exact (Kd.R_reads' HO205.out).2.1); (case side3 => repeat (first | exact (Kd.R_reads' HO199.out).2.2 | (with_reducible refine Kd.C_alloc ?_ _) | (with_reducible refine Kd.C_drewN ?_ _) | (with_reducible refine Kd.C_drew ?_))); (case side4 => exact (Kd.R_reads' HO199.out).2.1); rintro e w' ⟨rfl, ⟨nd, rfl⟩⟩; refine ⟨_, rfl, ?_⟩))
                              go_ret
                              exact ⟨by first | rfl | (simp [errW_none, errW_some] <;> rfl) | (refine congrArg (fun z_ => Ending.returned (Value.bool z_)) (decide_eq_decide.mpr ?_); unfold wrap64; omega) | (simp [*, errW_none, errW_some] <;> rfl), by repeat (first | (with_reducible first | exact HB.out | apply below_alloc | apply pw_below_drewN | apply below_drew1) | exact HB.out)⟩
                            · replace c28 := Bool.eq_false_iff.mpr c28
                              subst c28
                              have H1 : (some false) = some r := by rw [if_neg (show ¬ (false = true) by decide)] at H; exact H
                              clear H
                              have H := H1
                              clear H1
                              obtain rfl := Option.some.inj H
                              go_wp2_with (first | ((with_reducible refine gate_callee (f := 6) rfl ?_); refine goesL_ (some 57) rfl rfl Try.func6 (by kernel_rfl) rfl #[.string a0] rfl (by (try simp only [List.map_toArray, List.map_cons, List.map_nil]); first | done | rfl | (simp only [List.length_drop, List.length_take]; rfl)) ?_; (with_reducible refine (lex_Lex.calls k2 a0 t185 t186 t187 _ A17.out).mono ?_); rintro e w38 ⟨v188, rfl, ho0, hb⟩; refine ⟨_, rfl, ?_⟩; have n0_ := Aside0.mk (Kd.R_lower ho0 (below_size (by repeat (first | (with_reducible first | exact HB.out | apply below_alloc | apply pw_below_drewN | apply below_drew1) | exact HB.out)))); have n1_ := Aside0.mk (below_step (by repeat (first | (with_reducible first | exact HB.out | apply below_alloc | apply pw_below_drewN | apply below_drew1) | exact HB.out)) hb); clear HB; have HO189 := n0_; have HB := n1_; clear n0_ n1_; (try clear hb); (try clear hb2); (try clear hk); (try clear hi); (try clear ho0)) | ((with_reducible refine gate_callee (f := 6) rfl ?_); refine goesL_ (some 65) rfl rfl Try.func6 (by kernel_rfl) rfl #[.string a1] rfl (by (try simp only [List.map_toArray, List.map_cons, List.map_nil]); first | done | rfl | (simp only [List.length_drop, List.length_take]; rfl)) ?_; (with_reducible refine (lex_Lex.calls k2 a1 t190 t191 t192 _ A19.out).mono ?_); rintro e w39 ⟨v193, rfl, ho0, hb⟩; refine ⟨_, rfl, ?_⟩; have n0_ := Aside0.mk (Kd.R_elder' (by (with_reducible repeat (first | apply Kd.R_alloc | apply Kd.R_drewN | apply Kd.R_drew)); exact HO189.out) (Kd.R_base ho0) hb); have n1_ := Aside0.mk (Kd.R_lower (Kd.R_new' ho0 (Kd.R_lt (by (with_reducible repeat (first | apply Kd.R_alloc | apply Kd.R_drewN | apply Kd.R_drew)); exact HO189.out))) (below_size (by repeat (first | (with_reducible first | exact HB.out | apply below_alloc | apply pw_below_drewN | apply below_drew1) | exact HB.out)))); have n2_ := Aside0.mk (below_step (by repeat (first | (with_reducible first | exact HB.out | apply below_alloc | apply pw_below_drewN | apply below_drew1) | exact HB.out)) hb); clear HO189; clear HB; have HO189 := n0_; have HO194 := n1_; have HB := n2_; clear n0_ n1_ n2_; (try clear hb); (try clear hb2); (try clear hk); (try clear hi); (try clear ho0)) | ((with_reducible refine gate_callee (f := 6) rfl ?_); refine goesL_ (some 77) rfl rfl Try.func6 (by kernel_rfl) rfl #[.string ((((a0 ++ (⟨#[10, 32, 59]⟩ : ByteArray)) ++ a2) ++ (⟨#[10]⟩ : ByteArray)) ++ a1)] rfl (by (try simp only [List.map_toArray, List.map_cons, List.map_nil]); first | done | rfl | (simp only [List.length_drop, List.length_take]; rfl)) ?_; (with_reducible refine (lex_Lex.calls k2 ((((a0 ++ (⟨#[10, 32, 59]⟩ : ByteArray)) ++ a2) ++ (⟨#[10]⟩ : ByteArray)) ++ a1) t195 t196 t197 _ A24.out).mono ?_); rintro e w40 ⟨v198, rfl, ho0, hb⟩; refine ⟨_, rfl, ?_⟩; have n0_ := Aside0.mk (Kd.R_elder' (by (with_reducible repeat (first | apply Kd.R_alloc | apply Kd.R_drewN | apply Kd.R_drew)); exact HO189.out) (Kd.R_base ho0) hb); have n1_ := Aside0.mk (Kd.R_elder' (by (with_reducible repeat (first | apply Kd.R_alloc | apply Kd.R_drewN | apply Kd.R_drew)); exact HO194.out) (Kd.R_base ho0) hb); have n2_ := Aside0.mk (Kd.R_lower (Kd.R_new' (Kd.R_new' ho0 (Kd.R_lt (by (with_reducible repeat (first | apply Kd.R_alloc | apply Kd.R_drewN | apply Kd.R_drew)); exact HO189.out))) (Kd.R_lt (by (with_reducible repeat (first | apply Kd.R_alloc | apply Kd.R_drewN | apply Kd.R_drew)); exact HO194.out))) (below_size (by repeat (first | (with_reducible first | exact HB.out | apply below_alloc | apply pw_below_drewN | apply below_drew1) | exact HB.out)))); have n3_ := Aside0.mk (below_step (by repeat (first | (with_reducible first | exact HB.out | apply below_alloc | apply pw_below_drewN | apply below_drew1) | exact HB.out)) hb); clear HO189; clear HO194; clear HB; have HO189 := n0_; have HO194 := n1_; have HO199 := n2_; have HB := n3_; clear n0_ n1_ n2_ n3_; (try clear hb); (try clear hb2); (try clear hk); (try clear hi); (try clear ho0); obtain ⟨Ao42, co42, eo42⟩ := Kd.R_slice HO189.out; subst eo42) | ((with_reducible refine gate_builtin (b := .append) (xs := #[.const (.slice none 0 0), .tmp 81]) rfl ?_); (try (refine gate_guard (by rfl) ?_; dsimp only)); at_builtin; refine Kd.R_append_rows k31 (w0 := w) w.heap.size rfl (.const (.slice none 0 0)) (.tmp 81) 23 31 (.agg #[(.int .i64 0), (.string ⟨#[]⟩), (.int .i64 0)]) 32 rfl Try.underlying23 info31 rfl (by decide) (by omega) (.slice none 0 0) ([] : List (S31)) t185 _ _ _ (fun k_ => some k_ ≠ (.slice Ao42 t185.length co42 : Value).ownBlock ∧ some k_ ≠ (v193 : Value).ownBlock ∧ some k_ ≠ (v198 : Value).ownBlock) (fun _ => False) rfl rfl ?aO ?aR (fun _ _ h => h) (fun _ h => h.elim) ?aF ?aB ?aS ?aL ?_; (case aR => repeat (first | exact (Kd.R_reads' HO189.out).2.2 | (with_reducible refine Kd.C_alloc ?_ _) | (with_reducible refine Kd.C_drewN ?_ _) | (with_reducible refine Kd.C_drew ?_))); (case aB => exact (by repeat (first | (with_reducible first | exact HB.out | apply below_alloc | apply pw_below_drewN | apply below_drew1) | exact HB.out))); (case aF => exact (fun k_ hk => ⟨Kd.fresh' (Kd.R_lt (by (with_reducible repeat (first | apply Kd.R_alloc | apply Kd.R_drewN | apply Kd.R_drew)); exact HO189.out)) k_ hk, Kd.fresh' (Kd.R_lt (by (with_reducible repeat (first | apply Kd.R_alloc | apply Kd.R_drewN | apply Kd.R_drew)); exact HO194.out)) k_ hk, Kd.fresh' (Kd.R_lt (by (with_reducible repeat (first | apply Kd.R_alloc | apply Kd.R_drewN | apply Kd.R_drew)); exact HO199.out)) k_ hk⟩)); (case aO => exact ((Kd.R_nil _ _ _ _ (fun k_ => some k_ ≠ (.slice Ao42 t185.length co42 : Value).ownBlock ∧ some k_ ≠ (v193 : Value).ownBlock ∧ some k_ ≠ (v198 : Value).ownBlock)))); (case aS => exact (below_size (by repeat (first | (with_reducible first | exact HB.out | apply below_alloc | apply pw_below_drewN | apply below_drew1) | exact HB.out)))); (case aL => have := LMc25.out; omega); intro v201 w41 ho hb hg hat; rw [← Ny200.out] at ho; have n0_ := Aside0.mk (Kd.R_after (Kd.R_apart_nil (by (with_reducible repeat (first | apply Kd.R_alloc | apply Kd.R_drewN | apply Kd.R_drew)); exact HO189.out)) hg hat); have n1_ := Aside0.mk (Kd.R_after (Kd.R_apart_nil (by (with_reducible repeat (first | apply Kd.R_alloc | apply Kd.R_drewN | apply Kd.R_drew)); exact HO194.out)) hg hat); have n2_ := Aside0.mk (Kd.R_after (Kd.R_apart_nil (by (with_reducible repeat (first | apply Kd.R_alloc | apply Kd.R_drewN | apply Kd.R_drew)); exact HO199.out)) hg hat); have n3_ := Aside0.mk (hb); have n4_ := Aside0.mk (ho); clear HO189; clear HO194; clear HO199; clear HB; have HO189 := n0_; have HO194 := n1_; have HO199 := n2_; have HB := n3_; have HO202 := n4_; clear n0_ n1_ n2_ n3_ n4_; clear ho hb hg hat; obtain ⟨Ao44, co44, eo44⟩ := Kd.R_slice HO194.out; subst eo44) | ((with_reducible refine gate_builtin (b := .append) (xs := #[.tmp 83, .tmp 84]) rfl ?_); (try (refine gate_guard (by rfl) ?_; dsimp only)); at_builtin; refine Kd.R_append_rows k31 (w0 := w) w.heap.size rfl (.tmp 83) (.tmp 84) 23 31 (.agg #[(.int .i64 0), (.string ⟨#[]⟩), (.int .i64 0)]) 32 rfl Try.underlying23 info31 rfl (by decide) (by omega) v201 y200 t190 _ _ _ (fun k_ => some k_ ≠ (.slice Ao42 t185.length co42 : Value).ownBlock ∧ some k_ ≠ (.slice Ao44 t190.length co44 : Value).ownBlock ∧ some k_ ≠ (v198 : Value).ownBlock) (fun _ => False) rfl rfl ?aO ?aR (fun _ _ h => h) (fun _ h => h.elim) ?aF ?aB ?aS ?aL ?_; (case aR => repeat (first | exact (Kd.R_reads' HO194.out).2.2 | (with_reducible refine Kd.C_alloc ?_ _) | (with_reducible refine Kd.C_drewN ?_ _) | (with_reducible refine Kd.C_drew ?_))); (case aB => exact (by repeat (first | (with_reducible first | exact HB.out | apply below_alloc | apply pw_below_drewN | apply below_drew1) | exact HB.out))); (case aF => exact (fun k_ hk => ⟨Kd.fresh' (Kd.R_lt (by (with_reducible repeat (first | apply Kd.R_alloc | apply Kd.R_drewN | apply Kd.R_drew)); exact HO189.out)) k_ hk, Kd.fresh' (Kd.R_lt (by (with_reducible repeat (first | apply Kd.R_alloc | apply Kd.R_drewN | apply Kd.R_drew)); exact HO194.out)) k_ hk, Kd.fresh' (Kd.R_lt (by (with_reducible repeat (first | apply Kd.R_alloc | apply Kd.R_drewN | apply Kd.R_drew)); exact HO199.out)) k_ hk⟩)); (case aO => exact (by (with_reducible repeat (first | apply Kd.R_alloc | apply Kd.R_drewN | apply Kd.R_drew)); exact HO202.out)); (case aS => exact (below_size (by repeat (first | (with_reducible first | exact HB.out | apply below_alloc | apply pw_below_drewN | apply below_drew1) | exact HB.out)))); (case aL => have := LMc26.out; omega); intro v204 w43 ho hb hg hat; rw [← Ny203.out] at ho; have n0_ := Aside0.mk (Kd.R_after (ok := (fun k_ => some k_ ≠ (.slice Ao44 t190.length co44 : Value).ownBlock ∧ some k_ ≠ (v198 : Value).ownBlock)) (by (with_reducible repeat (first | apply Kd.R_alloc | apply Kd.R_drewN | apply Kd.R_drew)); exact Kd.R_mono HO189.out (fun _ hk => by first | exact ⟨⟨hk.1.1.2, hk.1.2⟩, hk.2⟩ | ((repeat' refine ⟨?_, ?_⟩) <;> (first | exact hk.1 | exact hk.2 | exact hk.1.1 | exact hk.1.2 | exact hk.2.1 | exact hk.2.2 | exact hk.1.1.1 | exact hk.1.1.2 | exact hk.1.2.1 | exact hk.1.2.2 | exact hk.2.1.1 | exact hk.2.1.2 | exact hk.2.2.1 | exact hk.2.2.2 | exact hk.1.1.1.1 | exact hk.1.1.1.2 | exact hk.1.1.2.1 | exact hk.1.1.2.2 | exact hk.1.2.1.1 | exact hk.1.2.1.2 | exact hk.1.2.2.1 | exact hk.1.2.2.2 | exact hk.2.1.1.1 | exact hk.2.1.1.2 | exact hk.2.1.2.1 | exact hk.2.1.2.2 | exact hk.2.2.1.1 | exact hk.2.2.1.2 | exact hk.2.2.2.1 | exact hk.2.2.2.2)))) hg hat); have n1_ := Aside0.mk (Kd.R_after (ok := (fun k_ => some k_ ≠ (.slice Ao42 t185.length co42 : Value).ownBlock ∧ some k_ ≠ (v198 : Value).ownBlock)) (by (with_reducible repeat (first | apply Kd.R_alloc | apply Kd.R_drewN | apply Kd.R_drew)); exact Kd.R_mono HO194.out (fun _ hk => by first | exact ⟨⟨hk.1.1.2, hk.1.2⟩, hk.2⟩ | ((repeat' refine ⟨?_, ?_⟩) <;> (first | exact hk.1 | exact hk.2 | exact hk.1.1 | exact hk.1.2 | exact hk.2.1 | exact hk.2.2 | exact hk.1.1.1 | exact hk.1.1.2 | exact hk.1.2.1 | exact hk.1.2.2 | exact hk.2.1.1 | exact hk.2.1.2 | exact hk.2.2.1 | exact hk.2.2.2 | exact hk.1.1.1.1 | exact hk.1.1.1.2 | exact hk.1.1.2.1 | exact hk.1.1.2.2 | exact hk.1.2.1.1 | exact hk.1.2.1.2 | exact hk.1.2.2.1 | exact hk.1.2.2.2 | exact hk.2.1.1.1 | exact hk.2.1.1.2 | exact hk.2.1.2.1 | exact hk.2.1.2.2 | exact hk.2.2.1.1 | exact hk.2.2.1.2 | exact hk.2.2.2.1 | exact hk.2.2.2.2)))) hg hat); have n2_ := Aside0.mk (Kd.R_after (ok := (fun k_ => some k_ ≠ (.slice Ao42 t185.length co42 : Value).ownBlock ∧ some k_ ≠ (.slice Ao44 t190.length co44 : Value).ownBlock)) (by (with_reducible repeat (first | apply Kd.R_alloc | apply Kd.R_drewN | apply Kd.R_drew)); exact Kd.R_mono HO199.out (fun _ hk => by first | exact ⟨⟨hk.1.1.2, hk.1.2⟩, hk.2⟩ | ((repeat' refine ⟨?_, ?_⟩) <;> (first | exact hk.1 | exact hk.2 | exact hk.1.1 | exact hk.1.2 | exact hk.2.1 | exact hk.2.2 | exact hk.1.1.1 | exact hk.1.1.2 | exact hk.1.2.1 | exact hk.1.2.2 | exact hk.2.1.1 | exact hk.2.1.2 | exact hk.2.2.1 | exact hk.2.2.2 | exact hk.1.1.1.1 | exact hk.1.1.1.2 | exact hk.1.1.2.1 | exact hk.1.1.2.2 | exact hk.1.2.1.1 | exact hk.1.2.1.2 | exact hk.1.2.2.1 | exact hk.1.2.2.2 | exact hk.2.1.1.1 | exact hk.2.1.1.2 | exact hk.2.1.2.1 | exact hk.2.1.2.2 | exact hk.2.2.1.1 | exact hk.2.2.1.2 | exact hk.2.2.2.1 | exact hk.2.2.2.2)))) hg hat); have n3_ := Aside0.mk (hb); have n4_ := Aside0.mk (ho); clear HO189; clear HO194; clear HO199; clear HB; clear HO202; have HO189 := n0_; have HO194 := n1_; have HO199 := n2_; have HB := n3_; have HO205 := n4_; clear n0_ n1_ n2_ n3_ n4_; clear ho hb hg hat; obtain ⟨Ao45, co45, eo45⟩ := Kd.R_slice HO205.out; subst eo45; obtain ⟨Ao46, co46, eo46⟩ := Kd.R_slice HO199.out; subst eo46) | ((with_reducible refine gate_callee (f := 7) rfl ?_); refine goesL_ (some 87) rfl rfl Try.func7 (by kernel_rfl) rfl #[.slice Ao45 y203.length co45, .slice Ao46 t195.length co46, .bool false] rfl (by (try simp only [List.map_toArray, List.map_cons, List.map_nil]); first | done | rfl | (simp only [List.length_drop, List.length_take]; rfl)) ?_; (with_reducible refine (gudgeonref05_Same.calls k2 _ _ y203 _ _ t195 false false _ ?side1 ?side2 ?side3 ?side4 A27.out).mono ?_); (case side1 => repeat (first | exact (Kd.R_reads' HO205.out).2.2 | (with_reducible refine Kd.C_alloc ?_ _) | (with_reducible refine Kd.C_drewN ?_ _) | (with_reducible refine Kd.C_drew ?_))); (case side2 => exact (Kd.R_reads' HO205.out).2.1); (case side3 => repeat (first | exact (Kd.R_reads' HO199.out).2.2 | (with_reducible refine Kd.C_alloc ?_ _) | (with_reducible refine Kd.C_drewN ?_ _) | (with_reducible refine Kd.C_drew ?_))); (case side4 => exact (Kd.R_reads' HO199.out).2.1); rintro e w' ⟨rfl, ⟨nd, rfl⟩⟩; refine ⟨_, rfl, ?_⟩))
                              go_ret
                              exact ⟨by first | rfl | (simp [errW_none, errW_some] <;> rfl) | (refine congrArg (fun z_ => Ending.returned (Value.bool z_)) (decide_eq_decide.mpr ?_); unfold wrap64; omega) | (simp [*, errW_none, errW_some] <;> rfl), by repeat (first | (with_reducible first | exact HB.out | apply below_alloc | apply pw_below_drewN | apply below_drew1) | exact HB.out)⟩
                          · rw [if_neg c26] at H
                            exact absurd H (by simp)
                        · rw [if_neg c25] at H
                          exact absurd H (by simp)
                      · rw [if_neg c23] at H
                        exact absurd H (by simp)
                    · rw [if_neg c22] at H
                      exact absurd H (by simp)
                  · rw [if_neg c21] at H
                    exact absurd H (by simp)
                · rw [if_neg c20] at H
                  exact absurd H (by simp)
              · rw [if_neg c18] at H
                have c18b0 : (t186 == 0) = false := beq_eq_false_iff_ne.mpr c18
                have c18b1 : (t186 != 0) = true := bne_iff_ne.mpr c18
                obtain rfl := Option.some.inj H
                go_wp2_with (first | ((with_reducible refine gate_callee (f := 6) rfl ?_); refine goesL_ (some 57) rfl rfl Try.func6 (by kernel_rfl) rfl #[.string a0] rfl (by (try simp only [List.map_toArray, List.map_cons, List.map_nil]); first | done | rfl | (simp only [List.length_drop, List.length_take]; rfl)) ?_; (with_reducible refine (lex_Lex.calls k2 a0 t185 t186 t187 _ A17.out).mono ?_); rintro e w47 ⟨v188, rfl, ho0, hb⟩; refine ⟨_, rfl, ?_⟩; have n0_ := Aside0.mk (Kd.R_lower ho0 (below_size (by repeat (first | (with_reducible first | exact HB.out | apply below_alloc | apply pw_below_drewN | apply below_drew1) | exact HB.out)))); have n1_ := Aside0.mk (below_step (by repeat (first | (with_reducible first | exact HB.out | apply below_alloc | apply pw_below_drewN | apply below_drew1) | exact HB.out)) hb); clear HB; have HO189 := n0_; have HB := n1_; clear n0_ n1_; (try clear hb); (try clear hb2); (try clear hk); (try clear hi); (try clear ho0)))
                go_ret
                exact ⟨by first | rfl | (simp [errW_none, errW_some] <;> rfl) | (refine congrArg (fun z_ => Ending.returned (Value.bool z_)) (decide_eq_decide.mpr ?_); unfold wrap64; omega) | (simp [*, errW_none, errW_some] <;> rfl), by repeat (first | (with_reducible first | exact HB.out | apply below_alloc | apply pw_below_drewN | apply below_drew1) | exact HB.out)⟩

/-- THE ONE PURE STATEMENT of gudgeonlaw05_LexRemarks: yours. -/
def gudgeonlaw05_LexRemarks.Pure : Prop := ∀ (a0 : ByteArray) (a1 : ByteArray) (a2 : ByteArray), a0.size ≤ 140737488351232 → a1.size ≤ 140737488351232 → a2.size ≤ 140737488351232 → ∃ k, gudgeonlaw05_LexRemarks.f k a0 a1 a2 = some true
theorem gudgeonlaw05_LexRemarks.walk (P : gudgeonlaw05_LexRemarks.Pure) (a0 : ByteArray) (a1 : ByteArray) (a2 : ByteArray) (w : World) (w0 : a0.size ≤ 140737488351232) (w1 : a1.size ≤ 140737488351232) (w2 : a2.size ≤ 140737488351232) :
    Calls Try.prog 3 #[.string a0, .string a1, .string a2] w fun e w' => e = .returned (.bool true) ∧ Below w.heap.size w w' := by
  obtain ⟨k, h⟩ := P a0 a1 a2 w0 w1 w2
  refine (gudgeonlaw05_LexRemarks.calls k a0 a1 a2 true w h).mono ?_
  rintro e w' ⟨rfl, hd⟩
  exact ⟨rfl, hd⟩

end Go.Proofs.Ytnpmmhceiaedcaa.PA
