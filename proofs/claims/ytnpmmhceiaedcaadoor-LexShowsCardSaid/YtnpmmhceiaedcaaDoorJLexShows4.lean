/- Joined by wip/tools/shake.py for the claim of LexShows: PAx5, PAx9. -/
import Derived.Test.YtnpmmhceiaedcaaDoorJLexShows2
import Derived.Test.YtnpmmhceiaedcaaDoorJLexShows3
/- Written by a program of this session, wip/tools/patch_print.py, over the kit's print of the loaded functions. -/
namespace Go.Proofs.YtnpmmhceiaedcaaDoor.H
end Go.Proofs.YtnpmmhceiaedcaaDoor.H
namespace Go.Proofs.YtnpmmhceiaedcaaDoor.PA
open Go.RowKit Go.Proofs.YtnpmmhceiaedcaaDoorW.PrintWords Go.Proofs.YtnpmmhceiaedcaaDoorW.PrintLast Go.Proofs.YtnpmmhceiaedcaaDoorW.PrintMore Go.Proofs.YtnpmmhceiaedcaaDoor.H
attribute [local go_sem] max2_int min2_int max_two min_two max_three min_three max_four min_four   -- for this text's walks alone
set_option linter.unusedVariables false
set_option linter.unusedSimpArgs false

/-! ### gudgeonlaw05_awake: function 6 -/
def gudgeonlaw05_awake.f (k : Nat)  : Option (Bool) := (lex_Lex.f k (⟨#[40, 97, 115, 115, 101, 114, 116, 32, 40, 61, 32, 120, 32, 34, 97, 34, 34, 98, 34, 41, 41, 32, 59, 32, 116, 104, 97, 116]⟩ : ByteArray)).bind fun bt162 => ((lex_Lex.f k (⟨#[40, 120, 32, 34, 97, 98]⟩ : ByteArray)).bind fun bt167 => ((lex_Lex.f k (⟨#[48, 48, 55]⟩ : ByteArray)).bind fun bt172 => (if bt162.2.1 = 0 then (if bt162.2.2 = 28 then (if (bt162.1.length : Int) = 8 then (if 5 < (bt162.1.length : Int) then (if ((rd_T23 bt162.1 5).f1).toList = ([97, 34, 98] : List UInt8) then (if bt167.2.1 = 51 then (if bt167.2.2 = 3 then (if (bt167.1.length : Int) = 2 then (some (bt172.2.1 == 8)) else (none)) else (none)) else (none)) else (none)) else (none)) else (none)) else (none)) else (none))))
set_option maxHeartbeats 8000000 in
set_option maxRecDepth 100000 in
theorem gudgeonlaw05_awake.calls (k : Nat)  (r : Bool) (w : World) (h : gudgeonlaw05_awake.f k  = some r) :
  Calls Tryd.prog 6 #[] w fun e w' => e = .returned (.bool r) ∧ Below w.heap.size w w' := by
 have HB := Aside0.mk (Below.refl w.heap.size w)
 have H : ((lex_Lex.f k (⟨#[40, 97, 115, 115, 101, 114, 116, 32, 40, 61, 32, 120, 32, 34, 97, 34, 34, 98, 34, 41, 41, 32, 59, 32, 116, 104, 97, 116]⟩ : ByteArray)).bind fun bt162 => ((lex_Lex.f k (⟨#[40, 120, 32, 34, 97, 98]⟩ : ByteArray)).bind fun bt167 => ((lex_Lex.f k (⟨#[48, 48, 55]⟩ : ByteArray)).bind fun bt172 => (if bt162.2.1 = 0 then (if bt162.2.2 = 28 then (if (bt162.1.length : Int) = 8 then (if 5 < (bt162.1.length : Int) then (if ((rd_T23 bt162.1 5).f1).toList = ([97, 34, 98] : List UInt8) then (if bt167.2.1 = 51 then (if bt167.2.2 = 3 then (if (bt167.1.length : Int) = 2 then (some (bt172.2.1 == 8)) else (none)) else (none)) else (none)) else (none)) else (none)) else (none)) else (none)) else (none))))) = some r := h
 clear h
 replace H := Option.bind_eq_some_iff.mp H
 obtain ⟨⟨t162, t163, t164⟩, A10, H⟩ := H
 replace H : ((lex_Lex.f k (⟨#[40, 120, 32, 34, 97, 98]⟩ : ByteArray)).bind fun bt167 => ((lex_Lex.f k (⟨#[48, 48, 55]⟩ : ByteArray)).bind fun bt172 => (if t163 = 0 then (if t164 = 28 then (if (t162.length : Int) = 8 then (if 5 < (t162.length : Int) then (if ((rd_T23 t162 5).f1).toList = ([97, 34, 98] : List UInt8) then (if bt167.2.1 = 51 then (if bt167.2.2 = 3 then (if (bt167.1.length : Int) = 2 then (some (bt172.2.1 == 8)) else (none)) else (none)) else (none)) else (none)) else (none)) else (none)) else (none)) else (none)))) = some r := H
 have A1 := Aside0.mk A10
 clear A10
 replace H := Option.bind_eq_some_iff.mp H
 obtain ⟨⟨t167, t168, t169⟩, A20, H⟩ := H
 replace H : ((lex_Lex.f k (⟨#[48, 48, 55]⟩ : ByteArray)).bind fun bt172 => (if t163 = 0 then (if t164 = 28 then (if (t162.length : Int) = 8 then (if 5 < (t162.length : Int) then (if ((rd_T23 t162 5).f1).toList = ([97, 34, 98] : List UInt8) then (if t168 = 51 then (if t169 = 3 then (if (t167.length : Int) = 2 then (some (bt172.2.1 == 8)) else (none)) else (none)) else (none)) else (none)) else (none)) else (none)) else (none)) else (none))) = some r := H
 have A2 := Aside0.mk A20
 clear A20
 replace H := Option.bind_eq_some_iff.mp H
 obtain ⟨⟨t172, t173, t174⟩, A30, H⟩ := H
 replace H : (if t163 = 0 then (if t164 = 28 then (if (t162.length : Int) = 8 then (if 5 < (t162.length : Int) then (if ((rd_T23 t162 5).f1).toList = ([97, 34, 98] : List UInt8) then (if t168 = 51 then (if t169 = 3 then (if (t167.length : Int) = 2 then (some (t173 == 8)) else (none)) else (none)) else (none)) else (none)) else (none)) else (none)) else (none)) else (none)) = some r := H
 have A3 := Aside0.mk A30
 clear A30
 by_cases c4 : t163 = 0
 ·rw [if_pos c4] at H
  have c4b0 : (t163 == 0) = true := beq_iff_eq.mpr c4
  have c4b1 : (t163 != 0) = false := bne_eq_false_iff_eq.mpr c4
  clear c4
  by_cases c5 : t164 = 28
  ·rw [if_pos c5] at H
   have c5b0 : (t164 == 28) = true := beq_iff_eq.mpr c5
   have c5b1 : (t164 != 28) = false := bne_eq_false_iff_eq.mpr c5
   clear c5
   by_cases c6 : (t162.length : Int) = 8
   ·rw [if_pos c6] at H
    have c6b0 : ((t162.length : Int) == 8) = true := beq_iff_eq.mpr c6
    have c6b1 : ((t162.length : Int) != 8) = false := bne_eq_false_iff_eq.mpr c6
    clear c6
    by_cases c7 : 5 < (t162.length : Int)
    ·rw [if_pos c7] at H
     have c7b0 : decide (5 < (t162.length : Int)) = true := decide_eq_true c7
     have c7b1 : decide (5 < t162.length) = true := decide_eq_true (by omega)
     clear c7
     by_cases c8 : ((rd_T23 t162 5).f1).toList = ([97, 34, 98] : List UInt8)
     ·rw [if_pos c8] at H
      have c8b0 : (((rd_T23 t162 5).f1).toList == ([97, 34, 98] : List UInt8)) = true := beq_iff_eq.mpr c8
      have c8b1 : (((rd_T23 t162 5).f1).toList != ([97, 34, 98] : List UInt8)) = false := bne_eq_false_iff_eq.mpr c8
      clear c8
      by_cases c9 : t168 = 51
      ·rw [if_pos c9] at H
       have c9b0 : (t168 == 51) = true := beq_iff_eq.mpr c9
       have c9b1 : (t168 != 51) = false := bne_eq_false_iff_eq.mpr c9
       clear c9
       by_cases c10 : t169 = 3
       ·rw [if_pos c10] at H
        have c10b0 : (t169 == 3) = true := beq_iff_eq.mpr c10
        have c10b1 : (t169 != 3) = false := bne_eq_false_iff_eq.mpr c10
        clear c10
        by_cases c11 : (t167.length : Int) = 2
        ·rw [if_pos c11] at H
         have c11b0 : ((t167.length : Int) == 2) = true := beq_iff_eq.mpr c11
         have c11b1 : ((t167.length : Int) != 2) = false := bne_eq_false_iff_eq.mpr c11
         clear c11
         obtain rfl := Option.some.inj H
         go_enter Tryd.func6, Tryd.ntmps6
         go_wp2_with (first | ((with_reducible refine gate_callee (f := 12) rfl ?_); refine goesL_ (some 11) rfl rfl Tryd.func12 (by kernel_rfl) rfl #[.string (⟨#[40, 97, 115, 115, 101, 114, 116, 32, 40, 61, 32, 120, 32, 34, 97, 34, 34, 98, 34, 41, 41, 32, 59, 32, 116, 104, 97, 116]⟩ : ByteArray)] rfl (by (try simp only [List.map_toArray, List.map_cons, List.map_nil]); first | done | rfl | (simp only [List.length_drop, List.length_take]; rfl)) ?_; (with_reducible refine (lex_Lex.calls k (⟨#[40, 97, 115, 115, 101, 114, 116, 32, 40, 61, 32, 120, 32, 34, 97, 34, 34, 98, 34, 41, 41, 32, 59, 32, 116, 104, 97, 116]⟩ : ByteArray) t162 t163 t164 _ A1.out).mono ?_); rintro e w12 ⟨v165, rfl, ho0, hb⟩; refine ⟨_, rfl, ?_⟩; have n0_ := Aside0.mk (Kd.R_lower ho0 (below_size (by repeat (first | (with_reducible first | exact HB.out | apply below_alloc | apply pw_below_drewN | apply below_drew1) | exact HB.out)))); have n1_ := Aside0.mk (below_step (by repeat (first | (with_reducible first | exact HB.out | apply below_alloc | apply pw_below_drewN | apply below_drew1) | exact HB.out)) hb); clear HB; have HO166 := n0_; have HB := n1_; clear n0_ n1_; (try clear hb); (try clear hb2); (try clear hk); (try clear hi); (try clear ho0)) | ((with_reducible refine gate_callee (f := 12) rfl ?_); refine goesL_ (some 16) rfl rfl Tryd.func12 (by kernel_rfl) rfl #[.string (⟨#[40, 120, 32, 34, 97, 98]⟩ : ByteArray)] rfl (by (try simp only [List.map_toArray, List.map_cons, List.map_nil]); first | done | rfl | (simp only [List.length_drop, List.length_take]; rfl)) ?_; (with_reducible refine (lex_Lex.calls k (⟨#[40, 120, 32, 34, 97, 98]⟩ : ByteArray) t167 t168 t169 _ A2.out).mono ?_); rintro e w13 ⟨v170, rfl, ho0, hb⟩; refine ⟨_, rfl, ?_⟩; have n0_ := Aside0.mk (Kd.R_elder' (by (with_reducible repeat (first | apply Kd.R_alloc | apply Kd.R_drewN | apply Kd.R_drew)); exact HO166.out) (Kd.R_base ho0) hb); have n1_ := Aside0.mk (Kd.R_lower (Kd.R_new' ho0 (Kd.R_lt (by (with_reducible repeat (first | apply Kd.R_alloc | apply Kd.R_drewN | apply Kd.R_drew)); exact HO166.out))) (below_size (by repeat (first | (with_reducible first | exact HB.out | apply below_alloc | apply pw_below_drewN | apply below_drew1) | exact HB.out)))); have n2_ := Aside0.mk (below_step (by repeat (first | (with_reducible first | exact HB.out | apply below_alloc | apply pw_below_drewN | apply below_drew1) | exact HB.out)) hb); clear HO166; clear HB; have HO166 := n0_; have HO171 := n1_; have HB := n2_; clear n0_ n1_ n2_; (try clear hb); (try clear hb2); (try clear hk); (try clear hi); (try clear ho0)) | ((with_reducible refine gate_callee (f := 12) rfl ?_); refine goesL_ (some 21) rfl rfl Tryd.func12 (by kernel_rfl) rfl #[.string (⟨#[48, 48, 55]⟩ : ByteArray)] rfl (by (try simp only [List.map_toArray, List.map_cons, List.map_nil]); first | done | rfl | (simp only [List.length_drop, List.length_take]; rfl)) ?_; (with_reducible refine (lex_Lex.calls k (⟨#[48, 48, 55]⟩ : ByteArray) t172 t173 t174 _ A3.out).mono ?_); rintro e w14 ⟨v175, rfl, ho0, hb⟩; refine ⟨_, rfl, ?_⟩; have n0_ := Aside0.mk (Kd.R_elder' (by (with_reducible repeat (first | apply Kd.R_alloc | apply Kd.R_drewN | apply Kd.R_drew)); exact HO166.out) (Kd.R_base ho0) hb); have n1_ := Aside0.mk (Kd.R_elder' (by (with_reducible repeat (first | apply Kd.R_alloc | apply Kd.R_drewN | apply Kd.R_drew)); exact HO171.out) (Kd.R_base ho0) hb); have n2_ := Aside0.mk (Kd.R_lower (Kd.R_new' (Kd.R_new' ho0 (Kd.R_lt (by (with_reducible repeat (first | apply Kd.R_alloc | apply Kd.R_drewN | apply Kd.R_drew)); exact HO166.out))) (Kd.R_lt (by (with_reducible repeat (first | apply Kd.R_alloc | apply Kd.R_drewN | apply Kd.R_drew)); exact HO171.out))) (below_size (by repeat (first | (with_reducible first | exact HB.out | apply below_alloc | apply pw_below_drewN | apply below_drew1) | exact HB.out)))); have n3_ := Aside0.mk (below_step (by repeat (first | (with_reducible first | exact HB.out | apply below_alloc | apply pw_below_drewN | apply below_drew1) | exact HB.out)) hb); clear HO166; clear HO171; clear HB; have HO166 := n0_; have HO171 := n1_; have HO176 := n2_; have HB := n3_; clear n0_ n1_ n2_ n3_; (try clear hb); (try clear hb2); (try clear hk); (try clear hi); (try clear ho0); obtain ⟨Ao15, co15, eo15⟩ := Kd.R_slice HO166.out; subst eo15; have p177 : 0 ≤ (5 : Int) := (by omega); have q177 : 5 < (t162.length : Int) := of_decide_eq_true (by first | (with_reducible assumption) | assumption); obtain ⟨ad177, e177, hx177_0, hx177_1, hx177_2⟩ := at_T23 (Kd.R_reads' HO166.out).2.2 5 p177 q177; cases e177; (try simp only [show (5 : Int).toNat = 5 from rfl, Nat.reduceMul, Nat.reduceEqDiff, Go.Addr.add, ↓reduceIte] at hx177_0); (try simp only [show (5 : Int).toNat = 5 from rfl, Nat.reduceMul, Nat.reduceEqDiff, Go.Addr.add, ↓reduceIte] at hx177_1); (try simp only [show (5 : Int).toNat = 5 from rfl, Nat.reduceMul, Nat.reduceEqDiff, Go.Addr.add, ↓reduceIte] at hx177_2); have qi177 : (5 < t162.length) = True := eq_true (by omega); (try rw [show ((5 : Int)).toNat = 5 from rfl] at hx177_0); (try rw [show 5 * 3 = 15 from rfl] at hx177_0); (try rw [show ((5 : Int)).toNat = 5 from rfl] at hx177_1); (try rw [show 5 * 3 = 15 from rfl] at hx177_1); (try rw [show ((5 : Int)).toNat = 5 from rfl] at hx177_2); (try rw [show 5 * 3 = 15 from rfl] at hx177_2); replace p177 := eq_true p177; replace q177 := eq_true q177; obtain ⟨Ao16, co16, eo16⟩ := Kd.R_slice HO171.out; subst eo16))
         go_ret
         exact ⟨by first | rfl | (simp [errW_none, errW_some] <;> rfl) | (refine congrArg (fun z_ => Ending.returned (Value.bool z_)) (decide_eq_decide.mpr ?_); unfold wrap64; omega) | (simp [*, errW_none, errW_some] <;> rfl), by repeat (first | (with_reducible first | exact HB.out | apply below_alloc | apply pw_below_drewN | apply below_drew1) | exact HB.out)⟩
        ·rw [if_neg c11] at H
         exact absurd H (by simp)
       ·rw [if_neg c10] at H
        exact absurd H (by simp)
      ·rw [if_neg c9] at H
       exact absurd H (by simp)
     ·rw [if_neg c8] at H
      exact absurd H (by simp)
    ·rw [if_neg c7] at H
     exact absurd H (by simp)
   ·rw [if_neg c6] at H
    exact absurd H (by simp)
  ·rw [if_neg c5] at H
   exact absurd H (by simp)
 ·rw [if_neg c4] at H
  exact absurd H (by simp)

/-! ### lex_Simple: function 9 -/
def lex_Simple.f (a0 : ByteArray) : Option (Bool) := if a0.toList = ([] : List UInt8) then (some false) else (if 0 < (a0.size : Int) then ((lex_digit.f (bt a0 0)).bind fun t178 => (if t178 = true then (some false) else ((lex_span_F18.f a0).bind fun t179 => (some (t179 == (a0.size : Int)))))) else (none))
set_option maxHeartbeats 8000000 in
set_option maxRecDepth 100000 in
theorem lex_Simple.calls (a0 : ByteArray) (r : Bool) (w : World) (h : lex_Simple.f a0 = some r) :
  Calls Tryd.prog 9 #[.string a0] w fun e w' => e = .returned (.bool r) ∧ Drawn0 w w' := by
 have H : (if a0.toList = ([] : List UInt8) then (some false) else (if 0 < (a0.size : Int) then ((lex_digit.f (bt a0 0)).bind fun t178 => (if t178 = true then (some false) else ((lex_span_F18.f a0).bind fun t179 => (some (t179 == (a0.size : Int)))))) else (none))) = some r := h
 clear h
 by_cases c2 : a0.toList = ([] : List UInt8)
 ·rw [if_pos c2] at H
  have c2b0 : (a0.toList == ([] : List UInt8)) = true := beq_iff_eq.mpr c2
  have c2b1 : (a0.toList != ([] : List UInt8)) = false := bne_eq_false_iff_eq.mpr c2
  clear c2
  obtain rfl := Option.some.inj H
  go_enter Tryd.func9, Tryd.ntmps9
  go_wp2
  go_ret
  exact ⟨by first | rfl | (simp; done) | (simp [*]; done) | (refine congrArg (Value.int _) ?_; omega) | (refine congrArg Value.bool ?_; generalize ByteArray.toList _ = z_; cases z_ <;> rfl), by repeat (first | exact Drawn0.refl _ | apply Drawn0.step)⟩
 ·rw [if_neg c2] at H
  have c2b0 : (a0.toList == ([] : List UInt8)) = false := beq_eq_false_iff_ne.mpr c2
  have c2b1 : (a0.toList != ([] : List UInt8)) = true := bne_iff_ne.mpr c2
  by_cases c3 : 0 < (a0.size : Int)
  ·rw [if_pos c3] at H
   have c3b0 : decide (0 < (a0.size : Int)) = true := decide_eq_true c3
   have c3b1 : decide (0 < a0.size) = true := decide_eq_true (by omega)
   clear c3
   replace H := Option.bind_eq_some_iff.mp H
   obtain ⟨t178, A50, H⟩ := H
   replace H : (if t178 = true then (some false) else ((lex_span_F18.f a0).bind fun t179 => (some (t179 == (a0.size : Int))))) = some r := H
   have A5 := Aside0.mk A50
   clear A50
   by_cases c6 : t178 = true
   ·subst c6
    have H1 : (some false) = some r := by rw [if_pos rfl] at H; exact H
    clear H
    have H := H1
    clear H1
    obtain rfl := Option.some.inj H
    have p4 : 0 ≤ (0 : Int) := (by omega)
    have q4 : 0 < a0.size := (by have : (0 : Int) < (a0.size : Int) := of_decide_eq_true (by first | (with_reducible assumption) | assumption); omega)
    have hx4 : ∀ h : 0 < a0.size, ((a0[0]'h).toNat : Int) = bt a0 0 := bt_at a0 0
    clear p4
    have qi4 : (0 < (a0.size : Int)) = True := eq_true (of_decide_eq_true (by first | (with_reducible assumption) | assumption))
    replace q4 := eq_true q4
    go_enter Tryd.func9, Tryd.ntmps9
    go_wp2_with (first | (go_at_call 16; (with_reducible refine (lex_digit.calls (bt a0 0) true _ A5.out).mono ?_); rintro e w' ⟨rfl, ⟨nd, rfl⟩⟩))
    go_ret
    exact ⟨by first | rfl | (simp; done) | (simp [*]; done) | (refine congrArg (Value.int _) ?_; omega) | (refine congrArg Value.bool ?_; generalize ByteArray.toList _ = z_; cases z_ <;> rfl), by repeat (first | exact Drawn0.refl _ | apply Drawn0.step)⟩
   ·replace c6 := Bool.eq_false_iff.mpr c6
    subst c6
    have H1 : ((lex_span_F18.f a0).bind fun t179 => (some (t179 == (a0.size : Int)))) = some r := by rw [if_neg (show ¬ (false = true) by decide)] at H; exact H
    clear H
    have H := H1
    clear H1
    replace H := Option.bind_eq_some_iff.mp H
    obtain ⟨t179, A70, H⟩ := H
    replace H : (some (t179 == (a0.size : Int))) = some r := H
    have A7 := Aside0.mk A70
    clear A70
    obtain rfl := Option.some.inj H
    have p4 : 0 ≤ (0 : Int) := (by omega)
    have q4 : 0 < a0.size := (by have : (0 : Int) < (a0.size : Int) := of_decide_eq_true (by first | (with_reducible assumption) | assumption); omega)
    have hx4 : ∀ h : 0 < a0.size, ((a0[0]'h).toNat : Int) = bt a0 0 := bt_at a0 0
    clear p4
    have qi4 : (0 < (a0.size : Int)) = True := eq_true (of_decide_eq_true (by first | (with_reducible assumption) | assumption))
    replace q4 := eq_true q4
    go_enter Tryd.func9, Tryd.ntmps9
    go_wp2_with (first | (go_at_call 16; (with_reducible refine (lex_digit.calls (bt a0 0) false _ A5.out).mono ?_); rintro e w' ⟨rfl, ⟨nd, rfl⟩⟩) | (go_at_call 17; (with_reducible refine (lex_span_F18.calls a0 t179 _ A7.out).mono ?_); rintro e w' ⟨rfl, ⟨nd, rfl⟩⟩))
    go_ret
    exact ⟨by first | rfl | (simp; done) | (simp [*]; done) | (refine congrArg (Value.int _) ?_; omega) | (refine congrArg Value.bool ?_; generalize ByteArray.toList _ = z_; cases z_ <;> rfl), by repeat (first | exact Drawn0.refl _ | apply Drawn0.step)⟩
  ·rw [if_neg c3] at H
   exact absurd H (by simp)

/-! ### lex_Show: function 7 -/
def lex_Show.j0 : Nat → ByteArray → Bool → Int → ByteArray → Int → Option (ByteArray × Int)
 | 0, _, _, _, _, _ => none
 | k + 1, x4, x10, x181000, x181001, x181002 => if x10 = true then (if 1 + x4.size ≤ 9223372036854775807 then (if 1 + x4.size + 1 ≤ 9223372036854775807 then ((lex_Lex.f k (((⟨#[124]⟩ : ByteArray) ++ x4) ++ (⟨#[124]⟩ : ByteArray))).bind fun bt182 => (if bt182.2.1 = 0 then (if (bt182.1.length : Int) = 1 then (if 0 < (bt182.1.length : Int) then (if ((rd_T23 bt182.1 0).f0) = x181000 then (if ((rd_T23 bt182.1 0).f1).toList = x181001.toList then (some (((⟨#[124]⟩ : ByteArray) ++ x4) ++ (⟨#[124]⟩ : ByteArray), 0)) else (some ((⟨#[]⟩ : ByteArray), 1))) else (some ((⟨#[]⟩ : ByteArray), 1))) else (none)) else (some ((⟨#[]⟩ : ByteArray), 1))) else (some ((⟨#[]⟩ : ByteArray), 1)))) else (none)) else (none)) else (if x181000 = 6 then ((strings_ReplaceAll.f x4 (⟨#[34]⟩ : ByteArray) (⟨#[34, 34]⟩ : ByteArray)).bind fun t189 => (if 1 + t189.size ≤ 9223372036854775807 then (if 1 + t189.size + 1 ≤ 9223372036854775807 then ((lex_Lex.f k (((⟨#[34]⟩ : ByteArray) ++ t189) ++ (⟨#[34]⟩ : ByteArray))).bind fun bt190 => (if bt190.2.1 = 0 then (if (bt190.1.length : Int) = 1 then (if 0 < (bt190.1.length : Int) then (if ((rd_T23 bt190.1 0).f0) = x181000 then (if ((rd_T23 bt190.1 0).f1).toList = x181001.toList then (some (((⟨#[34]⟩ : ByteArray) ++ t189) ++ (⟨#[34]⟩ : ByteArray), 0)) else (some ((⟨#[]⟩ : ByteArray), 1))) else (some ((⟨#[]⟩ : ByteArray), 1))) else (none)) else (some ((⟨#[]⟩ : ByteArray), 1))) else (some ((⟨#[]⟩ : ByteArray), 1)))) else (none)) else (none))) else ((lex_Lex.f k x4).bind fun bt197 => (if bt197.2.1 = 0 then (if (bt197.1.length : Int) = 1 then (if 0 < (bt197.1.length : Int) then (if ((rd_T23 bt197.1 0).f0) = x181000 then (if ((rd_T23 bt197.1 0).f1).toList = x181001.toList then (some (x4, 0)) else (some ((⟨#[]⟩ : ByteArray), 1))) else (some ((⟨#[]⟩ : ByteArray), 1))) else (none)) else (some ((⟨#[]⟩ : ByteArray), 1))) else (some ((⟨#[]⟩ : ByteArray), 1)))))
def lex_Show.f (k : Nat) (a0_0 : Int) (a0_1 : ByteArray) (a0_2 : Int) : Option (ByteArray × Int) := if a0_0 = 3 then ((lex_Simple.f a0_1).bind fun t181 => (lex_Show.j0 k a0_1 (!t181) a0_0 a0_1 a0_2)) else (lex_Show.j0 k a0_1 false a0_0 a0_1 a0_2)
set_option maxHeartbeats 8000000 in
set_option maxRecDepth 100000 in
theorem lex_Show.calls (k : Nat) (a0_0 : Int) (a0_1 : ByteArray) (a0_2 : Int) (r1 : ByteArray) (r2 : Int) (w : World) (hG : Glob w) (h : lex_Show.f k a0_0 a0_1 a0_2 = some (r1, r2)) :
  Calls Tryd.prog 7 #[.agg #[.int .i64 a0_0, .string a0_1, .int .i64 a0_2]] w fun e w' => e = .returned (.tuple #[.string r1, .int .i64 r2]) ∧ Below w.heap.size w w' := by
 have hu23 := Tryd.underlying23
 have HG := Aside0.mk hG
 clear hG
 have HB := Aside0.mk (Below.refl w.heap.size w)
 have H : (if a0_0 = 3 then ((lex_Simple.f a0_1).bind fun t181 => (lex_Show.j0 k a0_1 (!t181) a0_0 a0_1 a0_2)) else (lex_Show.j0 k a0_1 false a0_0 a0_1 a0_2)) = some (r1, r2) := h
 clear h
 have HC2 := Aside0.mk H
 clear H
 go_enter Tryd.func7, Tryd.ntmps7
 go_upto_region 2 with (first | ((with_reducible refine gate_dst (N := 1) rfl ?_); (try (refine gate_guard (by rfl) ?_; dsimp only)); refine box_event ?hg (N := 1) ?hd (cs := #[.int .i64 a0_0, .string a0_1, .int .i64 a0_2]) (t := 23) ?hr ?_; (case hd => rfl); (case hg => rfl); (case hr => first | (go_simp; done) | (go_simp; rfl) | (go_simp; simp only [IntKind.wrap_u8, IntKind.wrap_u32]; congr 4; omega) | (go_simp; simp only [IntKind.wrap_u8, IntKind.wrap_u32]; congr 5; omega)); intro gb180 hg w3 hbox hb; have n0_ := Aside0.mk (below_step (by repeat (first | (with_reducible first | exact HB.out | apply below_alloc | apply pw_below_drewN | apply below_drew1) | exact HB.out)) hb); have n1_ := Aside0.mk (hbox); have n2_ := Aside0.mk ((by rw [hg]; exact (below_size (by repeat (first | (with_reducible first | exact HB.out | apply below_alloc | apply pw_below_drewN | apply below_drew1) | exact HB.out))) : w.heap.size ≤ gb180)); have n3_ := Aside0.mk ((by rw [hg]; exact (below_size (by repeat (first | (with_reducible first | exact HB.out | apply below_alloc | apply pw_below_drewN | apply below_drew1) | exact HB.out))) : w.heap.size ≤ gb180)); clear HB; have HB := n0_; have BK180 := n1_; have GW180 := n2_; have GE180 := n3_; clear n0_ n1_ n2_ n3_; clear hb hbox hg; have hcz4_0 : w3.cell? ⟨gb180, 0, none⟩ = some (.int .i64 a0_0) := (blk_cell BK180.out 0).trans rfl; have hcz4_1 : w3.cell? ⟨gb180, 1, none⟩ = some (.string a0_1) := (blk_cell BK180.out 1).trans rfl; have hcz4_2 : w3.cell? ⟨gb180, 2, none⟩ = some (.int .i64 a0_2) := (blk_cell BK180.out 2).trans rfl; have hfz4_0 := blk_frozen BK180.out 0; have hfz4_1 := blk_frozen BK180.out 1; have hfz4_2 := blk_frozen BK180.out 2))
 repeat (go_quiet (first | ((with_reducible refine gate_dst (N := 1) rfl ?_); (try (refine gate_guard (by rfl) ?_; dsimp only)); refine box_event ?hg (N := 1) ?hd (cs := #[.int .i64 a0_0, .string a0_1, .int .i64 a0_2]) (t := 23) ?hr ?_; (case hd => rfl); (case hg => rfl); (case hr => first | (go_simp; done) | (go_simp; rfl) | (go_simp; simp only [IntKind.wrap_u8, IntKind.wrap_u32]; congr 4; omega) | (go_simp; simp only [IntKind.wrap_u8, IntKind.wrap_u32]; congr 5; omega)); intro gb180 hg w3 hbox hb; have n0_ := Aside0.mk (below_step (by repeat (first | (with_reducible first | exact HB.out | apply below_alloc | apply pw_below_drewN | apply below_drew1) | exact HB.out)) hb); have n1_ := Aside0.mk (hbox); have n2_ := Aside0.mk ((by rw [hg]; exact (below_size (by repeat (first | (with_reducible first | exact HB.out | apply below_alloc | apply pw_below_drewN | apply below_drew1) | exact HB.out))) : w.heap.size ≤ gb180)); have n3_ := Aside0.mk ((by rw [hg]; exact (below_size (by repeat (first | (with_reducible first | exact HB.out | apply below_alloc | apply pw_below_drewN | apply below_drew1) | exact HB.out))) : w.heap.size ≤ gb180)); clear HB; have HB := n0_; have BK180 := n1_; have GW180 := n2_; have GE180 := n3_; clear n0_ n1_ n2_ n3_; clear hb hbox hg; have hcz4_0 : w3.cell? ⟨gb180, 0, none⟩ = some (.int .i64 a0_0) := (blk_cell BK180.out 0).trans rfl; have hcz4_1 : w3.cell? ⟨gb180, 1, none⟩ = some (.string a0_1) := (blk_cell BK180.out 1).trans rfl; have hcz4_2 : w3.cell? ⟨gb180, 2, none⟩ = some (.int .i64 a0_2) := (blk_cell BK180.out 2).trans rfl; have hfz4_0 := blk_frozen BK180.out 0; have hfz4_1 := blk_frozen BK180.out 1; have hfz4_2 := blk_frozen BK180.out 2)); go_upto_region 2 with (first | ((with_reducible refine gate_dst (N := 1) rfl ?_); (try (refine gate_guard (by rfl) ?_; dsimp only)); refine box_event ?hg (N := 1) ?hd (cs := #[.int .i64 a0_0, .string a0_1, .int .i64 a0_2]) (t := 23) ?hr ?_; (case hd => rfl); (case hg => rfl); (case hr => first | (go_simp; done) | (go_simp; rfl) | (go_simp; simp only [IntKind.wrap_u8, IntKind.wrap_u32]; congr 4; omega) | (go_simp; simp only [IntKind.wrap_u8, IntKind.wrap_u32]; congr 5; omega)); intro gb180 hg w3 hbox hb; have n0_ := Aside0.mk (below_step (by repeat (first | (with_reducible first | exact HB.out | apply below_alloc | apply pw_below_drewN | apply below_drew1) | exact HB.out)) hb); have n1_ := Aside0.mk (hbox); have n2_ := Aside0.mk ((by rw [hg]; exact (below_size (by repeat (first | (with_reducible first | exact HB.out | apply below_alloc | apply pw_below_drewN | apply below_drew1) | exact HB.out))) : w.heap.size ≤ gb180)); have n3_ := Aside0.mk ((by rw [hg]; exact (below_size (by repeat (first | (with_reducible first | exact HB.out | apply below_alloc | apply pw_below_drewN | apply below_drew1) | exact HB.out))) : w.heap.size ≤ gb180)); clear HB; have HB := n0_; have BK180 := n1_; have GW180 := n2_; have GE180 := n3_; clear n0_ n1_ n2_ n3_; clear hb hbox hg; have hcz4_0 : w3.cell? ⟨gb180, 0, none⟩ = some (.int .i64 a0_0) := (blk_cell BK180.out 0).trans rfl; have hcz4_1 : w3.cell? ⟨gb180, 1, none⟩ = some (.string a0_1) := (blk_cell BK180.out 1).trans rfl; have hcz4_2 : w3.cell? ⟨gb180, 2, none⟩ = some (.int .i64 a0_2) := (blk_cell BK180.out 2).trans rfl; have hfz4_0 := blk_frozen BK180.out 0; have hfz4_1 := blk_frozen BK180.out 1; have hfz4_2 := blk_frozen BK180.out 2)))
 (try simp only [Act.put, List.setIfInBounds_toArray, List.set_cons_zero, List.set_cons_succ])
 go_cut [10] (fun v10 wc => ∃ (kq : Nat) (x10_1 : Bool), v10 = .bool x10_1 ∧ Aside0 (lex_Show.j0 kq a0_1 x10_1 a0_0 a0_1 a0_2 = some (r1, r2)) ∧ Aside0 (kq ≤ k) ∧ Aside0 (wc.heap[gb180]? = some (.cells #[.int .i64 a0_0, .string a0_1, .int .i64 a0_2] 23 (0, 0))) ∧ Aside0 (Below w.heap.size w wc))
 case first =>
  have H := HC2.out
  clear HC2
  by_cases c5 : a0_0 = 3
  ·rw [if_pos c5] at H
   have c5b0 : (a0_0 == 3) = true := beq_iff_eq.mpr c5
   have c5b1 : (a0_0 != 3) = false := bne_eq_false_iff_eq.mpr c5
   clear c5
   (first | rw [c5b0] | rw [c5b1] | (simp only [i64_w, i32_w]; rw [c5b0]) | skip)
   replace H := Option.bind_eq_some_iff.mp H
   obtain ⟨t181, A60, H⟩ := H
   replace H : (lex_Show.j0 k a0_1 (!t181) a0_0 a0_1 a0_2) = some (r1, r2) := H
   have A6 := Aside0.mk A60
   clear A60
   have H' := Aside0.mk H
   clear H
   have hcz7_0 : w3.cell? ⟨gb180, 0, none⟩ = some (.int .i64 a0_0) := (blk_cell BK180.out 0).trans rfl
   have hcz7_1 : w3.cell? ⟨gb180, 1, none⟩ = some (.string a0_1) := (blk_cell BK180.out 1).trans rfl
   have hcz7_2 : w3.cell? ⟨gb180, 2, none⟩ = some (.int .i64 a0_2) := (blk_cell BK180.out 2).trans rfl
   have hfz7_0 := blk_frozen BK180.out 0
   have hfz7_1 := blk_frozen BK180.out 1
   have hfz7_2 := blk_frozen BK180.out 2
   go_wp2_with (first | (go_at_call 9; (with_reducible refine (lex_Simple.calls a0_1 t181 _ A6.out).mono ?_); rintro e w' ⟨rfl, ⟨nd, rfl⟩⟩; (try first | exact ⟨rfl, _, World.drewN_drewN _ _ _⟩ | exact ⟨rfl, _, Eq.trans (World.drewN_drewN _ _ _) (congrArg (World.drewN _) (Nat.add_assoc _ _ _))⟩)))
   repeat (go_quiet (first | (go_at_call 9; (with_reducible refine (lex_Simple.calls a0_1 t181 _ A6.out).mono ?_); rintro e w' ⟨rfl, ⟨nd, rfl⟩⟩; (try first | exact ⟨rfl, _, World.drewN_drewN _ _ _⟩ | exact ⟨rfl, _, Eq.trans (World.drewN_drewN _ _ _) (congrArg (World.drewN _) (Nat.add_assoc _ _ _))⟩))); try go_wp2_with (first | (go_at_call 9; (with_reducible refine (lex_Simple.calls a0_1 t181 _ A6.out).mono ?_); rintro e w' ⟨rfl, ⟨nd, rfl⟩⟩; (try first | exact ⟨rfl, _, World.drewN_drewN _ _ _⟩ | exact ⟨rfl, _, Eq.trans (World.drewN_drewN _ _ _) (congrArg (World.drewN _) (Nat.add_assoc _ _ _))⟩))))
   go_meet
   case rel => exact ⟨_, (!t181), (by first | rfl | (simp; done) | (simp [*]; done) | (refine congrArg (Value.int _) ?_; omega) | (refine congrArg Value.bool ?_; generalize ByteArray.toList _ = z_; cases z_ <;> rfl)), H', ⟨by first | omega | exact Nat.le_refl _⟩, ⟨by (with_reducible repeat (first | refine blk_drewN ?_ _ | refine blk_drew ?_ | refine blk_alloc ?_ _)); exact BK180.out⟩, ⟨by repeat (first | (with_reducible first | exact HB.out | apply below_alloc | apply pw_below_drewN | apply below_drew1 | refine below_set ?_ GE180.out) | exact HB.out)⟩⟩
  ·rw [if_neg c5] at H
   have c5b0 : (a0_0 == 3) = false := beq_eq_false_iff_ne.mpr c5
   have c5b1 : (a0_0 != 3) = true := bne_iff_ne.mpr c5
   (first | rw [c5b0] | rw [c5b1] | (simp only [i64_w, i32_w]; rw [c5b0]) | skip)
   have H' := Aside0.mk H
   clear H
   have hcz8_0 : w3.cell? ⟨gb180, 0, none⟩ = some (.int .i64 a0_0) := (blk_cell BK180.out 0).trans rfl
   have hcz8_1 : w3.cell? ⟨gb180, 1, none⟩ = some (.string a0_1) := (blk_cell BK180.out 1).trans rfl
   have hcz8_2 : w3.cell? ⟨gb180, 2, none⟩ = some (.int .i64 a0_2) := (blk_cell BK180.out 2).trans rfl
   have hfz8_0 := blk_frozen BK180.out 0
   have hfz8_1 := blk_frozen BK180.out 1
   have hfz8_2 := blk_frozen BK180.out 2
   go_wp2
   repeat (go_quiet (fail); try go_wp2)
   go_meet
   case rel => exact ⟨_, (false), (by first | rfl | (simp; done) | (simp [*]; done) | (refine congrArg (Value.int _) ?_; omega) | (refine congrArg Value.bool ?_; generalize ByteArray.toList _ = z_; cases z_ <;> rfl)), H', ⟨by first | omega | exact Nat.le_refl _⟩, ⟨by (with_reducible repeat (first | refine blk_drewN ?_ _ | refine blk_drew ?_ | refine blk_alloc ?_ _)); exact BK180.out⟩, ⟨by repeat (first | (with_reducible first | exact HB.out | apply below_alloc | apply pw_below_drewN | apply below_drew1 | refine below_set ?_ GE180.out) | exact HB.out)⟩⟩
 case rest =>
  clear HC2
  try clear p2
  try clear c5
  try clear c5b0
  try clear c5b1
  try clear c7
  try clear hcz4_0
  try clear hcz4_1
  try clear hcz4_2
  try clear hcz7_0
  try clear hcz7_1
  try clear hcz7_2
  try clear hcz8_0
  try clear hcz8_1
  try clear hcz8_2
  try clear hfz4_0
  try clear hfz4_1
  try clear hfz4_2
  try clear hfz7_0
  try clear hfz7_1
  try clear hfz7_2
  try clear hfz8_0
  try clear hfz8_1
  try clear hfz8_2
  obtain ⟨kq, x10_1, rfl, HA, HJ1, BK180, HB⟩ := hcut
  cases kq with
  | zero => exact absurd HA.out (by simp [lex_Show.j0])
  | succ kj1 =>
   have H := HA.out
   clear HA
   simp only [lex_Show.j0] at H
   by_cases c9 : x10_1 = true
   ·subst c9
    have H1 : (if 1 + a0_1.size ≤ 9223372036854775807 then (if 1 + a0_1.size + 1 ≤ 9223372036854775807 then ((lex_Lex.f kj1 (((⟨#[124]⟩ : ByteArray) ++ a0_1) ++ (⟨#[124]⟩ : ByteArray))).bind fun bt182 => (if bt182.2.1 = 0 then (if (bt182.1.length : Int) = 1 then (if 0 < (bt182.1.length : Int) then (if ((rd_T23 bt182.1 0).f0) = a0_0 then (if ((rd_T23 bt182.1 0).f1).toList = a0_1.toList then (some (((⟨#[124]⟩ : ByteArray) ++ a0_1) ++ (⟨#[124]⟩ : ByteArray), 0)) else (some ((⟨#[]⟩ : ByteArray), 1))) else (some ((⟨#[]⟩ : ByteArray), 1))) else (none)) else (some ((⟨#[]⟩ : ByteArray), 1))) else (some ((⟨#[]⟩ : ByteArray), 1)))) else (none)) else (none)) = some (r1, r2) := by rw [if_pos rfl] at H; exact H
    clear H
    have H := H1
    clear H1
    by_cases c10 : 1 + a0_1.size ≤ 9223372036854775807
    ·rw [if_pos c10] at H
     have c10b0 := eq_true c10
     have c10b1 : decide (1 + a0_1.size ≤ 9223372036854775807) = true := decide_eq_true c10
     try have c10b2 : (9223372036854775807 < 1 + a0_1.size) = False := eq_false (Nat.not_lt.2 c10)
     by_cases c11 : 1 + a0_1.size + 1 ≤ 9223372036854775807
     ·rw [if_pos c11] at H
      have c11b0 := eq_true c11
      have c11b1 : decide (1 + a0_1.size + 1 ≤ 9223372036854775807) = true := decide_eq_true c11
      try have c11b2 : (9223372036854775807 < 1 + a0_1.size + 1) = False := eq_false (Nat.not_lt.2 c11)
      replace H := Option.bind_eq_some_iff.mp H
      obtain ⟨⟨t182, t183, t184⟩, A120, H⟩ := H
      replace H : (if t183 = 0 then (if (t182.length : Int) = 1 then (if 0 < (t182.length : Int) then (if ((rd_T23 t182 0).f0) = a0_0 then (if ((rd_T23 t182 0).f1).toList = a0_1.toList then (some (((⟨#[124]⟩ : ByteArray) ++ a0_1) ++ (⟨#[124]⟩ : ByteArray), 0)) else (some ((⟨#[]⟩ : ByteArray), 1))) else (some ((⟨#[]⟩ : ByteArray), 1))) else (none)) else (some ((⟨#[]⟩ : ByteArray), 1))) else (some ((⟨#[]⟩ : ByteArray), 1))) = some (r1, r2) := H
      have A12 := Aside0.mk A120
      clear A120
      by_cases c13 : t183 = 0
      ·rw [if_pos c13] at H
       have c13b0 : (t183 == 0) = true := beq_iff_eq.mpr c13
       have c13b1 : (t183 != 0) = false := bne_eq_false_iff_eq.mpr c13
       clear c13
       by_cases c14 : (t182.length : Int) = 1
       ·rw [if_pos c14] at H
        have c14b0 : ((t182.length : Int) == 1) = true := beq_iff_eq.mpr c14
        have c14b1 : ((t182.length : Int) != 1) = false := bne_eq_false_iff_eq.mpr c14
        clear c14
        by_cases c15 : 0 < (t182.length : Int)
        ·rw [if_pos c15] at H
         have c15b0 : decide (0 < (t182.length : Int)) = true := decide_eq_true c15
         have c15b1 : decide (0 < t182.length) = true := decide_eq_true (by omega)
         clear c15
         by_cases c16 : ((rd_T23 t182 0).f0) = a0_0
         ·rw [if_pos c16] at H
          have c16b0 : (((rd_T23 t182 0).f0) == a0_0) = true := beq_iff_eq.mpr c16
          have c16b1 : (((rd_T23 t182 0).f0) != a0_0) = false := bne_eq_false_iff_eq.mpr c16
          clear c16
          by_cases c17 : ((rd_T23 t182 0).f1).toList = a0_1.toList
          ·rw [if_pos c17] at H
           have c17b0 : (((rd_T23 t182 0).f1).toList == a0_1.toList) = true := beq_iff_eq.mpr c17
           have c17b1 : (((rd_T23 t182 0).f1).toList != a0_1.toList) = false := bne_eq_false_iff_eq.mpr c17
           clear c17
           simp only [Option.some.injEq, Prod.mk.injEq] at H
           obtain ⟨rfl, rfl⟩ := H
           go_wp2_with (first | (go_at_call 12; (with_reducible refine (lex_Lex.calls kj1 (((⟨#[124]⟩ : ByteArray) ++ a0_1) ++ (⟨#[124]⟩ : ByteArray)) t182 t183 t184 _ A12.out).mono ?_); rintro e w18 ⟨v185, rfl, ho0, hb⟩; have n0_ := Aside0.mk (Kd.R_lower (Kd.R_newB ho0 (g := gb180) (o := .cells #[.int .i64 a0_0, .string a0_1, .int .i64 a0_2] 23 (0, 0)) (by (with_reducible repeat (first | refine blk_drewN ?_ _ | refine blk_drew ?_ | refine blk_alloc ?_ _)); exact BK180.out)) (below_size (by repeat (first | (with_reducible first | exact HB.out | apply below_alloc | apply pw_below_drewN | apply below_drew1 | refine below_set ?_ GE180.out) | exact HB.out)))); have n1_ := Aside0.mk (blk_below (g := gb180) (o := .cells #[.int .i64 a0_0, .string a0_1, .int .i64 a0_2] 23 (0, 0)) (by (with_reducible repeat (first | refine blk_drewN ?_ _ | refine blk_drew ?_ | refine blk_alloc ?_ _)); exact BK180.out) hb); have n2_ := Aside0.mk (below_step (by repeat (first | (with_reducible first | exact HB.out | apply below_alloc | apply pw_below_drewN | apply below_drew1 | refine below_set ?_ GE180.out) | exact HB.out)) hb); clear BK180; clear HB; have HO186 := n0_; have BK180 := n1_; have HB := n2_; clear n0_ n1_ n2_; (try clear hb); (try clear hb2); (try clear hk); (try clear hi); (try clear ho0); obtain ⟨Ao19, co19, eo19⟩ := Kd.R_slice HO186.out; subst eo19; have p187 : 0 ≤ (0 : Int) := (by omega); have q187 : 0 < (t182.length : Int) := of_decide_eq_true (by first | (with_reducible assumption) | assumption); obtain ⟨ad187, e187, hx187_0, hx187_1, hx187_2⟩ := at_T23 (Kd.R_reads' HO186.out).2.2 0 p187 q187; cases e187; have qi187 : (0 < t182.length) = True := eq_true (by omega); (try rw [show ((0 : Int)).toNat = 0 from rfl] at hx187_0); (try rw [show 0 * 3 = 0 from rfl] at hx187_0); (try rw [Addr.add_zero'] at hx187_0); (try rw [show ((0 : Int)).toNat = 0 from rfl] at hx187_1); (try rw [show 0 * 3 = 0 from rfl] at hx187_1); (try rw [Addr.add_zero'] at hx187_1); (try rw [show ((0 : Int)).toNat = 0 from rfl] at hx187_2); (try rw [show 0 * 3 = 0 from rfl] at hx187_2); (try rw [Addr.add_zero'] at hx187_2); replace p187 := eq_true p187; replace q187 := eq_true q187; have hcz20_0 : w18.cell? ⟨gb180, 0, none⟩ = some (.int .i64 a0_0) := (blk_cell BK180.out 0).trans rfl; have hcz20_1 : w18.cell? ⟨gb180, 1, none⟩ = some (.string a0_1) := (blk_cell BK180.out 1).trans rfl; have hcz20_2 : w18.cell? ⟨gb180, 2, none⟩ = some (.int .i64 a0_2) := (blk_cell BK180.out 2).trans rfl; have hfz20_0 := blk_frozen BK180.out 0; have hfz20_1 := blk_frozen BK180.out 1; have hfz20_2 := blk_frozen BK180.out 2; have p188 : 0 ≤ (0 : Int) := (by omega); have q188 : 0 < (t182.length : Int) := of_decide_eq_true (by first | (with_reducible assumption) | assumption); obtain ⟨ad188, e188, hx188_0, hx188_1, hx188_2⟩ := at_T23 (Kd.R_reads' HO186.out).2.2 0 p188 q188; obtain rfl : ad187 = ad188 := (by injection e188); have qi188 : (0 < t182.length) = True := eq_true (by omega); (try rw [show ((0 : Int)).toNat = 0 from rfl] at hx188_0); (try rw [show 0 * 3 = 0 from rfl] at hx188_0); (try rw [Addr.add_zero'] at hx188_0); (try rw [show ((0 : Int)).toNat = 0 from rfl] at hx188_1); (try rw [show 0 * 3 = 0 from rfl] at hx188_1); (try rw [Addr.add_zero'] at hx188_1); (try rw [show ((0 : Int)).toNat = 0 from rfl] at hx188_2); (try rw [show 0 * 3 = 0 from rfl] at hx188_2); (try rw [Addr.add_zero'] at hx188_2); replace p188 := eq_true p188; replace q188 := eq_true q188))
           repeat (go_quiet (first | (go_at_call 12; (with_reducible refine (lex_Lex.calls kj1 (((⟨#[124]⟩ : ByteArray) ++ a0_1) ++ (⟨#[124]⟩ : ByteArray)) t182 t183 t184 _ A12.out).mono ?_); rintro e w18 ⟨v185, rfl, ho0, hb⟩; have n0_ := Aside0.mk (Kd.R_lower (Kd.R_newB ho0 (g := gb180) (o := .cells #[.int .i64 a0_0, .string a0_1, .int .i64 a0_2] 23 (0, 0)) (by (with_reducible repeat (first | refine blk_drewN ?_ _ | refine blk_drew ?_ | refine blk_alloc ?_ _)); exact BK180.out)) (below_size (by repeat (first | (with_reducible first | exact HB.out | apply below_alloc | apply pw_below_drewN | apply below_drew1 | refine below_set ?_ GE180.out) | exact HB.out)))); have n1_ := Aside0.mk (blk_below (g := gb180) (o := .cells #[.int .i64 a0_0, .string a0_1, .int .i64 a0_2] 23 (0, 0)) (by (with_reducible repeat (first | refine blk_drewN ?_ _ | refine blk_drew ?_ | refine blk_alloc ?_ _)); exact BK180.out) hb); have n2_ := Aside0.mk (below_step (by repeat (first | (with_reducible first | exact HB.out | apply below_alloc | apply pw_below_drewN | apply below_drew1 | refine below_set ?_ GE180.out) | exact HB.out)) hb); clear BK180; clear HB; have HO186 := n0_; have BK180 := n1_; have HB := n2_; clear n0_ n1_ n2_; (try clear hb); (try clear hb2); (try clear hk); (try clear hi); (try clear ho0); obtain ⟨Ao19, co19, eo19⟩ := Kd.R_slice HO186.out; subst eo19; have p187 : 0 ≤ (0 : Int) := (by omega); have q187 : 0 < (t182.length : Int) := of_decide_eq_true (by first | (with_reducible assumption) | assumption); obtain ⟨ad187, e187, hx187_0, hx187_1, hx187_2⟩ := at_T23 (Kd.R_reads' HO186.out).2.2 0 p187 q187; cases e187; have qi187 : (0 < t182.length) = True := eq_true (by omega); (try rw [show ((0 : Int)).toNat = 0 from rfl] at hx187_0); (try rw [show 0 * 3 = 0 from rfl] at hx187_0); (try rw [Addr.add_zero'] at hx187_0); (try rw [show ((0 : Int)).toNat = 0 from rfl] at hx187_1); (try rw [show 0 * 3 = 0 from rfl] at hx187_1); (try rw [Addr.add_zero'] at hx187_1); (try rw [show ((0 : Int)).toNat = 0 from rfl] at hx187_2); (try rw [show 0 * 3 = 0 from rfl] at hx187_2); (try rw [Addr.add_zero'] at hx187_2); replace p187 := eq_true p187; replace q187 := eq_true q187; have hcz20_0 : w18.cell? ⟨gb180, 0, none⟩ = some (.int .i64 a0_0) := (blk_cell BK180.out 0).trans rfl; have hcz20_1 : w18.cell? ⟨gb180, 1, none⟩ = some (.string a0_1) := (blk_cell BK180.out 1).trans rfl; have hcz20_2 : w18.cell? ⟨gb180, 2, none⟩ = some (.int .i64 a0_2) := (blk_cell BK180.out 2).trans rfl; have hfz20_0 := blk_frozen BK180.out 0; have hfz20_1 := blk_frozen BK180.out 1; have hfz20_2 := blk_frozen BK180.out 2; have p188 : 0 ≤ (0 : Int) := (by omega); have q188 : 0 < (t182.length : Int) := of_decide_eq_true (by first | (with_reducible assumption) | assumption); obtain ⟨ad188, e188, hx188_0, hx188_1, hx188_2⟩ := at_T23 (Kd.R_reads' HO186.out).2.2 0 p188 q188; obtain rfl : ad187 = ad188 := (by injection e188); have qi188 : (0 < t182.length) = True := eq_true (by omega); (try rw [show ((0 : Int)).toNat = 0 from rfl] at hx188_0); (try rw [show 0 * 3 = 0 from rfl] at hx188_0); (try rw [Addr.add_zero'] at hx188_0); (try rw [show ((0 : Int)).toNat = 0 from rfl] at hx188_1); (try rw [show 0 * 3 = 0 from rfl] at hx188_1); (try rw [Addr.add_zero'] at hx188_1); (try rw [show ((0 : Int)).toNat = 0 from rfl] at hx188_2); (try rw [show 0 * 3 = 0 from rfl] at hx188_2); (try rw [Addr.add_zero'] at hx188_2); replace p188 := eq_true p188; replace q188 := eq_true q188)); try go_wp2_with (first | (go_at_call 12; (with_reducible refine (lex_Lex.calls kj1 (((⟨#[124]⟩ : ByteArray) ++ a0_1) ++ (⟨#[124]⟩ : ByteArray)) t182 t183 t184 _ A12.out).mono ?_); rintro e w18 ⟨v185, rfl, ho0, hb⟩; have n0_ := Aside0.mk (Kd.R_lower (Kd.R_newB ho0 (g := gb180) (o := .cells #[.int .i64 a0_0, .string a0_1, .int .i64 a0_2] 23 (0, 0)) (by (with_reducible repeat (first | refine blk_drewN ?_ _ | refine blk_drew ?_ | refine blk_alloc ?_ _)); exact BK180.out)) (below_size (by repeat (first | (with_reducible first | exact HB.out | apply below_alloc | apply pw_below_drewN | apply below_drew1 | refine below_set ?_ GE180.out) | exact HB.out)))); have n1_ := Aside0.mk (blk_below (g := gb180) (o := .cells #[.int .i64 a0_0, .string a0_1, .int .i64 a0_2] 23 (0, 0)) (by (with_reducible repeat (first | refine blk_drewN ?_ _ | refine blk_drew ?_ | refine blk_alloc ?_ _)); exact BK180.out) hb); have n2_ := Aside0.mk (below_step (by repeat (first | (with_reducible first | exact HB.out | apply below_alloc | apply pw_below_drewN | apply below_drew1 | refine below_set ?_ GE180.out) | exact HB.out)) hb); clear BK180; clear HB; have HO186 := n0_; have BK180 := n1_; have HB := n2_; clear n0_ n1_ n2_; (try clear hb); (try clear hb2); (try clear hk); (try clear hi); (try clear ho0); obtain ⟨Ao19, co19, eo19⟩ := Kd.R_slice HO186.out; subst eo19; have p187 : 0 ≤ (0 : Int) := (by omega); have q187 : 0 < (t182.length : Int) := of_decide_eq_true (by first | (with_reducible assumption) | assumption); obtain ⟨ad187, e187, hx187_0, hx187_1, hx187_2⟩ := at_T23 (Kd.R_reads' HO186.out).2.2 0 p187 q187; cases e187; have qi187 : (0 < t182.length) = True := eq_true (by omega); (try rw [show ((0 : Int)).toNat = 0 from rfl] at hx187_0); (try rw [show 0 * 3 = 0 from rfl] at hx187_0); (try rw [Addr.add_zero'] at hx187_0); (try rw [show ((0 : Int)).toNat = 0 from rfl] at hx187_1); (try rw [show 0 * 3 = 0 from rfl] at hx187_1); (try rw [Addr.add_zero'] at hx187_1); (try rw [show ((0 : Int)).toNat = 0 from rfl] at hx187_2); (try rw [show 0 * 3 = 0 from rfl] at hx187_2); (try rw [Addr.add_zero'] at hx187_2); replace p187 := eq_true p187; replace q187 := eq_true q187; have hcz20_0 : w18.cell? ⟨gb180, 0, none⟩ = some (.int .i64 a0_0) := (blk_cell BK180.out 0).trans rfl; have hcz20_1 : w18.cell? ⟨gb180, 1, none⟩ = some (.string a0_1) := (blk_cell BK180.out 1).trans rfl; have hcz20_2 : w18.cell? ⟨gb180, 2, none⟩ = some (.int .i64 a0_2) := (blk_cell BK180.out 2).trans rfl; have hfz20_0 := blk_frozen BK180.out 0; have hfz20_1 := blk_frozen BK180.out 1; have hfz20_2 := blk_frozen BK180.out 2; have p188 : 0 ≤ (0 : Int) := (by omega); have q188 : 0 < (t182.length : Int) := of_decide_eq_true (by first | (with_reducible assumption) | assumption); obtain ⟨ad188, e188, hx188_0, hx188_1, hx188_2⟩ := at_T23 (Kd.R_reads' HO186.out).2.2 0 p188 q188; obtain rfl : ad187 = ad188 := (by injection e188); have qi188 : (0 < t182.length) = True := eq_true (by omega); (try rw [show ((0 : Int)).toNat = 0 from rfl] at hx188_0); (try rw [show 0 * 3 = 0 from rfl] at hx188_0); (try rw [Addr.add_zero'] at hx188_0); (try rw [show ((0 : Int)).toNat = 0 from rfl] at hx188_1); (try rw [show 0 * 3 = 0 from rfl] at hx188_1); (try rw [Addr.add_zero'] at hx188_1); (try rw [show ((0 : Int)).toNat = 0 from rfl] at hx188_2); (try rw [show 0 * 3 = 0 from rfl] at hx188_2); (try rw [Addr.add_zero'] at hx188_2); replace p188 := eq_true p188; replace q188 := eq_true q188)))
           go_ret2
           exact ⟨by first | rfl | (simp [errW_none, errW_some] <;> rfl) | (refine congrArg (fun z_ => Ending.returned (Value.bool z_)) (decide_eq_decide.mpr ?_); unfold wrap64; omega) | (simp [*, errW_none, errW_some] <;> rfl), by repeat (first | (with_reducible first | exact HB.out | apply below_alloc | apply pw_below_drewN | apply below_drew1 | refine below_set ?_ GE180.out) | exact HB.out)⟩
          ·rw [if_neg c17] at H
           have c17b0 : (((rd_T23 t182 0).f1).toList == a0_1.toList) = false := beq_eq_false_iff_ne.mpr c17
           have c17b1 : (((rd_T23 t182 0).f1).toList != a0_1.toList) = true := bne_iff_ne.mpr c17
           simp only [Option.some.injEq, Prod.mk.injEq] at H
           obtain ⟨rfl, rfl⟩ := H
           go_wp2_with (first | (go_at_call 12; (with_reducible refine (lex_Lex.calls kj1 (((⟨#[124]⟩ : ByteArray) ++ a0_1) ++ (⟨#[124]⟩ : ByteArray)) t182 t183 t184 _ A12.out).mono ?_); rintro e w21 ⟨v185, rfl, ho0, hb⟩; have n0_ := Aside0.mk (Kd.R_lower (Kd.R_newB ho0 (g := gb180) (o := .cells #[.int .i64 a0_0, .string a0_1, .int .i64 a0_2] 23 (0, 0)) (by (with_reducible repeat (first | refine blk_drewN ?_ _ | refine blk_drew ?_ | refine blk_alloc ?_ _)); exact BK180.out)) (below_size (by repeat (first | (with_reducible first | exact HB.out | apply below_alloc | apply pw_below_drewN | apply below_drew1 | refine below_set ?_ GE180.out) | exact HB.out)))); have n1_ := Aside0.mk (blk_below (g := gb180) (o := .cells #[.int .i64 a0_0, .string a0_1, .int .i64 a0_2] 23 (0, 0)) (by (with_reducible repeat (first | refine blk_drewN ?_ _ | refine blk_drew ?_ | refine blk_alloc ?_ _)); exact BK180.out) hb); have n2_ := Aside0.mk (below_step (by repeat (first | (with_reducible first | exact HB.out | apply below_alloc | apply pw_below_drewN | apply below_drew1 | refine below_set ?_ GE180.out) | exact HB.out)) hb); clear BK180; clear HB; have HO186 := n0_; have BK180 := n1_; have HB := n2_; clear n0_ n1_ n2_; (try clear hb); (try clear hb2); (try clear hk); (try clear hi); (try clear ho0); obtain ⟨Ao22, co22, eo22⟩ := Kd.R_slice HO186.out; subst eo22; have p187 : 0 ≤ (0 : Int) := (by omega); have q187 : 0 < (t182.length : Int) := of_decide_eq_true (by first | (with_reducible assumption) | assumption); obtain ⟨ad187, e187, hx187_0, hx187_1, hx187_2⟩ := at_T23 (Kd.R_reads' HO186.out).2.2 0 p187 q187; cases e187; have qi187 : (0 < t182.length) = True := eq_true (by omega); (try rw [show ((0 : Int)).toNat = 0 from rfl] at hx187_0); (try rw [show 0 * 3 = 0 from rfl] at hx187_0); (try rw [Addr.add_zero'] at hx187_0); (try rw [show ((0 : Int)).toNat = 0 from rfl] at hx187_1); (try rw [show 0 * 3 = 0 from rfl] at hx187_1); (try rw [Addr.add_zero'] at hx187_1); (try rw [show ((0 : Int)).toNat = 0 from rfl] at hx187_2); (try rw [show 0 * 3 = 0 from rfl] at hx187_2); (try rw [Addr.add_zero'] at hx187_2); replace p187 := eq_true p187; replace q187 := eq_true q187; have hcz23_0 : w21.cell? ⟨gb180, 0, none⟩ = some (.int .i64 a0_0) := (blk_cell BK180.out 0).trans rfl; have hcz23_1 : w21.cell? ⟨gb180, 1, none⟩ = some (.string a0_1) := (blk_cell BK180.out 1).trans rfl; have hcz23_2 : w21.cell? ⟨gb180, 2, none⟩ = some (.int .i64 a0_2) := (blk_cell BK180.out 2).trans rfl; have hfz23_0 := blk_frozen BK180.out 0; have hfz23_1 := blk_frozen BK180.out 1; have hfz23_2 := blk_frozen BK180.out 2; have p188 : 0 ≤ (0 : Int) := (by omega); have q188 : 0 < (t182.length : Int) := of_decide_eq_true (by first | (with_reducible assumption) | assumption); obtain ⟨ad188, e188, hx188_0, hx188_1, hx188_2⟩ := at_T23 (Kd.R_reads' HO186.out).2.2 0 p188 q188; obtain rfl : ad187 = ad188 := (by injection e188); have qi188 : (0 < t182.length) = True := eq_true (by omega); (try rw [show ((0 : Int)).toNat = 0 from rfl] at hx188_0); (try rw [show 0 * 3 = 0 from rfl] at hx188_0); (try rw [Addr.add_zero'] at hx188_0); (try rw [show ((0 : Int)).toNat = 0 from rfl] at hx188_1); (try rw [show 0 * 3 = 0 from rfl] at hx188_1); (try rw [Addr.add_zero'] at hx188_1); (try rw [show ((0 : Int)).toNat = 0 from rfl] at hx188_2); (try rw [show 0 * 3 = 0 from rfl] at hx188_2); (try rw [Addr.add_zero'] at hx188_2); replace p188 := eq_true p188; replace q188 := eq_true q188))
           repeat (go_quiet (first | (go_at_call 12; (with_reducible refine (lex_Lex.calls kj1 (((⟨#[124]⟩ : ByteArray) ++ a0_1) ++ (⟨#[124]⟩ : ByteArray)) t182 t183 t184 _ A12.out).mono ?_); rintro e w21 ⟨v185, rfl, ho0, hb⟩; have n0_ := Aside0.mk (Kd.R_lower (Kd.R_newB ho0 (g := gb180) (o := .cells #[.int .i64 a0_0, .string a0_1, .int .i64 a0_2] 23 (0, 0)) (by (with_reducible repeat (first | refine blk_drewN ?_ _ | refine blk_drew ?_ | refine blk_alloc ?_ _)); exact BK180.out)) (below_size (by repeat (first | (with_reducible first | exact HB.out | apply below_alloc | apply pw_below_drewN | apply below_drew1 | refine below_set ?_ GE180.out) | exact HB.out)))); have n1_ := Aside0.mk (blk_below (g := gb180) (o := .cells #[.int .i64 a0_0, .string a0_1, .int .i64 a0_2] 23 (0, 0)) (by (with_reducible repeat (first | refine blk_drewN ?_ _ | refine blk_drew ?_ | refine blk_alloc ?_ _)); exact BK180.out) hb); have n2_ := Aside0.mk (below_step (by repeat (first | (with_reducible first | exact HB.out | apply below_alloc | apply pw_below_drewN | apply below_drew1 | refine below_set ?_ GE180.out) | exact HB.out)) hb); clear BK180; clear HB; have HO186 := n0_; have BK180 := n1_; have HB := n2_; clear n0_ n1_ n2_; (try clear hb); (try clear hb2); (try clear hk); (try clear hi); (try clear ho0); obtain ⟨Ao22, co22, eo22⟩ := Kd.R_slice HO186.out; subst eo22; have p187 : 0 ≤ (0 : Int) := (by omega); have q187 : 0 < (t182.length : Int) := of_decide_eq_true (by first | (with_reducible assumption) | assumption); obtain ⟨ad187, e187, hx187_0, hx187_1, hx187_2⟩ := at_T23 (Kd.R_reads' HO186.out).2.2 0 p187 q187; cases e187; have qi187 : (0 < t182.length) = True := eq_true (by omega); (try rw [show ((0 : Int)).toNat = 0 from rfl] at hx187_0); (try rw [show 0 * 3 = 0 from rfl] at hx187_0); (try rw [Addr.add_zero'] at hx187_0); (try rw [show ((0 : Int)).toNat = 0 from rfl] at hx187_1); (try rw [show 0 * 3 = 0 from rfl] at hx187_1); (try rw [Addr.add_zero'] at hx187_1); (try rw [show ((0 : Int)).toNat = 0 from rfl] at hx187_2); (try rw [show 0 * 3 = 0 from rfl] at hx187_2); (try rw [Addr.add_zero'] at hx187_2); replace p187 := eq_true p187; replace q187 := eq_true q187; have hcz23_0 : w21.cell? ⟨gb180, 0, none⟩ = some (.int .i64 a0_0) := (blk_cell BK180.out 0).trans rfl; have hcz23_1 : w21.cell? ⟨gb180, 1, none⟩ = some (.string a0_1) := (blk_cell BK180.out 1).trans rfl; have hcz23_2 : w21.cell? ⟨gb180, 2, none⟩ = some (.int .i64 a0_2) := (blk_cell BK180.out 2).trans rfl; have hfz23_0 := blk_frozen BK180.out 0; have hfz23_1 := blk_frozen BK180.out 1; have hfz23_2 := blk_frozen BK180.out 2; have p188 : 0 ≤ (0 : Int) := (by omega); have q188 : 0 < (t182.length : Int) := of_decide_eq_true (by first | (with_reducible assumption) | assumption); obtain ⟨ad188, e188, hx188_0, hx188_1, hx188_2⟩ := at_T23 (Kd.R_reads' HO186.out).2.2 0 p188 q188; obtain rfl : ad187 = ad188 := (by injection e188); have qi188 : (0 < t182.length) = True := eq_true (by omega); (try rw [show ((0 : Int)).toNat = 0 from rfl] at hx188_0); (try rw [show 0 * 3 = 0 from rfl] at hx188_0); (try rw [Addr.add_zero'] at hx188_0); (try rw [show ((0 : Int)).toNat = 0 from rfl] at hx188_1); (try rw [show 0 * 3 = 0 from rfl] at hx188_1); (try rw [Addr.add_zero'] at hx188_1); (try rw [show ((0 : Int)).toNat = 0 from rfl] at hx188_2); (try rw [show 0 * 3 = 0 from rfl] at hx188_2); (try rw [Addr.add_zero'] at hx188_2); replace p188 := eq_true p188; replace q188 := eq_true q188)); try go_wp2_with (first | (go_at_call 12; (with_reducible refine (lex_Lex.calls kj1 (((⟨#[124]⟩ : ByteArray) ++ a0_1) ++ (⟨#[124]⟩ : ByteArray)) t182 t183 t184 _ A12.out).mono ?_); rintro e w21 ⟨v185, rfl, ho0, hb⟩; have n0_ := Aside0.mk (Kd.R_lower (Kd.R_newB ho0 (g := gb180) (o := .cells #[.int .i64 a0_0, .string a0_1, .int .i64 a0_2] 23 (0, 0)) (by (with_reducible repeat (first | refine blk_drewN ?_ _ | refine blk_drew ?_ | refine blk_alloc ?_ _)); exact BK180.out)) (below_size (by repeat (first | (with_reducible first | exact HB.out | apply below_alloc | apply pw_below_drewN | apply below_drew1 | refine below_set ?_ GE180.out) | exact HB.out)))); have n1_ := Aside0.mk (blk_below (g := gb180) (o := .cells #[.int .i64 a0_0, .string a0_1, .int .i64 a0_2] 23 (0, 0)) (by (with_reducible repeat (first | refine blk_drewN ?_ _ | refine blk_drew ?_ | refine blk_alloc ?_ _)); exact BK180.out) hb); have n2_ := Aside0.mk (below_step (by repeat (first | (with_reducible first | exact HB.out | apply below_alloc | apply pw_below_drewN | apply below_drew1 | refine below_set ?_ GE180.out) | exact HB.out)) hb); clear BK180; clear HB; have HO186 := n0_; have BK180 := n1_; have HB := n2_; clear n0_ n1_ n2_; (try clear hb); (try clear hb2); (try clear hk); (try clear hi); (try clear ho0); obtain ⟨Ao22, co22, eo22⟩ := Kd.R_slice HO186.out; subst eo22; have p187 : 0 ≤ (0 : Int) := (by omega); have q187 : 0 < (t182.length : Int) := of_decide_eq_true (by first | (with_reducible assumption) | assumption); obtain ⟨ad187, e187, hx187_0, hx187_1, hx187_2⟩ := at_T23 (Kd.R_reads' HO186.out).2.2 0 p187 q187; cases e187; have qi187 : (0 < t182.length) = True := eq_true (by omega); (try rw [show ((0 : Int)).toNat = 0 from rfl] at hx187_0); (try rw [show 0 * 3 = 0 from rfl] at hx187_0); (try rw [Addr.add_zero'] at hx187_0); (try rw [show ((0 : Int)).toNat = 0 from rfl] at hx187_1); (try rw [show 0 * 3 = 0 from rfl] at hx187_1); (try rw [Addr.add_zero'] at hx187_1); (try rw [show ((0 : Int)).toNat = 0 from rfl] at hx187_2); (try rw [show 0 * 3 = 0 from rfl] at hx187_2); (try rw [Addr.add_zero'] at hx187_2); replace p187 := eq_true p187; replace q187 := eq_true q187; have hcz23_0 : w21.cell? ⟨gb180, 0, none⟩ = some (.int .i64 a0_0) := (blk_cell BK180.out 0).trans rfl; have hcz23_1 : w21.cell? ⟨gb180, 1, none⟩ = some (.string a0_1) := (blk_cell BK180.out 1).trans rfl; have hcz23_2 : w21.cell? ⟨gb180, 2, none⟩ = some (.int .i64 a0_2) := (blk_cell BK180.out 2).trans rfl; have hfz23_0 := blk_frozen BK180.out 0; have hfz23_1 := blk_frozen BK180.out 1; have hfz23_2 := blk_frozen BK180.out 2; have p188 : 0 ≤ (0 : Int) := (by omega); have q188 : 0 < (t182.length : Int) := of_decide_eq_true (by first | (with_reducible assumption) | assumption); obtain ⟨ad188, e188, hx188_0, hx188_1, hx188_2⟩ := at_T23 (Kd.R_reads' HO186.out).2.2 0 p188 q188; obtain rfl : ad187 = ad188 := (by injection e188); have qi188 : (0 < t182.length) = True := eq_true (by omega); (try rw [show ((0 : Int)).toNat = 0 from rfl] at hx188_0); (try rw [show 0 * 3 = 0 from rfl] at hx188_0); (try rw [Addr.add_zero'] at hx188_0); (try rw [show ((0 : Int)).toNat = 0 from rfl] at hx188_1); (try rw [show 0 * 3 = 0 from rfl] at hx188_1); (try rw [Addr.add_zero'] at hx188_1); (try rw [show ((0 : Int)).toNat = 0 from rfl] at hx188_2); (try rw [show 0 * 3 = 0 from rfl] at hx188_2); (try rw [Addr.add_zero'] at hx188_2); replace p188 := eq_true p188; replace q188 := eq_true q188)))
           go_ret2
           exact ⟨by first | rfl | (simp [errW_none, errW_some] <;> rfl) | (refine congrArg (fun z_ => Ending.returned (Value.bool z_)) (decide_eq_decide.mpr ?_); unfold wrap64; omega) | (simp [*, errW_none, errW_some] <;> rfl), by repeat (first | (with_reducible first | exact HB.out | apply below_alloc | apply pw_below_drewN | apply below_drew1 | refine below_set ?_ GE180.out) | exact HB.out)⟩
         ·rw [if_neg c16] at H
          have c16b0 : (((rd_T23 t182 0).f0) == a0_0) = false := beq_eq_false_iff_ne.mpr c16
          have c16b1 : (((rd_T23 t182 0).f0) != a0_0) = true := bne_iff_ne.mpr c16
          simp only [Option.some.injEq, Prod.mk.injEq] at H
          obtain ⟨rfl, rfl⟩ := H
          go_wp2_with (first | (go_at_call 12; (with_reducible refine (lex_Lex.calls kj1 (((⟨#[124]⟩ : ByteArray) ++ a0_1) ++ (⟨#[124]⟩ : ByteArray)) t182 t183 t184 _ A12.out).mono ?_); rintro e w24 ⟨v185, rfl, ho0, hb⟩; have n0_ := Aside0.mk (Kd.R_lower (Kd.R_newB ho0 (g := gb180) (o := .cells #[.int .i64 a0_0, .string a0_1, .int .i64 a0_2] 23 (0, 0)) (by (with_reducible repeat (first | refine blk_drewN ?_ _ | refine blk_drew ?_ | refine blk_alloc ?_ _)); exact BK180.out)) (below_size (by repeat (first | (with_reducible first | exact HB.out | apply below_alloc | apply pw_below_drewN | apply below_drew1 | refine below_set ?_ GE180.out) | exact HB.out)))); have n1_ := Aside0.mk (blk_below (g := gb180) (o := .cells #[.int .i64 a0_0, .string a0_1, .int .i64 a0_2] 23 (0, 0)) (by (with_reducible repeat (first | refine blk_drewN ?_ _ | refine blk_drew ?_ | refine blk_alloc ?_ _)); exact BK180.out) hb); have n2_ := Aside0.mk (below_step (by repeat (first | (with_reducible first | exact HB.out | apply below_alloc | apply pw_below_drewN | apply below_drew1 | refine below_set ?_ GE180.out) | exact HB.out)) hb); clear BK180; clear HB; have HO186 := n0_; have BK180 := n1_; have HB := n2_; clear n0_ n1_ n2_; (try clear hb); (try clear hb2); (try clear hk); (try clear hi); (try clear ho0); obtain ⟨Ao25, co25, eo25⟩ := Kd.R_slice HO186.out; subst eo25; have p187 : 0 ≤ (0 : Int) := (by omega); have q187 : 0 < (t182.length : Int) := of_decide_eq_true (by first | (with_reducible assumption) | assumption); obtain ⟨ad187, e187, hx187_0, hx187_1, hx187_2⟩ := at_T23 (Kd.R_reads' HO186.out).2.2 0 p187 q187; cases e187; have qi187 : (0 < t182.length) = True := eq_true (by omega); (try rw [show ((0 : Int)).toNat = 0 from rfl] at hx187_0); (try rw [show 0 * 3 = 0 from rfl] at hx187_0); (try rw [Addr.add_zero'] at hx187_0); (try rw [show ((0 : Int)).toNat = 0 from rfl] at hx187_1); (try rw [show 0 * 3 = 0 from rfl] at hx187_1); (try rw [Addr.add_zero'] at hx187_1); (try rw [show ((0 : Int)).toNat = 0 from rfl] at hx187_2); (try rw [show 0 * 3 = 0 from rfl] at hx187_2); (try rw [Addr.add_zero'] at hx187_2); replace p187 := eq_true p187; replace q187 := eq_true q187; have hcz26_0 : w24.cell? ⟨gb180, 0, none⟩ = some (.int .i64 a0_0) := (blk_cell BK180.out 0).trans rfl; have hcz26_1 : w24.cell? ⟨gb180, 1, none⟩ = some (.string a0_1) := (blk_cell BK180.out 1).trans rfl; have hcz26_2 : w24.cell? ⟨gb180, 2, none⟩ = some (.int .i64 a0_2) := (blk_cell BK180.out 2).trans rfl; have hfz26_0 := blk_frozen BK180.out 0; have hfz26_1 := blk_frozen BK180.out 1; have hfz26_2 := blk_frozen BK180.out 2))
          repeat (go_quiet (first | (go_at_call 12; (with_reducible refine (lex_Lex.calls kj1 (((⟨#[124]⟩ : ByteArray) ++ a0_1) ++ (⟨#[124]⟩ : ByteArray)) t182 t183 t184 _ A12.out).mono ?_); rintro e w24 ⟨v185, rfl, ho0, hb⟩; have n0_ := Aside0.mk (Kd.R_lower (Kd.R_newB ho0 (g := gb180) (o := .cells #[.int .i64 a0_0, .string a0_1, .int .i64 a0_2] 23 (0, 0)) (by (with_reducible repeat (first | refine blk_drewN ?_ _ | refine blk_drew ?_ | refine blk_alloc ?_ _)); exact BK180.out)) (below_size (by repeat (first | (with_reducible first | exact HB.out | apply below_alloc | apply pw_below_drewN | apply below_drew1 | refine below_set ?_ GE180.out) | exact HB.out)))); have n1_ := Aside0.mk (blk_below (g := gb180) (o := .cells #[.int .i64 a0_0, .string a0_1, .int .i64 a0_2] 23 (0, 0)) (by (with_reducible repeat (first | refine blk_drewN ?_ _ | refine blk_drew ?_ | refine blk_alloc ?_ _)); exact BK180.out) hb); have n2_ := Aside0.mk (below_step (by repeat (first | (with_reducible first | exact HB.out | apply below_alloc | apply pw_below_drewN | apply below_drew1 | refine below_set ?_ GE180.out) | exact HB.out)) hb); clear BK180; clear HB; have HO186 := n0_; have BK180 := n1_; have HB := n2_; clear n0_ n1_ n2_; (try clear hb); (try clear hb2); (try clear hk); (try clear hi); (try clear ho0); obtain ⟨Ao25, co25, eo25⟩ := Kd.R_slice HO186.out; subst eo25; have p187 : 0 ≤ (0 : Int) := (by omega); have q187 : 0 < (t182.length : Int) := of_decide_eq_true (by first | (with_reducible assumption) | assumption); obtain ⟨ad187, e187, hx187_0, hx187_1, hx187_2⟩ := at_T23 (Kd.R_reads' HO186.out).2.2 0 p187 q187; cases e187; have qi187 : (0 < t182.length) = True := eq_true (by omega); (try rw [show ((0 : Int)).toNat = 0 from rfl] at hx187_0); (try rw [show 0 * 3 = 0 from rfl] at hx187_0); (try rw [Addr.add_zero'] at hx187_0); (try rw [show ((0 : Int)).toNat = 0 from rfl] at hx187_1); (try rw [show 0 * 3 = 0 from rfl] at hx187_1); (try rw [Addr.add_zero'] at hx187_1); (try rw [show ((0 : Int)).toNat = 0 from rfl] at hx187_2); (try rw [show 0 * 3 = 0 from rfl] at hx187_2); (try rw [Addr.add_zero'] at hx187_2); replace p187 := eq_true p187; replace q187 := eq_true q187; have hcz26_0 : w24.cell? ⟨gb180, 0, none⟩ = some (.int .i64 a0_0) := (blk_cell BK180.out 0).trans rfl; have hcz26_1 : w24.cell? ⟨gb180, 1, none⟩ = some (.string a0_1) := (blk_cell BK180.out 1).trans rfl; have hcz26_2 : w24.cell? ⟨gb180, 2, none⟩ = some (.int .i64 a0_2) := (blk_cell BK180.out 2).trans rfl; have hfz26_0 := blk_frozen BK180.out 0; have hfz26_1 := blk_frozen BK180.out 1; have hfz26_2 := blk_frozen BK180.out 2)); try go_wp2_with (first | (go_at_call 12; (with_reducible refine (lex_Lex.calls kj1 (((⟨#[124]⟩ : ByteArray) ++ a0_1) ++ (⟨#[124]⟩ : ByteArray)) t182 t183 t184 _ A12.out).mono ?_); rintro e w24 ⟨v185, rfl, ho0, hb⟩; have n0_ := Aside0.mk (Kd.R_lower (Kd.R_newB ho0 (g := gb180) (o := .cells #[.int .i64 a0_0, .string a0_1, .int .i64 a0_2] 23 (0, 0)) (by (with_reducible repeat (first | refine blk_drewN ?_ _ | refine blk_drew ?_ | refine blk_alloc ?_ _)); exact BK180.out)) (below_size (by repeat (first | (with_reducible first | exact HB.out | apply below_alloc | apply pw_below_drewN | apply below_drew1 | refine below_set ?_ GE180.out) | exact HB.out)))); have n1_ := Aside0.mk (blk_below (g := gb180) (o := .cells #[.int .i64 a0_0, .string a0_1, .int .i64 a0_2] 23 (0, 0)) (by (with_reducible repeat (first | refine blk_drewN ?_ _ | refine blk_drew ?_ | refine blk_alloc ?_ _)); exact BK180.out) hb); have n2_ := Aside0.mk (below_step (by repeat (first | (with_reducible first | exact HB.out | apply below_alloc | apply pw_below_drewN | apply below_drew1 | refine below_set ?_ GE180.out) | exact HB.out)) hb); clear BK180; clear HB; have HO186 := n0_; have BK180 := n1_; have HB := n2_; clear n0_ n1_ n2_; (try clear hb); (try clear hb2); (try clear hk); (try clear hi); (try clear ho0); obtain ⟨Ao25, co25, eo25⟩ := Kd.R_slice HO186.out; subst eo25; have p187 : 0 ≤ (0 : Int) := (by omega); have q187 : 0 < (t182.length : Int) := of_decide_eq_true (by first | (with_reducible assumption) | assumption); obtain ⟨ad187, e187, hx187_0, hx187_1, hx187_2⟩ := at_T23 (Kd.R_reads' HO186.out).2.2 0 p187 q187; cases e187; have qi187 : (0 < t182.length) = True := eq_true (by omega); (try rw [show ((0 : Int)).toNat = 0 from rfl] at hx187_0); (try rw [show 0 * 3 = 0 from rfl] at hx187_0); (try rw [Addr.add_zero'] at hx187_0); (try rw [show ((0 : Int)).toNat = 0 from rfl] at hx187_1); (try rw [show 0 * 3 = 0 from rfl] at hx187_1); (try rw [Addr.add_zero'] at hx187_1); (try rw [show ((0 : Int)).toNat = 0 from rfl] at hx187_2); (try rw [show 0 * 3 = 0 from rfl] at hx187_2); (try rw [Addr.add_zero'] at hx187_2); replace p187 := eq_true p187; replace q187 := eq_true q187; have hcz26_0 : w24.cell? ⟨gb180, 0, none⟩ = some (.int .i64 a0_0) := (blk_cell BK180.out 0).trans rfl; have hcz26_1 : w24.cell? ⟨gb180, 1, none⟩ = some (.string a0_1) := (blk_cell BK180.out 1).trans rfl; have hcz26_2 : w24.cell? ⟨gb180, 2, none⟩ = some (.int .i64 a0_2) := (blk_cell BK180.out 2).trans rfl; have hfz26_0 := blk_frozen BK180.out 0; have hfz26_1 := blk_frozen BK180.out 1; have hfz26_2 := blk_frozen BK180.out 2)))
          go_ret2
          exact ⟨by first | rfl | (simp [errW_none, errW_some] <;> rfl) | (refine congrArg (fun z_ => Ending.returned (Value.bool z_)) (decide_eq_decide.mpr ?_); unfold wrap64; omega) | (simp [*, errW_none, errW_some] <;> rfl), by repeat (first | (with_reducible first | exact HB.out | apply below_alloc | apply pw_below_drewN | apply below_drew1 | refine below_set ?_ GE180.out) | exact HB.out)⟩
        ·rw [if_neg c15] at H
         exact absurd H (by simp)
       ·rw [if_neg c14] at H
        have c14b0 : ((t182.length : Int) == 1) = false := beq_eq_false_iff_ne.mpr c14
        have c14b1 : ((t182.length : Int) != 1) = true := bne_iff_ne.mpr c14
        simp only [Option.some.injEq, Prod.mk.injEq] at H
        obtain ⟨rfl, rfl⟩ := H
        go_wp2_with (first | (go_at_call 12; (with_reducible refine (lex_Lex.calls kj1 (((⟨#[124]⟩ : ByteArray) ++ a0_1) ++ (⟨#[124]⟩ : ByteArray)) t182 t183 t184 _ A12.out).mono ?_); rintro e w27 ⟨v185, rfl, ho0, hb⟩; have n0_ := Aside0.mk (Kd.R_lower (Kd.R_newB ho0 (g := gb180) (o := .cells #[.int .i64 a0_0, .string a0_1, .int .i64 a0_2] 23 (0, 0)) (by (with_reducible repeat (first | refine blk_drewN ?_ _ | refine blk_drew ?_ | refine blk_alloc ?_ _)); exact BK180.out)) (below_size (by repeat (first | (with_reducible first | exact HB.out | apply below_alloc | apply pw_below_drewN | apply below_drew1 | refine below_set ?_ GE180.out) | exact HB.out)))); have n1_ := Aside0.mk (blk_below (g := gb180) (o := .cells #[.int .i64 a0_0, .string a0_1, .int .i64 a0_2] 23 (0, 0)) (by (with_reducible repeat (first | refine blk_drewN ?_ _ | refine blk_drew ?_ | refine blk_alloc ?_ _)); exact BK180.out) hb); have n2_ := Aside0.mk (below_step (by repeat (first | (with_reducible first | exact HB.out | apply below_alloc | apply pw_below_drewN | apply below_drew1 | refine below_set ?_ GE180.out) | exact HB.out)) hb); clear BK180; clear HB; have HO186 := n0_; have BK180 := n1_; have HB := n2_; clear n0_ n1_ n2_; (try clear hb); (try clear hb2); (try clear hk); (try clear hi); (try clear ho0); obtain ⟨Ao28, co28, eo28⟩ := Kd.R_slice HO186.out; subst eo28))
        repeat (go_quiet (first | (go_at_call 12; (with_reducible refine (lex_Lex.calls kj1 (((⟨#[124]⟩ : ByteArray) ++ a0_1) ++ (⟨#[124]⟩ : ByteArray)) t182 t183 t184 _ A12.out).mono ?_); rintro e w27 ⟨v185, rfl, ho0, hb⟩; have n0_ := Aside0.mk (Kd.R_lower (Kd.R_newB ho0 (g := gb180) (o := .cells #[.int .i64 a0_0, .string a0_1, .int .i64 a0_2] 23 (0, 0)) (by (with_reducible repeat (first | refine blk_drewN ?_ _ | refine blk_drew ?_ | refine blk_alloc ?_ _)); exact BK180.out)) (below_size (by repeat (first | (with_reducible first | exact HB.out | apply below_alloc | apply pw_below_drewN | apply below_drew1 | refine below_set ?_ GE180.out) | exact HB.out)))); have n1_ := Aside0.mk (blk_below (g := gb180) (o := .cells #[.int .i64 a0_0, .string a0_1, .int .i64 a0_2] 23 (0, 0)) (by (with_reducible repeat (first | refine blk_drewN ?_ _ | refine blk_drew ?_ | refine blk_alloc ?_ _)); exact BK180.out) hb); have n2_ := Aside0.mk (below_step (by repeat (first | (with_reducible first | exact HB.out | apply below_alloc | apply pw_below_drewN | apply below_drew1 | refine below_set ?_ GE180.out) | exact HB.out)) hb); clear BK180; clear HB; have HO186 := n0_; have BK180 := n1_; have HB := n2_; clear n0_ n1_ n2_; (try clear hb); (try clear hb2); (try clear hk); (try clear hi); (try clear ho0); obtain ⟨Ao28, co28, eo28⟩ := Kd.R_slice HO186.out; subst eo28)); try go_wp2_with (first | (go_at_call 12; (with_reducible refine (lex_Lex.calls kj1 (((⟨#[124]⟩ : ByteArray) ++ a0_1) ++ (⟨#[124]⟩ : ByteArray)) t182 t183 t184 _ A12.out).mono ?_); rintro e w27 ⟨v185, rfl, ho0, hb⟩; have n0_ := Aside0.mk (Kd.R_lower (Kd.R_newB ho0 (g := gb180) (o := .cells #[.int .i64 a0_0, .string a0_1, .int .i64 a0_2] 23 (0, 0)) (by (with_reducible repeat (first | refine blk_drewN ?_ _ | refine blk_drew ?_ | refine blk_alloc ?_ _)); exact BK180.out)) (below_size (by repeat (first | (with_reducible first | exact HB.out | apply below_alloc | apply pw_below_drewN | apply below_drew1 | refine below_set ?_ GE180.out) | exact HB.out)))); have n1_ := Aside0.mk (blk_below (g := gb180) (o := .cells #[.int .i64 a0_0, .string a0_1, .int .i64 a0_2] 23 (0, 0)) (by (with_reducible repeat (first | refine blk_drewN ?_ _ | refine blk_drew ?_ | refine blk_alloc ?_ _)); exact BK180.out) hb); have n2_ := Aside0.mk (below_step (by repeat (first | (with_reducible first | exact HB.out | apply below_alloc | apply pw_below_drewN | apply below_drew1 | refine below_set ?_ GE180.out) | exact HB.out)) hb); clear BK180; clear HB; have HO186 := n0_; have BK180 := n1_; have HB := n2_; clear n0_ n1_ n2_; (try clear hb); (try clear hb2); (try clear hk); (try clear hi); (try clear ho0); obtain ⟨Ao28, co28, eo28⟩ := Kd.R_slice HO186.out; subst eo28)))
        go_ret2
        exact ⟨by first | rfl | (simp [errW_none, errW_some] <;> rfl) | (refine congrArg (fun z_ => Ending.returned (Value.bool z_)) (decide_eq_decide.mpr ?_); unfold wrap64; omega) | (simp [*, errW_none, errW_some] <;> rfl), by repeat (first | (with_reducible first | exact HB.out | apply below_alloc | apply pw_below_drewN | apply below_drew1 | refine below_set ?_ GE180.out) | exact HB.out)⟩
      ·rw [if_neg c13] at H
       have c13b0 : (t183 == 0) = false := beq_eq_false_iff_ne.mpr c13
       have c13b1 : (t183 != 0) = true := bne_iff_ne.mpr c13
       simp only [Option.some.injEq, Prod.mk.injEq] at H
       obtain ⟨rfl, rfl⟩ := H
       go_wp2_with (first | (go_at_call 12; (with_reducible refine (lex_Lex.calls kj1 (((⟨#[124]⟩ : ByteArray) ++ a0_1) ++ (⟨#[124]⟩ : ByteArray)) t182 t183 t184 _ A12.out).mono ?_); rintro e w29 ⟨v185, rfl, ho0, hb⟩; have n0_ := Aside0.mk (Kd.R_lower (Kd.R_newB ho0 (g := gb180) (o := .cells #[.int .i64 a0_0, .string a0_1, .int .i64 a0_2] 23 (0, 0)) (by (with_reducible repeat (first | refine blk_drewN ?_ _ | refine blk_drew ?_ | refine blk_alloc ?_ _)); exact BK180.out)) (below_size (by repeat (first | (with_reducible first | exact HB.out | apply below_alloc | apply pw_below_drewN | apply below_drew1 | refine below_set ?_ GE180.out) | exact HB.out)))); have n1_ := Aside0.mk (blk_below (g := gb180) (o := .cells #[.int .i64 a0_0, .string a0_1, .int .i64 a0_2] 23 (0, 0)) (by (with_reducible repeat (first | refine blk_drewN ?_ _ | refine blk_drew ?_ | refine blk_alloc ?_ _)); exact BK180.out) hb); have n2_ := Aside0.mk (below_step (by repeat (first | (with_reducible first | exact HB.out | apply below_alloc | apply pw_below_drewN | apply below_drew1 | refine below_set ?_ GE180.out) | exact HB.out)) hb); clear BK180; clear HB; have HO186 := n0_; have BK180 := n1_; have HB := n2_; clear n0_ n1_ n2_; (try clear hb); (try clear hb2); (try clear hk); (try clear hi); (try clear ho0)))
       repeat (go_quiet (first | (go_at_call 12; (with_reducible refine (lex_Lex.calls kj1 (((⟨#[124]⟩ : ByteArray) ++ a0_1) ++ (⟨#[124]⟩ : ByteArray)) t182 t183 t184 _ A12.out).mono ?_); rintro e w29 ⟨v185, rfl, ho0, hb⟩; have n0_ := Aside0.mk (Kd.R_lower (Kd.R_newB ho0 (g := gb180) (o := .cells #[.int .i64 a0_0, .string a0_1, .int .i64 a0_2] 23 (0, 0)) (by (with_reducible repeat (first | refine blk_drewN ?_ _ | refine blk_drew ?_ | refine blk_alloc ?_ _)); exact BK180.out)) (below_size (by repeat (first | (with_reducible first | exact HB.out | apply below_alloc | apply pw_below_drewN | apply below_drew1 | refine below_set ?_ GE180.out) | exact HB.out)))); have n1_ := Aside0.mk (blk_below (g := gb180) (o := .cells #[.int .i64 a0_0, .string a0_1, .int .i64 a0_2] 23 (0, 0)) (by (with_reducible repeat (first | refine blk_drewN ?_ _ | refine blk_drew ?_ | refine blk_alloc ?_ _)); exact BK180.out) hb); have n2_ := Aside0.mk (below_step (by repeat (first | (with_reducible first | exact HB.out | apply below_alloc | apply pw_below_drewN | apply below_drew1 | refine below_set ?_ GE180.out) | exact HB.out)) hb); clear BK180; clear HB; have HO186 := n0_; have BK180 := n1_; have HB := n2_; clear n0_ n1_ n2_; (try clear hb); (try clear hb2); (try clear hk); (try clear hi); (try clear ho0))); try go_wp2_with (first | (go_at_call 12; (with_reducible refine (lex_Lex.calls kj1 (((⟨#[124]⟩ : ByteArray) ++ a0_1) ++ (⟨#[124]⟩ : ByteArray)) t182 t183 t184 _ A12.out).mono ?_); rintro e w29 ⟨v185, rfl, ho0, hb⟩; have n0_ := Aside0.mk (Kd.R_lower (Kd.R_newB ho0 (g := gb180) (o := .cells #[.int .i64 a0_0, .string a0_1, .int .i64 a0_2] 23 (0, 0)) (by (with_reducible repeat (first | refine blk_drewN ?_ _ | refine blk_drew ?_ | refine blk_alloc ?_ _)); exact BK180.out)) (below_size (by repeat (first | (with_reducible first | exact HB.out | apply below_alloc | apply pw_below_drewN | apply below_drew1 | refine below_set ?_ GE180.out) | exact HB.out)))); have n1_ := Aside0.mk (blk_below (g := gb180) (o := .cells #[.int .i64 a0_0, .string a0_1, .int .i64 a0_2] 23 (0, 0)) (by (with_reducible repeat (first | refine blk_drewN ?_ _ | refine blk_drew ?_ | refine blk_alloc ?_ _)); exact BK180.out) hb); have n2_ := Aside0.mk (below_step (by repeat (first | (with_reducible first | exact HB.out | apply below_alloc | apply pw_below_drewN | apply below_drew1 | refine below_set ?_ GE180.out) | exact HB.out)) hb); clear BK180; clear HB; have HO186 := n0_; have BK180 := n1_; have HB := n2_; clear n0_ n1_ n2_; (try clear hb); (try clear hb2); (try clear hk); (try clear hi); (try clear ho0))))
       go_ret2
       exact ⟨by first | rfl | (simp [errW_none, errW_some] <;> rfl) | (refine congrArg (fun z_ => Ending.returned (Value.bool z_)) (decide_eq_decide.mpr ?_); unfold wrap64; omega) | (simp [*, errW_none, errW_some] <;> rfl), by repeat (first | (with_reducible first | exact HB.out | apply below_alloc | apply pw_below_drewN | apply below_drew1 | refine below_set ?_ GE180.out) | exact HB.out)⟩
     ·rw [if_neg c11] at H
      exact absurd H (by simp)
    ·rw [if_neg c10] at H
     exact absurd H (by simp)
   ·replace c9 := Bool.eq_false_iff.mpr c9
    subst c9
    have H1 : (if a0_0 = 6 then ((strings_ReplaceAll.f a0_1 (⟨#[34]⟩ : ByteArray) (⟨#[34, 34]⟩ : ByteArray)).bind fun t189 => (if 1 + t189.size ≤ 9223372036854775807 then (if 1 + t189.size + 1 ≤ 9223372036854775807 then ((lex_Lex.f kj1 (((⟨#[34]⟩ : ByteArray) ++ t189) ++ (⟨#[34]⟩ : ByteArray))).bind fun bt190 => (if bt190.2.1 = 0 then (if (bt190.1.length : Int) = 1 then (if 0 < (bt190.1.length : Int) then (if ((rd_T23 bt190.1 0).f0) = a0_0 then (if ((rd_T23 bt190.1 0).f1).toList = a0_1.toList then (some (((⟨#[34]⟩ : ByteArray) ++ t189) ++ (⟨#[34]⟩ : ByteArray), 0)) else (some ((⟨#[]⟩ : ByteArray), 1))) else (some ((⟨#[]⟩ : ByteArray), 1))) else (none)) else (some ((⟨#[]⟩ : ByteArray), 1))) else (some ((⟨#[]⟩ : ByteArray), 1)))) else (none)) else (none))) else ((lex_Lex.f kj1 a0_1).bind fun bt197 => (if bt197.2.1 = 0 then (if (bt197.1.length : Int) = 1 then (if 0 < (bt197.1.length : Int) then (if ((rd_T23 bt197.1 0).f0) = a0_0 then (if ((rd_T23 bt197.1 0).f1).toList = a0_1.toList then (some (a0_1, 0)) else (some ((⟨#[]⟩ : ByteArray), 1))) else (some ((⟨#[]⟩ : ByteArray), 1))) else (none)) else (some ((⟨#[]⟩ : ByteArray), 1))) else (some ((⟨#[]⟩ : ByteArray), 1))))) = some (r1, r2) := by rw [if_neg (show ¬ (false = true) by decide)] at H; exact H
    clear H
    have H := H1
    clear H1
    by_cases c30 : a0_0 = 6
    ·rw [if_pos c30] at H
     have c30b0 : (a0_0 == 6) = true := beq_iff_eq.mpr c30
     have c30b1 : (a0_0 != 6) = false := bne_eq_false_iff_eq.mpr c30
     clear c30
     replace H := Option.bind_eq_some_iff.mp H
     obtain ⟨t189, A310, H⟩ := H
     replace H : (if 1 + t189.size ≤ 9223372036854775807 then (if 1 + t189.size + 1 ≤ 9223372036854775807 then ((lex_Lex.f kj1 (((⟨#[34]⟩ : ByteArray) ++ t189) ++ (⟨#[34]⟩ : ByteArray))).bind fun bt190 => (if bt190.2.1 = 0 then (if (bt190.1.length : Int) = 1 then (if 0 < (bt190.1.length : Int) then (if ((rd_T23 bt190.1 0).f0) = a0_0 then (if ((rd_T23 bt190.1 0).f1).toList = a0_1.toList then (some (((⟨#[34]⟩ : ByteArray) ++ t189) ++ (⟨#[34]⟩ : ByteArray), 0)) else (some ((⟨#[]⟩ : ByteArray), 1))) else (some ((⟨#[]⟩ : ByteArray), 1))) else (none)) else (some ((⟨#[]⟩ : ByteArray), 1))) else (some ((⟨#[]⟩ : ByteArray), 1)))) else (none)) else (none)) = some (r1, r2) := H
     have A31 := Aside0.mk A310
     clear A310
     by_cases c32 : 1 + t189.size ≤ 9223372036854775807
     ·rw [if_pos c32] at H
      have c32b0 := eq_true c32
      have c32b1 : decide (1 + t189.size ≤ 9223372036854775807) = true := decide_eq_true c32
      try have c32b2 : (9223372036854775807 < 1 + t189.size) = False := eq_false (Nat.not_lt.2 c32)
      by_cases c33 : 1 + t189.size + 1 ≤ 9223372036854775807
      ·rw [if_pos c33] at H
       have c33b0 := eq_true c33
       have c33b1 : decide (1 + t189.size + 1 ≤ 9223372036854775807) = true := decide_eq_true c33
       try have c33b2 : (9223372036854775807 < 1 + t189.size + 1) = False := eq_false (Nat.not_lt.2 c33)
       replace H := Option.bind_eq_some_iff.mp H
       obtain ⟨⟨t190, t191, t192⟩, A340, H⟩ := H
       replace H : (if t191 = 0 then (if (t190.length : Int) = 1 then (if 0 < (t190.length : Int) then (if ((rd_T23 t190 0).f0) = a0_0 then (if ((rd_T23 t190 0).f1).toList = a0_1.toList then (some (((⟨#[34]⟩ : ByteArray) ++ t189) ++ (⟨#[34]⟩ : ByteArray), 0)) else (some ((⟨#[]⟩ : ByteArray), 1))) else (some ((⟨#[]⟩ : ByteArray), 1))) else (none)) else (some ((⟨#[]⟩ : ByteArray), 1))) else (some ((⟨#[]⟩ : ByteArray), 1))) = some (r1, r2) := H
       have A34 := Aside0.mk A340
       clear A340
       by_cases c35 : t191 = 0
       ·rw [if_pos c35] at H
        have c35b0 : (t191 == 0) = true := beq_iff_eq.mpr c35
        have c35b1 : (t191 != 0) = false := bne_eq_false_iff_eq.mpr c35
        clear c35
        by_cases c36 : (t190.length : Int) = 1
        ·rw [if_pos c36] at H
         have c36b0 : ((t190.length : Int) == 1) = true := beq_iff_eq.mpr c36
         have c36b1 : ((t190.length : Int) != 1) = false := bne_eq_false_iff_eq.mpr c36
         clear c36
         by_cases c37 : 0 < (t190.length : Int)
         ·rw [if_pos c37] at H
          have c37b0 : decide (0 < (t190.length : Int)) = true := decide_eq_true c37
          have c37b1 : decide (0 < t190.length) = true := decide_eq_true (by omega)
          clear c37
          by_cases c38 : ((rd_T23 t190 0).f0) = a0_0
          ·rw [if_pos c38] at H
           have c38b0 : (((rd_T23 t190 0).f0) == a0_0) = true := beq_iff_eq.mpr c38
           have c38b1 : (((rd_T23 t190 0).f0) != a0_0) = false := bne_eq_false_iff_eq.mpr c38
           clear c38
           by_cases c39 : ((rd_T23 t190 0).f1).toList = a0_1.toList
           ·rw [if_pos c39] at H
            have c39b0 : (((rd_T23 t190 0).f1).toList == a0_1.toList) = true := beq_iff_eq.mpr c39
            have c39b1 : (((rd_T23 t190 0).f1).toList != a0_1.toList) = false := bne_eq_false_iff_eq.mpr c39
            clear c39
            simp only [Option.some.injEq, Prod.mk.injEq] at H
            obtain ⟨rfl, rfl⟩ := H
            have hcz40_0 : wc.cell? ⟨gb180, 0, none⟩ = some (.int .i64 a0_0) := (blk_cell BK180.out 0).trans rfl
            have hcz40_1 : wc.cell? ⟨gb180, 1, none⟩ = some (.string a0_1) := (blk_cell BK180.out 1).trans rfl
            have hcz40_2 : wc.cell? ⟨gb180, 2, none⟩ = some (.int .i64 a0_2) := (blk_cell BK180.out 2).trans rfl
            have hfz40_0 := blk_frozen BK180.out 0
            have hfz40_1 := blk_frozen BK180.out 1
            have hfz40_2 := blk_frozen BK180.out 2
            go_wp2_with (first | (go_at_call 14; (with_reducible refine (strings_ReplaceAll.calls a0_1 (⟨#[34]⟩ : ByteArray) (⟨#[34, 34]⟩ : ByteArray) t189 _ ?side1 A31.out).mono ?_); (case side1 => exact Glob.below HG.out (by repeat (first | (with_reducible first | exact HB.out | apply below_alloc | apply pw_below_drewN | apply below_drew1 | refine below_set ?_ GE180.out) | exact HB.out))); rintro e w41 ⟨rfl, hb⟩; have n0_ := Aside0.mk (blk_below (g := gb180) (o := .cells #[.int .i64 a0_0, .string a0_1, .int .i64 a0_2] 23 (0, 0)) (by (with_reducible repeat (first | refine blk_drewN ?_ _ | refine blk_drew ?_ | refine blk_alloc ?_ _)); exact BK180.out) hb); have n1_ := Aside0.mk (below_step (by repeat (first | (with_reducible first | exact HB.out | apply below_alloc | apply pw_below_drewN | apply below_drew1 | refine below_set ?_ GE180.out) | exact HB.out)) hb); clear BK180; clear HB; have BK180 := n0_; have HB := n1_; clear n0_ n1_; (try clear hb); (try clear hb2); (try clear hk); (try clear hi)) | (go_at_call 12; (with_reducible refine (lex_Lex.calls kj1 (((⟨#[34]⟩ : ByteArray) ++ t189) ++ (⟨#[34]⟩ : ByteArray)) t190 t191 t192 _ A34.out).mono ?_); rintro e w42 ⟨v193, rfl, ho0, hb⟩; have n0_ := Aside0.mk (Kd.R_lower (Kd.R_newB ho0 (g := gb180) (o := .cells #[.int .i64 a0_0, .string a0_1, .int .i64 a0_2] 23 (0, 0)) (by (with_reducible repeat (first | refine blk_drewN ?_ _ | refine blk_drew ?_ | refine blk_alloc ?_ _)); exact BK180.out)) (below_size (by repeat (first | (with_reducible first | exact HB.out | apply below_alloc | apply pw_below_drewN | apply below_drew1 | refine below_set ?_ GE180.out) | exact HB.out)))); have n1_ := Aside0.mk (blk_below (g := gb180) (o := .cells #[.int .i64 a0_0, .string a0_1, .int .i64 a0_2] 23 (0, 0)) (by (with_reducible repeat (first | refine blk_drewN ?_ _ | refine blk_drew ?_ | refine blk_alloc ?_ _)); exact BK180.out) hb); have n2_ := Aside0.mk (below_step (by repeat (first | (with_reducible first | exact HB.out | apply below_alloc | apply pw_below_drewN | apply below_drew1 | refine below_set ?_ GE180.out) | exact HB.out)) hb); clear BK180; clear HB; have HO194 := n0_; have BK180 := n1_; have HB := n2_; clear n0_ n1_ n2_; (try clear hb); (try clear hb2); (try clear hk); (try clear hi); (try clear ho0); obtain ⟨Ao43, co43, eo43⟩ := Kd.R_slice HO194.out; subst eo43; have p195 : 0 ≤ (0 : Int) := (by omega); have q195 : 0 < (t190.length : Int) := of_decide_eq_true (by first | (with_reducible assumption) | assumption); obtain ⟨ad195, e195, hx195_0, hx195_1, hx195_2⟩ := at_T23 (Kd.R_reads' HO194.out).2.2 0 p195 q195; cases e195; have qi195 : (0 < t190.length) = True := eq_true (by omega); (try rw [show ((0 : Int)).toNat = 0 from rfl] at hx195_0); (try rw [show 0 * 3 = 0 from rfl] at hx195_0); (try rw [Addr.add_zero'] at hx195_0); (try rw [show ((0 : Int)).toNat = 0 from rfl] at hx195_1); (try rw [show 0 * 3 = 0 from rfl] at hx195_1); (try rw [Addr.add_zero'] at hx195_1); (try rw [show ((0 : Int)).toNat = 0 from rfl] at hx195_2); (try rw [show 0 * 3 = 0 from rfl] at hx195_2); (try rw [Addr.add_zero'] at hx195_2); replace p195 := eq_true p195; replace q195 := eq_true q195; have hcz44_0 : w42.cell? ⟨gb180, 0, none⟩ = some (.int .i64 a0_0) := (blk_cell BK180.out 0).trans rfl; have hcz44_1 : w42.cell? ⟨gb180, 1, none⟩ = some (.string a0_1) := (blk_cell BK180.out 1).trans rfl; have hcz44_2 : w42.cell? ⟨gb180, 2, none⟩ = some (.int .i64 a0_2) := (blk_cell BK180.out 2).trans rfl; have hfz44_0 := blk_frozen BK180.out 0; have hfz44_1 := blk_frozen BK180.out 1; have hfz44_2 := blk_frozen BK180.out 2; have p196 : 0 ≤ (0 : Int) := (by omega); have q196 : 0 < (t190.length : Int) := of_decide_eq_true (by first | (with_reducible assumption) | assumption); obtain ⟨ad196, e196, hx196_0, hx196_1, hx196_2⟩ := at_T23 (Kd.R_reads' HO194.out).2.2 0 p196 q196; obtain rfl : ad195 = ad196 := (by injection e196); have qi196 : (0 < t190.length) = True := eq_true (by omega); (try rw [show ((0 : Int)).toNat = 0 from rfl] at hx196_0); (try rw [show 0 * 3 = 0 from rfl] at hx196_0); (try rw [Addr.add_zero'] at hx196_0); (try rw [show ((0 : Int)).toNat = 0 from rfl] at hx196_1); (try rw [show 0 * 3 = 0 from rfl] at hx196_1); (try rw [Addr.add_zero'] at hx196_1); (try rw [show ((0 : Int)).toNat = 0 from rfl] at hx196_2); (try rw [show 0 * 3 = 0 from rfl] at hx196_2); (try rw [Addr.add_zero'] at hx196_2); replace p196 := eq_true p196; replace q196 := eq_true q196))
            repeat (go_quiet (first | (go_at_call 14; (with_reducible refine (strings_ReplaceAll.calls a0_1 (⟨#[34]⟩ : ByteArray) (⟨#[34, 34]⟩ : ByteArray) t189 _ ?side1 A31.out).mono ?_); (case side1 => exact Glob.below HG.out (by repeat (first | (with_reducible first | exact HB.out | apply below_alloc | apply pw_below_drewN | apply below_drew1 | refine below_set ?_ GE180.out) | exact HB.out))); rintro e w41 ⟨rfl, hb⟩; have n0_ := Aside0.mk (blk_below (g := gb180) (o := .cells #[.int .i64 a0_0, .string a0_1, .int .i64 a0_2] 23 (0, 0)) (by (with_reducible repeat (first | refine blk_drewN ?_ _ | refine blk_drew ?_ | refine blk_alloc ?_ _)); exact BK180.out) hb); have n1_ := Aside0.mk (below_step (by repeat (first | (with_reducible first | exact HB.out | apply below_alloc | apply pw_below_drewN | apply below_drew1 | refine below_set ?_ GE180.out) | exact HB.out)) hb); clear BK180; clear HB; have BK180 := n0_; have HB := n1_; clear n0_ n1_; (try clear hb); (try clear hb2); (try clear hk); (try clear hi)) | (go_at_call 12; (with_reducible refine (lex_Lex.calls kj1 (((⟨#[34]⟩ : ByteArray) ++ t189) ++ (⟨#[34]⟩ : ByteArray)) t190 t191 t192 _ A34.out).mono ?_); rintro e w42 ⟨v193, rfl, ho0, hb⟩; have n0_ := Aside0.mk (Kd.R_lower (Kd.R_newB ho0 (g := gb180) (o := .cells #[.int .i64 a0_0, .string a0_1, .int .i64 a0_2] 23 (0, 0)) (by (with_reducible repeat (first | refine blk_drewN ?_ _ | refine blk_drew ?_ | refine blk_alloc ?_ _)); exact BK180.out)) (below_size (by repeat (first | (with_reducible first | exact HB.out | apply below_alloc | apply pw_below_drewN | apply below_drew1 | refine below_set ?_ GE180.out) | exact HB.out)))); have n1_ := Aside0.mk (blk_below (g := gb180) (o := .cells #[.int .i64 a0_0, .string a0_1, .int .i64 a0_2] 23 (0, 0)) (by (with_reducible repeat (first | refine blk_drewN ?_ _ | refine blk_drew ?_ | refine blk_alloc ?_ _)); exact BK180.out) hb); have n2_ := Aside0.mk (below_step (by repeat (first | (with_reducible first | exact HB.out | apply below_alloc | apply pw_below_drewN | apply below_drew1 | refine below_set ?_ GE180.out) | exact HB.out)) hb); clear BK180; clear HB; have HO194 := n0_; have BK180 := n1_; have HB := n2_; clear n0_ n1_ n2_; (try clear hb); (try clear hb2); (try clear hk); (try clear hi); (try clear ho0); obtain ⟨Ao43, co43, eo43⟩ := Kd.R_slice HO194.out; subst eo43; have p195 : 0 ≤ (0 : Int) := (by omega); have q195 : 0 < (t190.length : Int) := of_decide_eq_true (by first | (with_reducible assumption) | assumption); obtain ⟨ad195, e195, hx195_0, hx195_1, hx195_2⟩ := at_T23 (Kd.R_reads' HO194.out).2.2 0 p195 q195; cases e195; have qi195 : (0 < t190.length) = True := eq_true (by omega); (try rw [show ((0 : Int)).toNat = 0 from rfl] at hx195_0); (try rw [show 0 * 3 = 0 from rfl] at hx195_0); (try rw [Addr.add_zero'] at hx195_0); (try rw [show ((0 : Int)).toNat = 0 from rfl] at hx195_1); (try rw [show 0 * 3 = 0 from rfl] at hx195_1); (try rw [Addr.add_zero'] at hx195_1); (try rw [show ((0 : Int)).toNat = 0 from rfl] at hx195_2); (try rw [show 0 * 3 = 0 from rfl] at hx195_2); (try rw [Addr.add_zero'] at hx195_2); replace p195 := eq_true p195; replace q195 := eq_true q195; have hcz44_0 : w42.cell? ⟨gb180, 0, none⟩ = some (.int .i64 a0_0) := (blk_cell BK180.out 0).trans rfl; have hcz44_1 : w42.cell? ⟨gb180, 1, none⟩ = some (.string a0_1) := (blk_cell BK180.out 1).trans rfl; have hcz44_2 : w42.cell? ⟨gb180, 2, none⟩ = some (.int .i64 a0_2) := (blk_cell BK180.out 2).trans rfl; have hfz44_0 := blk_frozen BK180.out 0; have hfz44_1 := blk_frozen BK180.out 1; have hfz44_2 := blk_frozen BK180.out 2; have p196 : 0 ≤ (0 : Int) := (by omega); have q196 : 0 < (t190.length : Int) := of_decide_eq_true (by first | (with_reducible assumption) | assumption); obtain ⟨ad196, e196, hx196_0, hx196_1, hx196_2⟩ := at_T23 (Kd.R_reads' HO194.out).2.2 0 p196 q196; obtain rfl : ad195 = ad196 := (by injection e196); have qi196 : (0 < t190.length) = True := eq_true (by omega); (try rw [show ((0 : Int)).toNat = 0 from rfl] at hx196_0); (try rw [show 0 * 3 = 0 from rfl] at hx196_0); (try rw [Addr.add_zero'] at hx196_0); (try rw [show ((0 : Int)).toNat = 0 from rfl] at hx196_1); (try rw [show 0 * 3 = 0 from rfl] at hx196_1); (try rw [Addr.add_zero'] at hx196_1); (try rw [show ((0 : Int)).toNat = 0 from rfl] at hx196_2); (try rw [show 0 * 3 = 0 from rfl] at hx196_2); (try rw [Addr.add_zero'] at hx196_2); replace p196 := eq_true p196; replace q196 := eq_true q196)); try go_wp2_with (first | (go_at_call 14; (with_reducible refine (strings_ReplaceAll.calls a0_1 (⟨#[34]⟩ : ByteArray) (⟨#[34, 34]⟩ : ByteArray) t189 _ ?side1 A31.out).mono ?_); (case side1 => exact Glob.below HG.out (by repeat (first | (with_reducible first | exact HB.out | apply below_alloc | apply pw_below_drewN | apply below_drew1 | refine below_set ?_ GE180.out) | exact HB.out))); rintro e w41 ⟨rfl, hb⟩; have n0_ := Aside0.mk (blk_below (g := gb180) (o := .cells #[.int .i64 a0_0, .string a0_1, .int .i64 a0_2] 23 (0, 0)) (by (with_reducible repeat (first | refine blk_drewN ?_ _ | refine blk_drew ?_ | refine blk_alloc ?_ _)); exact BK180.out) hb); have n1_ := Aside0.mk (below_step (by repeat (first | (with_reducible first | exact HB.out | apply below_alloc | apply pw_below_drewN | apply below_drew1 | refine below_set ?_ GE180.out) | exact HB.out)) hb); clear BK180; clear HB; have BK180 := n0_; have HB := n1_; clear n0_ n1_; (try clear hb); (try clear hb2); (try clear hk); (try clear hi)) | (go_at_call 12; (with_reducible refine (lex_Lex.calls kj1 (((⟨#[34]⟩ : ByteArray) ++ t189) ++ (⟨#[34]⟩ : ByteArray)) t190 t191 t192 _ A34.out).mono ?_); rintro e w42 ⟨v193, rfl, ho0, hb⟩; have n0_ := Aside0.mk (Kd.R_lower (Kd.R_newB ho0 (g := gb180) (o := .cells #[.int .i64 a0_0, .string a0_1, .int .i64 a0_2] 23 (0, 0)) (by (with_reducible repeat (first | refine blk_drewN ?_ _ | refine blk_drew ?_ | refine blk_alloc ?_ _)); exact BK180.out)) (below_size (by repeat (first | (with_reducible first | exact HB.out | apply below_alloc | apply pw_below_drewN | apply below_drew1 | refine below_set ?_ GE180.out) | exact HB.out)))); have n1_ := Aside0.mk (blk_below (g := gb180) (o := .cells #[.int .i64 a0_0, .string a0_1, .int .i64 a0_2] 23 (0, 0)) (by (with_reducible repeat (first | refine blk_drewN ?_ _ | refine blk_drew ?_ | refine blk_alloc ?_ _)); exact BK180.out) hb); have n2_ := Aside0.mk (below_step (by repeat (first | (with_reducible first | exact HB.out | apply below_alloc | apply pw_below_drewN | apply below_drew1 | refine below_set ?_ GE180.out) | exact HB.out)) hb); clear BK180; clear HB; have HO194 := n0_; have BK180 := n1_; have HB := n2_; clear n0_ n1_ n2_; (try clear hb); (try clear hb2); (try clear hk); (try clear hi); (try clear ho0); obtain ⟨Ao43, co43, eo43⟩ := Kd.R_slice HO194.out; subst eo43; have p195 : 0 ≤ (0 : Int) := (by omega); have q195 : 0 < (t190.length : Int) := of_decide_eq_true (by first | (with_reducible assumption) | assumption); obtain ⟨ad195, e195, hx195_0, hx195_1, hx195_2⟩ := at_T23 (Kd.R_reads' HO194.out).2.2 0 p195 q195; cases e195; have qi195 : (0 < t190.length) = True := eq_true (by omega); (try rw [show ((0 : Int)).toNat = 0 from rfl] at hx195_0); (try rw [show 0 * 3 = 0 from rfl] at hx195_0); (try rw [Addr.add_zero'] at hx195_0); (try rw [show ((0 : Int)).toNat = 0 from rfl] at hx195_1); (try rw [show 0 * 3 = 0 from rfl] at hx195_1); (try rw [Addr.add_zero'] at hx195_1); (try rw [show ((0 : Int)).toNat = 0 from rfl] at hx195_2); (try rw [show 0 * 3 = 0 from rfl] at hx195_2); (try rw [Addr.add_zero'] at hx195_2); replace p195 := eq_true p195; replace q195 := eq_true q195; have hcz44_0 : w42.cell? ⟨gb180, 0, none⟩ = some (.int .i64 a0_0) := (blk_cell BK180.out 0).trans rfl; have hcz44_1 : w42.cell? ⟨gb180, 1, none⟩ = some (.string a0_1) := (blk_cell BK180.out 1).trans rfl; have hcz44_2 : w42.cell? ⟨gb180, 2, none⟩ = some (.int .i64 a0_2) := (blk_cell BK180.out 2).trans rfl; have hfz44_0 := blk_frozen BK180.out 0; have hfz44_1 := blk_frozen BK180.out 1; have hfz44_2 := blk_frozen BK180.out 2; have p196 : 0 ≤ (0 : Int) := (by omega); have q196 : 0 < (t190.length : Int) := of_decide_eq_true (by first | (with_reducible assumption) | assumption); obtain ⟨ad196, e196, hx196_0, hx196_1, hx196_2⟩ := at_T23 (Kd.R_reads' HO194.out).2.2 0 p196 q196; obtain rfl : ad195 = ad196 := (by injection e196); have qi196 : (0 < t190.length) = True := eq_true (by omega); (try rw [show ((0 : Int)).toNat = 0 from rfl] at hx196_0); (try rw [show 0 * 3 = 0 from rfl] at hx196_0); (try rw [Addr.add_zero'] at hx196_0); (try rw [show ((0 : Int)).toNat = 0 from rfl] at hx196_1); (try rw [show 0 * 3 = 0 from rfl] at hx196_1); (try rw [Addr.add_zero'] at hx196_1); (try rw [show ((0 : Int)).toNat = 0 from rfl] at hx196_2); (try rw [show 0 * 3 = 0 from rfl] at hx196_2); (try rw [Addr.add_zero'] at hx196_2); replace p196 := eq_true p196; replace q196 := eq_true q196)))
            go_ret2
            exact ⟨by first | rfl | (simp [errW_none, errW_some] <;> rfl) | (refine congrArg (fun z_ => Ending.returned (Value.bool z_)) (decide_eq_decide.mpr ?_); unfold wrap64; omega) | (simp [*, errW_none, errW_some] <;> rfl), by repeat (first | (with_reducible first | exact HB.out | apply below_alloc | apply pw_below_drewN | apply below_drew1 | refine below_set ?_ GE180.out) | exact HB.out)⟩
           ·rw [if_neg c39] at H
            have c39b0 : (((rd_T23 t190 0).f1).toList == a0_1.toList) = false := beq_eq_false_iff_ne.mpr c39
            have c39b1 : (((rd_T23 t190 0).f1).toList != a0_1.toList) = true := bne_iff_ne.mpr c39
            simp only [Option.some.injEq, Prod.mk.injEq] at H
            obtain ⟨rfl, rfl⟩ := H
            have hcz45_0 : wc.cell? ⟨gb180, 0, none⟩ = some (.int .i64 a0_0) := (blk_cell BK180.out 0).trans rfl
            have hcz45_1 : wc.cell? ⟨gb180, 1, none⟩ = some (.string a0_1) := (blk_cell BK180.out 1).trans rfl
            have hcz45_2 : wc.cell? ⟨gb180, 2, none⟩ = some (.int .i64 a0_2) := (blk_cell BK180.out 2).trans rfl
            have hfz45_0 := blk_frozen BK180.out 0
            have hfz45_1 := blk_frozen BK180.out 1
            have hfz45_2 := blk_frozen BK180.out 2
            go_wp2_with (first | (go_at_call 14; (with_reducible refine (strings_ReplaceAll.calls a0_1 (⟨#[34]⟩ : ByteArray) (⟨#[34, 34]⟩ : ByteArray) t189 _ ?side1 A31.out).mono ?_); (case side1 => exact Glob.below HG.out (by repeat (first | (with_reducible first | exact HB.out | apply below_alloc | apply pw_below_drewN | apply below_drew1 | refine below_set ?_ GE180.out) | exact HB.out))); rintro e w46 ⟨rfl, hb⟩; have n0_ := Aside0.mk (blk_below (g := gb180) (o := .cells #[.int .i64 a0_0, .string a0_1, .int .i64 a0_2] 23 (0, 0)) (by (with_reducible repeat (first | refine blk_drewN ?_ _ | refine blk_drew ?_ | refine blk_alloc ?_ _)); exact BK180.out) hb); have n1_ := Aside0.mk (below_step (by repeat (first | (with_reducible first | exact HB.out | apply below_alloc | apply pw_below_drewN | apply below_drew1 | refine below_set ?_ GE180.out) | exact HB.out)) hb); clear BK180; clear HB; have BK180 := n0_; have HB := n1_; clear n0_ n1_; (try clear hb); (try clear hb2); (try clear hk); (try clear hi)) | (go_at_call 12; (with_reducible refine (lex_Lex.calls kj1 (((⟨#[34]⟩ : ByteArray) ++ t189) ++ (⟨#[34]⟩ : ByteArray)) t190 t191 t192 _ A34.out).mono ?_); rintro e w47 ⟨v193, rfl, ho0, hb⟩; have n0_ := Aside0.mk (Kd.R_lower (Kd.R_newB ho0 (g := gb180) (o := .cells #[.int .i64 a0_0, .string a0_1, .int .i64 a0_2] 23 (0, 0)) (by (with_reducible repeat (first | refine blk_drewN ?_ _ | refine blk_drew ?_ | refine blk_alloc ?_ _)); exact BK180.out)) (below_size (by repeat (first | (with_reducible first | exact HB.out | apply below_alloc | apply pw_below_drewN | apply below_drew1 | refine below_set ?_ GE180.out) | exact HB.out)))); have n1_ := Aside0.mk (blk_below (g := gb180) (o := .cells #[.int .i64 a0_0, .string a0_1, .int .i64 a0_2] 23 (0, 0)) (by (with_reducible repeat (first | refine blk_drewN ?_ _ | refine blk_drew ?_ | refine blk_alloc ?_ _)); exact BK180.out) hb); have n2_ := Aside0.mk (below_step (by repeat (first | (with_reducible first | exact HB.out | apply below_alloc | apply pw_below_drewN | apply below_drew1 | refine below_set ?_ GE180.out) | exact HB.out)) hb); clear BK180; clear HB; have HO194 := n0_; have BK180 := n1_; have HB := n2_; clear n0_ n1_ n2_; (try clear hb); (try clear hb2); (try clear hk); (try clear hi); (try clear ho0); obtain ⟨Ao48, co48, eo48⟩ := Kd.R_slice HO194.out; subst eo48; have p195 : 0 ≤ (0 : Int) := (by omega); have q195 : 0 < (t190.length : Int) := of_decide_eq_true (by first | (with_reducible assumption) | assumption); obtain ⟨ad195, e195, hx195_0, hx195_1, hx195_2⟩ := at_T23 (Kd.R_reads' HO194.out).2.2 0 p195 q195; cases e195; have qi195 : (0 < t190.length) = True := eq_true (by omega); (try rw [show ((0 : Int)).toNat = 0 from rfl] at hx195_0); (try rw [show 0 * 3 = 0 from rfl] at hx195_0); (try rw [Addr.add_zero'] at hx195_0); (try rw [show ((0 : Int)).toNat = 0 from rfl] at hx195_1); (try rw [show 0 * 3 = 0 from rfl] at hx195_1); (try rw [Addr.add_zero'] at hx195_1); (try rw [show ((0 : Int)).toNat = 0 from rfl] at hx195_2); (try rw [show 0 * 3 = 0 from rfl] at hx195_2); (try rw [Addr.add_zero'] at hx195_2); replace p195 := eq_true p195; replace q195 := eq_true q195; have hcz49_0 : w47.cell? ⟨gb180, 0, none⟩ = some (.int .i64 a0_0) := (blk_cell BK180.out 0).trans rfl; have hcz49_1 : w47.cell? ⟨gb180, 1, none⟩ = some (.string a0_1) := (blk_cell BK180.out 1).trans rfl; have hcz49_2 : w47.cell? ⟨gb180, 2, none⟩ = some (.int .i64 a0_2) := (blk_cell BK180.out 2).trans rfl; have hfz49_0 := blk_frozen BK180.out 0; have hfz49_1 := blk_frozen BK180.out 1; have hfz49_2 := blk_frozen BK180.out 2; have p196 : 0 ≤ (0 : Int) := (by omega); have q196 : 0 < (t190.length : Int) := of_decide_eq_true (by first | (with_reducible assumption) | assumption); obtain ⟨ad196, e196, hx196_0, hx196_1, hx196_2⟩ := at_T23 (Kd.R_reads' HO194.out).2.2 0 p196 q196; obtain rfl : ad195 = ad196 := (by injection e196); have qi196 : (0 < t190.length) = True := eq_true (by omega); (try rw [show ((0 : Int)).toNat = 0 from rfl] at hx196_0); (try rw [show 0 * 3 = 0 from rfl] at hx196_0); (try rw [Addr.add_zero'] at hx196_0); (try rw [show ((0 : Int)).toNat = 0 from rfl] at hx196_1); (try rw [show 0 * 3 = 0 from rfl] at hx196_1); (try rw [Addr.add_zero'] at hx196_1); (try rw [show ((0 : Int)).toNat = 0 from rfl] at hx196_2); (try rw [show 0 * 3 = 0 from rfl] at hx196_2); (try rw [Addr.add_zero'] at hx196_2); replace p196 := eq_true p196; replace q196 := eq_true q196))
            repeat (go_quiet (first | (go_at_call 14; (with_reducible refine (strings_ReplaceAll.calls a0_1 (⟨#[34]⟩ : ByteArray) (⟨#[34, 34]⟩ : ByteArray) t189 _ ?side1 A31.out).mono ?_); (case side1 => exact Glob.below HG.out (by repeat (first | (with_reducible first | exact HB.out | apply below_alloc | apply pw_below_drewN | apply below_drew1 | refine below_set ?_ GE180.out) | exact HB.out))); rintro e w46 ⟨rfl, hb⟩; have n0_ := Aside0.mk (blk_below (g := gb180) (o := .cells #[.int .i64 a0_0, .string a0_1, .int .i64 a0_2] 23 (0, 0)) (by (with_reducible repeat (first | refine blk_drewN ?_ _ | refine blk_drew ?_ | refine blk_alloc ?_ _)); exact BK180.out) hb); have n1_ := Aside0.mk (below_step (by repeat (first | (with_reducible first | exact HB.out | apply below_alloc | apply pw_below_drewN | apply below_drew1 | refine below_set ?_ GE180.out) | exact HB.out)) hb); clear BK180; clear HB; have BK180 := n0_; have HB := n1_; clear n0_ n1_; (try clear hb); (try clear hb2); (try clear hk); (try clear hi)) | (go_at_call 12; (with_reducible refine (lex_Lex.calls kj1 (((⟨#[34]⟩ : ByteArray) ++ t189) ++ (⟨#[34]⟩ : ByteArray)) t190 t191 t192 _ A34.out).mono ?_); rintro e w47 ⟨v193, rfl, ho0, hb⟩; have n0_ := Aside0.mk (Kd.R_lower (Kd.R_newB ho0 (g := gb180) (o := .cells #[.int .i64 a0_0, .string a0_1, .int .i64 a0_2] 23 (0, 0)) (by (with_reducible repeat (first | refine blk_drewN ?_ _ | refine blk_drew ?_ | refine blk_alloc ?_ _)); exact BK180.out)) (below_size (by repeat (first | (with_reducible first | exact HB.out | apply below_alloc | apply pw_below_drewN | apply below_drew1 | refine below_set ?_ GE180.out) | exact HB.out)))); have n1_ := Aside0.mk (blk_below (g := gb180) (o := .cells #[.int .i64 a0_0, .string a0_1, .int .i64 a0_2] 23 (0, 0)) (by (with_reducible repeat (first | refine blk_drewN ?_ _ | refine blk_drew ?_ | refine blk_alloc ?_ _)); exact BK180.out) hb); have n2_ := Aside0.mk (below_step (by repeat (first | (with_reducible first | exact HB.out | apply below_alloc | apply pw_below_drewN | apply below_drew1 | refine below_set ?_ GE180.out) | exact HB.out)) hb); clear BK180; clear HB; have HO194 := n0_; have BK180 := n1_; have HB := n2_; clear n0_ n1_ n2_; (try clear hb); (try clear hb2); (try clear hk); (try clear hi); (try clear ho0); obtain ⟨Ao48, co48, eo48⟩ := Kd.R_slice HO194.out; subst eo48; have p195 : 0 ≤ (0 : Int) := (by omega); have q195 : 0 < (t190.length : Int) := of_decide_eq_true (by first | (with_reducible assumption) | assumption); obtain ⟨ad195, e195, hx195_0, hx195_1, hx195_2⟩ := at_T23 (Kd.R_reads' HO194.out).2.2 0 p195 q195; cases e195; have qi195 : (0 < t190.length) = True := eq_true (by omega); (try rw [show ((0 : Int)).toNat = 0 from rfl] at hx195_0); (try rw [show 0 * 3 = 0 from rfl] at hx195_0); (try rw [Addr.add_zero'] at hx195_0); (try rw [show ((0 : Int)).toNat = 0 from rfl] at hx195_1); (try rw [show 0 * 3 = 0 from rfl] at hx195_1); (try rw [Addr.add_zero'] at hx195_1); (try rw [show ((0 : Int)).toNat = 0 from rfl] at hx195_2); (try rw [show 0 * 3 = 0 from rfl] at hx195_2); (try rw [Addr.add_zero'] at hx195_2); replace p195 := eq_true p195; replace q195 := eq_true q195; have hcz49_0 : w47.cell? ⟨gb180, 0, none⟩ = some (.int .i64 a0_0) := (blk_cell BK180.out 0).trans rfl; have hcz49_1 : w47.cell? ⟨gb180, 1, none⟩ = some (.string a0_1) := (blk_cell BK180.out 1).trans rfl; have hcz49_2 : w47.cell? ⟨gb180, 2, none⟩ = some (.int .i64 a0_2) := (blk_cell BK180.out 2).trans rfl; have hfz49_0 := blk_frozen BK180.out 0; have hfz49_1 := blk_frozen BK180.out 1; have hfz49_2 := blk_frozen BK180.out 2; have p196 : 0 ≤ (0 : Int) := (by omega); have q196 : 0 < (t190.length : Int) := of_decide_eq_true (by first | (with_reducible assumption) | assumption); obtain ⟨ad196, e196, hx196_0, hx196_1, hx196_2⟩ := at_T23 (Kd.R_reads' HO194.out).2.2 0 p196 q196; obtain rfl : ad195 = ad196 := (by injection e196); have qi196 : (0 < t190.length) = True := eq_true (by omega); (try rw [show ((0 : Int)).toNat = 0 from rfl] at hx196_0); (try rw [show 0 * 3 = 0 from rfl] at hx196_0); (try rw [Addr.add_zero'] at hx196_0); (try rw [show ((0 : Int)).toNat = 0 from rfl] at hx196_1); (try rw [show 0 * 3 = 0 from rfl] at hx196_1); (try rw [Addr.add_zero'] at hx196_1); (try rw [show ((0 : Int)).toNat = 0 from rfl] at hx196_2); (try rw [show 0 * 3 = 0 from rfl] at hx196_2); (try rw [Addr.add_zero'] at hx196_2); replace p196 := eq_true p196; replace q196 := eq_true q196)); try go_wp2_with (first | (go_at_call 14; (with_reducible refine (strings_ReplaceAll.calls a0_1 (⟨#[34]⟩ : ByteArray) (⟨#[34, 34]⟩ : ByteArray) t189 _ ?side1 A31.out).mono ?_); (case side1 => exact Glob.below HG.out (by repeat (first | (with_reducible first | exact HB.out | apply below_alloc | apply pw_below_drewN | apply below_drew1 | refine below_set ?_ GE180.out) | exact HB.out))); rintro e w46 ⟨rfl, hb⟩; have n0_ := Aside0.mk (blk_below (g := gb180) (o := .cells #[.int .i64 a0_0, .string a0_1, .int .i64 a0_2] 23 (0, 0)) (by (with_reducible repeat (first | refine blk_drewN ?_ _ | refine blk_drew ?_ | refine blk_alloc ?_ _)); exact BK180.out) hb); have n1_ := Aside0.mk (below_step (by repeat (first | (with_reducible first | exact HB.out | apply below_alloc | apply pw_below_drewN | apply below_drew1 | refine below_set ?_ GE180.out) | exact HB.out)) hb); clear BK180; clear HB; have BK180 := n0_; have HB := n1_; clear n0_ n1_; (try clear hb); (try clear hb2); (try clear hk); (try clear hi)) | (go_at_call 12; (with_reducible refine (lex_Lex.calls kj1 (((⟨#[34]⟩ : ByteArray) ++ t189) ++ (⟨#[34]⟩ : ByteArray)) t190 t191 t192 _ A34.out).mono ?_); rintro e w47 ⟨v193, rfl, ho0, hb⟩; have n0_ := Aside0.mk (Kd.R_lower (Kd.R_newB ho0 (g := gb180) (o := .cells #[.int .i64 a0_0, .string a0_1, .int .i64 a0_2] 23 (0, 0)) (by (with_reducible repeat (first | refine blk_drewN ?_ _ | refine blk_drew ?_ | refine blk_alloc ?_ _)); exact BK180.out)) (below_size (by repeat (first | (with_reducible first | exact HB.out | apply below_alloc | apply pw_below_drewN | apply below_drew1 | refine below_set ?_ GE180.out) | exact HB.out)))); have n1_ := Aside0.mk (blk_below (g := gb180) (o := .cells #[.int .i64 a0_0, .string a0_1, .int .i64 a0_2] 23 (0, 0)) (by (with_reducible repeat (first | refine blk_drewN ?_ _ | refine blk_drew ?_ | refine blk_alloc ?_ _)); exact BK180.out) hb); have n2_ := Aside0.mk (below_step (by repeat (first | (with_reducible first | exact HB.out | apply below_alloc | apply pw_below_drewN | apply below_drew1 | refine below_set ?_ GE180.out) | exact HB.out)) hb); clear BK180; clear HB; have HO194 := n0_; have BK180 := n1_; have HB := n2_; clear n0_ n1_ n2_; (try clear hb); (try clear hb2); (try clear hk); (try clear hi); (try clear ho0); obtain ⟨Ao48, co48, eo48⟩ := Kd.R_slice HO194.out; subst eo48; have p195 : 0 ≤ (0 : Int) := (by omega); have q195 : 0 < (t190.length : Int) := of_decide_eq_true (by first | (with_reducible assumption) | assumption); obtain ⟨ad195, e195, hx195_0, hx195_1, hx195_2⟩ := at_T23 (Kd.R_reads' HO194.out).2.2 0 p195 q195; cases e195; have qi195 : (0 < t190.length) = True := eq_true (by omega); (try rw [show ((0 : Int)).toNat = 0 from rfl] at hx195_0); (try rw [show 0 * 3 = 0 from rfl] at hx195_0); (try rw [Addr.add_zero'] at hx195_0); (try rw [show ((0 : Int)).toNat = 0 from rfl] at hx195_1); (try rw [show 0 * 3 = 0 from rfl] at hx195_1); (try rw [Addr.add_zero'] at hx195_1); (try rw [show ((0 : Int)).toNat = 0 from rfl] at hx195_2); (try rw [show 0 * 3 = 0 from rfl] at hx195_2); (try rw [Addr.add_zero'] at hx195_2); replace p195 := eq_true p195; replace q195 := eq_true q195; have hcz49_0 : w47.cell? ⟨gb180, 0, none⟩ = some (.int .i64 a0_0) := (blk_cell BK180.out 0).trans rfl; have hcz49_1 : w47.cell? ⟨gb180, 1, none⟩ = some (.string a0_1) := (blk_cell BK180.out 1).trans rfl; have hcz49_2 : w47.cell? ⟨gb180, 2, none⟩ = some (.int .i64 a0_2) := (blk_cell BK180.out 2).trans rfl; have hfz49_0 := blk_frozen BK180.out 0; have hfz49_1 := blk_frozen BK180.out 1; have hfz49_2 := blk_frozen BK180.out 2; have p196 : 0 ≤ (0 : Int) := (by omega); have q196 : 0 < (t190.length : Int) := of_decide_eq_true (by first | (with_reducible assumption) | assumption); obtain ⟨ad196, e196, hx196_0, hx196_1, hx196_2⟩ := at_T23 (Kd.R_reads' HO194.out).2.2 0 p196 q196; obtain rfl : ad195 = ad196 := (by injection e196); have qi196 : (0 < t190.length) = True := eq_true (by omega); (try rw [show ((0 : Int)).toNat = 0 from rfl] at hx196_0); (try rw [show 0 * 3 = 0 from rfl] at hx196_0); (try rw [Addr.add_zero'] at hx196_0); (try rw [show ((0 : Int)).toNat = 0 from rfl] at hx196_1); (try rw [show 0 * 3 = 0 from rfl] at hx196_1); (try rw [Addr.add_zero'] at hx196_1); (try rw [show ((0 : Int)).toNat = 0 from rfl] at hx196_2); (try rw [show 0 * 3 = 0 from rfl] at hx196_2); (try rw [Addr.add_zero'] at hx196_2); replace p196 := eq_true p196; replace q196 := eq_true q196)))
            go_ret2
            exact ⟨by first | rfl | (simp [errW_none, errW_some] <;> rfl) | (refine congrArg (fun z_ => Ending.returned (Value.bool z_)) (decide_eq_decide.mpr ?_); unfold wrap64; omega) | (simp [*, errW_none, errW_some] <;> rfl), by repeat (first | (with_reducible first | exact HB.out | apply below_alloc | apply pw_below_drewN | apply below_drew1 | refine below_set ?_ GE180.out) | exact HB.out)⟩
          ·rw [if_neg c38] at H
           have c38b0 : (((rd_T23 t190 0).f0) == a0_0) = false := beq_eq_false_iff_ne.mpr c38
           have c38b1 : (((rd_T23 t190 0).f0) != a0_0) = true := bne_iff_ne.mpr c38
           simp only [Option.some.injEq, Prod.mk.injEq] at H
           obtain ⟨rfl, rfl⟩ := H
           have hcz50_0 : wc.cell? ⟨gb180, 0, none⟩ = some (.int .i64 a0_0) := (blk_cell BK180.out 0).trans rfl
           have hcz50_1 : wc.cell? ⟨gb180, 1, none⟩ = some (.string a0_1) := (blk_cell BK180.out 1).trans rfl
           have hcz50_2 : wc.cell? ⟨gb180, 2, none⟩ = some (.int .i64 a0_2) := (blk_cell BK180.out 2).trans rfl
           have hfz50_0 := blk_frozen BK180.out 0
           have hfz50_1 := blk_frozen BK180.out 1
           have hfz50_2 := blk_frozen BK180.out 2
           go_wp2_with (first | (go_at_call 14; (with_reducible refine (strings_ReplaceAll.calls a0_1 (⟨#[34]⟩ : ByteArray) (⟨#[34, 34]⟩ : ByteArray) t189 _ ?side1 A31.out).mono ?_); (case side1 => exact Glob.below HG.out (by repeat (first | (with_reducible first | exact HB.out | apply below_alloc | apply pw_below_drewN | apply below_drew1 | refine below_set ?_ GE180.out) | exact HB.out))); rintro e w51 ⟨rfl, hb⟩; have n0_ := Aside0.mk (blk_below (g := gb180) (o := .cells #[.int .i64 a0_0, .string a0_1, .int .i64 a0_2] 23 (0, 0)) (by (with_reducible repeat (first | refine blk_drewN ?_ _ | refine blk_drew ?_ | refine blk_alloc ?_ _)); exact BK180.out) hb); have n1_ := Aside0.mk (below_step (by repeat (first | (with_reducible first | exact HB.out | apply below_alloc | apply pw_below_drewN | apply below_drew1 | refine below_set ?_ GE180.out) | exact HB.out)) hb); clear BK180; clear HB; have BK180 := n0_; have HB := n1_; clear n0_ n1_; (try clear hb); (try clear hb2); (try clear hk); (try clear hi)) | (go_at_call 12; (with_reducible refine (lex_Lex.calls kj1 (((⟨#[34]⟩ : ByteArray) ++ t189) ++ (⟨#[34]⟩ : ByteArray)) t190 t191 t192 _ A34.out).mono ?_); rintro e w52 ⟨v193, rfl, ho0, hb⟩; have n0_ := Aside0.mk (Kd.R_lower (Kd.R_newB ho0 (g := gb180) (o := .cells #[.int .i64 a0_0, .string a0_1, .int .i64 a0_2] 23 (0, 0)) (by (with_reducible repeat (first | refine blk_drewN ?_ _ | refine blk_drew ?_ | refine blk_alloc ?_ _)); exact BK180.out)) (below_size (by repeat (first | (with_reducible first | exact HB.out | apply below_alloc | apply pw_below_drewN | apply below_drew1 | refine below_set ?_ GE180.out) | exact HB.out)))); have n1_ := Aside0.mk (blk_below (g := gb180) (o := .cells #[.int .i64 a0_0, .string a0_1, .int .i64 a0_2] 23 (0, 0)) (by (with_reducible repeat (first | refine blk_drewN ?_ _ | refine blk_drew ?_ | refine blk_alloc ?_ _)); exact BK180.out) hb); have n2_ := Aside0.mk (below_step (by repeat (first | (with_reducible first | exact HB.out | apply below_alloc | apply pw_below_drewN | apply below_drew1 | refine below_set ?_ GE180.out) | exact HB.out)) hb); clear BK180; clear HB; have HO194 := n0_; have BK180 := n1_; have HB := n2_; clear n0_ n1_ n2_; (try clear hb); (try clear hb2); (try clear hk); (try clear hi); (try clear ho0); obtain ⟨Ao53, co53, eo53⟩ := Kd.R_slice HO194.out; subst eo53; have p195 : 0 ≤ (0 : Int) := (by omega); have q195 : 0 < (t190.length : Int) := of_decide_eq_true (by first | (with_reducible assumption) | assumption); obtain ⟨ad195, e195, hx195_0, hx195_1, hx195_2⟩ := at_T23 (Kd.R_reads' HO194.out).2.2 0 p195 q195; cases e195; have qi195 : (0 < t190.length) = True := eq_true (by omega); (try rw [show ((0 : Int)).toNat = 0 from rfl] at hx195_0); (try rw [show 0 * 3 = 0 from rfl] at hx195_0); (try rw [Addr.add_zero'] at hx195_0); (try rw [show ((0 : Int)).toNat = 0 from rfl] at hx195_1); (try rw [show 0 * 3 = 0 from rfl] at hx195_1); (try rw [Addr.add_zero'] at hx195_1); (try rw [show ((0 : Int)).toNat = 0 from rfl] at hx195_2); (try rw [show 0 * 3 = 0 from rfl] at hx195_2); (try rw [Addr.add_zero'] at hx195_2); replace p195 := eq_true p195; replace q195 := eq_true q195; have hcz54_0 : w52.cell? ⟨gb180, 0, none⟩ = some (.int .i64 a0_0) := (blk_cell BK180.out 0).trans rfl; have hcz54_1 : w52.cell? ⟨gb180, 1, none⟩ = some (.string a0_1) := (blk_cell BK180.out 1).trans rfl; have hcz54_2 : w52.cell? ⟨gb180, 2, none⟩ = some (.int .i64 a0_2) := (blk_cell BK180.out 2).trans rfl; have hfz54_0 := blk_frozen BK180.out 0; have hfz54_1 := blk_frozen BK180.out 1; have hfz54_2 := blk_frozen BK180.out 2))
           repeat (go_quiet (first | (go_at_call 14; (with_reducible refine (strings_ReplaceAll.calls a0_1 (⟨#[34]⟩ : ByteArray) (⟨#[34, 34]⟩ : ByteArray) t189 _ ?side1 A31.out).mono ?_); (case side1 => exact Glob.below HG.out (by repeat (first | (with_reducible first | exact HB.out | apply below_alloc | apply pw_below_drewN | apply below_drew1 | refine below_set ?_ GE180.out) | exact HB.out))); rintro e w51 ⟨rfl, hb⟩; have n0_ := Aside0.mk (blk_below (g := gb180) (o := .cells #[.int .i64 a0_0, .string a0_1, .int .i64 a0_2] 23 (0, 0)) (by (with_reducible repeat (first | refine blk_drewN ?_ _ | refine blk_drew ?_ | refine blk_alloc ?_ _)); exact BK180.out) hb); have n1_ := Aside0.mk (below_step (by repeat (first | (with_reducible first | exact HB.out | apply below_alloc | apply pw_below_drewN | apply below_drew1 | refine below_set ?_ GE180.out) | exact HB.out)) hb); clear BK180; clear HB; have BK180 := n0_; have HB := n1_; clear n0_ n1_; (try clear hb); (try clear hb2); (try clear hk); (try clear hi)) | (go_at_call 12; (with_reducible refine (lex_Lex.calls kj1 (((⟨#[34]⟩ : ByteArray) ++ t189) ++ (⟨#[34]⟩ : ByteArray)) t190 t191 t192 _ A34.out).mono ?_); rintro e w52 ⟨v193, rfl, ho0, hb⟩; have n0_ := Aside0.mk (Kd.R_lower (Kd.R_newB ho0 (g := gb180) (o := .cells #[.int .i64 a0_0, .string a0_1, .int .i64 a0_2] 23 (0, 0)) (by (with_reducible repeat (first | refine blk_drewN ?_ _ | refine blk_drew ?_ | refine blk_alloc ?_ _)); exact BK180.out)) (below_size (by repeat (first | (with_reducible first | exact HB.out | apply below_alloc | apply pw_below_drewN | apply below_drew1 | refine below_set ?_ GE180.out) | exact HB.out)))); have n1_ := Aside0.mk (blk_below (g := gb180) (o := .cells #[.int .i64 a0_0, .string a0_1, .int .i64 a0_2] 23 (0, 0)) (by (with_reducible repeat (first | refine blk_drewN ?_ _ | refine blk_drew ?_ | refine blk_alloc ?_ _)); exact BK180.out) hb); have n2_ := Aside0.mk (below_step (by repeat (first | (with_reducible first | exact HB.out | apply below_alloc | apply pw_below_drewN | apply below_drew1 | refine below_set ?_ GE180.out) | exact HB.out)) hb); clear BK180; clear HB; have HO194 := n0_; have BK180 := n1_; have HB := n2_; clear n0_ n1_ n2_; (try clear hb); (try clear hb2); (try clear hk); (try clear hi); (try clear ho0); obtain ⟨Ao53, co53, eo53⟩ := Kd.R_slice HO194.out; subst eo53; have p195 : 0 ≤ (0 : Int) := (by omega); have q195 : 0 < (t190.length : Int) := of_decide_eq_true (by first | (with_reducible assumption) | assumption); obtain ⟨ad195, e195, hx195_0, hx195_1, hx195_2⟩ := at_T23 (Kd.R_reads' HO194.out).2.2 0 p195 q195; cases e195; have qi195 : (0 < t190.length) = True := eq_true (by omega); (try rw [show ((0 : Int)).toNat = 0 from rfl] at hx195_0); (try rw [show 0 * 3 = 0 from rfl] at hx195_0); (try rw [Addr.add_zero'] at hx195_0); (try rw [show ((0 : Int)).toNat = 0 from rfl] at hx195_1); (try rw [show 0 * 3 = 0 from rfl] at hx195_1); (try rw [Addr.add_zero'] at hx195_1); (try rw [show ((0 : Int)).toNat = 0 from rfl] at hx195_2); (try rw [show 0 * 3 = 0 from rfl] at hx195_2); (try rw [Addr.add_zero'] at hx195_2); replace p195 := eq_true p195; replace q195 := eq_true q195; have hcz54_0 : w52.cell? ⟨gb180, 0, none⟩ = some (.int .i64 a0_0) := (blk_cell BK180.out 0).trans rfl; have hcz54_1 : w52.cell? ⟨gb180, 1, none⟩ = some (.string a0_1) := (blk_cell BK180.out 1).trans rfl; have hcz54_2 : w52.cell? ⟨gb180, 2, none⟩ = some (.int .i64 a0_2) := (blk_cell BK180.out 2).trans rfl; have hfz54_0 := blk_frozen BK180.out 0; have hfz54_1 := blk_frozen BK180.out 1; have hfz54_2 := blk_frozen BK180.out 2)); try go_wp2_with (first | (go_at_call 14; (with_reducible refine (strings_ReplaceAll.calls a0_1 (⟨#[34]⟩ : ByteArray) (⟨#[34, 34]⟩ : ByteArray) t189 _ ?side1 A31.out).mono ?_); (case side1 => exact Glob.below HG.out (by repeat (first | (with_reducible first | exact HB.out | apply below_alloc | apply pw_below_drewN | apply below_drew1 | refine below_set ?_ GE180.out) | exact HB.out))); rintro e w51 ⟨rfl, hb⟩; have n0_ := Aside0.mk (blk_below (g := gb180) (o := .cells #[.int .i64 a0_0, .string a0_1, .int .i64 a0_2] 23 (0, 0)) (by (with_reducible repeat (first | refine blk_drewN ?_ _ | refine blk_drew ?_ | refine blk_alloc ?_ _)); exact BK180.out) hb); have n1_ := Aside0.mk (below_step (by repeat (first | (with_reducible first | exact HB.out | apply below_alloc | apply pw_below_drewN | apply below_drew1 | refine below_set ?_ GE180.out) | exact HB.out)) hb); clear BK180; clear HB; have BK180 := n0_; have HB := n1_; clear n0_ n1_; (try clear hb); (try clear hb2); (try clear hk); (try clear hi)) | (go_at_call 12; (with_reducible refine (lex_Lex.calls kj1 (((⟨#[34]⟩ : ByteArray) ++ t189) ++ (⟨#[34]⟩ : ByteArray)) t190 t191 t192 _ A34.out).mono ?_); rintro e w52 ⟨v193, rfl, ho0, hb⟩; have n0_ := Aside0.mk (Kd.R_lower (Kd.R_newB ho0 (g := gb180) (o := .cells #[.int .i64 a0_0, .string a0_1, .int .i64 a0_2] 23 (0, 0)) (by (with_reducible repeat (first | refine blk_drewN ?_ _ | refine blk_drew ?_ | refine blk_alloc ?_ _)); exact BK180.out)) (below_size (by repeat (first | (with_reducible first | exact HB.out | apply below_alloc | apply pw_below_drewN | apply below_drew1 | refine below_set ?_ GE180.out) | exact HB.out)))); have n1_ := Aside0.mk (blk_below (g := gb180) (o := .cells #[.int .i64 a0_0, .string a0_1, .int .i64 a0_2] 23 (0, 0)) (by (with_reducible repeat (first | refine blk_drewN ?_ _ | refine blk_drew ?_ | refine blk_alloc ?_ _)); exact BK180.out) hb); have n2_ := Aside0.mk (below_step (by repeat (first | (with_reducible first | exact HB.out | apply below_alloc | apply pw_below_drewN | apply below_drew1 | refine below_set ?_ GE180.out) | exact HB.out)) hb); clear BK180; clear HB; have HO194 := n0_; have BK180 := n1_; have HB := n2_; clear n0_ n1_ n2_; (try clear hb); (try clear hb2); (try clear hk); (try clear hi); (try clear ho0); obtain ⟨Ao53, co53, eo53⟩ := Kd.R_slice HO194.out; subst eo53; have p195 : 0 ≤ (0 : Int) := (by omega); have q195 : 0 < (t190.length : Int) := of_decide_eq_true (by first | (with_reducible assumption) | assumption); obtain ⟨ad195, e195, hx195_0, hx195_1, hx195_2⟩ := at_T23 (Kd.R_reads' HO194.out).2.2 0 p195 q195; cases e195; have qi195 : (0 < t190.length) = True := eq_true (by omega); (try rw [show ((0 : Int)).toNat = 0 from rfl] at hx195_0); (try rw [show 0 * 3 = 0 from rfl] at hx195_0); (try rw [Addr.add_zero'] at hx195_0); (try rw [show ((0 : Int)).toNat = 0 from rfl] at hx195_1); (try rw [show 0 * 3 = 0 from rfl] at hx195_1); (try rw [Addr.add_zero'] at hx195_1); (try rw [show ((0 : Int)).toNat = 0 from rfl] at hx195_2); (try rw [show 0 * 3 = 0 from rfl] at hx195_2); (try rw [Addr.add_zero'] at hx195_2); replace p195 := eq_true p195; replace q195 := eq_true q195; have hcz54_0 : w52.cell? ⟨gb180, 0, none⟩ = some (.int .i64 a0_0) := (blk_cell BK180.out 0).trans rfl; have hcz54_1 : w52.cell? ⟨gb180, 1, none⟩ = some (.string a0_1) := (blk_cell BK180.out 1).trans rfl; have hcz54_2 : w52.cell? ⟨gb180, 2, none⟩ = some (.int .i64 a0_2) := (blk_cell BK180.out 2).trans rfl; have hfz54_0 := blk_frozen BK180.out 0; have hfz54_1 := blk_frozen BK180.out 1; have hfz54_2 := blk_frozen BK180.out 2)))
           go_ret2
           exact ⟨by first | rfl | (simp [errW_none, errW_some] <;> rfl) | (refine congrArg (fun z_ => Ending.returned (Value.bool z_)) (decide_eq_decide.mpr ?_); unfold wrap64; omega) | (simp [*, errW_none, errW_some] <;> rfl), by repeat (first | (with_reducible first | exact HB.out | apply below_alloc | apply pw_below_drewN | apply below_drew1 | refine below_set ?_ GE180.out) | exact HB.out)⟩
         ·rw [if_neg c37] at H
          exact absurd H (by simp)
        ·rw [if_neg c36] at H
         have c36b0 : ((t190.length : Int) == 1) = false := beq_eq_false_iff_ne.mpr c36
         have c36b1 : ((t190.length : Int) != 1) = true := bne_iff_ne.mpr c36
         simp only [Option.some.injEq, Prod.mk.injEq] at H
         obtain ⟨rfl, rfl⟩ := H
         have hcz55_0 : wc.cell? ⟨gb180, 0, none⟩ = some (.int .i64 a0_0) := (blk_cell BK180.out 0).trans rfl
         have hcz55_1 : wc.cell? ⟨gb180, 1, none⟩ = some (.string a0_1) := (blk_cell BK180.out 1).trans rfl
         have hcz55_2 : wc.cell? ⟨gb180, 2, none⟩ = some (.int .i64 a0_2) := (blk_cell BK180.out 2).trans rfl
         have hfz55_0 := blk_frozen BK180.out 0
         have hfz55_1 := blk_frozen BK180.out 1
         have hfz55_2 := blk_frozen BK180.out 2
         go_wp2_with (first | (go_at_call 14; (with_reducible refine (strings_ReplaceAll.calls a0_1 (⟨#[34]⟩ : ByteArray) (⟨#[34, 34]⟩ : ByteArray) t189 _ ?side1 A31.out).mono ?_); (case side1 => exact Glob.below HG.out (by repeat (first | (with_reducible first | exact HB.out | apply below_alloc | apply pw_below_drewN | apply below_drew1 | refine below_set ?_ GE180.out) | exact HB.out))); rintro e w56 ⟨rfl, hb⟩; have n0_ := Aside0.mk (blk_below (g := gb180) (o := .cells #[.int .i64 a0_0, .string a0_1, .int .i64 a0_2] 23 (0, 0)) (by (with_reducible repeat (first | refine blk_drewN ?_ _ | refine blk_drew ?_ | refine blk_alloc ?_ _)); exact BK180.out) hb); have n1_ := Aside0.mk (below_step (by repeat (first | (with_reducible first | exact HB.out | apply below_alloc | apply pw_below_drewN | apply below_drew1 | refine below_set ?_ GE180.out) | exact HB.out)) hb); clear BK180; clear HB; have BK180 := n0_; have HB := n1_; clear n0_ n1_; (try clear hb); (try clear hb2); (try clear hk); (try clear hi)) | (go_at_call 12; (with_reducible refine (lex_Lex.calls kj1 (((⟨#[34]⟩ : ByteArray) ++ t189) ++ (⟨#[34]⟩ : ByteArray)) t190 t191 t192 _ A34.out).mono ?_); rintro e w57 ⟨v193, rfl, ho0, hb⟩; have n0_ := Aside0.mk (Kd.R_lower (Kd.R_newB ho0 (g := gb180) (o := .cells #[.int .i64 a0_0, .string a0_1, .int .i64 a0_2] 23 (0, 0)) (by (with_reducible repeat (first | refine blk_drewN ?_ _ | refine blk_drew ?_ | refine blk_alloc ?_ _)); exact BK180.out)) (below_size (by repeat (first | (with_reducible first | exact HB.out | apply below_alloc | apply pw_below_drewN | apply below_drew1 | refine below_set ?_ GE180.out) | exact HB.out)))); have n1_ := Aside0.mk (blk_below (g := gb180) (o := .cells #[.int .i64 a0_0, .string a0_1, .int .i64 a0_2] 23 (0, 0)) (by (with_reducible repeat (first | refine blk_drewN ?_ _ | refine blk_drew ?_ | refine blk_alloc ?_ _)); exact BK180.out) hb); have n2_ := Aside0.mk (below_step (by repeat (first | (with_reducible first | exact HB.out | apply below_alloc | apply pw_below_drewN | apply below_drew1 | refine below_set ?_ GE180.out) | exact HB.out)) hb); clear BK180; clear HB; have HO194 := n0_; have BK180 := n1_; have HB := n2_; clear n0_ n1_ n2_; (try clear hb); (try clear hb2); (try clear hk); (try clear hi); (try clear ho0); obtain ⟨Ao58, co58, eo58⟩ := Kd.R_slice HO194.out; subst eo58))
         repeat (go_quiet (first | (go_at_call 14; (with_reducible refine (strings_ReplaceAll.calls a0_1 (⟨#[34]⟩ : ByteArray) (⟨#[34, 34]⟩ : ByteArray) t189 _ ?side1 A31.out).mono ?_); (case side1 => exact Glob.below HG.out (by repeat (first | (with_reducible first | exact HB.out | apply below_alloc | apply pw_below_drewN | apply below_drew1 | refine below_set ?_ GE180.out) | exact HB.out))); rintro e w56 ⟨rfl, hb⟩; have n0_ := Aside0.mk (blk_below (g := gb180) (o := .cells #[.int .i64 a0_0, .string a0_1, .int .i64 a0_2] 23 (0, 0)) (by (with_reducible repeat (first | refine blk_drewN ?_ _ | refine blk_drew ?_ | refine blk_alloc ?_ _)); exact BK180.out) hb); have n1_ := Aside0.mk (below_step (by repeat (first | (with_reducible first | exact HB.out | apply below_alloc | apply pw_below_drewN | apply below_drew1 | refine below_set ?_ GE180.out) | exact HB.out)) hb); clear BK180; clear HB; have BK180 := n0_; have HB := n1_; clear n0_ n1_; (try clear hb); (try clear hb2); (try clear hk); (try clear hi)) | (go_at_call 12; (with_reducible refine (lex_Lex.calls kj1 (((⟨#[34]⟩ : ByteArray) ++ t189) ++ (⟨#[34]⟩ : ByteArray)) t190 t191 t192 _ A34.out).mono ?_); rintro e w57 ⟨v193, rfl, ho0, hb⟩; have n0_ := Aside0.mk (Kd.R_lower (Kd.R_newB ho0 (g := gb180) (o := .cells #[.int .i64 a0_0, .string a0_1, .int .i64 a0_2] 23 (0, 0)) (by (with_reducible repeat (first | refine blk_drewN ?_ _ | refine blk_drew ?_ | refine blk_alloc ?_ _)); exact BK180.out)) (below_size (by repeat (first | (with_reducible first | exact HB.out | apply below_alloc | apply pw_below_drewN | apply below_drew1 | refine below_set ?_ GE180.out) | exact HB.out)))); have n1_ := Aside0.mk (blk_below (g := gb180) (o := .cells #[.int .i64 a0_0, .string a0_1, .int .i64 a0_2] 23 (0, 0)) (by (with_reducible repeat (first | refine blk_drewN ?_ _ | refine blk_drew ?_ | refine blk_alloc ?_ _)); exact BK180.out) hb); have n2_ := Aside0.mk (below_step (by repeat (first | (with_reducible first | exact HB.out | apply below_alloc | apply pw_below_drewN | apply below_drew1 | refine below_set ?_ GE180.out) | exact HB.out)) hb); clear BK180; clear HB; have HO194 := n0_; have BK180 := n1_; have HB := n2_; clear n0_ n1_ n2_; (try clear hb); (try clear hb2); (try clear hk); (try clear hi); (try clear ho0); obtain ⟨Ao58, co58, eo58⟩ := Kd.R_slice HO194.out; subst eo58)); try go_wp2_with (first | (go_at_call 14; (with_reducible refine (strings_ReplaceAll.calls a0_1 (⟨#[34]⟩ : ByteArray) (⟨#[34, 34]⟩ : ByteArray) t189 _ ?side1 A31.out).mono ?_); (case side1 => exact Glob.below HG.out (by repeat (first | (with_reducible first | exact HB.out | apply below_alloc | apply pw_below_drewN | apply below_drew1 | refine below_set ?_ GE180.out) | exact HB.out))); rintro e w56 ⟨rfl, hb⟩; have n0_ := Aside0.mk (blk_below (g := gb180) (o := .cells #[.int .i64 a0_0, .string a0_1, .int .i64 a0_2] 23 (0, 0)) (by (with_reducible repeat (first | refine blk_drewN ?_ _ | refine blk_drew ?_ | refine blk_alloc ?_ _)); exact BK180.out) hb); have n1_ := Aside0.mk (below_step (by repeat (first | (with_reducible first | exact HB.out | apply below_alloc | apply pw_below_drewN | apply below_drew1 | refine below_set ?_ GE180.out) | exact HB.out)) hb); clear BK180; clear HB; have BK180 := n0_; have HB := n1_; clear n0_ n1_; (try clear hb); (try clear hb2); (try clear hk); (try clear hi)) | (go_at_call 12; (with_reducible refine (lex_Lex.calls kj1 (((⟨#[34]⟩ : ByteArray) ++ t189) ++ (⟨#[34]⟩ : ByteArray)) t190 t191 t192 _ A34.out).mono ?_); rintro e w57 ⟨v193, rfl, ho0, hb⟩; have n0_ := Aside0.mk (Kd.R_lower (Kd.R_newB ho0 (g := gb180) (o := .cells #[.int .i64 a0_0, .string a0_1, .int .i64 a0_2] 23 (0, 0)) (by (with_reducible repeat (first | refine blk_drewN ?_ _ | refine blk_drew ?_ | refine blk_alloc ?_ _)); exact BK180.out)) (below_size (by repeat (first | (with_reducible first | exact HB.out | apply below_alloc | apply pw_below_drewN | apply below_drew1 | refine below_set ?_ GE180.out) | exact HB.out)))); have n1_ := Aside0.mk (blk_below (g := gb180) (o := .cells #[.int .i64 a0_0, .string a0_1, .int .i64 a0_2] 23 (0, 0)) (by (with_reducible repeat (first | refine blk_drewN ?_ _ | refine blk_drew ?_ | refine blk_alloc ?_ _)); exact BK180.out) hb); have n2_ := Aside0.mk (below_step (by repeat (first | (with_reducible first | exact HB.out | apply below_alloc | apply pw_below_drewN | apply below_drew1 | refine below_set ?_ GE180.out) | exact HB.out)) hb); clear BK180; clear HB; have HO194 := n0_; have BK180 := n1_; have HB := n2_; clear n0_ n1_ n2_; (try clear hb); (try clear hb2); (try clear hk); (try clear hi); (try clear ho0); obtain ⟨Ao58, co58, eo58⟩ := Kd.R_slice HO194.out; subst eo58)))
         go_ret2
         exact ⟨by first | rfl | (simp [errW_none, errW_some] <;> rfl) | (refine congrArg (fun z_ => Ending.returned (Value.bool z_)) (decide_eq_decide.mpr ?_); unfold wrap64; omega) | (simp [*, errW_none, errW_some] <;> rfl), by repeat (first | (with_reducible first | exact HB.out | apply below_alloc | apply pw_below_drewN | apply below_drew1 | refine below_set ?_ GE180.out) | exact HB.out)⟩
       ·rw [if_neg c35] at H
        have c35b0 : (t191 == 0) = false := beq_eq_false_iff_ne.mpr c35
        have c35b1 : (t191 != 0) = true := bne_iff_ne.mpr c35
        simp only [Option.some.injEq, Prod.mk.injEq] at H
        obtain ⟨rfl, rfl⟩ := H
        have hcz59_0 : wc.cell? ⟨gb180, 0, none⟩ = some (.int .i64 a0_0) := (blk_cell BK180.out 0).trans rfl
        have hcz59_1 : wc.cell? ⟨gb180, 1, none⟩ = some (.string a0_1) := (blk_cell BK180.out 1).trans rfl
        have hcz59_2 : wc.cell? ⟨gb180, 2, none⟩ = some (.int .i64 a0_2) := (blk_cell BK180.out 2).trans rfl
        have hfz59_0 := blk_frozen BK180.out 0
        have hfz59_1 := blk_frozen BK180.out 1
        have hfz59_2 := blk_frozen BK180.out 2
        go_wp2_with (first | (go_at_call 14; (with_reducible refine (strings_ReplaceAll.calls a0_1 (⟨#[34]⟩ : ByteArray) (⟨#[34, 34]⟩ : ByteArray) t189 _ ?side1 A31.out).mono ?_); (case side1 => exact Glob.below HG.out (by repeat (first | (with_reducible first | exact HB.out | apply below_alloc | apply pw_below_drewN | apply below_drew1 | refine below_set ?_ GE180.out) | exact HB.out))); rintro e w60 ⟨rfl, hb⟩; have n0_ := Aside0.mk (blk_below (g := gb180) (o := .cells #[.int .i64 a0_0, .string a0_1, .int .i64 a0_2] 23 (0, 0)) (by (with_reducible repeat (first | refine blk_drewN ?_ _ | refine blk_drew ?_ | refine blk_alloc ?_ _)); exact BK180.out) hb); have n1_ := Aside0.mk (below_step (by repeat (first | (with_reducible first | exact HB.out | apply below_alloc | apply pw_below_drewN | apply below_drew1 | refine below_set ?_ GE180.out) | exact HB.out)) hb); clear BK180; clear HB; have BK180 := n0_; have HB := n1_; clear n0_ n1_; (try clear hb); (try clear hb2); (try clear hk); (try clear hi)) | (go_at_call 12; (with_reducible refine (lex_Lex.calls kj1 (((⟨#[34]⟩ : ByteArray) ++ t189) ++ (⟨#[34]⟩ : ByteArray)) t190 t191 t192 _ A34.out).mono ?_); rintro e w61 ⟨v193, rfl, ho0, hb⟩; have n0_ := Aside0.mk (Kd.R_lower (Kd.R_newB ho0 (g := gb180) (o := .cells #[.int .i64 a0_0, .string a0_1, .int .i64 a0_2] 23 (0, 0)) (by (with_reducible repeat (first | refine blk_drewN ?_ _ | refine blk_drew ?_ | refine blk_alloc ?_ _)); exact BK180.out)) (below_size (by repeat (first | (with_reducible first | exact HB.out | apply below_alloc | apply pw_below_drewN | apply below_drew1 | refine below_set ?_ GE180.out) | exact HB.out)))); have n1_ := Aside0.mk (blk_below (g := gb180) (o := .cells #[.int .i64 a0_0, .string a0_1, .int .i64 a0_2] 23 (0, 0)) (by (with_reducible repeat (first | refine blk_drewN ?_ _ | refine blk_drew ?_ | refine blk_alloc ?_ _)); exact BK180.out) hb); have n2_ := Aside0.mk (below_step (by repeat (first | (with_reducible first | exact HB.out | apply below_alloc | apply pw_below_drewN | apply below_drew1 | refine below_set ?_ GE180.out) | exact HB.out)) hb); clear BK180; clear HB; have HO194 := n0_; have BK180 := n1_; have HB := n2_; clear n0_ n1_ n2_; (try clear hb); (try clear hb2); (try clear hk); (try clear hi); (try clear ho0)))
        repeat (go_quiet (first | (go_at_call 14; (with_reducible refine (strings_ReplaceAll.calls a0_1 (⟨#[34]⟩ : ByteArray) (⟨#[34, 34]⟩ : ByteArray) t189 _ ?side1 A31.out).mono ?_); (case side1 => exact Glob.below HG.out (by repeat (first | (with_reducible first | exact HB.out | apply below_alloc | apply pw_below_drewN | apply below_drew1 | refine below_set ?_ GE180.out) | exact HB.out))); rintro e w60 ⟨rfl, hb⟩; have n0_ := Aside0.mk (blk_below (g := gb180) (o := .cells #[.int .i64 a0_0, .string a0_1, .int .i64 a0_2] 23 (0, 0)) (by (with_reducible repeat (first | refine blk_drewN ?_ _ | refine blk_drew ?_ | refine blk_alloc ?_ _)); exact BK180.out) hb); have n1_ := Aside0.mk (below_step (by repeat (first | (with_reducible first | exact HB.out | apply below_alloc | apply pw_below_drewN | apply below_drew1 | refine below_set ?_ GE180.out) | exact HB.out)) hb); clear BK180; clear HB; have BK180 := n0_; have HB := n1_; clear n0_ n1_; (try clear hb); (try clear hb2); (try clear hk); (try clear hi)) | (go_at_call 12; (with_reducible refine (lex_Lex.calls kj1 (((⟨#[34]⟩ : ByteArray) ++ t189) ++ (⟨#[34]⟩ : ByteArray)) t190 t191 t192 _ A34.out).mono ?_); rintro e w61 ⟨v193, rfl, ho0, hb⟩; have n0_ := Aside0.mk (Kd.R_lower (Kd.R_newB ho0 (g := gb180) (o := .cells #[.int .i64 a0_0, .string a0_1, .int .i64 a0_2] 23 (0, 0)) (by (with_reducible repeat (first | refine blk_drewN ?_ _ | refine blk_drew ?_ | refine blk_alloc ?_ _)); exact BK180.out)) (below_size (by repeat (first | (with_reducible first | exact HB.out | apply below_alloc | apply pw_below_drewN | apply below_drew1 | refine below_set ?_ GE180.out) | exact HB.out)))); have n1_ := Aside0.mk (blk_below (g := gb180) (o := .cells #[.int .i64 a0_0, .string a0_1, .int .i64 a0_2] 23 (0, 0)) (by (with_reducible repeat (first | refine blk_drewN ?_ _ | refine blk_drew ?_ | refine blk_alloc ?_ _)); exact BK180.out) hb); have n2_ := Aside0.mk (below_step (by repeat (first | (with_reducible first | exact HB.out | apply below_alloc | apply pw_below_drewN | apply below_drew1 | refine below_set ?_ GE180.out) | exact HB.out)) hb); clear BK180; clear HB; have HO194 := n0_; have BK180 := n1_; have HB := n2_; clear n0_ n1_ n2_; (try clear hb); (try clear hb2); (try clear hk); (try clear hi); (try clear ho0))); try go_wp2_with (first | (go_at_call 14; (with_reducible refine (strings_ReplaceAll.calls a0_1 (⟨#[34]⟩ : ByteArray) (⟨#[34, 34]⟩ : ByteArray) t189 _ ?side1 A31.out).mono ?_); (case side1 => exact Glob.below HG.out (by repeat (first | (with_reducible first | exact HB.out | apply below_alloc | apply pw_below_drewN | apply below_drew1 | refine below_set ?_ GE180.out) | exact HB.out))); rintro e w60 ⟨rfl, hb⟩; have n0_ := Aside0.mk (blk_below (g := gb180) (o := .cells #[.int .i64 a0_0, .string a0_1, .int .i64 a0_2] 23 (0, 0)) (by (with_reducible repeat (first | refine blk_drewN ?_ _ | refine blk_drew ?_ | refine blk_alloc ?_ _)); exact BK180.out) hb); have n1_ := Aside0.mk (below_step (by repeat (first | (with_reducible first | exact HB.out | apply below_alloc | apply pw_below_drewN | apply below_drew1 | refine below_set ?_ GE180.out) | exact HB.out)) hb); clear BK180; clear HB; have BK180 := n0_; have HB := n1_; clear n0_ n1_; (try clear hb); (try clear hb2); (try clear hk); (try clear hi)) | (go_at_call 12; (with_reducible refine (lex_Lex.calls kj1 (((⟨#[34]⟩ : ByteArray) ++ t189) ++ (⟨#[34]⟩ : ByteArray)) t190 t191 t192 _ A34.out).mono ?_); rintro e w61 ⟨v193, rfl, ho0, hb⟩; have n0_ := Aside0.mk (Kd.R_lower (Kd.R_newB ho0 (g := gb180) (o := .cells #[.int .i64 a0_0, .string a0_1, .int .i64 a0_2] 23 (0, 0)) (by (with_reducible repeat (first | refine blk_drewN ?_ _ | refine blk_drew ?_ | refine blk_alloc ?_ _)); exact BK180.out)) (below_size (by repeat (first | (with_reducible first | exact HB.out | apply below_alloc | apply pw_below_drewN | apply below_drew1 | refine below_set ?_ GE180.out) | exact HB.out)))); have n1_ := Aside0.mk (blk_below (g := gb180) (o := .cells #[.int .i64 a0_0, .string a0_1, .int .i64 a0_2] 23 (0, 0)) (by (with_reducible repeat (first | refine blk_drewN ?_ _ | refine blk_drew ?_ | refine blk_alloc ?_ _)); exact BK180.out) hb); have n2_ := Aside0.mk (below_step (by repeat (first | (with_reducible first | exact HB.out | apply below_alloc | apply pw_below_drewN | apply below_drew1 | refine below_set ?_ GE180.out) | exact HB.out)) hb); clear BK180; clear HB; have HO194 := n0_; have BK180 := n1_; have HB := n2_; clear n0_ n1_ n2_; (try clear hb); (try clear hb2); (try clear hk); (try clear hi); (try clear ho0))))
        go_ret2
        exact ⟨by first | rfl | (simp [errW_none, errW_some] <;> rfl) | (refine congrArg (fun z_ => Ending.returned (Value.bool z_)) (decide_eq_decide.mpr ?_); unfold wrap64; omega) | (simp [*, errW_none, errW_some] <;> rfl), by repeat (first | (with_reducible first | exact HB.out | apply below_alloc | apply pw_below_drewN | apply below_drew1 | refine below_set ?_ GE180.out) | exact HB.out)⟩
      ·rw [if_neg c33] at H
       exact absurd H (by simp)
     ·rw [if_neg c32] at H
      exact absurd H (by simp)
    ·rw [if_neg c30] at H
     have c30b0 : (a0_0 == 6) = false := beq_eq_false_iff_ne.mpr c30
     have c30b1 : (a0_0 != 6) = true := bne_iff_ne.mpr c30
     replace H := Option.bind_eq_some_iff.mp H
     obtain ⟨⟨t197, t198, t199⟩, A620, H⟩ := H
     replace H : (if t198 = 0 then (if (t197.length : Int) = 1 then (if 0 < (t197.length : Int) then (if ((rd_T23 t197 0).f0) = a0_0 then (if ((rd_T23 t197 0).f1).toList = a0_1.toList then (some (a0_1, 0)) else (some ((⟨#[]⟩ : ByteArray), 1))) else (some ((⟨#[]⟩ : ByteArray), 1))) else (none)) else (some ((⟨#[]⟩ : ByteArray), 1))) else (some ((⟨#[]⟩ : ByteArray), 1))) = some (r1, r2) := H
     have A62 := Aside0.mk A620
     clear A620
     by_cases c63 : t198 = 0
     ·rw [if_pos c63] at H
      have c63b0 : (t198 == 0) = true := beq_iff_eq.mpr c63
      have c63b1 : (t198 != 0) = false := bne_eq_false_iff_eq.mpr c63
      clear c63
      by_cases c64 : (t197.length : Int) = 1
      ·rw [if_pos c64] at H
       have c64b0 : ((t197.length : Int) == 1) = true := beq_iff_eq.mpr c64
       have c64b1 : ((t197.length : Int) != 1) = false := bne_eq_false_iff_eq.mpr c64
       clear c64
       by_cases c65 : 0 < (t197.length : Int)
       ·rw [if_pos c65] at H
        have c65b0 : decide (0 < (t197.length : Int)) = true := decide_eq_true c65
        have c65b1 : decide (0 < t197.length) = true := decide_eq_true (by omega)
        clear c65
        by_cases c66 : ((rd_T23 t197 0).f0) = a0_0
        ·rw [if_pos c66] at H
         have c66b0 : (((rd_T23 t197 0).f0) == a0_0) = true := beq_iff_eq.mpr c66
         have c66b1 : (((rd_T23 t197 0).f0) != a0_0) = false := bne_eq_false_iff_eq.mpr c66
         clear c66
         by_cases c67 : ((rd_T23 t197 0).f1).toList = a0_1.toList
         ·rw [if_pos c67] at H
          have c67b0 : (((rd_T23 t197 0).f1).toList == a0_1.toList) = true := beq_iff_eq.mpr c67
          have c67b1 : (((rd_T23 t197 0).f1).toList != a0_1.toList) = false := bne_eq_false_iff_eq.mpr c67
          clear c67
          simp only [Option.some.injEq, Prod.mk.injEq] at H
          obtain ⟨rfl, rfl⟩ := H
          have hcz68_0 : wc.cell? ⟨gb180, 0, none⟩ = some (.int .i64 a0_0) := (blk_cell BK180.out 0).trans rfl
          have hcz68_1 : wc.cell? ⟨gb180, 1, none⟩ = some (.string a0_1) := (blk_cell BK180.out 1).trans rfl
          have hcz68_2 : wc.cell? ⟨gb180, 2, none⟩ = some (.int .i64 a0_2) := (blk_cell BK180.out 2).trans rfl
          have hfz68_0 := blk_frozen BK180.out 0
          have hfz68_1 := blk_frozen BK180.out 1
          have hfz68_2 := blk_frozen BK180.out 2
          go_wp2_with (first | (go_at_call 12; (with_reducible refine (lex_Lex.calls kj1 a0_1 t197 t198 t199 _ A62.out).mono ?_); rintro e w69 ⟨v200, rfl, ho0, hb⟩; have n0_ := Aside0.mk (Kd.R_lower (Kd.R_newB ho0 (g := gb180) (o := .cells #[.int .i64 a0_0, .string a0_1, .int .i64 a0_2] 23 (0, 0)) (by (with_reducible repeat (first | refine blk_drewN ?_ _ | refine blk_drew ?_ | refine blk_alloc ?_ _)); exact BK180.out)) (below_size (by repeat (first | (with_reducible first | exact HB.out | apply below_alloc | apply pw_below_drewN | apply below_drew1 | refine below_set ?_ GE180.out) | exact HB.out)))); have n1_ := Aside0.mk (blk_below (g := gb180) (o := .cells #[.int .i64 a0_0, .string a0_1, .int .i64 a0_2] 23 (0, 0)) (by (with_reducible repeat (first | refine blk_drewN ?_ _ | refine blk_drew ?_ | refine blk_alloc ?_ _)); exact BK180.out) hb); have n2_ := Aside0.mk (below_step (by repeat (first | (with_reducible first | exact HB.out | apply below_alloc | apply pw_below_drewN | apply below_drew1 | refine below_set ?_ GE180.out) | exact HB.out)) hb); clear BK180; clear HB; have HO201 := n0_; have BK180 := n1_; have HB := n2_; clear n0_ n1_ n2_; (try clear hb); (try clear hb2); (try clear hk); (try clear hi); (try clear ho0); obtain ⟨Ao70, co70, eo70⟩ := Kd.R_slice HO201.out; subst eo70; have p202 : 0 ≤ (0 : Int) := (by omega); have q202 : 0 < (t197.length : Int) := of_decide_eq_true (by first | (with_reducible assumption) | assumption); obtain ⟨ad202, e202, hx202_0, hx202_1, hx202_2⟩ := at_T23 (Kd.R_reads' HO201.out).2.2 0 p202 q202; cases e202; have qi202 : (0 < t197.length) = True := eq_true (by omega); (try rw [show ((0 : Int)).toNat = 0 from rfl] at hx202_0); (try rw [show 0 * 3 = 0 from rfl] at hx202_0); (try rw [Addr.add_zero'] at hx202_0); (try rw [show ((0 : Int)).toNat = 0 from rfl] at hx202_1); (try rw [show 0 * 3 = 0 from rfl] at hx202_1); (try rw [Addr.add_zero'] at hx202_1); (try rw [show ((0 : Int)).toNat = 0 from rfl] at hx202_2); (try rw [show 0 * 3 = 0 from rfl] at hx202_2); (try rw [Addr.add_zero'] at hx202_2); replace p202 := eq_true p202; replace q202 := eq_true q202; have hcz71_0 : w69.cell? ⟨gb180, 0, none⟩ = some (.int .i64 a0_0) := (blk_cell BK180.out 0).trans rfl; have hcz71_1 : w69.cell? ⟨gb180, 1, none⟩ = some (.string a0_1) := (blk_cell BK180.out 1).trans rfl; have hcz71_2 : w69.cell? ⟨gb180, 2, none⟩ = some (.int .i64 a0_2) := (blk_cell BK180.out 2).trans rfl; have hfz71_0 := blk_frozen BK180.out 0; have hfz71_1 := blk_frozen BK180.out 1; have hfz71_2 := blk_frozen BK180.out 2; have p203 : 0 ≤ (0 : Int) := (by omega); have q203 : 0 < (t197.length : Int) := of_decide_eq_true (by first | (with_reducible assumption) | assumption); obtain ⟨ad203, e203, hx203_0, hx203_1, hx203_2⟩ := at_T23 (Kd.R_reads' HO201.out).2.2 0 p203 q203; obtain rfl : ad202 = ad203 := (by injection e203); have qi203 : (0 < t197.length) = True := eq_true (by omega); (try rw [show ((0 : Int)).toNat = 0 from rfl] at hx203_0); (try rw [show 0 * 3 = 0 from rfl] at hx203_0); (try rw [Addr.add_zero'] at hx203_0); (try rw [show ((0 : Int)).toNat = 0 from rfl] at hx203_1); (try rw [show 0 * 3 = 0 from rfl] at hx203_1); (try rw [Addr.add_zero'] at hx203_1); (try rw [show ((0 : Int)).toNat = 0 from rfl] at hx203_2); (try rw [show 0 * 3 = 0 from rfl] at hx203_2); (try rw [Addr.add_zero'] at hx203_2); replace p203 := eq_true p203; replace q203 := eq_true q203))
          repeat (go_quiet (first | (go_at_call 12; (with_reducible refine (lex_Lex.calls kj1 a0_1 t197 t198 t199 _ A62.out).mono ?_); rintro e w69 ⟨v200, rfl, ho0, hb⟩; have n0_ := Aside0.mk (Kd.R_lower (Kd.R_newB ho0 (g := gb180) (o := .cells #[.int .i64 a0_0, .string a0_1, .int .i64 a0_2] 23 (0, 0)) (by (with_reducible repeat (first | refine blk_drewN ?_ _ | refine blk_drew ?_ | refine blk_alloc ?_ _)); exact BK180.out)) (below_size (by repeat (first | (with_reducible first | exact HB.out | apply below_alloc | apply pw_below_drewN | apply below_drew1 | refine below_set ?_ GE180.out) | exact HB.out)))); have n1_ := Aside0.mk (blk_below (g := gb180) (o := .cells #[.int .i64 a0_0, .string a0_1, .int .i64 a0_2] 23 (0, 0)) (by (with_reducible repeat (first | refine blk_drewN ?_ _ | refine blk_drew ?_ | refine blk_alloc ?_ _)); exact BK180.out) hb); have n2_ := Aside0.mk (below_step (by repeat (first | (with_reducible first | exact HB.out | apply below_alloc | apply pw_below_drewN | apply below_drew1 | refine below_set ?_ GE180.out) | exact HB.out)) hb); clear BK180; clear HB; have HO201 := n0_; have BK180 := n1_; have HB := n2_; clear n0_ n1_ n2_; (try clear hb); (try clear hb2); (try clear hk); (try clear hi); (try clear ho0); obtain ⟨Ao70, co70, eo70⟩ := Kd.R_slice HO201.out; subst eo70; have p202 : 0 ≤ (0 : Int) := (by omega); have q202 : 0 < (t197.length : Int) := of_decide_eq_true (by first | (with_reducible assumption) | assumption); obtain ⟨ad202, e202, hx202_0, hx202_1, hx202_2⟩ := at_T23 (Kd.R_reads' HO201.out).2.2 0 p202 q202; cases e202; have qi202 : (0 < t197.length) = True := eq_true (by omega); (try rw [show ((0 : Int)).toNat = 0 from rfl] at hx202_0); (try rw [show 0 * 3 = 0 from rfl] at hx202_0); (try rw [Addr.add_zero'] at hx202_0); (try rw [show ((0 : Int)).toNat = 0 from rfl] at hx202_1); (try rw [show 0 * 3 = 0 from rfl] at hx202_1); (try rw [Addr.add_zero'] at hx202_1); (try rw [show ((0 : Int)).toNat = 0 from rfl] at hx202_2); (try rw [show 0 * 3 = 0 from rfl] at hx202_2); (try rw [Addr.add_zero'] at hx202_2); replace p202 := eq_true p202; replace q202 := eq_true q202; have hcz71_0 : w69.cell? ⟨gb180, 0, none⟩ = some (.int .i64 a0_0) := (blk_cell BK180.out 0).trans rfl; have hcz71_1 : w69.cell? ⟨gb180, 1, none⟩ = some (.string a0_1) := (blk_cell BK180.out 1).trans rfl; have hcz71_2 : w69.cell? ⟨gb180, 2, none⟩ = some (.int .i64 a0_2) := (blk_cell BK180.out 2).trans rfl; have hfz71_0 := blk_frozen BK180.out 0; have hfz71_1 := blk_frozen BK180.out 1; have hfz71_2 := blk_frozen BK180.out 2; have p203 : 0 ≤ (0 : Int) := (by omega); have q203 : 0 < (t197.length : Int) := of_decide_eq_true (by first | (with_reducible assumption) | assumption); obtain ⟨ad203, e203, hx203_0, hx203_1, hx203_2⟩ := at_T23 (Kd.R_reads' HO201.out).2.2 0 p203 q203; obtain rfl : ad202 = ad203 := (by injection e203); have qi203 : (0 < t197.length) = True := eq_true (by omega); (try rw [show ((0 : Int)).toNat = 0 from rfl] at hx203_0); (try rw [show 0 * 3 = 0 from rfl] at hx203_0); (try rw [Addr.add_zero'] at hx203_0); (try rw [show ((0 : Int)).toNat = 0 from rfl] at hx203_1); (try rw [show 0 * 3 = 0 from rfl] at hx203_1); (try rw [Addr.add_zero'] at hx203_1); (try rw [show ((0 : Int)).toNat = 0 from rfl] at hx203_2); (try rw [show 0 * 3 = 0 from rfl] at hx203_2); (try rw [Addr.add_zero'] at hx203_2); replace p203 := eq_true p203; replace q203 := eq_true q203)); try go_wp2_with (first | (go_at_call 12; (with_reducible refine (lex_Lex.calls kj1 a0_1 t197 t198 t199 _ A62.out).mono ?_); rintro e w69 ⟨v200, rfl, ho0, hb⟩; have n0_ := Aside0.mk (Kd.R_lower (Kd.R_newB ho0 (g := gb180) (o := .cells #[.int .i64 a0_0, .string a0_1, .int .i64 a0_2] 23 (0, 0)) (by (with_reducible repeat (first | refine blk_drewN ?_ _ | refine blk_drew ?_ | refine blk_alloc ?_ _)); exact BK180.out)) (below_size (by repeat (first | (with_reducible first | exact HB.out | apply below_alloc | apply pw_below_drewN | apply below_drew1 | refine below_set ?_ GE180.out) | exact HB.out)))); have n1_ := Aside0.mk (blk_below (g := gb180) (o := .cells #[.int .i64 a0_0, .string a0_1, .int .i64 a0_2] 23 (0, 0)) (by (with_reducible repeat (first | refine blk_drewN ?_ _ | refine blk_drew ?_ | refine blk_alloc ?_ _)); exact BK180.out) hb); have n2_ := Aside0.mk (below_step (by repeat (first | (with_reducible first | exact HB.out | apply below_alloc | apply pw_below_drewN | apply below_drew1 | refine below_set ?_ GE180.out) | exact HB.out)) hb); clear BK180; clear HB; have HO201 := n0_; have BK180 := n1_; have HB := n2_; clear n0_ n1_ n2_; (try clear hb); (try clear hb2); (try clear hk); (try clear hi); (try clear ho0); obtain ⟨Ao70, co70, eo70⟩ := Kd.R_slice HO201.out; subst eo70; have p202 : 0 ≤ (0 : Int) := (by omega); have q202 : 0 < (t197.length : Int) := of_decide_eq_true (by first | (with_reducible assumption) | assumption); obtain ⟨ad202, e202, hx202_0, hx202_1, hx202_2⟩ := at_T23 (Kd.R_reads' HO201.out).2.2 0 p202 q202; cases e202; have qi202 : (0 < t197.length) = True := eq_true (by omega); (try rw [show ((0 : Int)).toNat = 0 from rfl] at hx202_0); (try rw [show 0 * 3 = 0 from rfl] at hx202_0); (try rw [Addr.add_zero'] at hx202_0); (try rw [show ((0 : Int)).toNat = 0 from rfl] at hx202_1); (try rw [show 0 * 3 = 0 from rfl] at hx202_1); (try rw [Addr.add_zero'] at hx202_1); (try rw [show ((0 : Int)).toNat = 0 from rfl] at hx202_2); (try rw [show 0 * 3 = 0 from rfl] at hx202_2); (try rw [Addr.add_zero'] at hx202_2); replace p202 := eq_true p202; replace q202 := eq_true q202; have hcz71_0 : w69.cell? ⟨gb180, 0, none⟩ = some (.int .i64 a0_0) := (blk_cell BK180.out 0).trans rfl; have hcz71_1 : w69.cell? ⟨gb180, 1, none⟩ = some (.string a0_1) := (blk_cell BK180.out 1).trans rfl; have hcz71_2 : w69.cell? ⟨gb180, 2, none⟩ = some (.int .i64 a0_2) := (blk_cell BK180.out 2).trans rfl; have hfz71_0 := blk_frozen BK180.out 0; have hfz71_1 := blk_frozen BK180.out 1; have hfz71_2 := blk_frozen BK180.out 2; have p203 : 0 ≤ (0 : Int) := (by omega); have q203 : 0 < (t197.length : Int) := of_decide_eq_true (by first | (with_reducible assumption) | assumption); obtain ⟨ad203, e203, hx203_0, hx203_1, hx203_2⟩ := at_T23 (Kd.R_reads' HO201.out).2.2 0 p203 q203; obtain rfl : ad202 = ad203 := (by injection e203); have qi203 : (0 < t197.length) = True := eq_true (by omega); (try rw [show ((0 : Int)).toNat = 0 from rfl] at hx203_0); (try rw [show 0 * 3 = 0 from rfl] at hx203_0); (try rw [Addr.add_zero'] at hx203_0); (try rw [show ((0 : Int)).toNat = 0 from rfl] at hx203_1); (try rw [show 0 * 3 = 0 from rfl] at hx203_1); (try rw [Addr.add_zero'] at hx203_1); (try rw [show ((0 : Int)).toNat = 0 from rfl] at hx203_2); (try rw [show 0 * 3 = 0 from rfl] at hx203_2); (try rw [Addr.add_zero'] at hx203_2); replace p203 := eq_true p203; replace q203 := eq_true q203)))
          go_ret2
          exact ⟨by first | rfl | (simp [errW_none, errW_some] <;> rfl) | (refine congrArg (fun z_ => Ending.returned (Value.bool z_)) (decide_eq_decide.mpr ?_); unfold wrap64; omega) | (simp [*, errW_none, errW_some] <;> rfl), by repeat (first | (with_reducible first | exact HB.out | apply below_alloc | apply pw_below_drewN | apply below_drew1 | refine below_set ?_ GE180.out) | exact HB.out)⟩
         ·rw [if_neg c67] at H
          have c67b0 : (((rd_T23 t197 0).f1).toList == a0_1.toList) = false := beq_eq_false_iff_ne.mpr c67
          have c67b1 : (((rd_T23 t197 0).f1).toList != a0_1.toList) = true := bne_iff_ne.mpr c67
          simp only [Option.some.injEq, Prod.mk.injEq] at H
          obtain ⟨rfl, rfl⟩ := H
          have hcz72_0 : wc.cell? ⟨gb180, 0, none⟩ = some (.int .i64 a0_0) := (blk_cell BK180.out 0).trans rfl
          have hcz72_1 : wc.cell? ⟨gb180, 1, none⟩ = some (.string a0_1) := (blk_cell BK180.out 1).trans rfl
          have hcz72_2 : wc.cell? ⟨gb180, 2, none⟩ = some (.int .i64 a0_2) := (blk_cell BK180.out 2).trans rfl
          have hfz72_0 := blk_frozen BK180.out 0
          have hfz72_1 := blk_frozen BK180.out 1
          have hfz72_2 := blk_frozen BK180.out 2
          go_wp2_with (first | (go_at_call 12; (with_reducible refine (lex_Lex.calls kj1 a0_1 t197 t198 t199 _ A62.out).mono ?_); rintro e w73 ⟨v200, rfl, ho0, hb⟩; have n0_ := Aside0.mk (Kd.R_lower (Kd.R_newB ho0 (g := gb180) (o := .cells #[.int .i64 a0_0, .string a0_1, .int .i64 a0_2] 23 (0, 0)) (by (with_reducible repeat (first | refine blk_drewN ?_ _ | refine blk_drew ?_ | refine blk_alloc ?_ _)); exact BK180.out)) (below_size (by repeat (first | (with_reducible first | exact HB.out | apply below_alloc | apply pw_below_drewN | apply below_drew1 | refine below_set ?_ GE180.out) | exact HB.out)))); have n1_ := Aside0.mk (blk_below (g := gb180) (o := .cells #[.int .i64 a0_0, .string a0_1, .int .i64 a0_2] 23 (0, 0)) (by (with_reducible repeat (first | refine blk_drewN ?_ _ | refine blk_drew ?_ | refine blk_alloc ?_ _)); exact BK180.out) hb); have n2_ := Aside0.mk (below_step (by repeat (first | (with_reducible first | exact HB.out | apply below_alloc | apply pw_below_drewN | apply below_drew1 | refine below_set ?_ GE180.out) | exact HB.out)) hb); clear BK180; clear HB; have HO201 := n0_; have BK180 := n1_; have HB := n2_; clear n0_ n1_ n2_; (try clear hb); (try clear hb2); (try clear hk); (try clear hi); (try clear ho0); obtain ⟨Ao74, co74, eo74⟩ := Kd.R_slice HO201.out; subst eo74; have p202 : 0 ≤ (0 : Int) := (by omega); have q202 : 0 < (t197.length : Int) := of_decide_eq_true (by first | (with_reducible assumption) | assumption); obtain ⟨ad202, e202, hx202_0, hx202_1, hx202_2⟩ := at_T23 (Kd.R_reads' HO201.out).2.2 0 p202 q202; cases e202; have qi202 : (0 < t197.length) = True := eq_true (by omega); (try rw [show ((0 : Int)).toNat = 0 from rfl] at hx202_0); (try rw [show 0 * 3 = 0 from rfl] at hx202_0); (try rw [Addr.add_zero'] at hx202_0); (try rw [show ((0 : Int)).toNat = 0 from rfl] at hx202_1); (try rw [show 0 * 3 = 0 from rfl] at hx202_1); (try rw [Addr.add_zero'] at hx202_1); (try rw [show ((0 : Int)).toNat = 0 from rfl] at hx202_2); (try rw [show 0 * 3 = 0 from rfl] at hx202_2); (try rw [Addr.add_zero'] at hx202_2); replace p202 := eq_true p202; replace q202 := eq_true q202; have hcz75_0 : w73.cell? ⟨gb180, 0, none⟩ = some (.int .i64 a0_0) := (blk_cell BK180.out 0).trans rfl; have hcz75_1 : w73.cell? ⟨gb180, 1, none⟩ = some (.string a0_1) := (blk_cell BK180.out 1).trans rfl; have hcz75_2 : w73.cell? ⟨gb180, 2, none⟩ = some (.int .i64 a0_2) := (blk_cell BK180.out 2).trans rfl; have hfz75_0 := blk_frozen BK180.out 0; have hfz75_1 := blk_frozen BK180.out 1; have hfz75_2 := blk_frozen BK180.out 2; have p203 : 0 ≤ (0 : Int) := (by omega); have q203 : 0 < (t197.length : Int) := of_decide_eq_true (by first | (with_reducible assumption) | assumption); obtain ⟨ad203, e203, hx203_0, hx203_1, hx203_2⟩ := at_T23 (Kd.R_reads' HO201.out).2.2 0 p203 q203; obtain rfl : ad202 = ad203 := (by injection e203); have qi203 : (0 < t197.length) = True := eq_true (by omega); (try rw [show ((0 : Int)).toNat = 0 from rfl] at hx203_0); (try rw [show 0 * 3 = 0 from rfl] at hx203_0); (try rw [Addr.add_zero'] at hx203_0); (try rw [show ((0 : Int)).toNat = 0 from rfl] at hx203_1); (try rw [show 0 * 3 = 0 from rfl] at hx203_1); (try rw [Addr.add_zero'] at hx203_1); (try rw [show ((0 : Int)).toNat = 0 from rfl] at hx203_2); (try rw [show 0 * 3 = 0 from rfl] at hx203_2); (try rw [Addr.add_zero'] at hx203_2); replace p203 := eq_true p203; replace q203 := eq_true q203))
          repeat (go_quiet (first | (go_at_call 12; (with_reducible refine (lex_Lex.calls kj1 a0_1 t197 t198 t199 _ A62.out).mono ?_); rintro e w73 ⟨v200, rfl, ho0, hb⟩; have n0_ := Aside0.mk (Kd.R_lower (Kd.R_newB ho0 (g := gb180) (o := .cells #[.int .i64 a0_0, .string a0_1, .int .i64 a0_2] 23 (0, 0)) (by (with_reducible repeat (first | refine blk_drewN ?_ _ | refine blk_drew ?_ | refine blk_alloc ?_ _)); exact BK180.out)) (below_size (by repeat (first | (with_reducible first | exact HB.out | apply below_alloc | apply pw_below_drewN | apply below_drew1 | refine below_set ?_ GE180.out) | exact HB.out)))); have n1_ := Aside0.mk (blk_below (g := gb180) (o := .cells #[.int .i64 a0_0, .string a0_1, .int .i64 a0_2] 23 (0, 0)) (by (with_reducible repeat (first | refine blk_drewN ?_ _ | refine blk_drew ?_ | refine blk_alloc ?_ _)); exact BK180.out) hb); have n2_ := Aside0.mk (below_step (by repeat (first | (with_reducible first | exact HB.out | apply below_alloc | apply pw_below_drewN | apply below_drew1 | refine below_set ?_ GE180.out) | exact HB.out)) hb); clear BK180; clear HB; have HO201 := n0_; have BK180 := n1_; have HB := n2_; clear n0_ n1_ n2_; (try clear hb); (try clear hb2); (try clear hk); (try clear hi); (try clear ho0); obtain ⟨Ao74, co74, eo74⟩ := Kd.R_slice HO201.out; subst eo74; have p202 : 0 ≤ (0 : Int) := (by omega); have q202 : 0 < (t197.length : Int) := of_decide_eq_true (by first | (with_reducible assumption) | assumption); obtain ⟨ad202, e202, hx202_0, hx202_1, hx202_2⟩ := at_T23 (Kd.R_reads' HO201.out).2.2 0 p202 q202; cases e202; have qi202 : (0 < t197.length) = True := eq_true (by omega); (try rw [show ((0 : Int)).toNat = 0 from rfl] at hx202_0); (try rw [show 0 * 3 = 0 from rfl] at hx202_0); (try rw [Addr.add_zero'] at hx202_0); (try rw [show ((0 : Int)).toNat = 0 from rfl] at hx202_1); (try rw [show 0 * 3 = 0 from rfl] at hx202_1); (try rw [Addr.add_zero'] at hx202_1); (try rw [show ((0 : Int)).toNat = 0 from rfl] at hx202_2); (try rw [show 0 * 3 = 0 from rfl] at hx202_2); (try rw [Addr.add_zero'] at hx202_2); replace p202 := eq_true p202; replace q202 := eq_true q202; have hcz75_0 : w73.cell? ⟨gb180, 0, none⟩ = some (.int .i64 a0_0) := (blk_cell BK180.out 0).trans rfl; have hcz75_1 : w73.cell? ⟨gb180, 1, none⟩ = some (.string a0_1) := (blk_cell BK180.out 1).trans rfl; have hcz75_2 : w73.cell? ⟨gb180, 2, none⟩ = some (.int .i64 a0_2) := (blk_cell BK180.out 2).trans rfl; have hfz75_0 := blk_frozen BK180.out 0; have hfz75_1 := blk_frozen BK180.out 1; have hfz75_2 := blk_frozen BK180.out 2; have p203 : 0 ≤ (0 : Int) := (by omega); have q203 : 0 < (t197.length : Int) := of_decide_eq_true (by first | (with_reducible assumption) | assumption); obtain ⟨ad203, e203, hx203_0, hx203_1, hx203_2⟩ := at_T23 (Kd.R_reads' HO201.out).2.2 0 p203 q203; obtain rfl : ad202 = ad203 := (by injection e203); have qi203 : (0 < t197.length) = True := eq_true (by omega); (try rw [show ((0 : Int)).toNat = 0 from rfl] at hx203_0); (try rw [show 0 * 3 = 0 from rfl] at hx203_0); (try rw [Addr.add_zero'] at hx203_0); (try rw [show ((0 : Int)).toNat = 0 from rfl] at hx203_1); (try rw [show 0 * 3 = 0 from rfl] at hx203_1); (try rw [Addr.add_zero'] at hx203_1); (try rw [show ((0 : Int)).toNat = 0 from rfl] at hx203_2); (try rw [show 0 * 3 = 0 from rfl] at hx203_2); (try rw [Addr.add_zero'] at hx203_2); replace p203 := eq_true p203; replace q203 := eq_true q203)); try go_wp2_with (first | (go_at_call 12; (with_reducible refine (lex_Lex.calls kj1 a0_1 t197 t198 t199 _ A62.out).mono ?_); rintro e w73 ⟨v200, rfl, ho0, hb⟩; have n0_ := Aside0.mk (Kd.R_lower (Kd.R_newB ho0 (g := gb180) (o := .cells #[.int .i64 a0_0, .string a0_1, .int .i64 a0_2] 23 (0, 0)) (by (with_reducible repeat (first | refine blk_drewN ?_ _ | refine blk_drew ?_ | refine blk_alloc ?_ _)); exact BK180.out)) (below_size (by repeat (first | (with_reducible first | exact HB.out | apply below_alloc | apply pw_below_drewN | apply below_drew1 | refine below_set ?_ GE180.out) | exact HB.out)))); have n1_ := Aside0.mk (blk_below (g := gb180) (o := .cells #[.int .i64 a0_0, .string a0_1, .int .i64 a0_2] 23 (0, 0)) (by (with_reducible repeat (first | refine blk_drewN ?_ _ | refine blk_drew ?_ | refine blk_alloc ?_ _)); exact BK180.out) hb); have n2_ := Aside0.mk (below_step (by repeat (first | (with_reducible first | exact HB.out | apply below_alloc | apply pw_below_drewN | apply below_drew1 | refine below_set ?_ GE180.out) | exact HB.out)) hb); clear BK180; clear HB; have HO201 := n0_; have BK180 := n1_; have HB := n2_; clear n0_ n1_ n2_; (try clear hb); (try clear hb2); (try clear hk); (try clear hi); (try clear ho0); obtain ⟨Ao74, co74, eo74⟩ := Kd.R_slice HO201.out; subst eo74; have p202 : 0 ≤ (0 : Int) := (by omega); have q202 : 0 < (t197.length : Int) := of_decide_eq_true (by first | (with_reducible assumption) | assumption); obtain ⟨ad202, e202, hx202_0, hx202_1, hx202_2⟩ := at_T23 (Kd.R_reads' HO201.out).2.2 0 p202 q202; cases e202; have qi202 : (0 < t197.length) = True := eq_true (by omega); (try rw [show ((0 : Int)).toNat = 0 from rfl] at hx202_0); (try rw [show 0 * 3 = 0 from rfl] at hx202_0); (try rw [Addr.add_zero'] at hx202_0); (try rw [show ((0 : Int)).toNat = 0 from rfl] at hx202_1); (try rw [show 0 * 3 = 0 from rfl] at hx202_1); (try rw [Addr.add_zero'] at hx202_1); (try rw [show ((0 : Int)).toNat = 0 from rfl] at hx202_2); (try rw [show 0 * 3 = 0 from rfl] at hx202_2); (try rw [Addr.add_zero'] at hx202_2); replace p202 := eq_true p202; replace q202 := eq_true q202; have hcz75_0 : w73.cell? ⟨gb180, 0, none⟩ = some (.int .i64 a0_0) := (blk_cell BK180.out 0).trans rfl; have hcz75_1 : w73.cell? ⟨gb180, 1, none⟩ = some (.string a0_1) := (blk_cell BK180.out 1).trans rfl; have hcz75_2 : w73.cell? ⟨gb180, 2, none⟩ = some (.int .i64 a0_2) := (blk_cell BK180.out 2).trans rfl; have hfz75_0 := blk_frozen BK180.out 0; have hfz75_1 := blk_frozen BK180.out 1; have hfz75_2 := blk_frozen BK180.out 2; have p203 : 0 ≤ (0 : Int) := (by omega); have q203 : 0 < (t197.length : Int) := of_decide_eq_true (by first | (with_reducible assumption) | assumption); obtain ⟨ad203, e203, hx203_0, hx203_1, hx203_2⟩ := at_T23 (Kd.R_reads' HO201.out).2.2 0 p203 q203; obtain rfl : ad202 = ad203 := (by injection e203); have qi203 : (0 < t197.length) = True := eq_true (by omega); (try rw [show ((0 : Int)).toNat = 0 from rfl] at hx203_0); (try rw [show 0 * 3 = 0 from rfl] at hx203_0); (try rw [Addr.add_zero'] at hx203_0); (try rw [show ((0 : Int)).toNat = 0 from rfl] at hx203_1); (try rw [show 0 * 3 = 0 from rfl] at hx203_1); (try rw [Addr.add_zero'] at hx203_1); (try rw [show ((0 : Int)).toNat = 0 from rfl] at hx203_2); (try rw [show 0 * 3 = 0 from rfl] at hx203_2); (try rw [Addr.add_zero'] at hx203_2); replace p203 := eq_true p203; replace q203 := eq_true q203)))
          go_ret2
          exact ⟨by first | rfl | (simp [errW_none, errW_some] <;> rfl) | (refine congrArg (fun z_ => Ending.returned (Value.bool z_)) (decide_eq_decide.mpr ?_); unfold wrap64; omega) | (simp [*, errW_none, errW_some] <;> rfl), by repeat (first | (with_reducible first | exact HB.out | apply below_alloc | apply pw_below_drewN | apply below_drew1 | refine below_set ?_ GE180.out) | exact HB.out)⟩
        ·rw [if_neg c66] at H
         have c66b0 : (((rd_T23 t197 0).f0) == a0_0) = false := beq_eq_false_iff_ne.mpr c66
         have c66b1 : (((rd_T23 t197 0).f0) != a0_0) = true := bne_iff_ne.mpr c66
         simp only [Option.some.injEq, Prod.mk.injEq] at H
         obtain ⟨rfl, rfl⟩ := H
         have hcz76_0 : wc.cell? ⟨gb180, 0, none⟩ = some (.int .i64 a0_0) := (blk_cell BK180.out 0).trans rfl
         have hcz76_1 : wc.cell? ⟨gb180, 1, none⟩ = some (.string a0_1) := (blk_cell BK180.out 1).trans rfl
         have hcz76_2 : wc.cell? ⟨gb180, 2, none⟩ = some (.int .i64 a0_2) := (blk_cell BK180.out 2).trans rfl
         have hfz76_0 := blk_frozen BK180.out 0
         have hfz76_1 := blk_frozen BK180.out 1
         have hfz76_2 := blk_frozen BK180.out 2
         go_wp2_with (first | (go_at_call 12; (with_reducible refine (lex_Lex.calls kj1 a0_1 t197 t198 t199 _ A62.out).mono ?_); rintro e w77 ⟨v200, rfl, ho0, hb⟩; have n0_ := Aside0.mk (Kd.R_lower (Kd.R_newB ho0 (g := gb180) (o := .cells #[.int .i64 a0_0, .string a0_1, .int .i64 a0_2] 23 (0, 0)) (by (with_reducible repeat (first | refine blk_drewN ?_ _ | refine blk_drew ?_ | refine blk_alloc ?_ _)); exact BK180.out)) (below_size (by repeat (first | (with_reducible first | exact HB.out | apply below_alloc | apply pw_below_drewN | apply below_drew1 | refine below_set ?_ GE180.out) | exact HB.out)))); have n1_ := Aside0.mk (blk_below (g := gb180) (o := .cells #[.int .i64 a0_0, .string a0_1, .int .i64 a0_2] 23 (0, 0)) (by (with_reducible repeat (first | refine blk_drewN ?_ _ | refine blk_drew ?_ | refine blk_alloc ?_ _)); exact BK180.out) hb); have n2_ := Aside0.mk (below_step (by repeat (first | (with_reducible first | exact HB.out | apply below_alloc | apply pw_below_drewN | apply below_drew1 | refine below_set ?_ GE180.out) | exact HB.out)) hb); clear BK180; clear HB; have HO201 := n0_; have BK180 := n1_; have HB := n2_; clear n0_ n1_ n2_; (try clear hb); (try clear hb2); (try clear hk); (try clear hi); (try clear ho0); obtain ⟨Ao78, co78, eo78⟩ := Kd.R_slice HO201.out; subst eo78; have p202 : 0 ≤ (0 : Int) := (by omega); have q202 : 0 < (t197.length : Int) := of_decide_eq_true (by first | (with_reducible assumption) | assumption); obtain ⟨ad202, e202, hx202_0, hx202_1, hx202_2⟩ := at_T23 (Kd.R_reads' HO201.out).2.2 0 p202 q202; cases e202; have qi202 : (0 < t197.length) = True := eq_true (by omega); (try rw [show ((0 : Int)).toNat = 0 from rfl] at hx202_0); (try rw [show 0 * 3 = 0 from rfl] at hx202_0); (try rw [Addr.add_zero'] at hx202_0); (try rw [show ((0 : Int)).toNat = 0 from rfl] at hx202_1); (try rw [show 0 * 3 = 0 from rfl] at hx202_1); (try rw [Addr.add_zero'] at hx202_1); (try rw [show ((0 : Int)).toNat = 0 from rfl] at hx202_2); (try rw [show 0 * 3 = 0 from rfl] at hx202_2); (try rw [Addr.add_zero'] at hx202_2); replace p202 := eq_true p202; replace q202 := eq_true q202; have hcz79_0 : w77.cell? ⟨gb180, 0, none⟩ = some (.int .i64 a0_0) := (blk_cell BK180.out 0).trans rfl; have hcz79_1 : w77.cell? ⟨gb180, 1, none⟩ = some (.string a0_1) := (blk_cell BK180.out 1).trans rfl; have hcz79_2 : w77.cell? ⟨gb180, 2, none⟩ = some (.int .i64 a0_2) := (blk_cell BK180.out 2).trans rfl; have hfz79_0 := blk_frozen BK180.out 0; have hfz79_1 := blk_frozen BK180.out 1; have hfz79_2 := blk_frozen BK180.out 2))
         repeat (go_quiet (first | (go_at_call 12; (with_reducible refine (lex_Lex.calls kj1 a0_1 t197 t198 t199 _ A62.out).mono ?_); rintro e w77 ⟨v200, rfl, ho0, hb⟩; have n0_ := Aside0.mk (Kd.R_lower (Kd.R_newB ho0 (g := gb180) (o := .cells #[.int .i64 a0_0, .string a0_1, .int .i64 a0_2] 23 (0, 0)) (by (with_reducible repeat (first | refine blk_drewN ?_ _ | refine blk_drew ?_ | refine blk_alloc ?_ _)); exact BK180.out)) (below_size (by repeat (first | (with_reducible first | exact HB.out | apply below_alloc | apply pw_below_drewN | apply below_drew1 | refine below_set ?_ GE180.out) | exact HB.out)))); have n1_ := Aside0.mk (blk_below (g := gb180) (o := .cells #[.int .i64 a0_0, .string a0_1, .int .i64 a0_2] 23 (0, 0)) (by (with_reducible repeat (first | refine blk_drewN ?_ _ | refine blk_drew ?_ | refine blk_alloc ?_ _)); exact BK180.out) hb); have n2_ := Aside0.mk (below_step (by repeat (first | (with_reducible first | exact HB.out | apply below_alloc | apply pw_below_drewN | apply below_drew1 | refine below_set ?_ GE180.out) | exact HB.out)) hb); clear BK180; clear HB; have HO201 := n0_; have BK180 := n1_; have HB := n2_; clear n0_ n1_ n2_; (try clear hb); (try clear hb2); (try clear hk); (try clear hi); (try clear ho0); obtain ⟨Ao78, co78, eo78⟩ := Kd.R_slice HO201.out; subst eo78; have p202 : 0 ≤ (0 : Int) := (by omega); have q202 : 0 < (t197.length : Int) := of_decide_eq_true (by first | (with_reducible assumption) | assumption); obtain ⟨ad202, e202, hx202_0, hx202_1, hx202_2⟩ := at_T23 (Kd.R_reads' HO201.out).2.2 0 p202 q202; cases e202; have qi202 : (0 < t197.length) = True := eq_true (by omega); (try rw [show ((0 : Int)).toNat = 0 from rfl] at hx202_0); (try rw [show 0 * 3 = 0 from rfl] at hx202_0); (try rw [Addr.add_zero'] at hx202_0); (try rw [show ((0 : Int)).toNat = 0 from rfl] at hx202_1); (try rw [show 0 * 3 = 0 from rfl] at hx202_1); (try rw [Addr.add_zero'] at hx202_1); (try rw [show ((0 : Int)).toNat = 0 from rfl] at hx202_2); (try rw [show 0 * 3 = 0 from rfl] at hx202_2); (try rw [Addr.add_zero'] at hx202_2); replace p202 := eq_true p202; replace q202 := eq_true q202; have hcz79_0 : w77.cell? ⟨gb180, 0, none⟩ = some (.int .i64 a0_0) := (blk_cell BK180.out 0).trans rfl; have hcz79_1 : w77.cell? ⟨gb180, 1, none⟩ = some (.string a0_1) := (blk_cell BK180.out 1).trans rfl; have hcz79_2 : w77.cell? ⟨gb180, 2, none⟩ = some (.int .i64 a0_2) := (blk_cell BK180.out 2).trans rfl; have hfz79_0 := blk_frozen BK180.out 0; have hfz79_1 := blk_frozen BK180.out 1; have hfz79_2 := blk_frozen BK180.out 2)); try go_wp2_with (first | (go_at_call 12; (with_reducible refine (lex_Lex.calls kj1 a0_1 t197 t198 t199 _ A62.out).mono ?_); rintro e w77 ⟨v200, rfl, ho0, hb⟩; have n0_ := Aside0.mk (Kd.R_lower (Kd.R_newB ho0 (g := gb180) (o := .cells #[.int .i64 a0_0, .string a0_1, .int .i64 a0_2] 23 (0, 0)) (by (with_reducible repeat (first | refine blk_drewN ?_ _ | refine blk_drew ?_ | refine blk_alloc ?_ _)); exact BK180.out)) (below_size (by repeat (first | (with_reducible first | exact HB.out | apply below_alloc | apply pw_below_drewN | apply below_drew1 | refine below_set ?_ GE180.out) | exact HB.out)))); have n1_ := Aside0.mk (blk_below (g := gb180) (o := .cells #[.int .i64 a0_0, .string a0_1, .int .i64 a0_2] 23 (0, 0)) (by (with_reducible repeat (first | refine blk_drewN ?_ _ | refine blk_drew ?_ | refine blk_alloc ?_ _)); exact BK180.out) hb); have n2_ := Aside0.mk (below_step (by repeat (first | (with_reducible first | exact HB.out | apply below_alloc | apply pw_below_drewN | apply below_drew1 | refine below_set ?_ GE180.out) | exact HB.out)) hb); clear BK180; clear HB; have HO201 := n0_; have BK180 := n1_; have HB := n2_; clear n0_ n1_ n2_; (try clear hb); (try clear hb2); (try clear hk); (try clear hi); (try clear ho0); obtain ⟨Ao78, co78, eo78⟩ := Kd.R_slice HO201.out; subst eo78; have p202 : 0 ≤ (0 : Int) := (by omega); have q202 : 0 < (t197.length : Int) := of_decide_eq_true (by first | (with_reducible assumption) | assumption); obtain ⟨ad202, e202, hx202_0, hx202_1, hx202_2⟩ := at_T23 (Kd.R_reads' HO201.out).2.2 0 p202 q202; cases e202; have qi202 : (0 < t197.length) = True := eq_true (by omega); (try rw [show ((0 : Int)).toNat = 0 from rfl] at hx202_0); (try rw [show 0 * 3 = 0 from rfl] at hx202_0); (try rw [Addr.add_zero'] at hx202_0); (try rw [show ((0 : Int)).toNat = 0 from rfl] at hx202_1); (try rw [show 0 * 3 = 0 from rfl] at hx202_1); (try rw [Addr.add_zero'] at hx202_1); (try rw [show ((0 : Int)).toNat = 0 from rfl] at hx202_2); (try rw [show 0 * 3 = 0 from rfl] at hx202_2); (try rw [Addr.add_zero'] at hx202_2); replace p202 := eq_true p202; replace q202 := eq_true q202; have hcz79_0 : w77.cell? ⟨gb180, 0, none⟩ = some (.int .i64 a0_0) := (blk_cell BK180.out 0).trans rfl; have hcz79_1 : w77.cell? ⟨gb180, 1, none⟩ = some (.string a0_1) := (blk_cell BK180.out 1).trans rfl; have hcz79_2 : w77.cell? ⟨gb180, 2, none⟩ = some (.int .i64 a0_2) := (blk_cell BK180.out 2).trans rfl; have hfz79_0 := blk_frozen BK180.out 0; have hfz79_1 := blk_frozen BK180.out 1; have hfz79_2 := blk_frozen BK180.out 2)))
         go_ret2
         exact ⟨by first | rfl | (simp [errW_none, errW_some] <;> rfl) | (refine congrArg (fun z_ => Ending.returned (Value.bool z_)) (decide_eq_decide.mpr ?_); unfold wrap64; omega) | (simp [*, errW_none, errW_some] <;> rfl), by repeat (first | (with_reducible first | exact HB.out | apply below_alloc | apply pw_below_drewN | apply below_drew1 | refine below_set ?_ GE180.out) | exact HB.out)⟩
       ·rw [if_neg c65] at H
        exact absurd H (by simp)
      ·rw [if_neg c64] at H
       have c64b0 : ((t197.length : Int) == 1) = false := beq_eq_false_iff_ne.mpr c64
       have c64b1 : ((t197.length : Int) != 1) = true := bne_iff_ne.mpr c64
       simp only [Option.some.injEq, Prod.mk.injEq] at H
       obtain ⟨rfl, rfl⟩ := H
       have hcz80_0 : wc.cell? ⟨gb180, 0, none⟩ = some (.int .i64 a0_0) := (blk_cell BK180.out 0).trans rfl
       have hcz80_1 : wc.cell? ⟨gb180, 1, none⟩ = some (.string a0_1) := (blk_cell BK180.out 1).trans rfl
       have hcz80_2 : wc.cell? ⟨gb180, 2, none⟩ = some (.int .i64 a0_2) := (blk_cell BK180.out 2).trans rfl
       have hfz80_0 := blk_frozen BK180.out 0
       have hfz80_1 := blk_frozen BK180.out 1
       have hfz80_2 := blk_frozen BK180.out 2
       go_wp2_with (first | (go_at_call 12; (with_reducible refine (lex_Lex.calls kj1 a0_1 t197 t198 t199 _ A62.out).mono ?_); rintro e w81 ⟨v200, rfl, ho0, hb⟩; have n0_ := Aside0.mk (Kd.R_lower (Kd.R_newB ho0 (g := gb180) (o := .cells #[.int .i64 a0_0, .string a0_1, .int .i64 a0_2] 23 (0, 0)) (by (with_reducible repeat (first | refine blk_drewN ?_ _ | refine blk_drew ?_ | refine blk_alloc ?_ _)); exact BK180.out)) (below_size (by repeat (first | (with_reducible first | exact HB.out | apply below_alloc | apply pw_below_drewN | apply below_drew1 | refine below_set ?_ GE180.out) | exact HB.out)))); have n1_ := Aside0.mk (blk_below (g := gb180) (o := .cells #[.int .i64 a0_0, .string a0_1, .int .i64 a0_2] 23 (0, 0)) (by (with_reducible repeat (first | refine blk_drewN ?_ _ | refine blk_drew ?_ | refine blk_alloc ?_ _)); exact BK180.out) hb); have n2_ := Aside0.mk (below_step (by repeat (first | (with_reducible first | exact HB.out | apply below_alloc | apply pw_below_drewN | apply below_drew1 | refine below_set ?_ GE180.out) | exact HB.out)) hb); clear BK180; clear HB; have HO201 := n0_; have BK180 := n1_; have HB := n2_; clear n0_ n1_ n2_; (try clear hb); (try clear hb2); (try clear hk); (try clear hi); (try clear ho0); obtain ⟨Ao82, co82, eo82⟩ := Kd.R_slice HO201.out; subst eo82))
       repeat (go_quiet (first | (go_at_call 12; (with_reducible refine (lex_Lex.calls kj1 a0_1 t197 t198 t199 _ A62.out).mono ?_); rintro e w81 ⟨v200, rfl, ho0, hb⟩; have n0_ := Aside0.mk (Kd.R_lower (Kd.R_newB ho0 (g := gb180) (o := .cells #[.int .i64 a0_0, .string a0_1, .int .i64 a0_2] 23 (0, 0)) (by (with_reducible repeat (first | refine blk_drewN ?_ _ | refine blk_drew ?_ | refine blk_alloc ?_ _)); exact BK180.out)) (below_size (by repeat (first | (with_reducible first | exact HB.out | apply below_alloc | apply pw_below_drewN | apply below_drew1 | refine below_set ?_ GE180.out) | exact HB.out)))); have n1_ := Aside0.mk (blk_below (g := gb180) (o := .cells #[.int .i64 a0_0, .string a0_1, .int .i64 a0_2] 23 (0, 0)) (by (with_reducible repeat (first | refine blk_drewN ?_ _ | refine blk_drew ?_ | refine blk_alloc ?_ _)); exact BK180.out) hb); have n2_ := Aside0.mk (below_step (by repeat (first | (with_reducible first | exact HB.out | apply below_alloc | apply pw_below_drewN | apply below_drew1 | refine below_set ?_ GE180.out) | exact HB.out)) hb); clear BK180; clear HB; have HO201 := n0_; have BK180 := n1_; have HB := n2_; clear n0_ n1_ n2_; (try clear hb); (try clear hb2); (try clear hk); (try clear hi); (try clear ho0); obtain ⟨Ao82, co82, eo82⟩ := Kd.R_slice HO201.out; subst eo82)); try go_wp2_with (first | (go_at_call 12; (with_reducible refine (lex_Lex.calls kj1 a0_1 t197 t198 t199 _ A62.out).mono ?_); rintro e w81 ⟨v200, rfl, ho0, hb⟩; have n0_ := Aside0.mk (Kd.R_lower (Kd.R_newB ho0 (g := gb180) (o := .cells #[.int .i64 a0_0, .string a0_1, .int .i64 a0_2] 23 (0, 0)) (by (with_reducible repeat (first | refine blk_drewN ?_ _ | refine blk_drew ?_ | refine blk_alloc ?_ _)); exact BK180.out)) (below_size (by repeat (first | (with_reducible first | exact HB.out | apply below_alloc | apply pw_below_drewN | apply below_drew1 | refine below_set ?_ GE180.out) | exact HB.out)))); have n1_ := Aside0.mk (blk_below (g := gb180) (o := .cells #[.int .i64 a0_0, .string a0_1, .int .i64 a0_2] 23 (0, 0)) (by (with_reducible repeat (first | refine blk_drewN ?_ _ | refine blk_drew ?_ | refine blk_alloc ?_ _)); exact BK180.out) hb); have n2_ := Aside0.mk (below_step (by repeat (first | (with_reducible first | exact HB.out | apply below_alloc | apply pw_below_drewN | apply below_drew1 | refine below_set ?_ GE180.out) | exact HB.out)) hb); clear BK180; clear HB; have HO201 := n0_; have BK180 := n1_; have HB := n2_; clear n0_ n1_ n2_; (try clear hb); (try clear hb2); (try clear hk); (try clear hi); (try clear ho0); obtain ⟨Ao82, co82, eo82⟩ := Kd.R_slice HO201.out; subst eo82)))
       go_ret2
       exact ⟨by first | rfl | (simp [errW_none, errW_some] <;> rfl) | (refine congrArg (fun z_ => Ending.returned (Value.bool z_)) (decide_eq_decide.mpr ?_); unfold wrap64; omega) | (simp [*, errW_none, errW_some] <;> rfl), by repeat (first | (with_reducible first | exact HB.out | apply below_alloc | apply pw_below_drewN | apply below_drew1 | refine below_set ?_ GE180.out) | exact HB.out)⟩
     ·rw [if_neg c63] at H
      have c63b0 : (t198 == 0) = false := beq_eq_false_iff_ne.mpr c63
      have c63b1 : (t198 != 0) = true := bne_iff_ne.mpr c63
      simp only [Option.some.injEq, Prod.mk.injEq] at H
      obtain ⟨rfl, rfl⟩ := H
      have hcz83_0 : wc.cell? ⟨gb180, 0, none⟩ = some (.int .i64 a0_0) := (blk_cell BK180.out 0).trans rfl
      have hcz83_1 : wc.cell? ⟨gb180, 1, none⟩ = some (.string a0_1) := (blk_cell BK180.out 1).trans rfl
      have hcz83_2 : wc.cell? ⟨gb180, 2, none⟩ = some (.int .i64 a0_2) := (blk_cell BK180.out 2).trans rfl
      have hfz83_0 := blk_frozen BK180.out 0
      have hfz83_1 := blk_frozen BK180.out 1
      have hfz83_2 := blk_frozen BK180.out 2
      go_wp2_with (first | (go_at_call 12; (with_reducible refine (lex_Lex.calls kj1 a0_1 t197 t198 t199 _ A62.out).mono ?_); rintro e w84 ⟨v200, rfl, ho0, hb⟩; have n0_ := Aside0.mk (Kd.R_lower (Kd.R_newB ho0 (g := gb180) (o := .cells #[.int .i64 a0_0, .string a0_1, .int .i64 a0_2] 23 (0, 0)) (by (with_reducible repeat (first | refine blk_drewN ?_ _ | refine blk_drew ?_ | refine blk_alloc ?_ _)); exact BK180.out)) (below_size (by repeat (first | (with_reducible first | exact HB.out | apply below_alloc | apply pw_below_drewN | apply below_drew1 | refine below_set ?_ GE180.out) | exact HB.out)))); have n1_ := Aside0.mk (blk_below (g := gb180) (o := .cells #[.int .i64 a0_0, .string a0_1, .int .i64 a0_2] 23 (0, 0)) (by (with_reducible repeat (first | refine blk_drewN ?_ _ | refine blk_drew ?_ | refine blk_alloc ?_ _)); exact BK180.out) hb); have n2_ := Aside0.mk (below_step (by repeat (first | (with_reducible first | exact HB.out | apply below_alloc | apply pw_below_drewN | apply below_drew1 | refine below_set ?_ GE180.out) | exact HB.out)) hb); clear BK180; clear HB; have HO201 := n0_; have BK180 := n1_; have HB := n2_; clear n0_ n1_ n2_; (try clear hb); (try clear hb2); (try clear hk); (try clear hi); (try clear ho0)))
      repeat (go_quiet (first | (go_at_call 12; (with_reducible refine (lex_Lex.calls kj1 a0_1 t197 t198 t199 _ A62.out).mono ?_); rintro e w84 ⟨v200, rfl, ho0, hb⟩; have n0_ := Aside0.mk (Kd.R_lower (Kd.R_newB ho0 (g := gb180) (o := .cells #[.int .i64 a0_0, .string a0_1, .int .i64 a0_2] 23 (0, 0)) (by (with_reducible repeat (first | refine blk_drewN ?_ _ | refine blk_drew ?_ | refine blk_alloc ?_ _)); exact BK180.out)) (below_size (by repeat (first | (with_reducible first | exact HB.out | apply below_alloc | apply pw_below_drewN | apply below_drew1 | refine below_set ?_ GE180.out) | exact HB.out)))); have n1_ := Aside0.mk (blk_below (g := gb180) (o := .cells #[.int .i64 a0_0, .string a0_1, .int .i64 a0_2] 23 (0, 0)) (by (with_reducible repeat (first | refine blk_drewN ?_ _ | refine blk_drew ?_ | refine blk_alloc ?_ _)); exact BK180.out) hb); have n2_ := Aside0.mk (below_step (by repeat (first | (with_reducible first | exact HB.out | apply below_alloc | apply pw_below_drewN | apply below_drew1 | refine below_set ?_ GE180.out) | exact HB.out)) hb); clear BK180; clear HB; have HO201 := n0_; have BK180 := n1_; have HB := n2_; clear n0_ n1_ n2_; (try clear hb); (try clear hb2); (try clear hk); (try clear hi); (try clear ho0))); try go_wp2_with (first | (go_at_call 12; (with_reducible refine (lex_Lex.calls kj1 a0_1 t197 t198 t199 _ A62.out).mono ?_); rintro e w84 ⟨v200, rfl, ho0, hb⟩; have n0_ := Aside0.mk (Kd.R_lower (Kd.R_newB ho0 (g := gb180) (o := .cells #[.int .i64 a0_0, .string a0_1, .int .i64 a0_2] 23 (0, 0)) (by (with_reducible repeat (first | refine blk_drewN ?_ _ | refine blk_drew ?_ | refine blk_alloc ?_ _)); exact BK180.out)) (below_size (by repeat (first | (with_reducible first | exact HB.out | apply below_alloc | apply pw_below_drewN | apply below_drew1 | refine below_set ?_ GE180.out) | exact HB.out)))); have n1_ := Aside0.mk (blk_below (g := gb180) (o := .cells #[.int .i64 a0_0, .string a0_1, .int .i64 a0_2] 23 (0, 0)) (by (with_reducible repeat (first | refine blk_drewN ?_ _ | refine blk_drew ?_ | refine blk_alloc ?_ _)); exact BK180.out) hb); have n2_ := Aside0.mk (below_step (by repeat (first | (with_reducible first | exact HB.out | apply below_alloc | apply pw_below_drewN | apply below_drew1 | refine below_set ?_ GE180.out) | exact HB.out)) hb); clear BK180; clear HB; have HO201 := n0_; have BK180 := n1_; have HB := n2_; clear n0_ n1_ n2_; (try clear hb); (try clear hb2); (try clear hk); (try clear hi); (try clear ho0))))
      go_ret2
      exact ⟨by first | rfl | (simp [errW_none, errW_some] <;> rfl) | (refine congrArg (fun z_ => Ending.returned (Value.bool z_)) (decide_eq_decide.mpr ?_); unfold wrap64; omega) | (simp [*, errW_none, errW_some] <;> rfl), by repeat (first | (with_reducible first | exact HB.out | apply below_alloc | apply pw_below_drewN | apply below_drew1 | refine below_set ?_ GE180.out) | exact HB.out)⟩

/-! ### gudgeonlaw05_joined: function 11 -/
end Go.Proofs.YtnpmmhceiaedcaaDoor.PA
/- Written by a program of this session, wip/tools/patch_print.py, over the kit's print of the loaded functions. -/
namespace Go.Proofs.YtnpmmhceiaedcaaDoor.H
end Go.Proofs.YtnpmmhceiaedcaaDoor.H
namespace Go.Proofs.YtnpmmhceiaedcaaDoor.PA
open Go.RowKit Go.Proofs.YtnpmmhceiaedcaaDoorW.PrintWords Go.Proofs.YtnpmmhceiaedcaaDoorW.PrintLast Go.Proofs.YtnpmmhceiaedcaaDoorW.PrintMore Go.Proofs.YtnpmmhceiaedcaaDoor.H
attribute [local go_sem] max2_int min2_int max_two min_two max_three min_three max_four min_four   -- for this text's walks alone
set_option linter.unusedVariables false
set_option linter.unusedSimpArgs false

/-! ### gudgeonref05_Digit: function 19 -/
def gudgeonref05_Digit.f (a0 : Int) : Option (Bool) := if a0 ≥ 48 then (some (decide (a0 ≤ 57))) else (some false)
set_option maxHeartbeats 8000000 in
set_option maxRecDepth 100000 in
theorem gudgeonref05_Digit.calls (a0 : Int) (r : Bool) (w : World) (h : gudgeonref05_Digit.f a0 = some r) :
  Calls Tryd.prog 19 #[.int .u8 a0] w fun e w' => e = .returned (.bool r) ∧ Drawn0 w w' := by
 have H : (if a0 ≥ 48 then (some (decide (a0 ≤ 57))) else (some false)) = some r := h
 clear h
 by_cases c2 : a0 ≥ 48
 ·rw [if_pos c2] at H
  have c2b0 : decide (48 ≤ a0) = true := decide_eq_true c2
  clear c2
  obtain rfl := Option.some.inj H
  go_enter Tryd.func19, Tryd.ntmps19
  go_wp2
  go_ret
  exact ⟨by first | rfl | (simp; done) | (simp [*]; done) | (refine congrArg (Value.int _) ?_; omega) | (refine congrArg Value.bool ?_; generalize ByteArray.toList _ = z_; cases z_ <;> rfl), by repeat (first | exact Drawn0.refl _ | apply Drawn0.step)⟩
 ·rw [if_neg c2] at H
  have c2b0 : decide (48 ≤ a0) = false := decide_eq_false c2
  clear c2
  obtain rfl := Option.some.inj H
  go_enter Tryd.func19, Tryd.ntmps19
  go_wp2
  go_ret
  exact ⟨by first | rfl | (simp; done) | (simp [*]; done) | (refine congrArg (Value.int _) ?_; omega) | (refine congrArg Value.bool ?_; generalize ByteArray.toList _ = z_; cases z_ <;> rfl), by repeat (first | exact Drawn0.refl _ | apply Drawn0.step)⟩

/-! ### gudgeonref05_Name: function 20 -/
mutual
def gudgeonref05_Name.j0 : Nat → Int → Bool → Option (Bool)
 | 0, _, _ => none
 | k + 1, x0, x22 => if x22 = true then (some true) else (gudgeonref05_Name.l0 k x0 (⟨#[126, 33, 64, 36, 37, 94, 38, 42, 95, 45, 43, 61, 60, 62, 46, 63, 47]⟩ : ByteArray) 0)
def gudgeonref05_Name.l0 : Nat → Int → ByteArray → Int → Option (Bool)
 | 0, _, _, _ => none
 | k + 1, x0, x3, x4 => if x4 < (x3.size : Int) then (if 0 ≤ x4 then (if (bt x3 x4) = x0 then (some true) else (gudgeonref05_Name.l0 k x0 x3 (wrap64 (x4 + 1)))) else (none)) else (some false)
end
def gudgeonref05_Name.f (k : Nat) (a0 : Int) : Option (Bool) := if a0 ≥ 97 then (if a0 ≤ 122 then (gudgeonref05_Name.j0 k a0 true) else (if a0 ≥ 65 then (if a0 ≤ 90 then (gudgeonref05_Name.j0 k a0 true) else ((gudgeonref05_Digit.f a0).bind fun t240 => (gudgeonref05_Name.j0 k a0 t240))) else ((gudgeonref05_Digit.f a0).bind fun t241 => (gudgeonref05_Name.j0 k a0 t241)))) else (if a0 ≥ 65 then (if a0 ≤ 90 then (gudgeonref05_Name.j0 k a0 true) else ((gudgeonref05_Digit.f a0).bind fun t242 => (gudgeonref05_Name.j0 k a0 t242))) else ((gudgeonref05_Digit.f a0).bind fun t243 => (gudgeonref05_Name.j0 k a0 t243)))
theorem gudgeonref05_Name.mono_l : ∀ k, (∀ y0 y1, LeO (gudgeonref05_Name.j0 k y0 y1) (gudgeonref05_Name.j0 (k + 1) y0 y1)) ∧ (∀ y0 y1 y2, LeO (gudgeonref05_Name.l0 k y0 y1 y2) (gudgeonref05_Name.l0 (k + 1) y0 y1 y2))
 | 0 => ⟨fun _ _ r h => by simp [gudgeonref05_Name.j0] at h, fun _ _ _ r h => by simp [gudgeonref05_Name.l0] at h⟩
 | k + 1 => by
  obtain ⟨ih0, ih1⟩ := gudgeonref05_Name.mono_l k
  refine ⟨?_, ?_⟩
  ·intro y0 y1
   unfold gudgeonref05_Name.j0
   repeat' first
   | (with_reducible exact ih0 _ _)
   | (with_reducible exact ih1 _ _ _)
   | (with_reducible exact LeO.refl _)
   | (with_reducible exact LeO.none _)
   | (with_reducible refine LeO.ite ?_ ?_)
   | (with_reducible refine LeO.bind ?_ (fun _ => ?_))
   | exact ih0 _ _
   | exact ih1 _ _ _
   | exact LeO.none _
   | refine LeO.ite ?_ ?_
   | refine LeO.bind ?_ (fun _ => ?_)
  ·intro y0 y1 y2
   unfold gudgeonref05_Name.l0
   repeat' first
   | (with_reducible exact ih0 _ _)
   | (with_reducible exact ih1 _ _ _)
   | (with_reducible exact LeO.refl _)
   | (with_reducible exact LeO.none _)
   | (with_reducible refine LeO.ite ?_ ?_)
   | (with_reducible refine LeO.bind ?_ (fun _ => ?_))
   | exact ih0 _ _
   | exact ih1 _ _ _
   | exact LeO.none _
   | refine LeO.ite ?_ ?_
   | refine LeO.bind ?_ (fun _ => ?_)
theorem gudgeonref05_Name.mono : ∀ a0 k, LeO (gudgeonref05_Name.f k a0) (gudgeonref05_Name.f (k + 1) a0) := by
 intro a0 k
 obtain ⟨ih0, ih1⟩ := gudgeonref05_Name.mono_l k
 unfold gudgeonref05_Name.f
 repeat' first
   | (with_reducible exact ih0 _ _)
   | (with_reducible exact ih1 _ _ _)
   | (with_reducible exact LeO.refl _)
   | (with_reducible exact LeO.none _)
   | (with_reducible refine LeO.ite ?_ ?_)
   | (with_reducible refine LeO.bind ?_ (fun _ => ?_))
   | exact ih0 _ _
   | exact ih1 _ _ _
   | exact LeO.none _
   | refine LeO.ite ?_ ?_
   | refine LeO.bind ?_ (fun _ => ?_)
set_option maxHeartbeats 8000000 in
set_option maxRecDepth 100000 in
theorem gudgeonref05_Name.calls (k : Nat) (a0 : Int) (r : Bool) (w : World) (h : gudgeonref05_Name.f k a0 = some r) :
  Calls Tryd.prog 20 #[.int .u8 a0] w fun e w' => e = .returned (.bool r) ∧ Drawn0 w w' := by
 have H : (if a0 ≥ 97 then (if a0 ≤ 122 then (gudgeonref05_Name.j0 k a0 true) else (if a0 ≥ 65 then (if a0 ≤ 90 then (gudgeonref05_Name.j0 k a0 true) else ((gudgeonref05_Digit.f a0).bind fun t240 => (gudgeonref05_Name.j0 k a0 t240))) else ((gudgeonref05_Digit.f a0).bind fun t241 => (gudgeonref05_Name.j0 k a0 t241)))) else (if a0 ≥ 65 then (if a0 ≤ 90 then (gudgeonref05_Name.j0 k a0 true) else ((gudgeonref05_Digit.f a0).bind fun t242 => (gudgeonref05_Name.j0 k a0 t242))) else ((gudgeonref05_Digit.f a0).bind fun t243 => (gudgeonref05_Name.j0 k a0 t243)))) = some r := h
 clear h
 have HC2 := Aside0.mk H
 clear H
 go_enter Tryd.func20, Tryd.ntmps20
 go_upto_region 1 with (fail)
 go_cut [22] (fun v22 wc => ∃ (kq : Nat) (x22_1 : Bool), v22 = .bool x22_1 ∧ Aside0 (gudgeonref05_Name.j0 kq a0 x22_1 = some r) ∧ Aside0 (kq ≤ k) ∧ Drawn0 w wc)
 case first =>
  have H := HC2.out
  clear HC2
  by_cases c3 : a0 ≥ 97
  ·rw [if_pos c3] at H
   have c3b0 : decide (97 ≤ a0) = true := decide_eq_true c3
   clear c3
   (first | rw [c3b0] | rw [c3b1] | rw [c3b1] | (simp only [i64_w, i32_w]; rw [c3b0]) | skip)
   by_cases c4 : a0 ≤ 122
   ·rw [if_pos c4] at H
    have c4b0 : decide (a0 ≤ 122) = true := decide_eq_true c4
    clear c4
    have H' := Aside0.mk H
    clear H
    go_wp2
    go_meet
    case rel => exact ⟨_, (true), (by first | rfl | (simp; done) | (simp [*]; done) | (refine congrArg (Value.int _) ?_; omega) | (refine congrArg Value.bool ?_; generalize ByteArray.toList _ = z_; cases z_ <;> rfl)), H', ⟨by first | omega | exact Nat.le_refl _⟩, by repeat (first | exact Drawn0.refl _ | apply Drawn0.step)⟩
   ·rw [if_neg c4] at H
    have c4b0 : decide (a0 ≤ 122) = false := decide_eq_false c4
    clear c4
    by_cases c5 : a0 ≥ 65
    ·rw [if_pos c5] at H
     have c5b0 : decide (65 ≤ a0) = true := decide_eq_true c5
     clear c5
     by_cases c6 : a0 ≤ 90
     ·rw [if_pos c6] at H
      have c6b0 : decide (a0 ≤ 90) = true := decide_eq_true c6
      clear c6
      have H' := Aside0.mk H
      clear H
      go_wp2
      go_meet
      case rel => exact ⟨_, (true), (by first | rfl | (simp; done) | (simp [*]; done) | (refine congrArg (Value.int _) ?_; omega) | (refine congrArg Value.bool ?_; generalize ByteArray.toList _ = z_; cases z_ <;> rfl)), H', ⟨by first | omega | exact Nat.le_refl _⟩, by repeat (first | exact Drawn0.refl _ | apply Drawn0.step)⟩
     ·rw [if_neg c6] at H
      have c6b0 : decide (a0 ≤ 90) = false := decide_eq_false c6
      clear c6
      replace H := Option.bind_eq_some_iff.mp H
      obtain ⟨t240, A70, H⟩ := H
      replace H : (gudgeonref05_Name.j0 k a0 t240) = some r := H
      have A7 := Aside0.mk A70
      clear A70
      have H' := Aside0.mk H
      clear H
      go_wp2_with (first | (go_at_call 19; (with_reducible refine (gudgeonref05_Digit.calls a0 t240 _ A7.out).mono ?_); rintro e w' ⟨rfl, ⟨nd, rfl⟩⟩))
      go_meet
      case rel => exact ⟨_, (t240), (by first | rfl | (simp; done) | (simp [*]; done) | (refine congrArg (Value.int _) ?_; omega) | (refine congrArg Value.bool ?_; generalize ByteArray.toList _ = z_; cases z_ <;> rfl)), H', ⟨by first | omega | exact Nat.le_refl _⟩, by repeat (first | exact Drawn0.refl _ | apply Drawn0.step)⟩
    ·rw [if_neg c5] at H
     have c5b0 : decide (65 ≤ a0) = false := decide_eq_false c5
     clear c5
     replace H := Option.bind_eq_some_iff.mp H
     obtain ⟨t241, A80, H⟩ := H
     replace H : (gudgeonref05_Name.j0 k a0 t241) = some r := H
     have A8 := Aside0.mk A80
     clear A80
     have H' := Aside0.mk H
     clear H
     go_wp2_with (first | (go_at_call 19; (with_reducible refine (gudgeonref05_Digit.calls a0 t241 _ A8.out).mono ?_); rintro e w' ⟨rfl, ⟨nd, rfl⟩⟩))
     go_meet
     case rel => exact ⟨_, (t241), (by first | rfl | (simp; done) | (simp [*]; done) | (refine congrArg (Value.int _) ?_; omega) | (refine congrArg Value.bool ?_; generalize ByteArray.toList _ = z_; cases z_ <;> rfl)), H', ⟨by first | omega | exact Nat.le_refl _⟩, by repeat (first | exact Drawn0.refl _ | apply Drawn0.step)⟩
  ·rw [if_neg c3] at H
   have c3b0 : decide (97 ≤ a0) = false := decide_eq_false c3
   clear c3
   (first | rw [c3b0] | rw [c3b1] | rw [c3b1] | (simp only [i64_w, i32_w]; rw [c3b0]) | skip)
   by_cases c9 : a0 ≥ 65
   ·rw [if_pos c9] at H
    have c9b0 : decide (65 ≤ a0) = true := decide_eq_true c9
    clear c9
    by_cases c10 : a0 ≤ 90
    ·rw [if_pos c10] at H
     have c10b0 : decide (a0 ≤ 90) = true := decide_eq_true c10
     clear c10
     have H' := Aside0.mk H
     clear H
     go_wp2
     go_meet
     case rel => exact ⟨_, (true), (by first | rfl | (simp; done) | (simp [*]; done) | (refine congrArg (Value.int _) ?_; omega) | (refine congrArg Value.bool ?_; generalize ByteArray.toList _ = z_; cases z_ <;> rfl)), H', ⟨by first | omega | exact Nat.le_refl _⟩, by repeat (first | exact Drawn0.refl _ | apply Drawn0.step)⟩
    ·rw [if_neg c10] at H
     have c10b0 : decide (a0 ≤ 90) = false := decide_eq_false c10
     clear c10
     replace H := Option.bind_eq_some_iff.mp H
     obtain ⟨t242, A110, H⟩ := H
     replace H : (gudgeonref05_Name.j0 k a0 t242) = some r := H
     have A11 := Aside0.mk A110
     clear A110
     have H' := Aside0.mk H
     clear H
     go_wp2_with (first | (go_at_call 19; (with_reducible refine (gudgeonref05_Digit.calls a0 t242 _ A11.out).mono ?_); rintro e w' ⟨rfl, ⟨nd, rfl⟩⟩))
     go_meet
     case rel => exact ⟨_, (t242), (by first | rfl | (simp; done) | (simp [*]; done) | (refine congrArg (Value.int _) ?_; omega) | (refine congrArg Value.bool ?_; generalize ByteArray.toList _ = z_; cases z_ <;> rfl)), H', ⟨by first | omega | exact Nat.le_refl _⟩, by repeat (first | exact Drawn0.refl _ | apply Drawn0.step)⟩
   ·rw [if_neg c9] at H
    have c9b0 : decide (65 ≤ a0) = false := decide_eq_false c9
    clear c9
    replace H := Option.bind_eq_some_iff.mp H
    obtain ⟨t243, A120, H⟩ := H
    replace H : (gudgeonref05_Name.j0 k a0 t243) = some r := H
    have A12 := Aside0.mk A120
    clear A120
    have H' := Aside0.mk H
    clear H
    go_wp2_with (first | (go_at_call 19; (with_reducible refine (gudgeonref05_Digit.calls a0 t243 _ A12.out).mono ?_); rintro e w' ⟨rfl, ⟨nd, rfl⟩⟩))
    go_meet
    case rel => exact ⟨_, (t243), (by first | rfl | (simp; done) | (simp [*]; done) | (refine congrArg (Value.int _) ?_; omega) | (refine congrArg Value.bool ?_; generalize ByteArray.toList _ = z_; cases z_ <;> rfl)), H', ⟨by first | omega | exact Nat.le_refl _⟩, by repeat (first | exact Drawn0.refl _ | apply Drawn0.step)⟩
 case rest =>
  clear HC2
  try clear c1
  try clear c2
  try clear p2
  try clear c3
  try clear c3b0
  try clear c4
  try clear c4b0
  try clear c5
  try clear c5b0
  try clear c6
  try clear c6b0
  try clear c9
  try clear c9b0
  try clear c10
  try clear c10b0
  obtain ⟨kq, x22_1, rfl, HA, HJ1, ⟨mc1, rfl⟩⟩ := hcut
  cases kq with
  | zero => exact absurd HA.out (by simp [gudgeonref05_Name.j0])
  | succ kj1 =>
   have H := HA.out
   clear HA
   simp only [gudgeonref05_Name.j0] at H
   by_cases c13 : x22_1 = true
   ·subst c13
    have H1 : (some true) = some r := by rw [if_pos rfl] at H; exact H
    clear H
    have H := H1
    clear H1
    obtain rfl := Option.some.inj H
    go_wp2
    go_ret
    exact ⟨by first | rfl | (simp; done) | (simp [*]; done) | (refine congrArg (Value.int _) ?_; omega) | (refine congrArg Value.bool ?_; generalize ByteArray.toList _ = z_; cases z_ <;> rfl), by repeat (first | exact Drawn0.refl _ | apply Drawn0.step)⟩
   ·replace c13 := Bool.eq_false_iff.mpr c13
    subst c13
    have H1 : (gudgeonref05_Name.l0 kj1 a0 (⟨#[126, 33, 64, 36, 37, 94, 38, 42, 95, 45, 43, 61, 60, 62, 46, 63, 47]⟩ : ByteArray) 0) = some r := by rw [if_neg (show ¬ (false = true) by decide)] at H; exact H
    clear H
    have H := H1
    clear H1
    have H' := Aside0.mk H
    clear H
    go_wp2
    go_loopg [4] kj1 (fun kq v4 w' => ∃ (x4_2 : Int), v4 = .int .i64 x4_2 ∧ Aside0 (gudgeonref05_Name.l0 kq a0 (⟨#[126, 33, 64, 36, 37, 94, 38, 42, 95, 45, 43, 61, 60, 62, 46, 63, 47]⟩ : ByteArray) x4_2 = some r) ∧ Aside0 (kq ≤ kj1) ∧ Drawn0 w w')
    case atStart => exact ⟨(0), (by first | rfl | (simp; done) | (simp [*]; done) | (refine congrArg (Value.int _) ?_; omega) | (refine congrArg Value.bool ?_; generalize ByteArray.toList _ = z_; cases z_ <;> rfl)), H', ⟨Nat.le_refl _⟩, by repeat (first | exact Drawn0.refl _ | apply Drawn0.step)⟩
    case round =>
     clear H'
     try clear c1
     try clear c2
     try clear p2
     try clear c3
     try clear c3b0
     try clear c4
     try clear c4b0
     try clear c5
     try clear c5b0
     try clear c6
     try clear c6b0
     try clear c9
     try clear c9b0
     try clear c10
     try clear c10b0
     try clear c13
     try clear p2
     obtain ⟨x4_2, rfl, HA, HK2, ⟨m2, rfl⟩⟩ := hrel
     cases gk with
     | zero => exact absurd HA.out (by simp [gudgeonref05_Name.l0])
     | succ k2 =>
      have H := HA.out
      clear HA
      simp only [gudgeonref05_Name.l0] at H
      by_cases c14 : x4_2 < ((⟨#[126, 33, 64, 36, 37, 94, 38, 42, 95, 45, 43, 61, 60, 62, 46, 63, 47]⟩ : ByteArray).size : Int)
      ·rw [if_pos c14] at H
       have c14b0 : decide (x4_2 < ((⟨#[126, 33, 64, 36, 37, 94, 38, 42, 95, 45, 43, 61, 60, 62, 46, 63, 47]⟩ : ByteArray).size : Int)) = true := decide_eq_true c14
       have c14b0n : decide (x4_2 < (17 : Int)) = true := c14b0
       clear c14
       by_cases c15 : 0 ≤ x4_2
       ·rw [if_pos c15] at H
        have c15b0 : decide (0 ≤ x4_2) = true := decide_eq_true c15
        clear c15
        by_cases c17 : (bt (⟨#[126, 33, 64, 36, 37, 94, 38, 42, 95, 45, 43, 61, 60, 62, 46, 63, 47]⟩ : ByteArray) x4_2) = a0
        ·rw [if_pos c17] at H
         have c17b0 : ((bt (⟨#[126, 33, 64, 36, 37, 94, 38, 42, 95, 45, 43, 61, 60, 62, 46, 63, 47]⟩ : ByteArray) x4_2) == a0) = true := beq_iff_eq.mpr c17
         have c17b1 : ((bt (⟨#[126, 33, 64, 36, 37, 94, 38, 42, 95, 45, 43, 61, 60, 62, 46, 63, 47]⟩ : ByteArray) x4_2) != a0) = false := bne_eq_false_iff_eq.mpr c17
         clear c17
         obtain rfl := Option.some.inj H
         have p16 : 0 ≤ (x4_2 : Int) := of_decide_eq_true (by first | (with_reducible assumption) | assumption)
         have q16 : x4_2 < (17 : Int) := of_decide_eq_true (by first | (with_reducible assumption) | assumption)
         have hx16 := bt_at (⟨#[126, 33, 64, 36, 37, 94, 38, 42, 95, 45, 43, 61, 60, 62, 46, 63, 47]⟩ : ByteArray) x4_2
         replace p16 := eq_true p16
         replace q16 := eq_true q16
         go_wp2
         go_ret
         exact ⟨by first | rfl | (simp; done) | (simp [*]; done) | (refine congrArg (Value.int _) ?_; omega) | (refine congrArg Value.bool ?_; generalize ByteArray.toList _ = z_; cases z_ <;> rfl), by repeat (first | exact Drawn0.refl _ | apply Drawn0.step)⟩
        ·rw [if_neg c17] at H
         have c17b0 : ((bt (⟨#[126, 33, 64, 36, 37, 94, 38, 42, 95, 45, 43, 61, 60, 62, 46, 63, 47]⟩ : ByteArray) x4_2) == a0) = false := beq_eq_false_iff_ne.mpr c17
         have c17b1 : ((bt (⟨#[126, 33, 64, 36, 37, 94, 38, 42, 95, 45, 43, 61, 60, 62, 46, 63, 47]⟩ : ByteArray) x4_2) != a0) = true := bne_iff_ne.mpr c17
         have H' := Aside0.mk H
         clear H
         have p16 : 0 ≤ (x4_2 : Int) := of_decide_eq_true (by first | (with_reducible assumption) | assumption)
         have q16 : x4_2 < (17 : Int) := of_decide_eq_true (by first | (with_reducible assumption) | assumption)
         have hx16 := bt_at (⟨#[126, 33, 64, 36, 37, 94, 38, 42, 95, 45, 43, 61, 60, 62, 46, 63, 47]⟩ : ByteArray) x4_2
         replace p16 := eq_true p16
         replace q16 := eq_true q16
         go_wp2
         go_roundg k2
         case measure => have := HJ1.out; have := HK2.out; omega
         case rel => exact ⟨(wrap64 (x4_2 + 1)), (by first | rfl | (simp; done) | (simp [*]; done) | (refine congrArg (Value.int _) ?_; omega) | (refine congrArg Value.bool ?_; generalize ByteArray.toList _ = z_; cases z_ <;> rfl)), H', ⟨by have := HJ1.out; have := HK2.out; omega⟩, by repeat (first | exact Drawn0.refl _ | apply Drawn0.step)⟩
       ·rw [if_neg c15] at H
        exact absurd H (by simp)
      ·rw [if_neg c14] at H
       have c14b0 : decide (x4_2 < ((⟨#[126, 33, 64, 36, 37, 94, 38, 42, 95, 45, 43, 61, 60, 62, 46, 63, 47]⟩ : ByteArray).size : Int)) = false := decide_eq_false c14
       have c14b0n : decide (x4_2 < (17 : Int)) = false := c14b0
       clear c14
       obtain rfl := Option.some.inj H
       go_wp2
       go_ret
       exact ⟨by first | rfl | (simp; done) | (simp [*]; done) | (refine congrArg (Value.int _) ?_; omega) | (refine congrArg Value.bool ?_; generalize ByteArray.toList _ = z_; cases z_ <;> rfl), by repeat (first | exact Drawn0.refl _ | apply Drawn0.step)⟩

/-! ### gudgeonref05_Simple: function 10 -/
mutual
def gudgeonref05_Simple.j0 : Nat → ByteArray → Bool → Option (Bool)
 | 0, _, _ => none
 | k + 1, x0, x10 => if x10 = true then (some false) else (gudgeonref05_Simple.l0 k x0 0)
def gudgeonref05_Simple.l0 : Nat → ByteArray → Int → Option (Bool)
 | 0, _, _ => none
 | k + 1, x0, x3 => if x3 < (x0.size : Int) then (if 0 ≤ x3 then ((gudgeonref05_Name.f k (bt x0 x3)).bind fun t245 => (if t245 = true then (gudgeonref05_Simple.l0 k x0 (wrap64 (x3 + 1))) else (some false))) else (none)) else (some true)
end
def gudgeonref05_Simple.f (k : Nat) (a0 : ByteArray) : Option (Bool) := if a0.toList = ([] : List UInt8) then (gudgeonref05_Simple.j0 k a0 true) else (if 0 < (a0.size : Int) then ((gudgeonref05_Digit.f (bt a0 0)).bind fun t244 => (gudgeonref05_Simple.j0 k a0 t244)) else (none))
set_option maxHeartbeats 8000000 in
set_option maxRecDepth 100000 in
theorem gudgeonref05_Simple.calls (k : Nat) (a0 : ByteArray) (r : Bool) (w : World) (h : gudgeonref05_Simple.f k a0 = some r) :
  Calls Tryd.prog 10 #[.string a0] w fun e w' => e = .returned (.bool r) ∧ Drawn0 w w' := by
 have H : (if a0.toList = ([] : List UInt8) then (gudgeonref05_Simple.j0 k a0 true) else (if 0 < (a0.size : Int) then ((gudgeonref05_Digit.f (bt a0 0)).bind fun t244 => (gudgeonref05_Simple.j0 k a0 t244)) else (none))) = some r := h
 clear h
 have HC2 := Aside0.mk H
 clear H
 go_enter Tryd.func10, Tryd.ntmps10
 go_upto_region 1 with (fail)
 go_cut [10] (fun v10 wc => ∃ (kq : Nat) (x10_1 : Bool), v10 = .bool x10_1 ∧ Aside0 (gudgeonref05_Simple.j0 kq a0 x10_1 = some r) ∧ Aside0 (kq ≤ k) ∧ Drawn0 w wc)
 case first =>
  have H := HC2.out
  clear HC2
  by_cases c3 : a0.toList = ([] : List UInt8)
  ·rw [if_pos c3] at H
   have c3b0 : (a0.toList == ([] : List UInt8)) = true := beq_iff_eq.mpr c3
   have c3b1 : (a0.toList != ([] : List UInt8)) = false := bne_eq_false_iff_eq.mpr c3
   clear c3
   (first | rw [c3b0] | rw [c3b1] | rw [c3b1] | (simp only [i64_w, i32_w]; rw [c3b0]) | skip)
   have H' := Aside0.mk H
   clear H
   go_wp2
   go_meet
   case rel => exact ⟨_, (true), (by first | rfl | (simp; done) | (simp [*]; done) | (refine congrArg (Value.int _) ?_; omega) | (refine congrArg Value.bool ?_; generalize ByteArray.toList _ = z_; cases z_ <;> rfl)), H', ⟨by first | omega | exact Nat.le_refl _⟩, by repeat (first | exact Drawn0.refl _ | apply Drawn0.step)⟩
  ·rw [if_neg c3] at H
   have c3b0 : (a0.toList == ([] : List UInt8)) = false := beq_eq_false_iff_ne.mpr c3
   have c3b1 : (a0.toList != ([] : List UInt8)) = true := bne_iff_ne.mpr c3
   (first | rw [c3b0] | rw [c3b1] | rw [c3b1] | (simp only [i64_w, i32_w]; rw [c3b0]) | skip)
   by_cases c4 : 0 < (a0.size : Int)
   ·rw [if_pos c4] at H
    have c4b0 : decide (0 < (a0.size : Int)) = true := decide_eq_true c4
    have c4b1 : decide (0 < a0.size) = true := decide_eq_true (by omega)
    clear c4
    replace H := Option.bind_eq_some_iff.mp H
    obtain ⟨t244, A60, H⟩ := H
    replace H : (gudgeonref05_Simple.j0 k a0 t244) = some r := H
    have A6 := Aside0.mk A60
    clear A60
    have H' := Aside0.mk H
    clear H
    have p5 : 0 ≤ (0 : Int) := (by omega)
    have q5 : 0 < a0.size := (by have : (0 : Int) < (a0.size : Int) := of_decide_eq_true (by first | (with_reducible assumption) | assumption); omega)
    have hx5 : ∀ h : 0 < a0.size, ((a0[0]'h).toNat : Int) = bt a0 0 := bt_at a0 0
    clear p5
    have qi5 : (0 < (a0.size : Int)) = True := eq_true (of_decide_eq_true (by first | (with_reducible assumption) | assumption))
    replace q5 := eq_true q5
    go_wp2_with (first | (go_at_call 19; (with_reducible refine (gudgeonref05_Digit.calls (bt a0 0) t244 _ A6.out).mono ?_); rintro e w' ⟨rfl, ⟨nd, rfl⟩⟩))
    go_meet
    case rel => exact ⟨_, (t244), (by first | rfl | (simp; done) | (simp [*]; done) | (refine congrArg (Value.int _) ?_; omega) | (refine congrArg Value.bool ?_; generalize ByteArray.toList _ = z_; cases z_ <;> rfl)), H', ⟨by first | omega | exact Nat.le_refl _⟩, by repeat (first | exact Drawn0.refl _ | apply Drawn0.step)⟩
   ·rw [if_neg c4] at H
    exact absurd H (by simp)
 case rest =>
  clear HC2
  try clear c1
  try clear p2
  try clear c3
  try clear c3b0
  try clear c3b1
  try clear c4
  try clear c4b0
  try clear c4b1
  try clear p5
  try clear q5
  try clear hx5
  try clear qi5
  try clear p5
  try clear q5
  obtain ⟨kq, x10_1, rfl, HA, HJ1, ⟨mc1, rfl⟩⟩ := hcut
  cases kq with
  | zero => exact absurd HA.out (by simp [gudgeonref05_Simple.j0])
  | succ kj1 =>
   have H := HA.out
   clear HA
   simp only [gudgeonref05_Simple.j0] at H
   by_cases c7 : x10_1 = true
   ·subst c7
    have H1 : (some false) = some r := by rw [if_pos rfl] at H; exact H
    clear H
    have H := H1
    clear H1
    obtain rfl := Option.some.inj H
    go_wp2
    go_ret
    exact ⟨by first | rfl | (simp; done) | (simp [*]; done) | (refine congrArg (Value.int _) ?_; omega) | (refine congrArg Value.bool ?_; generalize ByteArray.toList _ = z_; cases z_ <;> rfl), by repeat (first | exact Drawn0.refl _ | apply Drawn0.step)⟩
   ·replace c7 := Bool.eq_false_iff.mpr c7
    subst c7
    have H1 : (gudgeonref05_Simple.l0 kj1 a0 0) = some r := by rw [if_neg (show ¬ (false = true) by decide)] at H; exact H
    clear H
    have H := H1
    clear H1
    have H' := Aside0.mk H
    clear H
    go_wp2
    go_loopg [3] kj1 (fun kq v3 w' => ∃ (x3_2 : Int), v3 = .int .i64 x3_2 ∧ Aside0 (gudgeonref05_Simple.l0 kq a0 x3_2 = some r) ∧ Aside0 (kq ≤ kj1) ∧ Drawn0 w w')
    case atStart => exact ⟨(0), (by first | rfl | (simp; done) | (simp [*]; done) | (refine congrArg (Value.int _) ?_; omega) | (refine congrArg Value.bool ?_; generalize ByteArray.toList _ = z_; cases z_ <;> rfl)), H', ⟨Nat.le_refl _⟩, by repeat (first | exact Drawn0.refl _ | apply Drawn0.step)⟩
    case round =>
     clear H'
     try clear c1
     try clear p2
     try clear c3
     try clear c3b0
     try clear c3b1
     try clear c4
     try clear c4b0
     try clear c4b1
     try clear p5
     try clear q5
     try clear hx5
     try clear qi5
     try clear c7
     try clear p2
     try clear p5
     try clear q5
     obtain ⟨x3_2, rfl, HA, HK2, ⟨m2, rfl⟩⟩ := hrel
     cases gk with
     | zero => exact absurd HA.out (by simp [gudgeonref05_Simple.l0])
     | succ k2 =>
      have H := HA.out
      clear HA
      simp only [gudgeonref05_Simple.l0] at H
      by_cases c8 : x3_2 < (a0.size : Int)
      ·rw [if_pos c8] at H
       have c8b0 : decide (x3_2 < (a0.size : Int)) = true := decide_eq_true c8
       clear c8
       by_cases c9 : 0 ≤ x3_2
       ·rw [if_pos c9] at H
        have c9b0 : decide (0 ≤ x3_2) = true := decide_eq_true c9
        clear c9
        replace H := Option.bind_eq_some_iff.mp H
        obtain ⟨t245, A110, H⟩ := H
        replace H : (if t245 = true then (gudgeonref05_Simple.l0 k2 a0 (wrap64 (x3_2 + 1))) else (some false)) = some r := H
        have A11 := Aside0.mk A110
        clear A110
        by_cases c12 : t245 = true
        ·subst c12
         have H1 : (gudgeonref05_Simple.l0 k2 a0 (wrap64 (x3_2 + 1))) = some r := by rw [if_pos rfl] at H; exact H
         clear H
         have H := H1
         clear H1
         have H' := Aside0.mk H
         clear H
         have p10 : 0 ≤ (x3_2 : Int) := of_decide_eq_true (by first | (with_reducible assumption) | assumption)
         have q10 : x3_2 < (a0.size : Int) := of_decide_eq_true (by first | (with_reducible assumption) | assumption)
         have hx10 := bt_at a0 x3_2
         replace p10 := eq_true p10
         replace q10 := eq_true q10
         go_wp2_with (first | ((with_reducible refine gate_callee (f := 20) rfl ?_); refine goesL_ (some 20) rfl rfl Tryd.func20 (by kernel_rfl) rfl #[.int .u8 (bt a0 x3_2)] rfl (by (try simp only [List.map_toArray, List.map_cons, List.map_nil]); first | done | rfl | (simp only [List.length_drop, List.length_take]; rfl)) ?_; (with_reducible refine (gudgeonref05_Name.calls k2 (bt a0 x3_2) true _ A11.out).mono ?_); rintro e w' ⟨rfl, ⟨nd, rfl⟩⟩; refine ⟨_, rfl, ?_⟩))
         go_roundg k2
         case measure => have := HJ1.out; have := HK2.out; omega
         case rel => exact ⟨(wrap64 (x3_2 + 1)), (by first | rfl | (simp; done) | (simp [*]; done) | (refine congrArg (Value.int _) ?_; omega) | (refine congrArg Value.bool ?_; generalize ByteArray.toList _ = z_; cases z_ <;> rfl)), H', ⟨by have := HJ1.out; have := HK2.out; omega⟩, by repeat (first | exact Drawn0.refl _ | apply Drawn0.step)⟩
        ·replace c12 := Bool.eq_false_iff.mpr c12
         subst c12
         have H1 : (some false) = some r := by rw [if_neg (show ¬ (false = true) by decide)] at H; exact H
         clear H
         have H := H1
         clear H1
         obtain rfl := Option.some.inj H
         have p10 : 0 ≤ (x3_2 : Int) := of_decide_eq_true (by first | (with_reducible assumption) | assumption)
         have q10 : x3_2 < (a0.size : Int) := of_decide_eq_true (by first | (with_reducible assumption) | assumption)
         have hx10 := bt_at a0 x3_2
         replace p10 := eq_true p10
         replace q10 := eq_true q10
         go_wp2_with (first | ((with_reducible refine gate_callee (f := 20) rfl ?_); refine goesL_ (some 20) rfl rfl Tryd.func20 (by kernel_rfl) rfl #[.int .u8 (bt a0 x3_2)] rfl (by (try simp only [List.map_toArray, List.map_cons, List.map_nil]); first | done | rfl | (simp only [List.length_drop, List.length_take]; rfl)) ?_; (with_reducible refine (gudgeonref05_Name.calls k2 (bt a0 x3_2) false _ A11.out).mono ?_); rintro e w' ⟨rfl, ⟨nd, rfl⟩⟩; refine ⟨_, rfl, ?_⟩))
         go_ret
         exact ⟨by first | rfl | (simp; done) | (simp [*]; done) | (refine congrArg (Value.int _) ?_; omega) | (refine congrArg Value.bool ?_; generalize ByteArray.toList _ = z_; cases z_ <;> rfl), by repeat (first | exact Drawn0.refl _ | apply Drawn0.step)⟩
       ·rw [if_neg c9] at H
        exact absurd H (by simp)
      ·rw [if_neg c8] at H
       have c8b0 : decide (x3_2 < (a0.size : Int)) = false := decide_eq_false c8
       clear c8
       obtain rfl := Option.some.inj H
       go_wp2
       go_ret
       exact ⟨by first | rfl | (simp; done) | (simp [*]; done) | (refine congrArg (Value.int _) ?_; omega) | (refine congrArg Value.bool ?_; generalize ByteArray.toList _ = z_; cases z_ <;> rfl), by repeat (first | exact Drawn0.refl _ | apply Drawn0.step)⟩

/-! ### gudgeonref05_Blank: function 41 -/
def gudgeonref05_Blank.f (a0 : Int) : Option (Bool) := if a0 = 9 then (some true) else (if a0 = 10 then (some true) else (if a0 = 13 then (some true) else (some (a0 == 32))))
set_option maxHeartbeats 8000000 in
set_option maxRecDepth 100000 in
theorem gudgeonref05_Blank.calls (a0 : Int) (r : Bool) (w : World) (h : gudgeonref05_Blank.f a0 = some r) :
  Calls Tryd.prog 41 #[.int .u8 a0] w fun e w' => e = .returned (.bool r) ∧ Drawn0 w w' := by
 have H : (if a0 = 9 then (some true) else (if a0 = 10 then (some true) else (if a0 = 13 then (some true) else (some (a0 == 32))))) = some r := h
 clear h
 by_cases c2 : a0 = 9
 ·rw [if_pos c2] at H
  have c2b0 : (a0 == 9) = true := beq_iff_eq.mpr c2
  have c2b1 : (a0 != 9) = false := bne_eq_false_iff_eq.mpr c2
  clear c2
  obtain rfl := Option.some.inj H
  go_enter Tryd.func41, Tryd.ntmps41
  go_wp2
  go_ret
  exact ⟨by first | rfl | (simp; done) | (simp [*]; done) | (refine congrArg (Value.int _) ?_; omega) | (refine congrArg Value.bool ?_; generalize ByteArray.toList _ = z_; cases z_ <;> rfl), by repeat (first | exact Drawn0.refl _ | apply Drawn0.step)⟩
 ·rw [if_neg c2] at H
  have c2b0 : (a0 == 9) = false := beq_eq_false_iff_ne.mpr c2
  have c2b1 : (a0 != 9) = true := bne_iff_ne.mpr c2
  by_cases c3 : a0 = 10
  ·rw [if_pos c3] at H
   have c3b0 : (a0 == 10) = true := beq_iff_eq.mpr c3
   have c3b1 : (a0 != 10) = false := bne_eq_false_iff_eq.mpr c3
   clear c3
   obtain rfl := Option.some.inj H
   go_enter Tryd.func41, Tryd.ntmps41
   go_wp2
   go_ret
   exact ⟨by first | rfl | (simp; done) | (simp [*]; done) | (refine congrArg (Value.int _) ?_; omega) | (refine congrArg Value.bool ?_; generalize ByteArray.toList _ = z_; cases z_ <;> rfl), by repeat (first | exact Drawn0.refl _ | apply Drawn0.step)⟩
  ·rw [if_neg c3] at H
   have c3b0 : (a0 == 10) = false := beq_eq_false_iff_ne.mpr c3
   have c3b1 : (a0 != 10) = true := bne_iff_ne.mpr c3
   by_cases c4 : a0 = 13
   ·rw [if_pos c4] at H
    have c4b0 : (a0 == 13) = true := beq_iff_eq.mpr c4
    have c4b1 : (a0 != 13) = false := bne_eq_false_iff_eq.mpr c4
    clear c4
    obtain rfl := Option.some.inj H
    go_enter Tryd.func41, Tryd.ntmps41
    go_wp2
    go_ret
    exact ⟨by first | rfl | (simp; done) | (simp [*]; done) | (refine congrArg (Value.int _) ?_; omega) | (refine congrArg Value.bool ?_; generalize ByteArray.toList _ = z_; cases z_ <;> rfl), by repeat (first | exact Drawn0.refl _ | apply Drawn0.step)⟩
   ·rw [if_neg c4] at H
    have c4b0 : (a0 == 13) = false := beq_eq_false_iff_ne.mpr c4
    have c4b1 : (a0 != 13) = true := bne_iff_ne.mpr c4
    obtain rfl := Option.some.inj H
    go_enter Tryd.func41, Tryd.ntmps41
    go_wp2
    go_ret
    exact ⟨by first | rfl | (simp; done) | (simp [*]; done) | (refine congrArg (Value.int _) ?_; omega) | (refine congrArg Value.bool ?_; generalize ByteArray.toList _ = z_; cases z_ <;> rfl), by repeat (first | exact Drawn0.refl _ | apply Drawn0.step)⟩

/-! ### gudgeonref05_good: function 25 -/
def gudgeonref05_good.f (a0 : Int) : Option (Bool) := (gudgeonref05_Blank.f a0).bind fun t246 => (if t246 = true then (some true) else (if a0 ≥ 33 then (some (decide (a0 ≤ 126))) else (some false)))
set_option maxHeartbeats 8000000 in
set_option maxRecDepth 100000 in
theorem gudgeonref05_good.calls (a0 : Int) (r : Bool) (w : World) (h : gudgeonref05_good.f a0 = some r) :
  Calls Tryd.prog 25 #[.int .u8 a0] w fun e w' => e = .returned (.bool r) ∧ Drawn0 w w' := by
 have H : ((gudgeonref05_Blank.f a0).bind fun t246 => (if t246 = true then (some true) else (if a0 ≥ 33 then (some (decide (a0 ≤ 126))) else (some false)))) = some r := h
 clear h
 replace H := Option.bind_eq_some_iff.mp H
 obtain ⟨t246, A20, H⟩ := H
 replace H : (if t246 = true then (some true) else (if a0 ≥ 33 then (some (decide (a0 ≤ 126))) else (some false))) = some r := H
 have A2 := Aside0.mk A20
 clear A20
 by_cases c3 : t246 = true
 ·subst c3
  have H1 : (some true) = some r := by rw [if_pos rfl] at H; exact H
  clear H
  have H := H1
  clear H1
  obtain rfl := Option.some.inj H
  go_enter Tryd.func25, Tryd.ntmps25
  go_wp2_with (first | ((with_reducible refine gate_callee (f := 41) rfl ?_); refine goesL_ (some 4) rfl rfl Tryd.func41 (by kernel_rfl) rfl #[.int .u8 a0] rfl (by (try simp only [List.map_toArray, List.map_cons, List.map_nil]); first | done | rfl | (simp only [List.length_drop, List.length_take]; rfl)) ?_; (with_reducible refine (gudgeonref05_Blank.calls a0 true _ A2.out).mono ?_); rintro e w' ⟨rfl, ⟨nd, rfl⟩⟩; refine ⟨_, rfl, ?_⟩))
  go_ret
  exact ⟨by first | rfl | (simp; done) | (simp [*]; done) | (refine congrArg (Value.int _) ?_; omega) | (refine congrArg Value.bool ?_; generalize ByteArray.toList _ = z_; cases z_ <;> rfl), by repeat (first | exact Drawn0.refl _ | apply Drawn0.step)⟩
 ·replace c3 := Bool.eq_false_iff.mpr c3
  subst c3
  have H1 : (if a0 ≥ 33 then (some (decide (a0 ≤ 126))) else (some false)) = some r := by rw [if_neg (show ¬ (false = true) by decide)] at H; exact H
  clear H
  have H := H1
  clear H1
  by_cases c4 : a0 ≥ 33
  ·rw [if_pos c4] at H
   have c4b0 : decide (33 ≤ a0) = true := decide_eq_true c4
   clear c4
   obtain rfl := Option.some.inj H
   go_enter Tryd.func25, Tryd.ntmps25
   go_wp2_with (first | ((with_reducible refine gate_callee (f := 41) rfl ?_); refine goesL_ (some 4) rfl rfl Tryd.func41 (by kernel_rfl) rfl #[.int .u8 a0] rfl (by (try simp only [List.map_toArray, List.map_cons, List.map_nil]); first | done | rfl | (simp only [List.length_drop, List.length_take]; rfl)) ?_; (with_reducible refine (gudgeonref05_Blank.calls a0 false _ A2.out).mono ?_); rintro e w' ⟨rfl, ⟨nd, rfl⟩⟩; refine ⟨_, rfl, ?_⟩))
   go_ret
   exact ⟨by first | rfl | (simp; done) | (simp [*]; done) | (refine congrArg (Value.int _) ?_; omega) | (refine congrArg Value.bool ?_; generalize ByteArray.toList _ = z_; cases z_ <;> rfl), by repeat (first | exact Drawn0.refl _ | apply Drawn0.step)⟩
  ·rw [if_neg c4] at H
   have c4b0 : decide (33 ≤ a0) = false := decide_eq_false c4
   clear c4
   obtain rfl := Option.some.inj H
   go_enter Tryd.func25, Tryd.ntmps25
   go_wp2_with (first | ((with_reducible refine gate_callee (f := 41) rfl ?_); refine goesL_ (some 4) rfl rfl Tryd.func41 (by kernel_rfl) rfl #[.int .u8 a0] rfl (by (try simp only [List.map_toArray, List.map_cons, List.map_nil]); first | done | rfl | (simp only [List.length_drop, List.length_take]; rfl)) ?_; (with_reducible refine (gudgeonref05_Blank.calls a0 false _ A2.out).mono ?_); rintro e w' ⟨rfl, ⟨nd, rfl⟩⟩; refine ⟨_, rfl, ?_⟩))
   go_ret
   exact ⟨by first | rfl | (simp; done) | (simp [*]; done) | (refine congrArg (Value.int _) ?_; omega) | (refine congrArg Value.bool ?_; generalize ByteArray.toList _ = z_; cases z_ <;> rfl), by repeat (first | exact Drawn0.refl _ | apply Drawn0.step)⟩

/-! ### gudgeonref05_start: function 24 -/
mutual
def gudgeonref05_start.l0 : Nat → ByteArray → Int → Bool → Option (Int)
 | 0, _, _, _ => none
 | k + 1, x0, x1, x5 => if x1 < (x0.size : Int) then (if 0 ≤ x1 then ((gudgeonref05_good.f (bt x0 x1)).bind fun t247 => (if t247 = true then (if (bt x0 x1) = 10 then (gudgeonref05_start.j1 k x0 x1 false (bt x0 x1)) else (gudgeonref05_start.j1 k x0 x1 x5 (bt x0 x1))) else (some x1))) else (none)) else (some x1)
def gudgeonref05_start.j1 : Nat → ByteArray → Int → Bool → Int → Option (Int)
 | 0, _, _, _, _ => none
 | k + 1, x0, x1, x5, x6 => if x6 = 59 then (gudgeonref05_start.l0 k x0 (wrap64 (x1 + 1)) true) else (if x5 = true then (gudgeonref05_start.l0 k x0 (wrap64 (x1 + 1)) x5) else ((gudgeonref05_Blank.f x6).bind fun t248 => (if t248 = true then (gudgeonref05_start.l0 k x0 (wrap64 (x1 + 1)) x5) else (some x1))))
end
def gudgeonref05_start.f (k : Nat) (a0 : ByteArray) (a1 : Int) : Option (Int) := gudgeonref05_start.l0 k a0 a1 false
set_option maxHeartbeats 8000000 in
set_option maxRecDepth 100000 in
theorem gudgeonref05_start.calls (k : Nat) (a0 : ByteArray) (a1 : Int) (r : Int) (w : World) (h : gudgeonref05_start.f k a0 a1 = some r) :
  Calls Tryd.prog 24 #[.string a0, .int .i64 a1] w fun e w' => e = .returned (.int .i64 r) ∧ Drawn0 w w' := by
 have H : (gudgeonref05_start.l0 k a0 a1 false) = some r := h
 clear h
 have H' := Aside0.mk H
 clear H
 go_enter Tryd.func24, Tryd.ntmps24
 go_wp2
 go_loopg [1, 5] k (fun kq v1 v5 w' => ∃ (x1_1 : Int) (x5_1 : Bool), v1 = .int .i64 x1_1 ∧ v5 = .bool x5_1 ∧ Aside0 (gudgeonref05_start.l0 kq a0 x1_1 x5_1 = some r) ∧ Aside0 (kq ≤ k) ∧ Drawn0 w w')
 case atStart => exact ⟨(a1), (false), (by first | rfl | (simp; done) | (simp [*]; done) | (refine congrArg (Value.int _) ?_; omega) | (refine congrArg Value.bool ?_; generalize ByteArray.toList _ = z_; cases z_ <;> rfl)), (by first | rfl | (simp; done) | (simp [*]; done) | (refine congrArg (Value.int _) ?_; omega) | (refine congrArg Value.bool ?_; generalize ByteArray.toList _ = z_; cases z_ <;> rfl)), H', ⟨Nat.le_refl _⟩, by repeat (first | exact Drawn0.refl _ | apply Drawn0.step)⟩
 case round =>
  clear H'
  try clear c2
  try clear p2
  obtain ⟨x1_1, x5_1, rfl, rfl, HA, HK1, ⟨m1, rfl⟩⟩ := hrel
  cases gk with
  | zero => exact absurd HA.out (by simp [gudgeonref05_start.l0])
  | succ k1 =>
   have H := HA.out
   clear HA
   simp only [gudgeonref05_start.l0] at H
   by_cases c3 : x1_1 < (a0.size : Int)
   ·rw [if_pos c3] at H
    have c3b0 : decide (x1_1 < (a0.size : Int)) = true := decide_eq_true c3
    clear c3
    by_cases c4 : 0 ≤ x1_1
    ·rw [if_pos c4] at H
     have c4b0 : decide (0 ≤ x1_1) = true := decide_eq_true c4
     clear c4
     replace H := Option.bind_eq_some_iff.mp H
     obtain ⟨t247, A60, H⟩ := H
     replace H : (if t247 = true then (if (bt a0 x1_1) = 10 then (gudgeonref05_start.j1 k1 a0 x1_1 false (bt a0 x1_1)) else (gudgeonref05_start.j1 k1 a0 x1_1 x5_1 (bt a0 x1_1))) else (some x1_1)) = some r := H
     have A6 := Aside0.mk A60
     clear A60
     by_cases c7 : t247 = true
     ·subst c7
      have H1 : (if (bt a0 x1_1) = 10 then (gudgeonref05_start.j1 k1 a0 x1_1 false (bt a0 x1_1)) else (gudgeonref05_start.j1 k1 a0 x1_1 x5_1 (bt a0 x1_1))) = some r := by rw [if_pos rfl] at H; exact H
      clear H
      have H := H1
      clear H1
      have HC8 := Aside0.mk H
      clear H
      have p5 : 0 ≤ (x1_1 : Int) := of_decide_eq_true (by first | (with_reducible assumption) | assumption)
      have q5 : x1_1 < (a0.size : Int) := of_decide_eq_true (by first | (with_reducible assumption) | assumption)
      have hx5 := bt_at a0 x1_1
      replace p5 := eq_true p5
      replace q5 := eq_true q5
      go_upto_if 19 with (first | ((with_reducible refine gate_callee (f := 25) rfl ?_); refine goesL_ (some 15) rfl rfl Tryd.func25 (by kernel_rfl) rfl #[.int .u8 (bt a0 x1_1)] rfl (by (try simp only [List.map_toArray, List.map_cons, List.map_nil]); first | done | rfl | (simp only [List.length_drop, List.length_take]; rfl)) ?_; (with_reducible refine (gudgeonref05_good.calls (bt a0 x1_1) true _ A6.out).mono ?_); rintro e w' ⟨rfl, ⟨nd, rfl⟩⟩; refine ⟨_, rfl, ?_⟩))
      (try simp only [Act.put, List.setIfInBounds_toArray, List.set_cons_zero, List.set_cons_succ])
      go_cut [5] (fun v5 wc => ∃ (kq : Nat) (x5_7 : Bool), v5 = .bool x5_7 ∧ Aside0 (gudgeonref05_start.j1 kq a0 x1_1 x5_7 (bt a0 x1_1) = some r) ∧ Aside0 (kq ≤ k1) ∧ Drawn0 w wc)
      case first =>
       have H := HC8.out
       clear HC8
       by_cases c9 : (bt a0 x1_1) = 10
       ·rw [if_pos c9] at H
        have c9b0 : ((bt a0 x1_1) == 10) = true := beq_iff_eq.mpr c9
        have c9b1 : ((bt a0 x1_1) != 10) = false := bne_eq_false_iff_eq.mpr c9
        clear c9
        (first | rw [c9b0] | rw [c9b1] | rw [c9b1] | (simp only [i64_w, i32_w]; rw [c9b0]) | skip)
        have H' := Aside0.mk H
        clear H
        go_wp2
        go_meet
        case rel => exact ⟨_, (false), (by first | rfl | (simp; done) | (simp [*]; done) | (refine congrArg (Value.int _) ?_; omega) | (refine congrArg Value.bool ?_; generalize ByteArray.toList _ = z_; cases z_ <;> rfl)), H', ⟨by have := HK1.out; first | omega | exact Nat.le_refl _⟩, by repeat (first | exact Drawn0.refl _ | apply Drawn0.step)⟩
       ·rw [if_neg c9] at H
        have c9b0 : ((bt a0 x1_1) == 10) = false := beq_eq_false_iff_ne.mpr c9
        have c9b1 : ((bt a0 x1_1) != 10) = true := bne_iff_ne.mpr c9
        (first | rw [c9b0] | rw [c9b1] | rw [c9b1] | (simp only [i64_w, i32_w]; rw [c9b0]) | skip)
        have H' := Aside0.mk H
        clear H
        go_wp2
        go_meet
        case rel => exact ⟨_, (x5_1), (by first | rfl | (simp; done) | (simp [*]; done) | (refine congrArg (Value.int _) ?_; omega) | (refine congrArg Value.bool ?_; generalize ByteArray.toList _ = z_; cases z_ <;> rfl)), H', ⟨by have := HK1.out; first | omega | exact Nat.le_refl _⟩, by repeat (first | exact Drawn0.refl _ | apply Drawn0.step)⟩
      case rest =>
       clear HC8
       try clear c2
       try clear p2
       try clear c3
       try clear c3b0
       try clear c4
       try clear c4b0
       try clear p5
       try clear q5
       try clear hx5
       try clear c7
       try clear c9
       try clear c9b0
       try clear c9b1
       try clear p2
       try clear p5
       try clear q5
       obtain ⟨kq, x5_7, rfl, HA, HJ7, ⟨mc7, rfl⟩⟩ := hcut
       cases kq with
       | zero => exact absurd HA.out (by simp [gudgeonref05_start.j1])
       | succ kj7 =>
        have H := HA.out
        clear HA
        simp only [gudgeonref05_start.j1] at H
        by_cases c10 : (bt a0 x1_1) = 59
        ·rw [if_pos c10] at H
         have c10b0 : ((bt a0 x1_1) == 59) = true := beq_iff_eq.mpr c10
         have c10b1 : ((bt a0 x1_1) != 59) = false := bne_eq_false_iff_eq.mpr c10
         clear c10
         have H' := Aside0.mk H
         clear H
         go_wp2
         go_roundg kj7
         case measure => have := HK1.out; have := HJ7.out; omega
         case rel => exact ⟨(wrap64 (x1_1 + 1)), (true), (by first | rfl | (simp; done) | (simp [*]; done) | (refine congrArg (Value.int _) ?_; omega) | (refine congrArg Value.bool ?_; generalize ByteArray.toList _ = z_; cases z_ <;> rfl)), (by first | rfl | (simp; done) | (simp [*]; done) | (refine congrArg (Value.int _) ?_; omega) | (refine congrArg Value.bool ?_; generalize ByteArray.toList _ = z_; cases z_ <;> rfl)), H', ⟨by have := HK1.out; have := HJ7.out; omega⟩, by repeat (first | exact Drawn0.refl _ | apply Drawn0.step)⟩
        ·rw [if_neg c10] at H
         have c10b0 : ((bt a0 x1_1) == 59) = false := beq_eq_false_iff_ne.mpr c10
         have c10b1 : ((bt a0 x1_1) != 59) = true := bne_iff_ne.mpr c10
         by_cases c11 : x5_7 = true
         ·subst c11
          have H1 : (gudgeonref05_start.l0 kj7 a0 (wrap64 (x1_1 + 1)) true) = some r := by rw [if_pos rfl] at H; exact H
          clear H
          have H := H1
          clear H1
          have H' := Aside0.mk H
          clear H
          go_wp2
          go_roundg kj7
          case measure => have := HK1.out; have := HJ7.out; omega
          case rel => exact ⟨(wrap64 (x1_1 + 1)), (true), (by first | rfl | (simp; done) | (simp [*]; done) | (refine congrArg (Value.int _) ?_; omega) | (refine congrArg Value.bool ?_; generalize ByteArray.toList _ = z_; cases z_ <;> rfl)), (by first | rfl | (simp; done) | (simp [*]; done) | (refine congrArg (Value.int _) ?_; omega) | (refine congrArg Value.bool ?_; generalize ByteArray.toList _ = z_; cases z_ <;> rfl)), H', ⟨by have := HK1.out; have := HJ7.out; omega⟩, by repeat (first | exact Drawn0.refl _ | apply Drawn0.step)⟩
         ·replace c11 := Bool.eq_false_iff.mpr c11
          subst c11
          have H1 : ((gudgeonref05_Blank.f (bt a0 x1_1)).bind fun t248 => (if t248 = true then (gudgeonref05_start.l0 kj7 a0 (wrap64 (x1_1 + 1)) false) else (some x1_1))) = some r := by rw [if_neg (show ¬ (false = true) by decide)] at H; exact H
          clear H
          have H := H1
          clear H1
          replace H := Option.bind_eq_some_iff.mp H
          obtain ⟨t248, A120, H⟩ := H
          replace H : (if t248 = true then (gudgeonref05_start.l0 kj7 a0 (wrap64 (x1_1 + 1)) false) else (some x1_1)) = some r := H
          have A12 := Aside0.mk A120
          clear A120
          by_cases c13 : t248 = true
          ·subst c13
           have H1 : (gudgeonref05_start.l0 kj7 a0 (wrap64 (x1_1 + 1)) false) = some r := by rw [if_pos rfl] at H; exact H
           clear H
           have H := H1
           clear H1
           have H' := Aside0.mk H
           clear H
           go_wp2_with (first | (go_at_call 41; (with_reducible refine (gudgeonref05_Blank.calls (bt a0 x1_1) true _ A12.out).mono ?_); rintro e w' ⟨rfl, ⟨nd, rfl⟩⟩))
           go_roundg kj7
           case measure => have := HK1.out; have := HJ7.out; omega
           case rel => exact ⟨(wrap64 (x1_1 + 1)), (false), (by first | rfl | (simp; done) | (simp [*]; done) | (refine congrArg (Value.int _) ?_; omega) | (refine congrArg Value.bool ?_; generalize ByteArray.toList _ = z_; cases z_ <;> rfl)), (by first | rfl | (simp; done) | (simp [*]; done) | (refine congrArg (Value.int _) ?_; omega) | (refine congrArg Value.bool ?_; generalize ByteArray.toList _ = z_; cases z_ <;> rfl)), H', ⟨by have := HK1.out; have := HJ7.out; omega⟩, by repeat (first | exact Drawn0.refl _ | apply Drawn0.step)⟩
          ·replace c13 := Bool.eq_false_iff.mpr c13
           subst c13
           have H1 : (some x1_1) = some r := by rw [if_neg (show ¬ (false = true) by decide)] at H; exact H
           clear H
           have H := H1
           clear H1
           obtain rfl := Option.some.inj H
           go_wp2_with (first | (go_at_call 41; (with_reducible refine (gudgeonref05_Blank.calls (bt a0 x1_1) false _ A12.out).mono ?_); rintro e w' ⟨rfl, ⟨nd, rfl⟩⟩))
           go_ret
           exact ⟨by first | rfl | (simp; done) | (simp [*]; done) | (refine congrArg (Value.int _) ?_; omega) | (refine congrArg Value.bool ?_; generalize ByteArray.toList _ = z_; cases z_ <;> rfl), by repeat (first | exact Drawn0.refl _ | apply Drawn0.step)⟩
     ·replace c7 := Bool.eq_false_iff.mpr c7
      subst c7
      have H1 : (some x1_1) = some r := by rw [if_neg (show ¬ (false = true) by decide)] at H; exact H
      clear H
      have H := H1
      clear H1
      obtain rfl := Option.some.inj H
      have p5 : 0 ≤ (x1_1 : Int) := of_decide_eq_true (by first | (with_reducible assumption) | assumption)
      have q5 : x1_1 < (a0.size : Int) := of_decide_eq_true (by first | (with_reducible assumption) | assumption)
      have hx5 := bt_at a0 x1_1
      replace p5 := eq_true p5
      replace q5 := eq_true q5
      go_wp2_with (first | ((with_reducible refine gate_callee (f := 25) rfl ?_); refine goesL_ (some 15) rfl rfl Tryd.func25 (by kernel_rfl) rfl #[.int .u8 (bt a0 x1_1)] rfl (by (try simp only [List.map_toArray, List.map_cons, List.map_nil]); first | done | rfl | (simp only [List.length_drop, List.length_take]; rfl)) ?_; (with_reducible refine (gudgeonref05_good.calls (bt a0 x1_1) false _ A6.out).mono ?_); rintro e w' ⟨rfl, ⟨nd, rfl⟩⟩; refine ⟨_, rfl, ?_⟩))
      go_ret
      exact ⟨by first | rfl | (simp; done) | (simp [*]; done) | (refine congrArg (Value.int _) ?_; omega) | (refine congrArg Value.bool ?_; generalize ByteArray.toList _ = z_; cases z_ <;> rfl), by repeat (first | exact Drawn0.refl _ | apply Drawn0.step)⟩
    ·rw [if_neg c4] at H
     exact absurd H (by simp)
   ·rw [if_neg c3] at H
    have c3b0 : decide (x1_1 < (a0.size : Int)) = false := decide_eq_false c3
    clear c3
    obtain rfl := Option.some.inj H
    go_wp2
    go_ret
    exact ⟨by first | rfl | (simp; done) | (simp [*]; done) | (refine congrArg (Value.int _) ?_; omega) | (refine congrArg Value.bool ?_; generalize ByteArray.toList _ = z_; cases z_ <;> rfl), by repeat (first | exact Drawn0.refl _ | apply Drawn0.step)⟩

end Go.Proofs.YtnpmmhceiaedcaaDoor.PA
