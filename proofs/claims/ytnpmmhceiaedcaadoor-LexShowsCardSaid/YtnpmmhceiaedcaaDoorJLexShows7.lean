/- Joined by wip/tools/shake.py for the claim of LexShows: PAx14, LexA, LexB, LexC, LexD, LexG, LexH, LexI, LexJ, LexK, HShape, LawLexShows. -/
import Derived.Test.YtnpmmhceiaedcaaDoorJLexShows2
import Derived.Test.YtnpmmhceiaedcaaDoorJLexShows4
import Derived.Test.YtnpmmhceiaedcaaDoorJLexShows6
import Derived.Test.YtnpmmhceiaedcaaDoorJLexShows3
import Derived.Lib.IndexLaws
import Derived.KernelRfl
import Derived.Laws.Strings
import Derived.Lib.ReplaceLaws
import Derived.Handed
import Derived.Test.YtnpmmhceiaedcaaDoorRows
import Derived.Deep.SlicePairs
import Derived.Lib.SmallJoins
import Derived.WalkKit
import Derived.Test.YtnpmmhceiaedcaaDoorTie
import Derived.Test.YtnpmmhceiaedcaaDoorCards
import Derived.SevenTiedAt
import Derived.Lib.LaidIn
import Derived.Lib.LaidU8
import Derived.ProofKit
import Derived.OpenShut
import Derived.ShutString
import Derived.ChangeOld
import Derived.Below
import Derived.SizedLaws
/- Written by a program of this session, wip/tools/patch_print.py, over the kit's print of the loaded functions. -/
namespace Go.Proofs.YtnpmmhceiaedcaaDoor.H
end Go.Proofs.YtnpmmhceiaedcaaDoor.H
namespace Go.Proofs.YtnpmmhceiaedcaaDoor.PA
open Go.RowKit Go.Proofs.YtnpmmhceiaedcaaDoorW.PrintWords Go.Proofs.YtnpmmhceiaedcaaDoorW.PrintLast Go.Proofs.YtnpmmhceiaedcaaDoorW.PrintMore Go.Proofs.YtnpmmhceiaedcaaDoor.H
attribute [local go_sem] max2_int min2_int max_two min_two max_three min_three max_four min_four   -- for this text's walks alone
set_option linter.unusedVariables false
set_option linter.unusedSimpArgs false

/-! ### gudgeonlaw05_LexShows: function 3 -/
def gudgeonlaw05_LexShows.j0 : Nat → ByteArray → Bool → Bool → Int → ByteArray → Int → Option (Bool)
 | 0, _, _, _, _, _, _ => none
 | k + 1, x1, x5, x23, x308000, x308001, x308002 => if x23 = true then (some x5) else ((lex_Show.f k x308000 x308001 x308002).bind fun bt309 => ((gudgeonref05_Show.f k x308000 x308001 x308002).bind fun bt311 => (if bt309.1.toList = bt311.1.toList then (if bt309.2 = bt311.2 then ((lex_Simple.f x1).bind fun t313 => ((gudgeonref05_Simple.f k x1).bind fun t314 => (some (t313 == t314)))) else (some false)) else (some false))))
def gudgeonlaw05_LexShows.f (k : Nat) (a0_0 : Int) (a0_1 : ByteArray) (a0_2 : Int) (a1 : ByteArray) : Option (Bool) := (gudgeonlaw05_awake.f k).bind fun t308 => (if t308 = true then (if (a0_1.size : Int) > 2000 then (gudgeonlaw05_LexShows.j0 k a1 t308 true a0_0 a0_1 a0_2) else (gudgeonlaw05_LexShows.j0 k a1 t308 (decide ((a1.size : Int) > 2000)) a0_0 a0_1 a0_2)) else (gudgeonlaw05_LexShows.j0 k a1 t308 true a0_0 a0_1 a0_2))
set_option maxHeartbeats 8000000 in
set_option maxRecDepth 100000 in
theorem gudgeonlaw05_LexShows.calls (k : Nat) (a0_0 : Int) (a0_1 : ByteArray) (a0_2 : Int) (a1 : ByteArray) (r : Bool) (w : World) (hG : Glob w) (h : gudgeonlaw05_LexShows.f k a0_0 a0_1 a0_2 a1 = some r) :
  Calls Tryd.prog 3 #[.agg #[.int .i64 a0_0, .string a0_1, .int .i64 a0_2], .string a1] w fun e w' => e = .returned (.bool r) ∧ Below w.heap.size w w' := by
 have hu23 := Tryd.underlying23
 have HG := Aside0.mk hG
 clear hG
 have HB := Aside0.mk (Below.refl w.heap.size w)
 have H : ((gudgeonlaw05_awake.f k).bind fun t308 => (if t308 = true then (if (a0_1.size : Int) > 2000 then (gudgeonlaw05_LexShows.j0 k a1 t308 true a0_0 a0_1 a0_2) else (gudgeonlaw05_LexShows.j0 k a1 t308 (decide ((a1.size : Int) > 2000)) a0_0 a0_1 a0_2)) else (gudgeonlaw05_LexShows.j0 k a1 t308 true a0_0 a0_1 a0_2))) = some r := h
 clear h
 replace H := Option.bind_eq_some_iff.mp H
 obtain ⟨t308, A30, H⟩ := H
 replace H : (if t308 = true then (if (a0_1.size : Int) > 2000 then (gudgeonlaw05_LexShows.j0 k a1 t308 true a0_0 a0_1 a0_2) else (gudgeonlaw05_LexShows.j0 k a1 t308 (decide ((a1.size : Int) > 2000)) a0_0 a0_1 a0_2)) else (gudgeonlaw05_LexShows.j0 k a1 t308 true a0_0 a0_1 a0_2)) = some r := H
 have A3 := Aside0.mk A30
 clear A30
 have HC4 := Aside0.mk H
 clear H
 go_enter Tryd.func3, Tryd.ntmps3
 go_upto_region 2 with (first | ((with_reducible refine gate_dst (N := 2) rfl ?_); (try (refine gate_guard (by rfl) ?_; dsimp only)); refine box_event ?hg (N := 2) ?hd (cs := #[.int .i64 a0_0, .string a0_1, .int .i64 a0_2]) (t := 23) ?hr ?_; (case hd => rfl); (case hg => rfl); (case hr => first | (go_simp; done) | (go_simp; rfl) | (go_simp; simp only [IntKind.wrap_u8, IntKind.wrap_u32]; congr 4; omega) | (go_simp; simp only [IntKind.wrap_u8, IntKind.wrap_u32]; congr 5; omega)); intro gb307 hg w5 hbox hb; have n0_ := Aside0.mk (below_step (by repeat (first | (with_reducible first | exact HB.out | apply below_alloc | apply pw_below_drewN | apply below_drew1) | exact HB.out)) hb); have n1_ := Aside0.mk (hbox); have n2_ := Aside0.mk ((by rw [hg]; exact (below_size (by repeat (first | (with_reducible first | exact HB.out | apply below_alloc | apply pw_below_drewN | apply below_drew1) | exact HB.out))) : w.heap.size ≤ gb307)); have n3_ := Aside0.mk ((by rw [hg]; exact (below_size (by repeat (first | (with_reducible first | exact HB.out | apply below_alloc | apply pw_below_drewN | apply below_drew1) | exact HB.out))) : w.heap.size ≤ gb307)); clear HB; have HB := n0_; have BK307 := n1_; have GW307 := n2_; have GE307 := n3_; clear n0_ n1_ n2_ n3_; clear hb hbox hg) | ((with_reducible refine gate_callee (f := 6) rfl ?_); refine goesL_ (some 10) rfl rfl Tryd.func6 (by kernel_rfl) rfl #[] rfl (by (try simp only [List.map_toArray, List.map_cons, List.map_nil]); first | done | rfl | (simp only [List.length_drop, List.length_take]; rfl)) ?_; (with_reducible refine (gudgeonlaw05_awake.calls k  t308 _ A3.out).mono ?_); rintro e w6 ⟨rfl, hb⟩; refine ⟨_, rfl, ?_⟩; have n0_ := Aside0.mk (blk_below (g := gb307) (o := .cells #[.int .i64 a0_0, .string a0_1, .int .i64 a0_2] 23 (0, 0)) (by (with_reducible repeat (first | refine blk_drewN ?_ _ | refine blk_drew ?_ | refine blk_alloc ?_ _)); exact BK307.out) hb); have n1_ := Aside0.mk (below_step (by repeat (first | (with_reducible first | exact HB.out | apply below_alloc | apply pw_below_drewN | apply below_drew1 | refine below_set ?_ GE307.out) | exact HB.out)) hb); clear BK307; clear HB; have BK307 := n0_; have HB := n1_; clear n0_ n1_; (try clear hb); (try clear hb2); (try clear hk); (try clear hi)))
 (try simp only [Act.put, List.setIfInBounds_toArray, List.set_cons_zero, List.set_cons_succ])
 go_cut [23] (fun v23 wc => ∃ (kq : Nat) (x23_3 : Bool), v23 = .bool x23_3 ∧ Aside0 (gudgeonlaw05_LexShows.j0 kq a1 t308 x23_3 a0_0 a0_1 a0_2 = some r) ∧ Aside0 (kq ≤ k) ∧ Aside0 (wc.heap[gb307]? = some (.cells #[.int .i64 a0_0, .string a0_1, .int .i64 a0_2] 23 (0, 0))) ∧ Aside0 (Below w.heap.size w wc))
 case first =>
  have H := HC4.out
  clear HC4
  by_cases c7 : t308 = true
  ·subst c7
   have H1 : (if (a0_1.size : Int) > 2000 then (gudgeonlaw05_LexShows.j0 k a1 true true a0_0 a0_1 a0_2) else (gudgeonlaw05_LexShows.j0 k a1 true (decide ((a1.size : Int) > 2000)) a0_0 a0_1 a0_2)) = some r := by rw [if_pos rfl] at H; exact H
   clear H
   have H := H1
   clear H1
   by_cases c8 : (a0_1.size : Int) > 2000
   ·rw [if_pos c8] at H
    have c8b0 : decide (2000 < (a0_1.size : Int)) = true := decide_eq_true c8
    have c8b1 : decide (2000 < a0_1.size) = true := decide_eq_true (by omega)
    clear c8
    (first | rw [c8b0] | rw [c8b1] | (simp only [i64_w, i32_w]; rw [c8b0]) | skip)
    have H' := Aside0.mk H
    clear H
    have hcz9_0 : w6.cell? ⟨gb307, 0, none⟩ = some (.int .i64 a0_0) := (blk_cell BK307.out 0).trans rfl
    have hcz9_1 : w6.cell? ⟨gb307, 1, none⟩ = some (.string a0_1) := (blk_cell BK307.out 1).trans rfl
    have hcz9_2 : w6.cell? ⟨gb307, 2, none⟩ = some (.int .i64 a0_2) := (blk_cell BK307.out 2).trans rfl
    have hfz9_0 := blk_frozen BK307.out 0
    have hfz9_1 := blk_frozen BK307.out 1
    have hfz9_2 := blk_frozen BK307.out 2
    go_wp2
    go_meet
    case rel => exact ⟨_, (true), (by first | rfl | (simp; done) | (simp [*]; done) | (refine congrArg (Value.int _) ?_; omega) | (refine congrArg Value.bool ?_; generalize ByteArray.toList _ = z_; cases z_ <;> rfl)), H', ⟨by first | omega | exact Nat.le_refl _⟩, ⟨by (with_reducible repeat (first | refine blk_drewN ?_ _ | refine blk_drew ?_ | refine blk_alloc ?_ _)); exact BK307.out⟩, ⟨by repeat (first | (with_reducible first | exact HB.out | apply below_alloc | apply pw_below_drewN | apply below_drew1 | refine below_set ?_ GE307.out) | exact HB.out)⟩⟩
   ·rw [if_neg c8] at H
    have c8b0 : decide (2000 < (a0_1.size : Int)) = false := decide_eq_false c8
    have c8b1 : decide (2000 < a0_1.size) = false := decide_eq_false (by omega)
    clear c8
    (first | rw [c8b0] | rw [c8b1] | (simp only [i64_w, i32_w]; rw [c8b0]) | skip)
    have H' := Aside0.mk H
    clear H
    have hcz10_0 : w6.cell? ⟨gb307, 0, none⟩ = some (.int .i64 a0_0) := (blk_cell BK307.out 0).trans rfl
    have hcz10_1 : w6.cell? ⟨gb307, 1, none⟩ = some (.string a0_1) := (blk_cell BK307.out 1).trans rfl
    have hcz10_2 : w6.cell? ⟨gb307, 2, none⟩ = some (.int .i64 a0_2) := (blk_cell BK307.out 2).trans rfl
    have hfz10_0 := blk_frozen BK307.out 0
    have hfz10_1 := blk_frozen BK307.out 1
    have hfz10_2 := blk_frozen BK307.out 2
    go_wp2
    go_meet
    case rel => exact ⟨_, (decide ((a1.size : Int) > 2000)), (by first | rfl | (simp; done) | (simp [*]; done) | (refine congrArg (Value.int _) ?_; omega) | (refine congrArg Value.bool ?_; generalize ByteArray.toList _ = z_; cases z_ <;> rfl)), H', ⟨by first | omega | exact Nat.le_refl _⟩, ⟨by (with_reducible repeat (first | refine blk_drewN ?_ _ | refine blk_drew ?_ | refine blk_alloc ?_ _)); exact BK307.out⟩, ⟨by repeat (first | (with_reducible first | exact HB.out | apply below_alloc | apply pw_below_drewN | apply below_drew1 | refine below_set ?_ GE307.out) | exact HB.out)⟩⟩
  ·replace c7 := Bool.eq_false_iff.mpr c7
   subst c7
   have H1 : (gudgeonlaw05_LexShows.j0 k a1 false true a0_0 a0_1 a0_2) = some r := by rw [if_neg (show ¬ (false = true) by decide)] at H; exact H
   clear H
   have H := H1
   clear H1
   have H' := Aside0.mk H
   clear H
   go_wp2
   go_meet
   case rel => exact ⟨_, (true), (by first | rfl | (simp; done) | (simp [*]; done) | (refine congrArg (Value.int _) ?_; omega) | (refine congrArg Value.bool ?_; generalize ByteArray.toList _ = z_; cases z_ <;> rfl)), H', ⟨by first | omega | exact Nat.le_refl _⟩, ⟨by (with_reducible repeat (first | refine blk_drewN ?_ _ | refine blk_drew ?_ | refine blk_alloc ?_ _)); exact BK307.out⟩, ⟨by repeat (first | (with_reducible first | exact HB.out | apply below_alloc | apply pw_below_drewN | apply below_drew1 | refine below_set ?_ GE307.out) | exact HB.out)⟩⟩
 case rest =>
  clear HC4
  try clear p2
  try clear c3
  try clear c6
  try clear c7
  try clear c8
  try clear c8b0
  try clear c8b1
  try clear hcz10_0
  try clear hcz10_1
  try clear hcz10_2
  try clear hcz9_0
  try clear hcz9_1
  try clear hcz9_2
  try clear hfz10_0
  try clear hfz10_1
  try clear hfz10_2
  try clear hfz9_0
  try clear hfz9_1
  try clear hfz9_2
  obtain ⟨kq, x23_3, rfl, HA, HJ3, BK307, HB⟩ := hcut
  cases kq with
  | zero => exact absurd HA.out (by simp [gudgeonlaw05_LexShows.j0])
  | succ kj3 =>
   have H := HA.out
   clear HA
   simp only [gudgeonlaw05_LexShows.j0] at H
   by_cases c11 : x23_3 = true
   ·subst c11
    have H1 : (some t308) = some r := by rw [if_pos rfl] at H; exact H
    clear H
    have H := H1
    clear H1
    obtain rfl := Option.some.inj H
    go_wp2
    go_ret
    exact ⟨by first | rfl | (simp [errW_none, errW_some] <;> rfl) | (refine congrArg (fun z_ => Ending.returned (Value.bool z_)) (decide_eq_decide.mpr ?_); unfold wrap64; omega) | (simp [*, errW_none, errW_some] <;> rfl), by repeat (first | (with_reducible first | exact HB.out | apply below_alloc | apply pw_below_drewN | apply below_drew1 | refine below_set ?_ GE307.out) | exact HB.out)⟩
   ·replace c11 := Bool.eq_false_iff.mpr c11
    subst c11
    have H1 : ((lex_Show.f kj3 a0_0 a0_1 a0_2).bind fun bt309 => ((gudgeonref05_Show.f kj3 a0_0 a0_1 a0_2).bind fun bt311 => (if bt309.1.toList = bt311.1.toList then (if bt309.2 = bt311.2 then ((lex_Simple.f a1).bind fun t313 => ((gudgeonref05_Simple.f kj3 a1).bind fun t314 => (some (t313 == t314)))) else (some false)) else (some false)))) = some r := by rw [if_neg (show ¬ (false = true) by decide)] at H; exact H
    clear H
    have H := H1
    clear H1
    replace H := Option.bind_eq_some_iff.mp H
    obtain ⟨⟨t309, t310⟩, A120, H⟩ := H
    replace H : ((gudgeonref05_Show.f kj3 a0_0 a0_1 a0_2).bind fun bt311 => (if t309.toList = bt311.1.toList then (if t310 = bt311.2 then ((lex_Simple.f a1).bind fun t313 => ((gudgeonref05_Simple.f kj3 a1).bind fun t314 => (some (t313 == t314)))) else (some false)) else (some false))) = some r := H
    have A12 := Aside0.mk A120
    clear A120
    replace H := Option.bind_eq_some_iff.mp H
    obtain ⟨⟨t311, t312⟩, A130, H⟩ := H
    replace H : (if t309.toList = t311.toList then (if t310 = t312 then ((lex_Simple.f a1).bind fun t313 => ((gudgeonref05_Simple.f kj3 a1).bind fun t314 => (some (t313 == t314)))) else (some false)) else (some false)) = some r := H
    have A13 := Aside0.mk A130
    clear A130
    by_cases c14 : t309.toList = t311.toList
    ·rw [if_pos c14] at H
     have c14b0 : (t309.toList == t311.toList) = true := beq_iff_eq.mpr c14
     have c14b1 : (t309.toList != t311.toList) = false := bne_eq_false_iff_eq.mpr c14
     clear c14
     by_cases c15 : t310 = t312
     ·rw [if_pos c15] at H
      have c15b0 : (t310 == t312) = true := beq_iff_eq.mpr c15
      have c15b1 : (t310 != t312) = false := bne_eq_false_iff_eq.mpr c15
      clear c15
      replace H := Option.bind_eq_some_iff.mp H
      obtain ⟨t313, A160, H⟩ := H
      replace H : ((gudgeonref05_Simple.f kj3 a1).bind fun t314 => (some (t313 == t314))) = some r := H
      have A16 := Aside0.mk A160
      clear A160
      replace H := Option.bind_eq_some_iff.mp H
      obtain ⟨t314, A170, H⟩ := H
      replace H : (some (t313 == t314)) = some r := H
      have A17 := Aside0.mk A170
      clear A170
      obtain rfl := Option.some.inj H
      have hcz18_0 : wc.cell? ⟨gb307, 0, none⟩ = some (.int .i64 a0_0) := (blk_cell BK307.out 0).trans rfl
      have hcz18_1 : wc.cell? ⟨gb307, 1, none⟩ = some (.string a0_1) := (blk_cell BK307.out 1).trans rfl
      have hcz18_2 : wc.cell? ⟨gb307, 2, none⟩ = some (.int .i64 a0_2) := (blk_cell BK307.out 2).trans rfl
      have hfz18_0 := blk_frozen BK307.out 0
      have hfz18_1 := blk_frozen BK307.out 1
      have hfz18_2 := blk_frozen BK307.out 2
      go_wp2_with (first | ((with_reducible refine gate_callee (f := 7) rfl ?_); refine goesL_ (some 27) rfl rfl Tryd.func7 (by kernel_rfl) rfl #[.agg #[.int .i64 a0_0, .string a0_1, .int .i64 a0_2]] rfl (by (try simp only [List.map_toArray, List.map_cons, List.map_nil]); first | done | rfl | (simp only [List.length_drop, List.length_take]; rfl)) ?_; (with_reducible refine (lex_Show.calls kj3 a0_0 a0_1 a0_2 t309 t310 _ ?side1 A12.out).mono ?_); (case side1 => exact Glob.below HG.out (by repeat (first | (with_reducible first | exact HB.out | apply below_alloc | apply pw_below_drewN | apply below_drew1 | refine below_set ?_ GE307.out) | exact HB.out))); rintro e w19 ⟨rfl, hb⟩; refine ⟨_, rfl, ?_⟩; have n0_ := Aside0.mk (blk_below (g := gb307) (o := .cells #[.int .i64 a0_0, .string a0_1, .int .i64 a0_2] 23 (0, 0)) (by (with_reducible repeat (first | refine blk_drewN ?_ _ | refine blk_drew ?_ | refine blk_alloc ?_ _)); exact BK307.out) hb); have n1_ := Aside0.mk (below_step (by repeat (first | (with_reducible first | exact HB.out | apply below_alloc | apply pw_below_drewN | apply below_drew1 | refine below_set ?_ GE307.out) | exact HB.out)) hb); clear BK307; clear HB; have BK307 := n0_; have HB := n1_; clear n0_ n1_; (try clear hb); (try clear hb2); (try clear hk); (try clear hi); have hcz20_0 : w19.cell? ⟨gb307, 0, none⟩ = some (.int .i64 a0_0) := (blk_cell BK307.out 0).trans rfl; have hcz20_1 : w19.cell? ⟨gb307, 1, none⟩ = some (.string a0_1) := (blk_cell BK307.out 1).trans rfl; have hcz20_2 : w19.cell? ⟨gb307, 2, none⟩ = some (.int .i64 a0_2) := (blk_cell BK307.out 2).trans rfl; have hfz20_0 := blk_frozen BK307.out 0; have hfz20_1 := blk_frozen BK307.out 1; have hfz20_2 := blk_frozen BK307.out 2) | ((with_reducible refine gate_callee (f := 8) rfl ?_); refine goesL_ (some 32) rfl rfl Tryd.func8 (by kernel_rfl) rfl #[.agg #[.int .i64 a0_0, .string a0_1, .int .i64 a0_2]] rfl (by (try simp only [List.map_toArray, List.map_cons, List.map_nil]); first | done | rfl | (simp only [List.length_drop, List.length_take]; rfl)) ?_; (with_reducible refine (gudgeonref05_Show.calls kj3 a0_0 a0_1 a0_2 t311 t312 _ A13.out).mono ?_); rintro e w21 ⟨rfl, hb⟩; refine ⟨_, rfl, ?_⟩; have n0_ := Aside0.mk (blk_below (g := gb307) (o := .cells #[.int .i64 a0_0, .string a0_1, .int .i64 a0_2] 23 (0, 0)) (by (with_reducible repeat (first | refine blk_drewN ?_ _ | refine blk_drew ?_ | refine blk_alloc ?_ _)); exact BK307.out) hb); have n1_ := Aside0.mk (below_step (by repeat (first | (with_reducible first | exact HB.out | apply below_alloc | apply pw_below_drewN | apply below_drew1 | refine below_set ?_ GE307.out) | exact HB.out)) hb); clear BK307; clear HB; have BK307 := n0_; have HB := n1_; clear n0_ n1_; (try clear hb); (try clear hb2); (try clear hk); (try clear hi)) | (go_at_call 9; (with_reducible refine (lex_Simple.calls a1 t313 _ A16.out).mono ?_); rintro e w' ⟨rfl, ⟨nd, rfl⟩⟩) | (go_at_call 10; (with_reducible refine (gudgeonref05_Simple.calls kj3 a1 t314 _ A17.out).mono ?_); rintro e w' ⟨rfl, ⟨nd, rfl⟩⟩))
      go_ret
      exact ⟨by first | rfl | (simp [errW_none, errW_some] <;> rfl) | (refine congrArg (fun z_ => Ending.returned (Value.bool z_)) (decide_eq_decide.mpr ?_); unfold wrap64; omega) | (simp [*, errW_none, errW_some] <;> rfl), by repeat (first | (with_reducible first | exact HB.out | apply below_alloc | apply pw_below_drewN | apply below_drew1 | refine below_set ?_ GE307.out) | exact HB.out)⟩
     ·rw [if_neg c15] at H
      have c15b0 : (t310 == t312) = false := beq_eq_false_iff_ne.mpr c15
      have c15b1 : (t310 != t312) = true := bne_iff_ne.mpr c15
      obtain rfl := Option.some.inj H
      have hcz22_0 : wc.cell? ⟨gb307, 0, none⟩ = some (.int .i64 a0_0) := (blk_cell BK307.out 0).trans rfl
      have hcz22_1 : wc.cell? ⟨gb307, 1, none⟩ = some (.string a0_1) := (blk_cell BK307.out 1).trans rfl
      have hcz22_2 : wc.cell? ⟨gb307, 2, none⟩ = some (.int .i64 a0_2) := (blk_cell BK307.out 2).trans rfl
      have hfz22_0 := blk_frozen BK307.out 0
      have hfz22_1 := blk_frozen BK307.out 1
      have hfz22_2 := blk_frozen BK307.out 2
      go_wp2_with (first | ((with_reducible refine gate_callee (f := 7) rfl ?_); refine goesL_ (some 27) rfl rfl Tryd.func7 (by kernel_rfl) rfl #[.agg #[.int .i64 a0_0, .string a0_1, .int .i64 a0_2]] rfl (by (try simp only [List.map_toArray, List.map_cons, List.map_nil]); first | done | rfl | (simp only [List.length_drop, List.length_take]; rfl)) ?_; (with_reducible refine (lex_Show.calls kj3 a0_0 a0_1 a0_2 t309 t310 _ ?side1 A12.out).mono ?_); (case side1 => exact Glob.below HG.out (by repeat (first | (with_reducible first | exact HB.out | apply below_alloc | apply pw_below_drewN | apply below_drew1 | refine below_set ?_ GE307.out) | exact HB.out))); rintro e w23 ⟨rfl, hb⟩; refine ⟨_, rfl, ?_⟩; have n0_ := Aside0.mk (blk_below (g := gb307) (o := .cells #[.int .i64 a0_0, .string a0_1, .int .i64 a0_2] 23 (0, 0)) (by (with_reducible repeat (first | refine blk_drewN ?_ _ | refine blk_drew ?_ | refine blk_alloc ?_ _)); exact BK307.out) hb); have n1_ := Aside0.mk (below_step (by repeat (first | (with_reducible first | exact HB.out | apply below_alloc | apply pw_below_drewN | apply below_drew1 | refine below_set ?_ GE307.out) | exact HB.out)) hb); clear BK307; clear HB; have BK307 := n0_; have HB := n1_; clear n0_ n1_; (try clear hb); (try clear hb2); (try clear hk); (try clear hi); have hcz24_0 : w23.cell? ⟨gb307, 0, none⟩ = some (.int .i64 a0_0) := (blk_cell BK307.out 0).trans rfl; have hcz24_1 : w23.cell? ⟨gb307, 1, none⟩ = some (.string a0_1) := (blk_cell BK307.out 1).trans rfl; have hcz24_2 : w23.cell? ⟨gb307, 2, none⟩ = some (.int .i64 a0_2) := (blk_cell BK307.out 2).trans rfl; have hfz24_0 := blk_frozen BK307.out 0; have hfz24_1 := blk_frozen BK307.out 1; have hfz24_2 := blk_frozen BK307.out 2) | ((with_reducible refine gate_callee (f := 8) rfl ?_); refine goesL_ (some 32) rfl rfl Tryd.func8 (by kernel_rfl) rfl #[.agg #[.int .i64 a0_0, .string a0_1, .int .i64 a0_2]] rfl (by (try simp only [List.map_toArray, List.map_cons, List.map_nil]); first | done | rfl | (simp only [List.length_drop, List.length_take]; rfl)) ?_; (with_reducible refine (gudgeonref05_Show.calls kj3 a0_0 a0_1 a0_2 t311 t312 _ A13.out).mono ?_); rintro e w25 ⟨rfl, hb⟩; refine ⟨_, rfl, ?_⟩; have n0_ := Aside0.mk (blk_below (g := gb307) (o := .cells #[.int .i64 a0_0, .string a0_1, .int .i64 a0_2] 23 (0, 0)) (by (with_reducible repeat (first | refine blk_drewN ?_ _ | refine blk_drew ?_ | refine blk_alloc ?_ _)); exact BK307.out) hb); have n1_ := Aside0.mk (below_step (by repeat (first | (with_reducible first | exact HB.out | apply below_alloc | apply pw_below_drewN | apply below_drew1 | refine below_set ?_ GE307.out) | exact HB.out)) hb); clear BK307; clear HB; have BK307 := n0_; have HB := n1_; clear n0_ n1_; (try clear hb); (try clear hb2); (try clear hk); (try clear hi)))
      go_ret
      exact ⟨by first | rfl | (simp [errW_none, errW_some] <;> rfl) | (refine congrArg (fun z_ => Ending.returned (Value.bool z_)) (decide_eq_decide.mpr ?_); unfold wrap64; omega) | (simp [*, errW_none, errW_some] <;> rfl), by repeat (first | (with_reducible first | exact HB.out | apply below_alloc | apply pw_below_drewN | apply below_drew1 | refine below_set ?_ GE307.out) | exact HB.out)⟩
    ·rw [if_neg c14] at H
     have c14b0 : (t309.toList == t311.toList) = false := beq_eq_false_iff_ne.mpr c14
     have c14b1 : (t309.toList != t311.toList) = true := bne_iff_ne.mpr c14
     obtain rfl := Option.some.inj H
     have hcz26_0 : wc.cell? ⟨gb307, 0, none⟩ = some (.int .i64 a0_0) := (blk_cell BK307.out 0).trans rfl
     have hcz26_1 : wc.cell? ⟨gb307, 1, none⟩ = some (.string a0_1) := (blk_cell BK307.out 1).trans rfl
     have hcz26_2 : wc.cell? ⟨gb307, 2, none⟩ = some (.int .i64 a0_2) := (blk_cell BK307.out 2).trans rfl
     have hfz26_0 := blk_frozen BK307.out 0
     have hfz26_1 := blk_frozen BK307.out 1
     have hfz26_2 := blk_frozen BK307.out 2
     go_wp2_with (first | ((with_reducible refine gate_callee (f := 7) rfl ?_); refine goesL_ (some 27) rfl rfl Tryd.func7 (by kernel_rfl) rfl #[.agg #[.int .i64 a0_0, .string a0_1, .int .i64 a0_2]] rfl (by (try simp only [List.map_toArray, List.map_cons, List.map_nil]); first | done | rfl | (simp only [List.length_drop, List.length_take]; rfl)) ?_; (with_reducible refine (lex_Show.calls kj3 a0_0 a0_1 a0_2 t309 t310 _ ?side1 A12.out).mono ?_); (case side1 => exact Glob.below HG.out (by repeat (first | (with_reducible first | exact HB.out | apply below_alloc | apply pw_below_drewN | apply below_drew1 | refine below_set ?_ GE307.out) | exact HB.out))); rintro e w27 ⟨rfl, hb⟩; refine ⟨_, rfl, ?_⟩; have n0_ := Aside0.mk (blk_below (g := gb307) (o := .cells #[.int .i64 a0_0, .string a0_1, .int .i64 a0_2] 23 (0, 0)) (by (with_reducible repeat (first | refine blk_drewN ?_ _ | refine blk_drew ?_ | refine blk_alloc ?_ _)); exact BK307.out) hb); have n1_ := Aside0.mk (below_step (by repeat (first | (with_reducible first | exact HB.out | apply below_alloc | apply pw_below_drewN | apply below_drew1 | refine below_set ?_ GE307.out) | exact HB.out)) hb); clear BK307; clear HB; have BK307 := n0_; have HB := n1_; clear n0_ n1_; (try clear hb); (try clear hb2); (try clear hk); (try clear hi); have hcz28_0 : w27.cell? ⟨gb307, 0, none⟩ = some (.int .i64 a0_0) := (blk_cell BK307.out 0).trans rfl; have hcz28_1 : w27.cell? ⟨gb307, 1, none⟩ = some (.string a0_1) := (blk_cell BK307.out 1).trans rfl; have hcz28_2 : w27.cell? ⟨gb307, 2, none⟩ = some (.int .i64 a0_2) := (blk_cell BK307.out 2).trans rfl; have hfz28_0 := blk_frozen BK307.out 0; have hfz28_1 := blk_frozen BK307.out 1; have hfz28_2 := blk_frozen BK307.out 2) | ((with_reducible refine gate_callee (f := 8) rfl ?_); refine goesL_ (some 32) rfl rfl Tryd.func8 (by kernel_rfl) rfl #[.agg #[.int .i64 a0_0, .string a0_1, .int .i64 a0_2]] rfl (by (try simp only [List.map_toArray, List.map_cons, List.map_nil]); first | done | rfl | (simp only [List.length_drop, List.length_take]; rfl)) ?_; (with_reducible refine (gudgeonref05_Show.calls kj3 a0_0 a0_1 a0_2 t311 t312 _ A13.out).mono ?_); rintro e w29 ⟨rfl, hb⟩; refine ⟨_, rfl, ?_⟩; have n0_ := Aside0.mk (blk_below (g := gb307) (o := .cells #[.int .i64 a0_0, .string a0_1, .int .i64 a0_2] 23 (0, 0)) (by (with_reducible repeat (first | refine blk_drewN ?_ _ | refine blk_drew ?_ | refine blk_alloc ?_ _)); exact BK307.out) hb); have n1_ := Aside0.mk (below_step (by repeat (first | (with_reducible first | exact HB.out | apply below_alloc | apply pw_below_drewN | apply below_drew1 | refine below_set ?_ GE307.out) | exact HB.out)) hb); clear BK307; clear HB; have BK307 := n0_; have HB := n1_; clear n0_ n1_; (try clear hb); (try clear hb2); (try clear hk); (try clear hi)))
     go_ret
     exact ⟨by first | rfl | (simp [errW_none, errW_some] <;> rfl) | (refine congrArg (fun z_ => Ending.returned (Value.bool z_)) (decide_eq_decide.mpr ?_); unfold wrap64; omega) | (simp [*, errW_none, errW_some] <;> rfl), by repeat (first | (with_reducible first | exact HB.out | apply below_alloc | apply pw_below_drewN | apply below_drew1 | refine below_set ?_ GE307.out) | exact HB.out)⟩

end Go.Proofs.YtnpmmhceiaedcaaDoor.PA
/- lex: what each of its small functions computes, over lists of bytes. -/
namespace Go.Proofs.YtnpmmhceiaedcaaDoor.X
open Go.RowKit Go.Proofs.YtnpmmhceiaedcaaDoor.H Go.Proofs.YtnpmmhceiaedcaaDoor.PA Go.Proofs.YtnpmmhceiaedcaaDoorW.PrintWords Go.Proofs.YtnpmmhceiaedcaaDoorW.PrintLast Go.Proofs.YtnpmmhceiaedcaaDoorW.PrintMore
set_option linter.unusedVariables false

/-- A list of bytes as a string. -/
abbrev ba (l : List UInt8) : ByteArray := ⟨l.toArray⟩
/-- What a function of a byte tells. -/
def tb (p : Int → Option Bool) (c : UInt8) : Bool := p (c.toNat : Int) == some true
theorem byte_all {P : Nat → Bool} (h : (List.range 256).all P = true) (c : UInt8) : P c.toNat = true := by
  have := List.all_eq_true.1 h c.toNat (List.mem_range.2 c.toNat_lt)
  exact this
theorem tb_some {p : Int → Option Bool} (h : (List.range 256).all (fun n => (p (n : Int)).isSome) = true) (c : UInt8) : p (c.toNat : Int) = some (tb p c) := by
  have h1 := byte_all (P := fun n => (p (n : Int)).isSome) h c
  unfold tb
  cases hp : p (c.toNat : Int) with
  | none => simp [hp] at h1
  | some b => cases b <;> rfl
abbrev bk := tb lex_blank.f
abbrev gd := tb lex_good.f
abbrev s1 := tb lex_skip_1.f
abbrev dg := tb lex_digit.f
abbrev nm := tb (lex_named.f 3)
abbrev b1 := tb lex_bars_1.f
abbrev q1 := tb lex_literal_1.f
abbrev c1 := tb lex_coded_1.f
abbrev c2 := tb lex_coded_2.f
theorem bk_is (c : UInt8) : lex_blank.f (c.toNat : Int) = some (bk c) := tb_some (by kernel_rfl) c
theorem gd_is (c : UInt8) : lex_good.f (c.toNat : Int) = some (gd c) := tb_some (by kernel_rfl) c
theorem s1_is (c : UInt8) : lex_skip_1.f (c.toNat : Int) = some (s1 c) := tb_some (by kernel_rfl) c
theorem dg_is (c : UInt8) : lex_digit.f (c.toNat : Int) = some (dg c) := tb_some (by kernel_rfl) c
theorem nm_is (c : UInt8) : lex_named.f 3 (c.toNat : Int) = some (nm c) := tb_some (by kernel_rfl) c
theorem b1_is (c : UInt8) : lex_bars_1.f (c.toNat : Int) = some (b1 c) := tb_some (by kernel_rfl) c
theorem q1_is (c : UInt8) : lex_literal_1.f (c.toNat : Int) = some (q1 c) := tb_some (by kernel_rfl) c
theorem c1_is (c : UInt8) : lex_coded_1.f (c.toNat : Int) = some (c1 c) := tb_some (by kernel_rfl) c
theorem c2_is (c : UInt8) : lex_coded_2.f (c.toNat : Int) = some (c2 c) := tb_some (by kernel_rfl) c
theorem bk10 : bk 10 = true := by kernel_rfl
theorem bk59 : bk 59 = false := by kernel_rfl
theorem s110 : s1 10 = false := by kernel_rfl
theorem s159 : s1 59 = true := by kernel_rfl
theorem q134 : q1 34 = false := by kernel_rfl
/-- How many bytes at the beginning are of a kind. -/
def sp (p : UInt8 → Bool) : List UInt8 → Nat
  | [] => 0
  | c :: r => if p c = true then sp p r + 1 else 0
theorem sp_le (p : UInt8 → Bool) : ∀ l, sp p l ≤ l.length
  | [] => Nat.le_refl 0
  | c :: r => by have := sp_le p r; simp only [sp, List.length_cons]; split <;> omega
theorem spanO_is {p : Int → Option Bool} (hp : ∀ c : UInt8, p (c.toNat : Int) = some (tb p c)) : ∀ (l : List UInt8) (i : Int), spanO p l i = some (i + (sp (tb p) l : Int))
  | [], i => by simp [spanO, sp]
  | c :: r, i => by
    simp only [spanO, sp, hp c, Option.bind_some]
    split
    · rename_i h
      rw [spanO_is hp r (i + 1)]
      congr 1; push_cast; omega
    · simp
theorem sp_at (p : UInt8 → Bool) : ∀ (x : List UInt8), (h : sp p x < x.length) → p x[sp p x] = false
  | [], h => by simp at h
  | c :: r, h => by
    by_cases hc : p c = true
    · have e : sp p (c :: r) = sp p r + 1 := by simp only [sp, if_pos hc]
      have h' : sp p r < r.length := by rw [e] at h; simpa using h
      have := sp_at p r h'
      simp only [e, List.getElem_cons_succ]
      exact this
    · have e : sp p (c :: r) = 0 := by simp only [sp, if_neg hc]
      simp only [e, List.getElem_cons_zero]
      simpa using hc
theorem sp_all (p : UInt8 → Bool) (y : List UInt8) : ∀ x, sp p x = x.length → sp p (x ++ y) = x.length + sp p y
  | [], h => by simp
  | c :: r, h => by
    simp only [List.cons_append, sp, List.length_cons] at h ⊢
    have hl := sp_le p r
    split at h
    · rename_i hc
      rw [if_pos hc, sp_all p y r (by omega)]; omega
    · omega

theorem ba_size (l : List UInt8) : (ba l).size = l.length := rfl
theorem F12 (l : List UInt8) (h : l.length ≤ 140737488351232) : lex_span_F29.f (ba l) = some (sp s1 l : Int) := by
  unfold lex_span_F29.f; rw [if_pos (by exact h)]; rw [show (ba l).data.toList = l from rfl, spanO_is s1_is]; simp
theorem F14 (l : List UInt8) (h : l.length ≤ 140737488351232) : lex_span_F18.f (ba l) = some (sp nm l : Int) := by
  unfold lex_span_F18.f; rw [if_pos (by exact h)]; rw [show (ba l).data.toList = l from rfl, spanO_is nm_is]; simp
theorem F17 (l : List UInt8) (h : l.length ≤ 140737488351232) : lex_span_F16.f (ba l) = some (sp dg l : Int) := by
  unfold lex_span_F16.f; rw [if_pos (by exact h)]; rw [show (ba l).data.toList = l from rfl, spanO_is dg_is]; simp
theorem F21 (l : List UInt8) (h : l.length ≤ 140737488351232) : lex_span_F47.f (ba l) = some (sp b1 l : Int) := by
  unfold lex_span_F47.f; rw [if_pos (by exact h)]; rw [show (ba l).data.toList = l from rfl, spanO_is b1_is]; simp
theorem F29 (l : List UInt8) (h : l.length ≤ 140737488351232) : lex_span_F53.f (ba l) = some (sp c1 l : Int) := by
  unfold lex_span_F53.f; rw [if_pos (by exact h)]; rw [show (ba l).data.toList = l from rfl, spanO_is c1_is]; simp
theorem F30 (l : List UInt8) (h : l.length ≤ 140737488351232) : lex_span_F54.f (ba l) = some (sp c2 l : Int) := by
  unfold lex_span_F54.f; rw [if_pos (by exact h)]; rw [show (ba l).data.toList = l from rfl, spanO_is c2_is]; simp
theorem bt_ba (l : List UInt8) (i : Nat) (h : i < l.length) : bt (ba l) (i : Int) = (l[i].toNat : Int) := by
  unfold bt
  rw [dif_pos (by rw [Int.toNat_natCast]; exact h)]
  rfl
theorem ext_ba (l : List UInt8) (i j : Nat) : (ba l).extract i j = ba ((l.take j).drop i) := by
  apply ByteArray.ext
  rw [ByteArray.data_extract]
  apply Array.toList_inj.1
  simp [List.extract_eq_take_drop, List.drop_take]
theorem ext_drop (l : List UInt8) (i : Nat) : (ba l).extract i (ba l).size = ba (l.drop i) := by
  rw [ext_ba, ba_size, List.take_length]
theorem ext_take (l : List UInt8) (j : Nat) : (ba l).extract 0 j = ba (l.take j) := by
  rw [ext_ba, List.drop_zero]
theorem app_ba (x y : List UInt8) : ba x ++ ba y = ba (x ++ y) := by
  apply ByteArray.ext
  simp [ByteArray.data_append]
end Go.Proofs.YtnpmmhceiaedcaaDoor.X
/- lex: what one token is. -/
namespace Go.Proofs.YtnpmmhceiaedcaaDoor.X
open Go.RowKit Go.Proofs.YtnpmmhceiaedcaaDoor.H Go.Proofs.YtnpmmhceiaedcaaDoor.PA Go.Proofs.YtnpmmhceiaedcaaDoorW.PrintWords Go.Proofs.YtnpmmhceiaedcaaDoorW.PrintLast Go.Proofs.YtnpmmhceiaedcaaDoorW.PrintMore
set_option linter.unusedVariables false
set_option linter.unusedSimpArgs false

abbrev R5 := Int × ByteArray × Int × Int × Int
abbrev e51 : R5 := (0, ⟨#[]⟩, 0, 0, 51)
theorem w64 {n : Int} (h : 0 ≤ n) (h' : n ≤ 4611686018427387904) : wrap64 n = n := by unfold wrap64; omega
theorem nat34 (c : UInt8) (k : UInt8) : ((c.toNat : Int) = (k.toNat : Int)) ↔ c = k := by
  constructor
  · intro h; exact UInt8.toNat_inj.1 (by omega)
  · rintro rfl; rfl
def barsS (r : List UInt8) : R5 :=
  if h : sp b1 r < r.length then (if r[sp b1 r] = 124 then (if 0 ≤ Lib.indexByte (r.take (sp b1 r)) 92 then (0, ⟨#[]⟩, 0, 0, 8) else (3, ba (r.take (sp b1 r)), 0, (sp b1 r : Int) + 2, 0)) else (0, ⟨#[]⟩, 0, (sp b1 r : Int) + 1, 50))
  else e51
theorem bars_is (r : List UInt8) (h : r.length ≤ 140737488351232) : lex_bars.f (ba r) = some (barsS r) := by
  have hl := sp_le b1 r
  unfold lex_bars.f barsS
  rw [F21 r h, ba_size]
  simp only [Option.bind_some]
  by_cases hc : sp b1 r < r.length
  · rw [if_neg (by omega), if_pos (by omega), if_pos (by omega), dif_pos hc, bt_ba r _ hc]
    have e : ((r[sp b1 r].toNat : Int) = 124) ↔ r[sp b1 r] = 124 := nat34 r[sp b1 r] 124
    by_cases h4 : r[sp b1 r] = 124
    · rw [if_pos (e.2 h4), if_pos (by omega), if_pos h4]
      simp only [Int.toNat_natCast, ext_take, strings_Contains.f, strings_Index.f, stringslite_Index.f, Option.bind_some]
      by_cases h5 : 0 ≤ Lib.indexByte (r.take (sp b1 r)) 92
      · rw [if_pos h5]; simp [h5]
      · rw [if_neg h5]; simp [h5]; exact w64 (by omega) (by omega)
    · rw [if_neg (fun z => h4 (e.1 z)), if_neg h4, w64 (by omega) (by omega)]
  · rw [if_pos (by omega), dif_neg hc]
theorem bars_good (x : List UInt8) : (barsS x).2.2.1 = 0 ∧ 0 ≤ (barsS x).2.2.2.1 ∧ (barsS x).2.2.2.1 ≤ x.length + 1 ∧ ((barsS x).2.2.2.2 = 0 → 1 ≤ (barsS x).2.2.2.1) := by
  unfold barsS
  split
  · split
    · split <;> simp <;> omega
    · simp; omega
  · simp; omega

theorem lit_some : ∀ (k : Nat) (l : List UInt8) (a : Int) (acc : List UInt8), l.length < k → 0 ≤ a → ∃ r : R5, litF k l a acc = some r ∧ r.2.2.1 = 0 ∧ 0 ≤ r.2.2.2.1 ∧ r.2.2.2.1 ≤ a + l.length + 1 ∧ (r.2.2.2.2 = 0 → 1 ≤ r.2.2.2.1)
  | 0, l, a, acc, h, ha => by omega
  | k + 1, l, a, acc, h, ha => by
    have hl := sp_le q1 l
    have hn : spanO (fun c => lex_literal_1.f c) l 0 = some ((sp q1 l : Nat) : Int) := by rw [spanO_is q1_is]; simp
    simp only [litF, hn, Option.bind_some, Int.toNat_natCast]
    have hd : (l.drop (sp q1 l)).length = l.length - sp q1 l := List.length_drop
    cases e : l.drop (sp q1 l) with
    | nil => exact ⟨_, rfl, rfl, by simp, by simp; omega, by simp⟩
    | cons c r =>
      rw [e] at hd; simp only [List.length_cons] at hd
      simp only
      split
      · cases r with
        | nil => exact ⟨_, rfl, rfl, by simp; omega, by simp; simp only [List.length_nil] at hd; omega, by simp; omega⟩
        | cons d r' =>
          simp only [List.length_cons] at hd
          simp only
          split
          · obtain ⟨r0, h0, h1, h2, h3, h4⟩ := lit_some k r' (a + (sp q1 l : Nat) + 2) (acc ++ l.take (sp q1 l) ++ [34]) (by omega) (by omega)
            exact ⟨r0, h0, h1, h2, by omega, h4⟩
          · exact ⟨_, rfl, rfl, by simp; omega, by simp; omega, by simp; omega⟩
      · exact ⟨_, rfl, rfl, by simp; omega, by simp; omega, by simp⟩
def litS (r : List UInt8) : R5 := (litF (r.length + 1) r 0 []).getD e51
theorem lit_is (r : List UInt8) (h : r.length ≤ 100000) : lex_literal.f (ba r) = some (litS r) := by
  obtain ⟨v, hv, _⟩ := lit_some (r.length + 1) r 0 [] (by omega) (by omega)
  unfold lex_literal.f litS
  rw [ba_size, if_pos (by omega), hv]
  rfl
theorem litS_good (x : List UInt8) : (litS x).2.2.1 = 0 ∧ 0 ≤ (litS x).2.2.2.1 ∧ (litS x).2.2.2.1 ≤ x.length + 1 ∧ ((litS x).2.2.2.2 = 0 → 1 ≤ (litS x).2.2.2.1) := by
  obtain ⟨v, hv, h1, h2, h3, h4⟩ := lit_some (x.length + 1) x 0 [] (by omega) (by omega)
  unfold litS; rw [hv]
  exact ⟨h1, h2, by simp only [Option.getD_some]; omega, h4⟩

theorem index_ge (l : List UInt8) (c : UInt8) : -1 ≤ Lib.indexByte l c := Lib.indexByte_ge l c
theorem plain_some (l : List UInt8) (h : l.length ≤ 140737488351232) : ∃ b, lex_plain.f (ba l) = some b := by
  unfold lex_plain.f
  rw [F17 l h, ba_size]
  simp only [Option.bind_some]
  split
  · exact ⟨_, rfl⟩
  · rename_i hne
    split
    · have h0 : 0 < l.length := by
        cases l with
        | nil => exact absurd (by kernel_rfl) hne
        | cons => simp
      rw [if_pos (by omega)]
      split <;> exact ⟨_, rfl⟩
    · exact ⟨_, rfl⟩
theorem cut_some (l : List UInt8) (h : l.length ≤ 140737488351232) : ∃ x y b, strings_Cut.f (ba l) (⟨#[46]⟩ : ByteArray) = some (ba x, ba y, b) ∧ x.length ≤ 140737488351232 ∧ y.length ≤ 140737488351232 := by
  unfold strings_Cut.f stringslite_Cut.f stringslite_Index.f
  have e : (⟨#[46]⟩ : ByteArray).data.toList = [46] := rfl
  simp only [e, Option.bind_some, show (ba l).data.toList = l from rfl, ba_size, show (([46] : List UInt8).length : Int) = 1 from rfl]
  have hg := index_ge l 46
  have hlt : Lib.indexByte l 46 < l.length ∨ Lib.indexByte l 46 = -1 := by
    by_cases h1 : 0 ≤ Lib.indexByte l 46
    · obtain ⟨o, ho⟩ := Int.eq_ofNat_of_zero_le h1
      have := (Lib.indexByte_some ho).1
      have := (List.getElem?_eq_some_iff.1 this).1
      left; rw [ho]; omega
    · right; omega
  by_cases h1 : 0 ≤ Lib.indexByte l 46
  · have h2 : Lib.indexByte l 46 < l.length := by omega
    rw [w64 (by omega) (by omega), if_pos h1, if_pos h1, if_pos (by omega), if_pos (by omega), if_pos (by omega), ext_take, show (l.length : Nat) = (ba l).size from rfl, ext_drop]
    exact ⟨_, _, _, rfl, by rw [List.length_take]; omega, by rw [List.length_drop]; omega⟩
  · rw [if_neg (by omega)]
    exact ⟨_, [], _, rfl, h, by simp⟩
theorem numeral_some (l : List UInt8) (h : l.length ≤ 140737488351232) : ∃ r : R5, lex_numeral.f (ba l) = some r ∧ r.2.2.1 = 0 ∧ (r.2.2.2.2 = 0 ∧ r.2.2.2.1 = l.length ∨ r.2.2.2.2 = 8 ∧ r.2.2.2.1 = 0) := by
  obtain ⟨x, y, b, hc, hx, hy⟩ := cut_some l h
  obtain ⟨p, hp⟩ := plain_some l h
  obtain ⟨q, hq⟩ := plain_some x hx
  unfold lex_numeral.f
  simp only [hc, hp, hq, F17 y hy, Option.bind_some, ba_size]
  repeat' split
  all_goals first | exact ⟨_, rfl, rfl, .inl ⟨rfl, rfl⟩⟩ | exact ⟨_, rfl, rfl, .inr ⟨rfl, rfl⟩⟩
theorem coded_some (l : List UInt8) (h : l.length ≤ 140737488351232) : ∃ b, lex_coded.f (ba l) = some b := by
  unfold lex_coded.f
  rw [ext_drop, F29 _ (by rw [List.length_drop]; omega), F30 _ (by rw [List.length_drop]; omega), ba_size]
  simp only [Option.bind_some]
  split
  · exact ⟨_, rfl⟩
  · have h0 : (0 : Int) < (l.length : Int) := by omega
    have h1 : (1 : Int) ≤ (l.length : Int) := by omega
    simp only [if_pos h0, if_pos h1]
    repeat' split
    all_goals exact ⟨_, rfl⟩
def oneS (c : UInt8) (n : Nat) (t : List UInt8) (B L : R5) : Option R5 :=
  if c = 40 then some (1, ⟨#[40]⟩, 0, 1, 0) else if c = 41 then some (2, ⟨#[41]⟩, 0, 1, 0) else if c = 124 then some B else if c = 34 then some L
  else if dg c = true then lex_numeral.f (ba t) else if nm c = true then some (3, ba t, 0, (n : Int) + 1, 0)
  else if c = 58 ∧ 0 < n then some (7, ba t, 0, (n : Int) + 1, 0)
  else if c = 35 then (lex_coded.f (ba (t.drop 1))).bind fun b => if b = true then some (8, ba t, 0, (n : Int) + 1, 0) else some (0, ⟨#[]⟩, 0, 0, 8)
  else if c = 58 then some (0, ⟨#[]⟩, 0, 0, 8) else some (0, ⟨#[]⟩, 0, 0, 50)
theorem one_is (c : UInt8) (r : List UInt8) (h : r.length ≤ 100000) : lex_one.f 3 (ba (c :: r)) = oneS c (sp nm r) ((c :: r).take (sp nm r + 1)) (barsS r) (litS r) := by
  have hl := sp_le nm r
  have hd1 : (ba (c :: r)).extract 1 (ba (c :: r)).size = ba r := by rw [ext_drop]; rfl
  have hb0 : bt (ba (c :: r)) 0 = (c.toNat : Int) := bt_ba (c :: r) 0 (by simp)
  have hw : wrap64 (1 + (sp nm r : Int)) = ((sp nm r + 1 : Nat) : Int) := by rw [w64 (by omega) (by omega)]; omega
  unfold lex_one.f
  rw [hd1, F14 r (by omega), bars_is r (by omega), lit_is r h, hb0]
  simp -implicitDefEqProofs only [Option.bind_some, dg_is, nm_is, hw, ba_size, List.length_cons, Int.toNat_natCast, ext_ba, List.drop_zero, lex_one.j0, lex_one.j1]
  rw [if_pos (show (1 : Int) ≤ ((r.length + 1 : Nat) : Int) by omega), if_pos (show (0 : Int) < ((r.length + 1 : Nat) : Int) by omega)]
  have e40 := nat34 c 40
  have e41 := nat34 c 41
  have e124 := nat34 c 124
  have e34 := nat34 c 34
  have e58 := nat34 c 58
  have e35 := nat34 c 35
  simp only [show ((40 : UInt8).toNat : Int) = 40 from rfl, show ((41 : UInt8).toNat : Int) = 41 from rfl, show ((124 : UInt8).toNat : Int) = 124 from rfl, show ((34 : UInt8).toNat : Int) = 34 from rfl, show ((58 : UInt8).toNat : Int) = 58 from rfl, show ((35 : UInt8).toNat : Int) = 35 from rfl] at e40 e41 e124 e34 e58 e35
  have q1 : (0 : Int) ≤ ((sp nm r + 1 : Nat) : Int) := by omega
  have q2 : ((sp nm r + 1 : Nat) : Int) ≤ ((r.length + 1 : Nat) : Int) := by omega
  have q3 : (1 : Int) ≤ ((sp nm r + 1 : Nat) : Int) := by omega
  simp only [e40, e41, e124, e34, e58, e35, if_pos q1, if_pos q2, if_pos q3]
  unfold oneS
  have hs : ((sp nm r + 1 : Nat) : Int) = (sp nm r : Int) + 1 := by omega
  by_cases a1 : c = 40
  · simp only [if_pos a1]
  rw [if_neg a1, if_neg a1]
  by_cases a2 : c = 41
  · simp only [if_pos a2]
  rw [if_neg a2, if_neg a2]
  by_cases a3 : c = 124
  · simp only [if_pos a3]
  rw [if_neg a3, if_neg a3]
  by_cases a4 : c = 34
  · simp only [if_pos a4]
  rw [if_neg a4, if_neg a4]
  by_cases a5 : dg c = true
  · simp only [if_pos a5]
    obtain ⟨v, hv, _⟩ := numeral_some ((c :: r).take (sp nm r + 1)) (by rw [List.length_take]; simp only [List.length_cons]; omega)
    rw [hv]; rfl
  rw [if_neg a5, if_neg a5]
  by_cases a6 : nm c = true
  · simp only [if_pos a6, hs]
  rw [if_neg a6, if_neg a6]
  obtain ⟨b, hb⟩ := coded_some (((c :: r).take (sp nm r + 1)).drop 1) (by rw [List.length_drop, List.length_take]; simp only [List.length_cons]; omega)
  by_cases a7 : c = 58
  · subst a7
    by_cases a8 : 0 < sp nm r
    · have e : decide (((sp nm r + 1 : Nat) : Int) > 1) = true := decide_eq_true (by omega)
      rw [if_pos rfl, if_pos e, if_pos ⟨rfl, a8⟩, hs]
    · have e : decide (((sp nm r + 1 : Nat) : Int) > 1) = false := decide_eq_false (by omega)
      rw [if_pos rfl, e, if_neg (by decide), if_neg (by decide), if_neg (by decide), if_pos rfl, if_neg (fun z => a8 z.2), if_neg (by decide), if_pos rfl]
  · rw [if_neg a7, if_neg (show ¬ (false = true) by decide), if_neg (fun z : c = 58 ∧ 0 < sp nm r => a7 z.1)]
    by_cases a9 : c = 35
    · rw [if_pos a9, if_pos a9, hb, Option.bind_some, Option.bind_some, if_neg a7, if_pos a9, hs]
    · rw [if_neg a9, if_neg a9, if_neg (show ¬ (false = true) by decide), if_neg a7, if_neg a9]
theorem oneS_some (c : UInt8) (r : List UInt8) (h : r.length ≤ 100000) : ∃ v : R5, oneS c (sp nm r) ((c :: r).take (sp nm r + 1)) (barsS r) (litS r) = some v ∧ v.2.2.1 = 0 ∧ 0 ≤ v.2.2.2.1 ∧ v.2.2.2.1 ≤ (c :: r).length ∧ (v.2.2.2.2 = 0 → 1 ≤ v.2.2.2.1) := by
  have hl := sp_le nm r
  have ht : ((c :: r).take (sp nm r + 1)).length = sp nm r + 1 := by rw [List.length_take]; simp only [List.length_cons]; omega
  obtain ⟨u, hu, u1, u2⟩ := numeral_some ((c :: r).take (sp nm r + 1)) (by omega)
  obtain ⟨b, hb⟩ := coded_some (((c :: r).take (sp nm r + 1)).drop 1) (by rw [List.length_drop]; omega)
  have hB := bars_good r
  have hL := litS_good r
  unfold oneS
  simp only [hu, hb, Option.bind_some, List.length_cons]
  rw [ht] at u2
  repeat' split
  all_goals first
    | exact ⟨_, rfl, hB.1, hB.2.1, by have := hB.2.2.1; omega, hB.2.2.2⟩
    | exact ⟨_, rfl, hL.1, hL.2.1, by have := hL.2.2.1; omega, hL.2.2.2⟩
    | exact ⟨_, rfl, u1, by omega, by omega, by omega⟩
    | exact ⟨_, rfl, rfl, by simp <;> omega, by simp <;> omega, by simp <;> omega⟩
/-- What one tells of a text. -/
def one (l : List UInt8) : R5 := (lex_one.f 3 (ba l)).getD (0, ⟨#[]⟩, 0, 0, 50)
theorem one_ok (l : List UInt8) (h0 : l ≠ []) (h : l.length ≤ 100000) : lex_one.f 3 (ba l) = some (one l) ∧ (one l).2.2.1 = 0 ∧ 0 ≤ (one l).2.2.2.1 ∧ (one l).2.2.2.1 ≤ l.length ∧ ((one l).2.2.2.2 = 0 → 1 ≤ (one l).2.2.2.1) := by
  cases l with
  | nil => exact absurd rfl h0
  | cons c r =>
    simp only [List.length_cons] at h
    obtain ⟨v, hv, h1⟩ := oneS_some c r (by omega)
    have e := one_is c r (by omega)
    rw [hv] at e
    unfold one; rw [e]; exact ⟨rfl, h1⟩
end Go.Proofs.YtnpmmhceiaedcaaDoor.X
/- lex: blanks and remarks, and a script's tokens. -/
namespace Go.Proofs.YtnpmmhceiaedcaaDoor.X
open Go.RowKit Go.Proofs.YtnpmmhceiaedcaaDoor.H Go.Proofs.YtnpmmhceiaedcaaDoor.PA Go.Proofs.YtnpmmhceiaedcaaDoorW.PrintWords Go.Proofs.YtnpmmhceiaedcaaDoorW.PrintLast Go.Proofs.YtnpmmhceiaedcaaDoorW.PrintMore
set_option linter.unusedVariables false
set_option linter.unusedSimpArgs false

/-- Blanks and remarks at the beginning (true: inside of a remark); and whether a byte that no script has stands behind them. -/
def sk : Bool → List UInt8 → Nat × Bool
  | _, [] => (0, false)
  | false, c :: r => if bk c = true then ((sk false r).1 + 1, (sk false r).2) else if c = 59 then ((sk true r).1 + 1, (sk true r).2) else (0, !gd c)
  | true, c :: r => if s1 c = true then ((sk true r).1 + 1, (sk true r).2) else if c = 10 then ((sk false r).1 + 1, (sk false r).2) else (0, true)
theorem sk_le : ∀ (b : Bool) (l : List UInt8), (sk b l).1 ≤ l.length
  | b, [] => by cases b <;> simp [sk]
  | false, c :: r => by
    have h1 := sk_le false r
    have h2 := sk_le true r
    simp only [sk, List.length_cons]; repeat' split
    all_goals simp only; omega
  | true, c :: r => by
    have h1 := sk_le false r
    have h2 := sk_le true r
    simp only [sk, List.length_cons]; repeat' split
    all_goals simp only; omega
theorem sk_bad : ∀ (b : Bool) (l : List UInt8), (sk b l).2 = true → (sk b l).1 < l.length
  | b, [], h => by cases b <;> simp [sk] at h
  | false, c :: r, h => by
    have h1 := sk_bad false r
    have h2 := sk_bad true r
    simp only [sk, List.length_cons] at h ⊢
    split
    · rename_i e; rw [if_pos e] at h; have := h1 h; simp only; omega
    · rename_i e; rw [if_neg e] at h
      split
      · rename_i e'; rw [if_pos e'] at h; have := h2 h; simp only; omega
      · simp
  | true, c :: r, h => by
    have h1 := sk_bad false r
    have h2 := sk_bad true r
    simp only [sk, List.length_cons] at h ⊢
    split
    · rename_i e; rw [if_pos e] at h; have := h2 h; simp only; omega
    · rename_i e; rw [if_neg e] at h
      split
      · rename_i e'; rw [if_pos e'] at h; have := h1 h; simp only; omega
      · simp
/-- Inside of a remark, by the span. -/
theorem sk_true : ∀ (l : List UInt8), sk true l = if h : sp s1 l < l.length then (if l[sp s1 l] = 10 then (sp s1 l + (sk false (l.drop (sp s1 l))).1, (sk false (l.drop (sp s1 l))).2) else (sp s1 l, true)) else (l.length, false)
  | [] => by simp [sk, sp]
  | c :: r => by
    have ih := sk_true r
    have hl := sp_le s1 r
    by_cases hc : s1 c = true
    · have e : sp s1 (c :: r) = sp s1 r + 1 := by simp only [sp, if_pos hc]
      simp only [sk, if_pos hc, ih, e, List.length_cons, List.getElem_cons_succ, List.drop_succ_cons]
      by_cases h : sp s1 r < r.length
      · rw [dif_pos h, dif_pos (by omega)]
        split
        · simp only [Prod.mk.injEq, and_true]; omega
        · rfl
      · rw [dif_neg h, dif_neg (by omega)]
    · have e : sp s1 (c :: r) = 0 := by simp only [sp, if_neg hc]
      have e' : sk true (c :: r) = if c = 10 then ((sk false r).1 + 1, (sk false r).2) else (0, true) := by simp only [sk, if_neg hc]
      rw [e']
      simp only [e, List.length_cons, List.getElem_cons_zero, List.drop_zero]
      rw [dif_pos (by omega)]
      split
      · rename_i h10; subst h10
        simp only [sk, bk10, if_true, Prod.mk.injEq, and_true]; omega
      · rfl
theorem byte10 (c : UInt8) : ((c.toNat : Int) = 10) ↔ c = 10 := nat34 c 10
theorem byte59 (c : UInt8) : ((c.toNat : Int) = 59) ↔ c = 59 := nat34 c 59
theorem skip_at (s : List UInt8) (hs : s.length ≤ 100000) : ∀ (m : Nat) (a : Nat) (k : Nat), a ≤ s.length → s.length - a ≤ m → m < k →
    lex_skip.l0 k (ba s) (a : Int) = some ((a : Int) + ((sk false (s.drop a)).1 : Int), (sk false (s.drop a)).2) := by
  intro m
  induction m with
  | zero =>
    intro a k ha hm hk
    obtain ⟨k, rfl⟩ : ∃ j, k = j + 1 := ⟨k - 1, by omega⟩
    rw [List.drop_eq_nil_of_le (by omega)]
    simp only [lex_skip.l0, ba_size]
    rw [if_neg (by omega)]
    simp [sk]
  | succ m ih =>
    intro a k ha hm hk
    obtain ⟨k, rfl⟩ : ∃ j, k = j + 1 := ⟨k - 1, by omega⟩
    by_cases h : a < s.length
    · rw [List.drop_eq_getElem_cons h]
      simp -implicitDefEqProofs only [lex_skip.l0, ba_size, bt_ba s a h, bk_is, gd_is, Option.bind_some]
      rw [if_pos (show (a : Int) < (s.length : Int) by omega), if_pos (show (0 : Int) ≤ (a : Int) by omega)]
      by_cases h1 : bk s[a] = true
      · rw [if_pos h1, w64 (by omega) (by omega)]
        have := ih (a + 1) k (by omega) (by omega) (by omega)
        rw [show ((a : Int) + 1) = ((a + 1 : Nat) : Int) by omega, this]
        simp only [sk, if_pos h1, Option.some.injEq, Prod.mk.injEq, and_true]
        push_cast; omega
      · rw [if_neg h1]
        by_cases h2 : s[a] = 59
        · have hd : s.drop a = 59 :: s.drop (a + 1) := by rw [List.drop_eq_getElem_cons h, h2]
          have hsp : sp s1 (s.drop a) = sp s1 (s.drop (a + 1)) + 1 := by rw [hd]; simp only [sp, s159, if_true]
          have hl := sp_le s1 (s.drop (a + 1))
          rw [List.length_drop] at hl
          rw [if_pos ((byte59 _).2 h2), if_pos (show (a : Int) ≤ (s.length : Int) by omega), Int.toNat_natCast, show (s.length : Nat) = (ba s).size from rfl, ext_drop, F12 _ (by rw [List.length_drop]; omega), Option.bind_some, hsp]
          have hw : wrap64 ((a : Int) + ((sp s1 (s.drop (a + 1)) + 1 : Nat) : Int)) = ((a + 1 + sp s1 (s.drop (a + 1)) : Nat) : Int) := by rw [w64 (by omega) (by omega)]; omega
          rw [hw, ba_size]
          have ht := sk_true (s.drop (a + 1))
          have hlen : (s.drop (a + 1)).length = s.length - (a + 1) := List.length_drop
          by_cases h3 : sp s1 (s.drop (a + 1)) < (s.drop (a + 1)).length
          · have h3' : a + 1 + sp s1 (s.drop (a + 1)) < s.length := by omega
            have hg : (s.drop (a + 1))[sp s1 (s.drop (a + 1))] = s[a + 1 + sp s1 (s.drop (a + 1))] := by rw [List.getElem_drop]
            rw [dif_pos h3, hg] at ht
            rw [if_pos (show ((a + 1 + sp s1 (s.drop (a + 1)) : Nat) : Int) < (s.length : Int) by omega), if_pos (show (0 : Int) ≤ ((a + 1 + sp s1 (s.drop (a + 1)) : Nat) : Int) by omega), bt_ba s _ h3']
            by_cases h4 : s[a + 1 + sp s1 (s.drop (a + 1))] = 10
            · rw [if_pos h4, List.drop_drop] at ht
              rw [if_pos ((byte10 _).2 h4), ih _ k (by omega) (by omega) (by omega)]
              simp only [sk, h2, bk59, Bool.false_eq_true, if_false, if_true, ht, Option.some.injEq, Prod.mk.injEq, and_true]
              push_cast; omega
            · rw [if_neg h4] at ht
              rw [if_neg (fun z => h4 ((byte10 _).1 z))]
              simp only [sk, h2, bk59, Bool.false_eq_true, if_false, if_true, ht, Option.some.injEq, Prod.mk.injEq, and_true]
              push_cast; omega
          · rw [dif_neg h3] at ht
            rw [if_neg (show ¬ ((a + 1 + sp s1 (s.drop (a + 1)) : Nat) : Int) < (s.length : Int) by omega), ih _ k (by omega) (by omega) (by omega), List.drop_eq_nil_of_le (show s.length ≤ a + 1 + sp s1 (s.drop (a + 1)) by omega)]
            simp only [sk, h2, bk59, Bool.false_eq_true, if_false, if_true, ht, Option.some.injEq, Prod.mk.injEq, and_true]
            push_cast; omega
        · rw [if_neg (fun z => h2 ((byte59 _).1 z))]
          simp only [sk, if_neg h1, if_neg h2]
          simp
    · rw [List.drop_eq_nil_of_le (by omega)]
      simp only [lex_skip.l0, ba_size]
      rw [if_neg (by omega)]
      simp [sk]
theorem skip_is (s : List UInt8) (hs : s.length ≤ 100000) (k : Nat) (hk : s.length < k) : lex_skip.f k (ba s) = some (((sk false s).1 : Int), (sk false s).2) := by
  have := skip_at s hs s.length 0 k (by omega) (by omega) hk
  unfold lex_skip.f
  rw [show ((0 : Nat) : Int) = 0 from rfl] at this
  rw [this]; simp

/-- A script's tokens: what is left, how many came before, and where. -/
def lx : Nat → List UInt8 → Nat → Nat → List S23 × Int × Int
  | 0, s, c, a => ([], 0, a)
  | k + 1, s, c, a =>
    if (sk false s).2 = true then ([], 50, ((a + (sk false s).1 : Nat) : Int)) else
    if (sk false s).1 = s.length then ([], 0, ((a + s.length : Nat) : Int)) else
    if c = 4000 then ([], 2, ((a + (sk false s).1 : Nat) : Int)) else
    if (one (s.drop (sk false s).1)).2.2.2.2 = 0 then
      (let n := (sk false s).1; let o := one (s.drop n); let r := lx k (s.drop (n + o.2.2.2.1.toNat)) (c + 1) (a + n + o.2.2.2.1.toNat)
       (⟨o.1, o.2.1, ((a + n : Nat) : Int)⟩ :: r.1, r.2.1, r.2.2))
    else ([], (one (s.drop (sk false s).1)).2.2.2.2, ((a + (sk false s).1 : Nat) : Int) + (one (s.drop (sk false s).1)).2.2.2.1)
theorem Lex_at (S : List UInt8) (hS : S.length ≤ 16384) : ∀ (f : Nat) (s : List UInt8) (a : Nat) (acc : List S23) (k : Nat), a ≤ S.length → S.drop a = s → s.length < f → S.length + f + 5 ≤ k → acc.length ≤ a →
    lex_Lex.l0 k (ba S) acc (a : Int) = some (acc ++ (lx f s acc.length a).1, (lx f s acc.length a).2.1, (lx f s acc.length a).2.2) := by
  intro f
  induction f with
  | zero => intro s a acc k ha hs hf hk hc; omega
  | succ f ih =>
    intro s a acc k ha hs hf hk hc
    obtain ⟨k, rfl⟩ : ∃ j, k = j + 1 := ⟨k - 1, by omega⟩
    have hlen : s.length = S.length - a := by rw [← hs, List.length_drop]
    have hle := sk_le false s
    have hskip := skip_is s (by omega) k (by omega)
    have hw : wrap64 ((a : Int) + ((sk false s).1 : Int)) = ((a + (sk false s).1 : Nat) : Int) := by rw [w64 (by omega) (by omega)]; omega
    unfold lex_Lex.l0
    rw [if_pos (show (0 : Int) ≤ (a : Int) by omega), if_pos (show (a : Int) ≤ ((ba S).size : Int) by rw [ba_size]; omega), Int.toNat_natCast, ext_drop, hs, hskip, Option.bind_some]
    simp only [hw, ba_size]
    clear hw
    simp only [lx]
    by_cases h1 : (sk false s).2 = true
    · rw [if_pos h1, if_pos h1]; simp
    rw [if_neg h1, if_neg h1]
    by_cases h2 : (sk false s).1 = s.length
    · rw [if_pos (show ((a + (sk false s).1 : Nat) : Int) = (S.length : Int) by omega), if_pos h2, h2]; simp
    rw [if_neg (show ¬ ((a + (sk false s).1 : Nat) : Int) = (S.length : Int) by omega), if_neg h2]
    by_cases h3 : acc.length = 4000
    · rw [if_pos (show (acc.length : Int) = 4000 by omega), if_pos h3]; simp
    rw [if_neg (show ¬ (acc.length : Int) = 4000 by omega), if_neg h3]
    have hne : s.drop (sk false s).1 ≠ [] := by
      intro z; have := congrArg List.length z; rw [List.length_drop] at this; simp only [List.length_nil] at this; omega
    obtain ⟨ho, _, o1, o2, o3⟩ := one_ok (s.drop (sk false s).1) hne (by rw [List.length_drop]; omega)
    rw [List.length_drop] at o2
    have hone : lex_one.f k (ba (s.drop (sk false s).1)) = some (one (s.drop (sk false s).1)) := at_rounds (g := fun k => lex_one.f k (ba (s.drop (sk false s).1))) (fun k => lex_one.mono _ k) (by omega) ho
    have hdd : S.drop (a + (sk false s).1) = s.drop (sk false s).1 := by rw [← hs, List.drop_drop]
    rw [if_pos (show (0 : Int) ≤ ((a + (sk false s).1 : Nat) : Int) by omega), if_pos (show ((a + (sk false s).1 : Nat) : Int) ≤ (S.length : Int) by omega), Int.toNat_natCast, show (S.length : Nat) = (ba S).size from rfl, ext_drop, hdd, hone, Option.bind_some]
    generalize hO : one (s.drop (sk false s).1) = O at *
    generalize hn : (sk false s).1 = n at *
    have hw2 : wrap64 (((a + n : Nat) : Int) + O.2.2.2.1) = ((a + n : Nat) : Int) + O.2.2.2.1 := w64 (by omega) (by omega)
    rw [hw2]
    by_cases h4 : O.2.2.2.2 = 0
    · have o3' := o3 h4
      rw [if_pos h4, if_pos (show acc.length < 4398046511104 by omega), if_pos h4]
      have hq : ((a + n : Nat) : Int) + O.2.2.2.1 = ((a + n + O.2.2.2.1.toNat : Nat) : Int) := by omega
      have := ih (s.drop (n + O.2.2.2.1.toNat)) (a + n + O.2.2.2.1.toNat) (acc ++ [(⟨O.1, O.2.1, ((a + n : Nat) : Int)⟩ : S23)]) k (by omega) (by rw [← hs, List.drop_drop, Nat.add_assoc]) (by rw [List.length_drop]; omega) (by omega) (by simp; omega)
      rw [hq, this]
      simp only [List.length_append, List.length_singleton, List.append_assoc, List.singleton_append]
    · rw [if_neg h4, if_neg h4]; simp
theorem Lex_is (S : List UInt8) (hS : S.length ≤ 16384) (k : Nat) (hk : 2 * S.length + 6 ≤ k) : lex_Lex.f k (ba S) = some (lx (S.length + 1) S 0 0) := by
  have := Lex_at S hS (S.length + 1) S 0 [] k (by omega) rfl (by omega) (by omega) (by simp)
  unfold lex_Lex.f
  rw [if_neg (show ¬ ((ba S).size : Int) > 16384 by rw [ba_size]; omega)]
  rw [show ((0 : Nat) : Int) = 0 from rfl] at this
  rw [this]; rfl
end Go.Proofs.YtnpmmhceiaedcaaDoor.X
/- lex: a script and what is written behind it. -/
namespace Go.Proofs.YtnpmmhceiaedcaaDoor.X
open Go.RowKit Go.Proofs.YtnpmmhceiaedcaaDoor.H Go.Proofs.YtnpmmhceiaedcaaDoor.PA Go.Proofs.YtnpmmhceiaedcaaDoorW.PrintWords Go.Proofs.YtnpmmhceiaedcaaDoorW.PrintLast Go.Proofs.YtnpmmhceiaedcaaDoorW.PrintMore
set_option linter.unusedVariables false
set_option linter.unusedSimpArgs false

theorem one_at (s : List UInt8) (h : s.length ≤ 100000) (hn : (sk false s).1 < s.length) : s.drop (sk false s).1 ≠ [] ∧ 0 ≤ (one (s.drop (sk false s).1)).2.2.2.1 ∧ (one (s.drop (sk false s).1)).2.2.2.1 ≤ s.length - (sk false s).1 ∧ ((one (s.drop (sk false s).1)).2.2.2.2 = 0 → 1 ≤ (one (s.drop (sk false s).1)).2.2.2.1) := by
  have hne : s.drop (sk false s).1 ≠ [] := by
    intro z; have := congrArg List.length z; rw [List.length_drop] at this; simp only [List.length_nil] at this; omega
  obtain ⟨_, _, o1, o2, o3⟩ := one_ok (s.drop (sk false s).1) hne (by rw [List.length_drop]; omega)
  rw [List.length_drop] at o2
  exact ⟨hne, o1, by omega, o3⟩
/-- Kind and text of a token. -/
abbrev key (t : S23) : Int × ByteArray := (t.f0, t.f1)
end Go.Proofs.YtnpmmhceiaedcaaDoor.X
/- lex: what is written of a token is that token. -/
namespace Go.Proofs.YtnpmmhceiaedcaaDoor.X
open Go.RowKit Go.Proofs.YtnpmmhceiaedcaaDoor.H Go.Proofs.YtnpmmhceiaedcaaDoor.PA Go.Proofs.YtnpmmhceiaedcaaDoorW.PrintWords Go.Proofs.YtnpmmhceiaedcaaDoorW.PrintLast Go.Proofs.YtnpmmhceiaedcaaDoorW.PrintMore
set_option linter.unusedVariables false
set_option linter.unusedSimpArgs false

/-- Quotes doubled. -/
def dbl : List UInt8 → List UInt8
  | [] => []
  | c :: r => if c = 34 then 34 :: 34 :: dbl r else c :: dbl r
def simpl : List UInt8 → Bool
  | [] => false
  | c :: r => !dg c && (sp nm (c :: r) == (c :: r).length)
/-- What is written of a token. -/
def TokW (kd : Int) (t : List UInt8) : List UInt8 := if kd = 3 ∧ simpl t = false then 124 :: (t ++ [124]) else if kd = 6 then 34 :: (dbl t ++ [34]) else t
theorem nm_props (c : UInt8) (h : nm c = true) : bk c = false ∧ gd c = true ∧ c ≠ 59 ∧ c ≠ 40 ∧ c ≠ 41 ∧ c ≠ 124 ∧ c ≠ 34 := by
  have := byte_all (P := fun n => !(lex_named.f 3 (n : Int) == some true) || (!(lex_blank.f (n : Int) == some true) && (lex_good.f (n : Int) == some true) && n != 59 && n != 40 && n != 41 && n != 124 && n != 34)) (by kernel_rfl) c
  have h' : (lex_named.f 3 (c.toNat : Int) == some true) = true := h
  rw [h'] at this
  simp only [Bool.not_true, Bool.false_or, Bool.and_eq_true, bne_iff_ne, ne_eq] at this
  obtain ⟨⟨⟨⟨⟨⟨h1, h2⟩, h3⟩, h4⟩, h5⟩, h6⟩, h7⟩ := this
  refine ⟨by simpa [bk, tb] using h1, h2, ?_, ?_, ?_, ?_, ?_⟩
  · rintro rfl; exact h3 rfl
  · rintro rfl; exact h4 rfl
  · rintro rfl; exact h5 rfl
  · rintro rfl; exact h6 rfl
  · rintro rfl; exact h7 rfl
theorem dg_nm (c : UInt8) (h : dg c = true) : nm c = true := by
  have := byte_all (P := fun n => !(lex_digit.f (n : Int) == some true) || (lex_named.f 3 (n : Int) == some true)) (by kernel_rfl) c
  have h' : (lex_digit.f (c.toNat : Int) == some true) = true := h
  rw [h'] at this
  simp only [Bool.not_true, Bool.false_or] at this
  exact this
theorem q1_not (c : UInt8) (h : q1 c = true) : c ≠ 34 := by rintro rfl; rw [q134] at h; cases h
theorem bk124 : bk 124 = false := by kernel_rfl
theorem gd124 : gd 124 = true := by kernel_rfl
theorem b1124 : b1 124 = false := by kernel_rfl
theorem bk34 : bk 34 = false := by kernel_rfl
theorem gd34 : gd 34 = true := by kernel_rfl
theorem bk58 : bk 58 = false := by kernel_rfl
theorem gd58 : gd 58 = true := by kernel_rfl
theorem bk35 : bk 35 = false := by kernel_rfl
theorem gd35 : gd 35 = true := by kernel_rfl
theorem bk40 : bk 40 = false := by kernel_rfl
theorem gd40 : gd 40 = true := by kernel_rfl
theorem bk41 : bk 41 = false := by kernel_rfl
theorem gd41 : gd 41 = true := by kernel_rfl
theorem sp_take (p : UInt8 → Bool) : ∀ x, sp p (x.take (sp p x)) = sp p x
  | [] => by simp [sp]
  | c :: r => by
    by_cases hc : p c = true
    · have e : sp p (c :: r) = sp p r + 1 := by simp only [sp, if_pos hc]
      rw [e, List.take_succ_cons]
      simp only [sp, if_pos hc, sp_take p r]
    · have e : sp p (c :: r) = 0 := by simp only [sp, if_neg hc]
      rw [e, List.take_zero]; rfl
/-- A literal's steps. -/
theorem hspan1 (l : List UInt8) : spanO (fun c => lex_literal_1.f c) l 0 = some ((sp q1 l : Nat) : Int) := by rw [spanO_is q1_is]; simp
theorem lit_step (k : Nat) (c : UInt8) (hc : q1 c = true) (l : List UInt8) (a : Int) (acc : List UInt8) : litF (k + 1) (c :: l) a acc = litF (k + 1) l (a + 1) (acc ++ [c]) := by
  have e : sp q1 (c :: l) = sp q1 l + 1 := by simp only [sp, if_pos hc]
  simp only [litF, hspan1, Option.bind_some, Int.toNat_natCast, e, List.drop_succ_cons, List.take_succ_cons, List.append_assoc, List.singleton_append]
  have e2 : a + ((sp q1 l + 1 : Nat) : Int) = a + 1 + ((sp q1 l : Nat) : Int) := by omega
  rw [e2]
theorem lit_two (k : Nat) (l : List UInt8) (a : Int) (acc : List UInt8) : litF (k + 1) (34 :: 34 :: l) a acc = litF k l (a + 2) (acc ++ [34]) := by
  have e : sp q1 (34 :: 34 :: l) = 0 := by simp [sp, q134]
  simp only [litF, hspan1, Option.bind_some, Int.toNat_natCast, e, List.drop_zero, List.take_zero, if_true, List.append_nil]
  simp
theorem lit_one (k : Nat) (a : Int) (acc : List UInt8) : litF (k + 1) [34] a acc = some (6, ba acc, 0, a + 2, 0) := by
  have e : sp q1 [34] = 0 := by simp [sp, q134]
  simp only [litF, hspan1, Option.bind_some, Int.toNat_natCast, e, List.drop_zero, List.take_zero, if_true, List.append_nil]
  simp
theorem lit_of_dbl : ∀ (u : List UInt8) (k : Nat) (a : Int) (acc : List UInt8), (∀ c ∈ u, q1 c = true ∨ c = 34) → u.length < k → litF k (dbl u ++ [34]) a acc = some (6, ba (acc ++ u), 0, a + ((dbl u).length : Int) + 2, 0)
  | [], k, a, acc, _, hk => by
    obtain ⟨k, rfl⟩ : ∃ j, k = j + 1 := ⟨k - 1, by omega⟩
    simp only [dbl, List.nil_append, lit_one, List.append_nil, List.length_nil]; simp
  | c :: u, k, a, acc, h, hk => by
    obtain ⟨k, rfl⟩ : ∃ j, k = j + 1 := ⟨k - 1, by omega⟩
    simp only [List.length_cons] at hk
    by_cases h34 : c = 34
    · subst h34
      simp only [dbl, if_true, List.cons_append, lit_two]
      rw [lit_of_dbl u k _ _ (fun z hz => h z (List.mem_cons_of_mem _ hz)) (by omega)]
      simp only [List.append_assoc, List.singleton_append, List.length_cons, Option.some.injEq, Prod.mk.injEq, and_true, true_and]
      omega
    · have hq : q1 c = true := (h c List.mem_cons_self).resolve_right h34
      simp only [dbl, if_neg h34, List.cons_append, lit_step k c hq]
      rw [lit_of_dbl u (k + 1) _ _ (fun z hz => h z (List.mem_cons_of_mem _ hz)) (by omega)]
      simp only [List.append_assoc, List.singleton_append, List.length_cons, Option.some.injEq, Prod.mk.injEq, and_true, true_and]
      omega
theorem dbl_app (x y : List UInt8) : dbl (x ++ y) = dbl x ++ dbl y := by
  induction x with
  | nil => rfl
  | cons c r ih => simp only [List.cons_append, dbl, ih]; split <;> simp
theorem dbl_q1 : ∀ (x : List UInt8), (∀ c ∈ x, q1 c = true) → dbl x = x
  | [], _ => rfl
  | c :: r, h => by
    have := q1_not c (h c List.mem_cons_self)
    simp only [dbl, if_neg this, dbl_q1 r (fun z hz => h z (List.mem_cons_of_mem _ hz))]
theorem sp_mem (p : UInt8 → Bool) : ∀ (l : List UInt8), ∀ c ∈ l.take (sp p l), p c = true
  | [], c, h => by simp at h
  | d :: r, c, h => by
    by_cases hd : p d = true
    · have e : sp p (d :: r) = sp p r + 1 := by simp only [sp, if_pos hd]
      rw [e, List.take_succ_cons, List.mem_cons] at h
      rcases h with rfl | h
      · exact hd
      · exact sp_mem p r c h
    · have e : sp p (d :: r) = 0 := by simp only [sp, if_neg hd]
      rw [e] at h; simp at h
/-- What a literal says, and how long it is. -/
theorem lit_says : ∀ (k : Nat) (l : List UInt8) (a : Int) (acc : List UInt8) (r : R5), litF k l a acc = some r → r.2.2.2.2 = 0 →
    ∃ u, r = (6, ba (acc ++ u), 0, a + ((dbl u).length : Int) + 2, 0) ∧ ∀ c ∈ u, q1 c = true ∨ c = 34
  | 0, l, a, acc, r, h, _ => by simp [litF] at h
  | k + 1, l, a, acc, r, h, h0 => by
    have hm := sp_mem q1 l
    have hl := sp_le q1 l
    simp only [litF, hspan1, Option.bind_some, Int.toNat_natCast] at h
    have hd1 : ((dbl (l.take (sp q1 l))).length : Int) = (sp q1 l : Int) := by rw [dbl_q1 _ hm, List.length_take]; omega
    split at h
    · rw [← Option.some.inj h] at h0; simp at h0
    · rename_i c r1 e1
      split at h
      · split at h
        · refine ⟨l.take (sp q1 l), ?_, fun c hc => .inl (hm c hc)⟩
          rw [hd1]; exact (Option.some.inj h).symm
        · rename_i d r2
          split at h
          · obtain ⟨u, hu, hc⟩ := lit_says k r2 _ _ r h h0
            refine ⟨l.take (sp q1 l) ++ 34 :: u, ?_, ?_⟩
            · rw [hu, dbl_app, List.length_append]
              simp only [dbl, if_true, List.length_cons, List.append_assoc, List.singleton_append, Prod.mk.injEq, and_true, true_and]
              push_cast
              rw [hd1]; omega
            · intro z hz
              rcases List.mem_append.1 hz with hz | hz
              · exact .inl (hm z hz)
              · rcases List.mem_cons.1 hz with rfl | hz
                · exact .inr rfl
                · exact hc z hz
          · refine ⟨l.take (sp q1 l), ?_, fun c hc => .inl (hm c hc)⟩
            rw [hd1]; exact (Option.some.inj h).symm
      · rw [← Option.some.inj h] at h0; simp at h0
theorem dbl_len : ∀ u : List UInt8, u.length ≤ (dbl u).length ∧ (dbl u).length ≤ 2 * u.length
  | [] => by simp [dbl]
  | c :: r => by have := dbl_len r; simp only [dbl]; split <;> simp only [List.length_cons] <;> omega

/-- W is a token's text by itself. -/
def Own (kd : Int) (t W : List UInt8) : Prop := sk false W = (0, false) ∧ W ≠ [] ∧ one W = (kd, ba t, 0, (W.length : Int), 0)
theorem sk_zero (c : UInt8) (r : List UInt8) (h : bk c = false) (h' : c ≠ 59) (hg : gd c = true) : sk false (c :: r) = (0, false) := by
  simp only [sk]; rw [if_neg (by rw [h]; decide), if_neg h', hg]; rfl
theorem one_eq (c : UInt8) (r : List UInt8) (h : r.length ≤ 100000) : oneS c (sp nm r) ((c :: r).take (sp nm r + 1)) (barsS r) (litS r) = some (one (c :: r)) := by
  have e := one_is c r h
  obtain ⟨v, hv, _⟩ := oneS_some c r h
  rw [hv]
  unfold one; rw [e, hv]; rfl
theorem one_self (c : UInt8) (r : List UInt8) (h : r.length ≤ 100000) (a3 : c ≠ 124) (a4 : c ≠ 34) : one (c :: r.take (sp nm r)) = one (c :: r) := by
  have hl := sp_le nm r
  have h1 := one_eq c r h
  have h2 := one_eq c (r.take (sp nm r)) (by rw [List.length_take]; omega)
  rw [sp_take] at h2
  have e : (c :: r.take (sp nm r)).take (sp nm r + 1) = (c :: r).take (sp nm r + 1) := by
    rw [List.take_succ_cons, List.take_succ_cons, List.take_take, Nat.min_self]
  rw [e] at h2
  unfold oneS at h1 h2
  simp only [if_neg a3, if_neg a4] at h1 h2
  exact Option.some.inj (h2.symm.trans h1)
theorem numeral_ok (l : List UInt8) (h : l.length ≤ 140737488351232) (r : R5) (hr : lex_numeral.f (ba l) = some r) (h0 : r.2.2.2.2 = 0) : (r.1 = 4 ∨ r.1 = 5) ∧ r.2.1 = ba l ∧ r.2.2.1 = 0 ∧ r.2.2.2.1 = l.length := by
  obtain ⟨x, y, b, hc, hx, hy⟩ := cut_some l h
  obtain ⟨p, hp⟩ := plain_some l h
  obtain ⟨q, hq⟩ := plain_some x hx
  unfold lex_numeral.f at hr
  simp only [hc, hp, hq, F17 y hy, Option.bind_some, ba_size] at hr
  repeat' split at hr
  all_goals (rw [← Option.some.inj hr] at h0 ⊢; first | exact ⟨.inl rfl, rfl, rfl, rfl⟩ | exact ⟨.inr rfl, rfl, rfl, rfl⟩ | (simp at h0))
theorem own_of_one (x : List UInt8) (h0 : x ≠ []) (hx : x.length ≤ 100000) (he : (one x).2.2.2.2 = 0) :
    ∃ t, (one x).2.1 = ba t ∧ Own (one x).1 t (TokW (one x).1 t) ∧ ((TokW (one x).1 t).length : Int) ≤ (one x).2.2.2.1 := by
  cases x with
  | nil => exact absurd rfl h0
  | cons c r =>
    simp only [List.length_cons] at hx
    have hr : r.length ≤ 100000 := by omega
    have h1 := one_eq c r hr
    have hl := sp_le nm r
    by_cases a1 : c = 40
    · subst a1
      have e : one (40 :: r) = (1, ba [40], 0, 1, 0) := (Option.some.inj (h1.symm.trans rfl))
      have e' : one [40] = (1, ba [40], 0, 1, 0) := (Option.some.inj ((one_eq 40 [] (by simp)).symm.trans rfl))
      rw [e]
      exact ⟨[40], rfl, ⟨sk_zero 40 [] bk40 (by decide) gd40, by simp [TokW], e'⟩, by simp [TokW]⟩
    by_cases a2 : c = 41
    · subst a2
      have e : one (41 :: r) = (2, ba [41], 0, 1, 0) := (Option.some.inj (h1.symm.trans rfl))
      have e' : one [41] = (2, ba [41], 0, 1, 0) := (Option.some.inj ((one_eq 41 [] (by simp)).symm.trans rfl))
      rw [e]
      exact ⟨[41], rfl, ⟨sk_zero 41 [] bk41 (by decide) gd41, by simp [TokW], e'⟩, by simp [TokW]⟩
    have simple_own : ∀ t : List UInt8, simpl t = true → t.length ≤ 100000 → Own 3 t t := by
      intro t ht htl
      cases t with
      | nil => simp [simpl] at ht
      | cons d u =>
        simp only [simpl, Bool.and_eq_true, Bool.not_eq_true', beq_iff_eq] at ht
        obtain ⟨hd, hs⟩ := ht
        have hdn : nm d = true := by
          by_cases z : nm d = true
          · exact z
          · simp only [sp, if_neg z, List.length_cons] at hs; omega
        have hsu : sp nm u = u.length := by simp only [sp, if_pos hdn, List.length_cons] at hs; omega
        obtain ⟨p1, p2, p3, p4, p5, p6, p7⟩ := nm_props d hdn
        have hu := one_eq d u (by simp only [List.length_cons] at htl; omega)
        unfold oneS at hu
        rw [if_neg p4, if_neg p5, if_neg p6, if_neg p7, if_neg (by rw [hd]; decide), if_pos hdn, hsu, List.take_of_length_le (by simp)] at hu
        refine ⟨sk_zero d u p1 p3 p2, by simp, ?_⟩
        rw [← Option.some.inj hu]; simp
    by_cases a3 : c = 124
    · subst a3
      have e : one (124 :: r) = barsS r := (Option.some.inj (h1.symm.trans rfl))
      rw [e] at he ⊢
      have hb := sp_le b1 r
      unfold barsS at he ⊢
      by_cases q1' : ¬ sp b1 r < r.length
      · rw [dif_neg q1'] at he; simp at he
      have q1' := Decidable.not_not.1 q1'
      rw [dif_pos q1'] at he ⊢
      by_cases q2 : ¬ r[sp b1 r] = 124
      · rw [if_neg q2] at he; simp at he
      have q2 := Decidable.not_not.1 q2
      rw [if_pos q2] at he ⊢
      by_cases q3 : 0 ≤ Lib.indexByte (r.take (sp b1 r)) 92
      · rw [if_pos q3] at he; simp at he
      rw [if_neg q3]
      refine ⟨r.take (sp b1 r), rfl, ?_⟩
      have htl : (r.take (sp b1 r)).length = sp b1 r := by rw [List.length_take]; omega
      have hst := sp_take b1 r
      generalize r.take (sp b1 r) = t at *
      by_cases hs : simpl t = true
      · have e2 : TokW 3 t = t := by unfold TokW; rw [if_neg (by rw [hs]; decide), if_neg (by decide)]
        simp only [e2]
        exact ⟨simple_own t hs (by omega), by omega⟩
      · have e2 : TokW 3 t = 124 :: (t ++ [124]) := by unfold TokW; rw [if_pos ⟨rfl, by simpa using hs⟩]
        simp only [e2]
        refine ⟨⟨sk_zero _ _ bk124 (by decide) gd124, by simp, ?_⟩, by simp; omega⟩
        have e3 : one (124 :: (t ++ [124])) = barsS (t ++ [124]) := (Option.some.inj ((one_eq 124 (t ++ [124]) (by simp; omega)).symm.trans rfl))
        have e4 : sp b1 (t ++ [124]) = t.length := by rw [sp_all b1 [124] t (by omega)]; simp [sp, b1124]
        rw [e3]
        unfold barsS
        rw [dif_pos (by rw [e4]; simp)]
        have e5 : (t ++ [124])[sp b1 (t ++ [124])]'(by rw [e4]; simp) = 124 := by simp [e4]
        rw [if_pos e5, e4, List.take_left', if_neg q3]
        · simp only [List.length_cons, List.length_append, List.length_nil]; push_cast; simp; omega
        · rfl
    by_cases a4 : c = 34
    · subst a4
      have e : one (34 :: r) = litS r := (Option.some.inj (h1.symm.trans rfl))
      rw [e] at he ⊢
      obtain ⟨v, hv, _⟩ := lit_some (r.length + 1) r 0 [] (by omega) (by omega)
      have ev : litS r = v := by unfold litS; rw [hv]; rfl
      rw [ev] at he ⊢
      obtain ⟨u, rfl, hu⟩ := lit_says _ _ _ _ v hv he
      simp only [List.nil_append]
      have e2 : TokW 6 u = 34 :: (dbl u ++ [34]) := by unfold TokW; rw [if_neg (fun z => absurd z.1 (by decide)), if_pos rfl]
      have hg := litS_good r
      rw [ev] at hg
      have hgl := hg.2.2.1
      simp only [Int.zero_add] at hgl
      have hdl := dbl_len u
      refine ⟨u, rfl, ?_⟩
      rw [e2]
      refine ⟨⟨sk_zero _ _ bk34 (by decide) gd34, by simp, ?_⟩, by simp; omega⟩
      have e3 : one (34 :: (dbl u ++ [34])) = litS (dbl u ++ [34]) := (Option.some.inj ((one_eq 34 (dbl u ++ [34]) (by simp; omega)).symm.trans rfl))
      rw [e3]
      unfold litS
      rw [lit_of_dbl u _ 0 [] hu (by simp; omega)]
      simp only [Option.getD_some, List.nil_append, List.length_cons, List.length_append, List.length_nil]
      push_cast; simp; omega
    -- what is written as it stands
    have ht : (c :: r).take (sp nm r + 1) = c :: r.take (sp nm r) := by rw [List.take_succ_cons]
    have hs := one_self c r hr a3 a4
    have htl : (c :: r.take (sp nm r)).length = sp nm r + 1 := by simp only [List.length_cons, List.length_take]; omega
    rw [ht] at h1
    unfold oneS at h1
    rw [if_neg a1, if_neg a2, if_neg a3, if_neg a4] at h1
    have asis : ∀ kd : Int, one (c :: r) = (kd, ba (c :: r.take (sp nm r)), 0, ((c :: r.take (sp nm r)).length : Int), 0) → (kd = 3 → simpl (c :: r.take (sp nm r)) = true) → kd ≠ 6 → bk c = false → c ≠ 59 → gd c = true →
        ∃ t, (one (c :: r)).2.1 = ba t ∧ Own (one (c :: r)).1 t (TokW (one (c :: r)).1 t) ∧ ((TokW (one (c :: r)).1 t).length : Int) ≤ (one (c :: r)).2.2.2.1 := by
      intro kd hk hk3 hk6 hb hc59 hg
      rw [hk]
      have e2 : TokW kd (c :: r.take (sp nm r)) = c :: r.take (sp nm r) := by
        unfold TokW
        rw [if_neg (fun z => by rw [hk3 z.1] at z; exact absurd z.2 (by decide)), if_neg hk6]
      refine ⟨_, rfl, ?_⟩
      rw [e2]
      exact ⟨⟨sk_zero _ _ hb hc59 hg, by simp, by rw [hs, hk]⟩, Int.le_refl _⟩
    by_cases a5 : dg c = true
    · rw [if_pos a5] at h1
      obtain ⟨k1, k2, k3, k4⟩ := numeral_ok _ (by omega) _ h1 he
      obtain ⟨p1, p2, p3, p4, p5, p6, p7⟩ := nm_props c (dg_nm c a5)
      refine asis (one (c :: r)).1 ?_ (by omega) (by omega) p1 p3 p2
      revert k2 k3 k4 he
      generalize one (c :: r) = O
      rintro he k2 k3 k4
      obtain ⟨o1, o2, o3, o4, o5⟩ := O
      simp only at he k2 k3 k4 ⊢
      rw [he, k2, k3, k4]
    rw [if_neg a5] at h1
    by_cases a6 : nm c = true
    · rw [if_pos a6] at h1
      obtain ⟨p1, p2, p3, p4, p5, p6, p7⟩ := nm_props c a6
      have hst := sp_take nm r
      refine asis 3 ?_ (fun _ => ?_) (by decide) p1 p3 p2
      · rw [htl, ← Option.some.inj h1]; simp
      · simp only [simpl, sp, if_pos a6, hst, List.length_cons, List.length_take]
        have : dg c = false := by simpa using a5
        rw [this]; simp; omega
    rw [if_neg a6] at h1
    by_cases a7 : c = 58 ∧ 0 < sp nm r
    · rw [if_pos a7] at h1
      refine asis 7 ?_ (fun z => absurd z (by decide)) (by decide) (by rw [a7.1]; exact bk58) (by rw [a7.1]; decide) (by rw [a7.1]; exact gd58)
      rw [htl, ← Option.some.inj h1]; simp
    rw [if_neg a7] at h1
    by_cases a8 : c = 35
    · rw [if_pos a8] at h1
      obtain ⟨b, hb, h1⟩ := Option.bind_eq_some_iff.1 h1
      cases b with
      | true =>
        rw [if_pos rfl] at h1
        refine asis 8 ?_ (fun z => absurd z (by decide)) (by decide) (by rw [a8]; exact bk35) (by rw [a8]; decide) (by rw [a8]; exact gd35)
        rw [htl, ← Option.some.inj h1]; simp
      | false => rw [if_neg (by decide)] at h1; rw [← Option.some.inj h1] at he; simp at he
    rw [if_neg a8] at h1
    split at h1
    · rw [← Option.some.inj h1] at he; simp at he
    · rw [← Option.some.inj h1] at he; simp at he
/-- Alone a token's text is that token. -/
theorem Own.lx {kd : Int} {t W : List UInt8} (h : Own kd t W) (f c a : Nat) (hf : W.length < f) (hc : c ≠ 4000) : X.lx f W c a = ([⟨kd, ba t, (a : Int)⟩], 0, ((a + W.length : Nat) : Int)) := by
  obtain ⟨h1, h2, h3⟩ := h
  have hw : 0 < W.length := by cases W with | nil => exact absurd rfl h2 | cons => simp
  obtain ⟨f, rfl⟩ : ∃ j, f = j + 1 := ⟨f - 1, by omega⟩
  obtain ⟨f, rfl⟩ : ∃ j, f = j + 1 := ⟨f - 1, by omega⟩
  rw [X.lx]
  simp only [h1, h3, List.drop_zero, Bool.false_eq_true, if_false, if_true, if_neg hc, Nat.zero_add, Int.toNat_natCast, Nat.add_zero]
  rw [if_neg (by omega), List.drop_length]
  simp [X.lx, sk]
/-- Just the token's text alone is it. -/
theorem own_of_lx (kd : Int) (t : List UInt8) (f c a : Nat) (hb : (TokW kd t).length ≤ 100000) (h : (X.lx f (TokW kd t) c a).1.map key = [(kd, ba t)]) : Own kd t (TokW kd t) := by
  cases f with
  | zero => simp [X.lx] at h
  | succ f =>
    have hle := sk_le false (TokW kd t)
    simp only [X.lx] at h
    by_cases h1 : (sk false (TokW kd t)).2 = true
    · rw [if_pos h1] at h; simp at h
    rw [if_neg h1] at h
    by_cases h2 : (sk false (TokW kd t)).1 = (TokW kd t).length
    · rw [if_pos h2] at h; simp at h
    rw [if_neg h2] at h
    by_cases h3 : c = 4000
    · rw [if_pos h3] at h; simp at h
    rw [if_neg h3] at h
    obtain ⟨hne, o1, o2, o3⟩ := one_at (TokW kd t) hb (by omega)
    by_cases h4 : (one ((TokW kd t).drop (sk false (TokW kd t)).1)).2.2.2.2 = 0
    · rw [if_pos h4] at h
      simp only [List.map_cons, List.cons.injEq, key, Prod.mk.injEq] at h
      obtain ⟨u, hu, ho, _⟩ := own_of_one _ hne (by rw [List.length_drop]; omega) h4
      have e1 := h.1.1
      have e2 : u = t := by
        have := hu.symm.trans h.1.2
        have := congrArg (fun z => z.data.toList) this
        simpa using this
      rw [e1, e2] at ho; exact ho
    · rw [if_neg h4] at h; simp at h
end Go.Proofs.YtnpmmhceiaedcaaDoor.X
/- lex: what Show and joined compute; the laws LexAgain and LexBack, in plain Lean. -/
namespace Go.Proofs.YtnpmmhceiaedcaaDoor.X
open Go.RowKit Go.Proofs.YtnpmmhceiaedcaaDoor.H Go.Proofs.YtnpmmhceiaedcaaDoor.PA Go.Proofs.YtnpmmhceiaedcaaDoorW.PrintWords Go.Proofs.YtnpmmhceiaedcaaDoorW.PrintLast Go.Proofs.YtnpmmhceiaedcaaDoorW.PrintMore
set_option linter.unusedVariables false
set_option linter.unusedSimpArgs false

theorem awake_is (k : Nat) (hk : 100 ≤ k) : gudgeonlaw05_awake.f k = some true := by
  have e1 := Lex_is [40, 97, 115, 115, 101, 114, 116, 32, 40, 61, 32, 120, 32, 34, 97, 34, 34, 98, 34, 41, 41, 32, 59, 32, 116, 104, 97, 116] (by decide) k (by simp only [List.length_cons, List.length_nil]; omega)
  have e2 := Lex_is [40, 120, 32, 34, 97, 98] (by decide) k (by simp only [List.length_cons, List.length_nil]; omega)
  have e3 := Lex_is [48, 48, 55] (by decide) k (by simp only [List.length_cons, List.length_nil]; omega)
  have f1 : (lx 29 [40, 97, 115, 115, 101, 114, 116, 32, 40, 61, 32, 120, 32, 34, 97, 34, 34, 98, 34, 41, 41, 32, 59, 32, 116, 104, 97, 116] 0 0).2.1 = 0 ∧ (lx 29 [40, 97, 115, 115, 101, 114, 116, 32, 40, 61, 32, 120, 32, 34, 97, 34, 34, 98, 34, 41, 41, 32, 59, 32, 116, 104, 97, 116] 0 0).2.2 = 28 ∧ (lx 29 [40, 97, 115, 115, 101, 114, 116, 32, 40, 61, 32, 120, 32, 34, 97, 34, 34, 98, 34, 41, 41, 32, 59, 32, 116, 104, 97, 116] 0 0).1.length = 8 ∧ ((rd_T23 (lx 29 [40, 97, 115, 115, 101, 114, 116, 32, 40, 61, 32, 120, 32, 34, 97, 34, 34, 98, 34, 41, 41, 32, 59, 32, 116, 104, 97, 116] 0 0).1 5).f1).data.toList = [97, 34, 98] :=
    ⟨by kernel_rfl, by kernel_rfl, by kernel_rfl, by kernel_rfl⟩
  have f2 : (lx 7 [40, 120, 32, 34, 97, 98] 0 0).2.1 = 51 ∧ (lx 7 [40, 120, 32, 34, 97, 98] 0 0).2.2 = 3 ∧ (lx 7 [40, 120, 32, 34, 97, 98] 0 0).1.length = 2 := ⟨by kernel_rfl, by kernel_rfl, by kernel_rfl⟩
  have f3 : (lx 4 [48, 48, 55] 0 0).2.1 = 8 := by kernel_rfl
  simp only [List.length_cons, List.length_nil, Nat.zero_add, Nat.reduceAdd] at e1 e2 e3
  generalize lx 29 _ 0 0 = A at e1 f1
  generalize lx 7 _ 0 0 = B at e2 f2
  generalize lx 4 _ 0 0 = C at e3 f3
  unfold gudgeonlaw05_awake.f
  rw [e1, Option.bind_some, e2, Option.bind_some, e3, Option.bind_some, if_pos f1.1, if_pos f1.2.1, if_pos (show (A.1.length : Int) = 8 by omega), if_pos (show 5 < (A.1.length : Int) by omega), ByteArray.toList_eq, if_pos f1.2.2.2, if_pos f2.1, if_pos f2.2.1, if_pos (show (B.1.length : Int) = 2 by omega), f3]
  rfl
/-- Replacing quotes by two. -/
theorem index34 (l : List UInt8) : Lib.index l [34] = Lib.indexByte l 34 := by
  induction l with
  | nil => rfl
  | cons c r ih =>
    simp only [Lib.index, Lib.indexByte, List.isPrefixOf, ih, Bool.and_true]
    by_cases h : c = 34
    · subst h; rfl
    · have h1 : (34 == c) = false := by simpa using fun z : (34 : UInt8) = c => h z.symm
      have h2 : (c == 34) = false := by simpa using h
      rw [h1, h2]
theorem dbl_no : ∀ (l : List UInt8), Lib.indexByte l 34 = -1 → dbl l = l
  | [], _ => rfl
  | c :: r, h => by
    have hg := Lib.indexByte_ge r 34
    simp only [Lib.indexByte] at h
    by_cases h34 : c = 34
    · subst h34; simp at h
    · have h2 : (c == 34) = false := by simpa using h34
      rw [h2] at h
      have h3 : Lib.indexByte r 34 = -1 := by
        by_cases z : Lib.indexByte r 34 = -1
        · exact z
        · rw [if_neg (by decide), if_neg (by simpa using z)] at h; omega
      simp only [dbl, if_neg h34, dbl_no r h3]
theorem dbl_at : ∀ (l : List UInt8) (i : Nat), Lib.indexByte l 34 = i → dbl l = l.take i ++ [34, 34] ++ dbl (l.drop (i + 1)) ∧ i < l.length
  | [], i, h => by simp [Lib.indexByte] at h
  | c :: r, i, h => by
    simp only [Lib.indexByte] at h
    by_cases h34 : c = 34
    · subst h34
      simp at h
      obtain rfl : i = 0 := by omega
      simp [dbl]
    · have h2 : (c == 34) = false := by simpa using h34
      rw [h2, if_neg (by decide)] at h
      by_cases z : Lib.indexByte r 34 = -1
      · rw [if_pos (by simpa using z)] at h; omega
      · rw [if_neg (by simpa using z)] at h
        have hg := Lib.indexByte_ge r 34
        obtain ⟨j, rfl⟩ : ∃ j, i = j + 1 := ⟨i - 1, by omega⟩
        have := dbl_at r j (by omega)
        simp only [dbl, if_neg h34, List.take_succ_cons, List.drop_succ_cons, List.cons_append, List.length_cons]
        rw [this.1]
        exact ⟨by simp, by omega⟩
theorem repl_is : ∀ (k : Nat) (l : List UInt8), Lib.countByte l 34 ≤ k → Lib.replaceK [34] [34, 34] k l = dbl l := by
  intro k
  induction k with
  | zero =>
    intro l h
    have : ∀ l : List UInt8, Lib.countByte l 34 ≤ 0 → dbl l = l := by
      intro l
      induction l with
      | nil => intro _; rfl
      | cons c r ih =>
        intro h
        simp only [Lib.countByte, List.count_cons] at h
        have h34 : ¬ c = 34 := by rintro rfl; simp at h
        simp only [dbl, if_neg h34]
        rw [ih (by simp only [Lib.countByte]; omega)]
    rw [Lib.replaceK, this l h]
  | succ k ih =>
    intro l h
    rw [Lib.replaceK, index34]
    by_cases z : Lib.indexByte l 34 = -1
    · rw [if_pos (by simpa using z), dbl_no l z]
    · rw [if_neg (by simpa using z)]
      have hg := Lib.indexByte_ge l 34
      obtain ⟨i, hi⟩ : ∃ i : Nat, Lib.indexByte l 34 = i := ⟨(Lib.indexByte l 34).toNat, by omega⟩
      obtain ⟨e, hl⟩ := dbl_at l i hi
      rw [hi, Int.toNat_natCast, e]
      congr 1
      refine ih _ ?_
      have hs := (Lib.indexByte_some hi).1
      have : Lib.countByte l 34 = Lib.countByte (l.take i) 34 + Lib.countByte (l.drop i) 34 := by
        simp only [Lib.countByte]; rw [← List.count_append, List.take_append_drop]
      rw [List.drop_eq_getElem_cons hl] at this
      rw [List.getElem?_eq_getElem hl] at hs
      have hs := Option.some.inj hs
      rw [hs] at this
      simp only [Lib.countByte, List.count_cons_self, List.length_singleton] at this h ⊢
      omega
theorem countFrom34 : ∀ (k : Nat) (l : List UInt8), l.length < k → Lib.countFrom [34] k l = Lib.countByte l 34 := by
  intro k
  induction k with
  | zero => intro l h; omega
  | succ k ih =>
    intro l h
    rw [Lib.countFrom, index34]
    by_cases z : Lib.indexByte l 34 = -1
    · rw [if_pos (by simpa using z)]
      simp only [Lib.countByte]
      symm; rw [List.count_eq_zero]
      intro hm
      obtain ⟨j, hj, e⟩ := List.getElem_of_mem hm
      exact Lib.indexByte_none z j (by rw [List.getElem?_eq_getElem hj, e])
    · rw [if_neg (by simpa using z)]
      have hg := Lib.indexByte_ge l 34
      obtain ⟨i, hi⟩ : ∃ i : Nat, Lib.indexByte l 34 = i := ⟨(Lib.indexByte l 34).toNat, by omega⟩
      obtain ⟨e, hl⟩ := dbl_at l i hi
      obtain ⟨hs, hn⟩ := Lib.indexByte_some hi
      rw [hi, Int.toNat_natCast]
      rw [ih _ (by rw [List.length_drop]; simp only [List.length_singleton]; omega)]
      have : Lib.countByte l 34 = Lib.countByte (l.take i) 34 + Lib.countByte (l.drop i) 34 := by
        simp only [Lib.countByte]; rw [← List.count_append, List.take_append_drop]
      rw [List.drop_eq_getElem_cons hl] at this
      rw [List.getElem?_eq_getElem hl] at hs
      have hs := Option.some.inj hs
      rw [hs] at this
      have h0 : List.count 34 (l.take i) = 0 := by
        rw [List.count_eq_zero]
        intro hm
        obtain ⟨j, hj, e⟩ := List.getElem_of_mem hm
        rw [List.length_take] at hj
        refine hn j (by omega) ?_
        rw [List.getElem_take] at e
        rw [List.getElem?_eq_getElem (by omega), e]
      simp only [Lib.countByte, List.count_cons_self, List.length_singleton, h0] at this ⊢
      omega
theorem ReplaceAll_is (t : List UInt8) (h : t.length ≤ 1000000) : strings_ReplaceAll.f (ba t) (⟨#[34]⟩ : ByteArray) (⟨#[34, 34]⟩ : ByteArray) = some (ba (dbl t)) := by
  unfold strings_ReplaceAll.f
  rw [if_pos ⟨h, by decide, by decide⟩]
  show some _ = _
  congr 2
  have e : Lib.replaceAll t [34] [34, 34] = dbl t := by
    unfold Lib.replaceAll Lib.replace
    rw [if_neg (by decide)]
    refine repl_is _ t ?_
    unfold Lib.replaceNum Lib.count
    rw [if_pos (.inl (by decide)), countFrom34 _ _ (by omega)]
    exact Nat.le_refl _
  exact congrArg List.toArray e

theorem Simple_is (t : List UInt8) (h : t.length ≤ 140737488351232) : lex_Simple.f (ba t) = some (simpl t) := by
  unfold lex_Simple.f
  rw [ByteArray.toList_eq]
  cases t with
  | nil => rw [if_pos rfl]; rfl
  | cons c r =>
    rw [if_neg (show ¬ (c :: r) = [] by simp), ba_size, if_pos (by simp only [List.length_cons]; omega), show bt (ba (c :: r)) 0 = (c.toNat : Int) from bt_ba (c :: r) 0 (by simp), dg_is, Option.bind_some, F14 _ h]
    simp only [Option.bind_some, simpl]
    by_cases hd : dg c = true
    · rw [if_pos hd, hd]; rfl
    · rw [if_neg hd]
      have : dg c = false := by simpa using hd
      rw [this]
      simp only [Bool.not_false, Bool.true_and, Option.some.injEq]
      by_cases z : sp nm (c :: r) = (c :: r).length
      · rw [z]; simp
      · have z1 : (((sp nm (c :: r) : Nat) : Int) == (((c :: r).length : Nat) : Int)) = false := by simpa using fun y : ((sp nm (c :: r) : Nat) : Int) = (((c :: r).length : Nat) : Int) => z (by omega)
        have z2 : (sp nm (c :: r) == (c :: r).length) = false := by simpa using z
        rw [z1, z2]
def showB (L : List S23 × Int × Int) (W t : ByteArray) (kd : Int) : Option (ByteArray × Int) :=
  if L.2.1 = 0 then (if (L.1.length : Int) = 1 then (if 0 < (L.1.length : Int) then (if ((rd_T23 L.1 0).f0) = kd then (if ((rd_T23 L.1 0).f1).toList = t.toList then (some (W, 0)) else (some ((⟨#[]⟩ : ByteArray), 1))) else (some ((⟨#[]⟩ : ByteArray), 1))) else (none)) else (some ((⟨#[]⟩ : ByteArray), 1))) else (some ((⟨#[]⟩ : ByteArray), 1))
theorem showB_is (kd : Int) (t w : List UInt8) (hw : w = TokW kd t) (hl : w.length ≤ 16384) :
    (Own kd t w → showB (lx (w.length + 1) w 0 0) (ba w) (ba t) kd = some (ba w, 0)) ∧ (¬ Own kd t w → showB (lx (w.length + 1) w 0 0) (ba w) (ba t) kd = some (⟨#[]⟩, 1)) := by
  subst hw
  constructor
  · intro h
    rw [h.lx _ 0 0 (by omega) (by decide)]
    unfold showB
    rw [if_pos (by rfl), if_pos (by simp), if_pos (by simp), if_pos (by rfl), if_pos (by rfl)]
  · intro h
    have key' : ∀ L : List S23 × Int × Int, L.1.map key ≠ [(kd, ba t)] → showB L (ba (TokW kd t)) (ba t) kd = some (⟨#[]⟩, 1) := by
      intro L hL
      unfold showB
      by_cases h1 : L.2.1 = 0
      · rw [if_pos h1]
        by_cases h2 : (L.1.length : Int) = 1
        · rw [if_pos h2, if_pos (by omega)]
          obtain ⟨x, hx⟩ : ∃ x, L.1 = [x] := by
            cases e : L.1 with
            | nil => rw [e] at h2; simp at h2
            | cons a b => cases b with
              | nil => exact ⟨a, rfl⟩
              | cons c d => rw [e] at h2; simp at h2; omega
          rw [hx] at hL ⊢
          have e0 : rd_T23 [x] 0 = x := rfl
          rw [e0]
          by_cases h3 : x.f0 = kd
          · rw [if_pos h3]
            by_cases h4 : x.f1.toList = (ba t).toList
            · exfalso; apply hL
              rw [ByteArray.toList_eq, ByteArray.toList_eq] at h4
              have : x.f1 = ba t := by
                apply ByteArray.ext; exact Array.toList_inj.1 h4
              simp [key, h3, this]
            · rw [if_neg h4]
          · rw [if_neg h3]
        · rw [if_neg h2]
      · rw [if_neg h1]
    exact key' _ (fun z => h (own_of_lx kd t _ 0 0 (by omega) z))
theorem dbl_len2 {kd : Int} (t : List UInt8) : (TokW kd t).length ≤ 2 * t.length + 2 ∧ t.length ≤ (TokW kd t).length := by
  have := dbl_len t
  unfold TokW; split
  · simp only [List.length_cons, List.length_append, List.length_nil]; omega
  · split
    · simp only [List.length_cons, List.length_append, List.length_nil]; omega
    · omega
/-- What Show tells. -/
theorem Show_is (kd at' : Int) (t : List UInt8) (ht : t.length ≤ 8000) (k : Nat) (hk : 40000 ≤ k) :
    (Own kd t (TokW kd t) → lex_Show.f k kd (ba t) at' = some (ba (TokW kd t), 0)) ∧ (¬ Own kd t (TokW kd t) → lex_Show.f k kd (ba t) at' = some (⟨#[]⟩, 1)) := by
  have hW := dbl_len2 (kd := kd) t
  have hd := dbl_len t
  obtain ⟨k, rfl⟩ : ∃ j, k = j + 1 := ⟨k - 1, by omega⟩
  have main : lex_Show.f (k + 1) kd (ba t) at' = showB (lx ((TokW kd t).length + 1) (TokW kd t) 0 0) (ba (TokW kd t)) (ba t) kd := by
    unfold lex_Show.f
    have hL := Lex_is (TokW kd t) (by omega) k (by omega)
    by_cases h3 : kd = 3
    · rw [if_pos h3, Simple_is t (by omega), Option.bind_some, lex_Show.j0]
      by_cases hs : simpl t = true
      · rw [hs, if_neg (by decide), if_neg (by omega)]
        have e : TokW kd t = t := by unfold TokW; rw [if_neg (by rw [hs]; exact fun z => absurd z.2 (by decide)), if_neg (by omega)]
        rw [e] at hL ⊢
        rw [hL]; rfl
      · have hs' : simpl t = false := by simpa using hs
        have e : TokW kd t = 124 :: (t ++ [124]) := by unfold TokW; rw [if_pos ⟨h3, hs'⟩]
        have e2 : ((⟨#[124]⟩ : ByteArray) ++ ba t) ++ (⟨#[124]⟩ : ByteArray) = ba (TokW kd t) := by
          have h1 := app_ba [124] t
          have h2 := app_ba ([124] ++ t) [124]
          rw [← h1] at h2
          rw [e]; exact h2
        rw [hs', if_pos (by decide), if_pos (by rw [ba_size]; omega), if_pos (by rw [ba_size]; omega), e2, hL]; rfl
    · rw [if_neg h3, lex_Show.j0, if_neg (by decide)]
      by_cases h6 : kd = 6
      · have e : TokW kd t = 34 :: (dbl t ++ [34]) := by unfold TokW; rw [if_neg (fun z => h3 z.1), if_pos h6]
        have e2 : ((⟨#[34]⟩ : ByteArray) ++ ba (dbl t)) ++ (⟨#[34]⟩ : ByteArray) = ba (TokW kd t) := by
          have h1 := app_ba [34] (dbl t)
          have h2 := app_ba ([34] ++ dbl t) [34]
          rw [← h1] at h2
          rw [e]; exact h2
        rw [if_pos h6, ReplaceAll_is t (by omega), Option.bind_some, if_pos (by rw [ba_size]; omega), if_pos (by rw [ba_size]; omega), e2, hL]; rfl
      · have e : TokW kd t = t := by unfold TokW; rw [if_neg (fun z => h3 z.1), if_neg h6]
        rw [if_neg h6]
        rw [e] at hL ⊢
        rw [hL]; rfl
  rw [main]
  exact showB_is kd t _ rfl (by omega)
end Go.Proofs.YtnpmmhceiaedcaaDoor.X
/- lex: what the reference computes; the law LexShows, in plain Lean. -/
namespace Go.Proofs.YtnpmmhceiaedcaaDoor.X
open Go.RowKit Go.Proofs.YtnpmmhceiaedcaaDoor.H Go.Proofs.YtnpmmhceiaedcaaDoor.PA Go.Proofs.YtnpmmhceiaedcaaDoorW.PrintWords Go.Proofs.YtnpmmhceiaedcaaDoorW.PrintLast Go.Proofs.YtnpmmhceiaedcaaDoorW.PrintMore
set_option linter.unusedVariables false
set_option linter.unusedSimpArgs false

theorem tb_same {p : Int → Option Bool} {q : Int → Option Bool} (h : (List.range 256).all (fun n => q (n : Int) == some (p (n : Int) == some true)) = true) (c : UInt8) : q (c.toNat : Int) = some (tb p c) := by
  have := byte_all (P := fun n => q (n : Int) == some (p (n : Int) == some true)) h c
  exact beq_iff_eq.1 this
theorem rdg_is (c : UInt8) : gudgeonref05_Digit.f (c.toNat : Int) = some (dg c) := tb_same (by kernel_rfl) c
theorem rbk_is (c : UInt8) : gudgeonref05_Blank.f (c.toNat : Int) = some (bk c) := tb_same (by kernel_rfl) c
theorem rgd_is (c : UInt8) : gudgeonref05_good.f (c.toNat : Int) = some (gd c) := tb_same (by kernel_rfl) c
theorem rnm20 (c : UInt8) : gudgeonref05_Name.f 20 (c.toNat : Int) = some (nm c) := tb_same (q := gudgeonref05_Name.f 20) (by kernel_rfl) c
theorem rnm_is (c : UInt8) (k : Nat) (hk : 20 ≤ k) : gudgeonref05_Name.f k (c.toNat : Int) = some (nm c) :=
  at_rounds (g := fun k => gudgeonref05_Name.f k (c.toNat : Int)) (fun k => gudgeonref05_Name.mono _ k) hk (rnm20 c)
theorem s1_gd (c : UInt8) : s1 c = (gd c && (c != 10)) := by
  have := byte_all (P := fun n => (lex_skip_1.f (n : Int) == some true) == ((lex_good.f (n : Int) == some true) && (n != 10))) (by kernel_rfl) c
  have h := beq_iff_eq.1 this
  have e : (c.toNat != 10) = (c != 10) := by
    by_cases z : c = 10
    · subst z; rfl
    · have : c.toNat ≠ 10 := fun y => z (UInt8.toNat_inj.1 y)
      rw [bne_iff_ne.2 z, bne_iff_ne.2 this]
  rw [e] at h; exact h
theorem b1_gd (c : UInt8) : b1 c = (gd c && (c != 124)) := by
  have := byte_all (P := fun n => (lex_bars_1.f (n : Int) == some true) == ((lex_good.f (n : Int) == some true) && (n != 124))) (by kernel_rfl) c
  have h := beq_iff_eq.1 this
  have e : (c.toNat != 124) = (c != 124) := by
    by_cases z : c = 124
    · subst z; rfl
    · have : c.toNat ≠ 124 := fun y => z (UInt8.toNat_inj.1 y)
      rw [bne_iff_ne.2 z, bne_iff_ne.2 this]
  rw [e] at h; exact h
theorem q1_gd (c : UInt8) : q1 c = (gd c && (c != 34)) := by
  have := byte_all (P := fun n => (lex_literal_1.f (n : Int) == some true) == ((lex_good.f (n : Int) == some true) && (n != 34))) (by kernel_rfl) c
  have h := beq_iff_eq.1 this
  have e : (c.toNat != 34) = (c != 34) := by
    by_cases z : c = 34
    · subst z; rfl
    · have : c.toNat ≠ 34 := fun y => z (UInt8.toNat_inj.1 y)
      rw [bne_iff_ne.2 z, bne_iff_ne.2 this]
  rw [e] at h; exact h
theorem bk_gd (c : UInt8) (h : bk c = true) : gd c = true := by
  have := byte_all (P := fun n => !(lex_blank.f (n : Int) == some true) || (lex_good.f (n : Int) == some true)) (by kernel_rfl) c
  have h' : (lex_blank.f (c.toNat : Int) == some true) = true := h
  rw [h'] at this
  simp only [Bool.not_true, Bool.false_or] at this
  exact this
theorem gd59 : gd 59 = true := by kernel_rfl
theorem gd10 : gd 10 = true := by kernel_rfl
theorem wn {i : Nat} (h : i ≤ 100000) : wrap64 ((i : Int) + 1) = ((i + 1 : Nat) : Int) := by rw [w64 (by omega) (by omega)]; omega

/-- Where a token would begin. -/
theorem start_at (S : List UInt8) (hS : S.length ≤ 100000) : ∀ (m a k : Nat) (b : Bool), a ≤ S.length → S.length - a ≤ m → 2 * m + 2 ≤ k →
    gudgeonref05_start.l0 k (ba S) (a : Int) b = some ((a + (sk b (S.drop a)).1 : Nat) : Int) := by
  intro m
  induction m with
  | zero =>
    intro a k b ha hm hk
    obtain ⟨k, rfl⟩ : ∃ j, k = j + 1 := ⟨k - 1, by omega⟩
    rw [List.drop_eq_nil_of_le (by omega), gudgeonref05_start.l0, ba_size, if_neg (by omega)]
    cases b <;> simp [sk]
  | succ m ih =>
    intro a k b ha hm hk
    by_cases h : a < S.length
    · obtain ⟨k, rfl⟩ : ∃ j, k = j + 1 := ⟨k - 1, by omega⟩
      obtain ⟨k, rfl⟩ : ∃ j, k = j + 1 := ⟨k - 1, by omega⟩
      have ih1 := ih (a + 1) k true (by omega) (by omega) (by omega)
      have ih0 := ih (a + 1) k false (by omega) (by omega) (by omega)
      have e10 := byte10 S[a]
      have e59 := byte59 S[a]
      rw [List.drop_eq_getElem_cons h, gudgeonref05_start.l0, ba_size, if_pos (show (a : Int) < (S.length : Int) by omega), if_pos (show (0 : Int) ≤ (a : Int) by omega), bt_ba S a h, rgd_is]
      simp only [Option.bind_some]
      by_cases hg : gd S[a] = true
      · rw [if_pos hg]
        by_cases h10 : S[a] = 10
        · rw [if_pos (e10.2 h10), gudgeonref05_start.j1, h10]
          rw [if_neg (show ¬ (((10 : UInt8).toNat : Int)) = 59 by decide), if_neg (show ¬ (false = true) by decide), rbk_is, Option.bind_some, if_pos bk10, wn (by omega), ih0]
          cases b
          · simp only [sk, bk10, if_true, Nat.add_assoc, Nat.add_comm 1]
          · simp only [sk, s110, Bool.false_eq_true, if_false, if_true, Nat.add_assoc, Nat.add_comm 1]
        · rw [if_neg (fun z => h10 (e10.1 z)), gudgeonref05_start.j1]
          by_cases h59 : S[a] = 59
          · rw [if_pos (e59.2 h59), h59, wn (by omega), ih1]
            cases b
            · simp only [sk, bk59, Bool.false_eq_true, if_false, if_true, Nat.add_assoc, Nat.add_comm 1]
            · simp only [sk, s159, if_true, Nat.add_assoc, Nat.add_comm 1]
          · rw [if_neg (fun z => h59 (e59.1 z))]
            cases b
            · rw [if_neg (show ¬ (false = true) by decide), rbk_is, Option.bind_some]
              by_cases hb : bk S[a] = true
              · rw [if_pos hb, wn (by omega), ih0]
                simp only [sk, if_pos hb, Nat.add_assoc, Nat.add_comm 1]
              · rw [if_neg hb]
                simp only [sk, if_neg hb, if_neg h59, Nat.add_zero]
            · have hs : s1 S[a] = true := by rw [s1_gd, hg, bne_iff_ne.2 h10]; rfl
              rw [if_pos rfl, wn (by omega), ih1]
              simp only [sk, if_pos hs, Nat.add_assoc, Nat.add_comm 1]
      · rw [if_neg hg]
        have h10 : ¬ S[a] = 10 := fun z => hg (by rw [z]; exact gd10)
        have h59 : ¬ S[a] = 59 := fun z => hg (by rw [z]; exact gd59)
        cases b
        · have hb : ¬ bk S[a] = true := fun z => hg (bk_gd _ z)
          simp only [sk, if_neg hb, if_neg h59, Nat.add_zero]
        · have hs : ¬ s1 S[a] = true := by
            rw [s1_gd]; intro z; exact hg (Bool.and_eq_true_iff.1 z).1
          simp only [sk, if_neg hs, if_neg h10, Nat.add_zero]
    · exact ih a k b ha (by omega) (by omega)
theorem sk_gd : ∀ (b : Bool) (l : List UInt8) (h : (sk b l).1 < l.length), gd l[(sk b l).1] = !(sk b l).2
  | b, [], h => by simp at h
  | false, c :: r, h => by
    have h1 := sk_gd false r
    have h2 := sk_gd true r
    by_cases hb : bk c = true
    · have e : sk false (c :: r) = ((sk false r).1 + 1, (sk false r).2) := by simp only [sk, if_pos hb]
      simp only [e, List.getElem_cons_succ, List.length_cons] at h ⊢
      exact h1 (by omega)
    · by_cases h59 : c = 59
      · have e : sk false (c :: r) = ((sk true r).1 + 1, (sk true r).2) := by simp only [sk, if_neg hb, if_pos h59]
        simp only [e, List.getElem_cons_succ, List.length_cons] at h ⊢
        exact h2 (by omega)
      · have e : sk false (c :: r) = (0, !gd c) := by simp only [sk, if_neg hb, if_neg h59]
        simp only [e, List.getElem_cons_zero, Bool.not_not]
  | true, c :: r, h => by
    have h1 := sk_gd false r
    have h2 := sk_gd true r
    by_cases hs : s1 c = true
    · have e : sk true (c :: r) = ((sk true r).1 + 1, (sk true r).2) := by simp only [sk, if_pos hs]
      simp only [e, List.getElem_cons_succ, List.length_cons] at h ⊢
      exact h2 (by omega)
    · by_cases h10 : c = 10
      · have e : sk true (c :: r) = ((sk false r).1 + 1, (sk false r).2) := by simp only [sk, if_neg hs, if_pos h10]
        simp only [e, List.getElem_cons_succ, List.length_cons] at h ⊢
        exact h1 (by omega)
      · have e : sk true (c :: r) = (0, true) := by simp only [sk, if_neg hs, if_neg h10]
        simp only [e, List.getElem_cons_zero, Bool.not_true]
        rw [s1_gd, bne_iff_ne.2 h10, Bool.and_true] at hs
        simpa using hs
theorem names_at (S : List UInt8) (hS : S.length ≤ 100000) : ∀ (m a k : Nat), a ≤ S.length → S.length - a ≤ m → m + 25 ≤ k →
    gudgeonref05_names.l0 k (ba S) (a : Int) = some ((a + sp nm (S.drop a) : Nat) : Int) := by
  intro m
  induction m with
  | zero =>
    intro a k ha hm hk
    obtain ⟨k, rfl⟩ : ∃ j, k = j + 1 := ⟨k - 1, by omega⟩
    rw [List.drop_eq_nil_of_le (by omega), gudgeonref05_names.l0, ba_size, if_neg (by omega)]; simp [sp]
  | succ m ih =>
    intro a k ha hm hk
    by_cases h : a < S.length
    · obtain ⟨k, rfl⟩ : ∃ j, k = j + 1 := ⟨k - 1, by omega⟩
      have ih0 := ih (a + 1) k (by omega) (by omega) (by omega)
      rw [List.drop_eq_getElem_cons h, gudgeonref05_names.l0, ba_size, if_pos (show (a : Int) < (S.length : Int) by omega), if_pos (show (0 : Int) ≤ (a : Int) by omega), bt_ba S a h, rnm_is _ _ (by omega), Option.bind_some]
      by_cases hn : nm S[a] = true
      · rw [if_pos hn, wn (by omega), ih0]
        simp only [sp, if_pos hn, Nat.add_assoc, Nat.add_comm 1]
      · rw [if_neg hn]; simp only [sp, if_neg hn, Nat.add_zero]
    · exact ih a k ha (by omega) (by omega)
theorem rSimple_at (S : List UInt8) (hS : S.length ≤ 100000) : ∀ (m a k : Nat), a ≤ S.length → S.length - a ≤ m → m + 25 ≤ k →
    gudgeonref05_Simple.l0 k (ba S) (a : Int) = some (sp nm (S.drop a) == (S.drop a).length) := by
  intro m
  induction m with
  | zero =>
    intro a k ha hm hk
    obtain ⟨k, rfl⟩ : ∃ j, k = j + 1 := ⟨k - 1, by omega⟩
    rw [List.drop_eq_nil_of_le (by omega), gudgeonref05_Simple.l0, ba_size, if_neg (by omega)]; rfl
  | succ m ih =>
    intro a k ha hm hk
    by_cases h : a < S.length
    · obtain ⟨k, rfl⟩ : ∃ j, k = j + 1 := ⟨k - 1, by omega⟩
      have ih0 := ih (a + 1) k (by omega) (by omega) (by omega)
      rw [List.drop_eq_getElem_cons h, gudgeonref05_Simple.l0, ba_size, if_pos (show (a : Int) < (S.length : Int) by omega), if_pos (show (0 : Int) ≤ (a : Int) by omega), bt_ba S a h, rnm_is _ _ (by omega), Option.bind_some]
      by_cases hn : nm S[a] = true
      · rw [if_pos hn, wn (by omega), ih0]
        simp only [sp, if_pos hn, List.length_cons]
        congr 1
        by_cases z : sp nm (S.drop (a + 1)) = (S.drop (a + 1)).length
        · rw [z]; simp
        · have z1 : (sp nm (S.drop (a + 1)) == (S.drop (a + 1)).length) = false := by simpa using z
          have z2 : (sp nm (S.drop (a + 1)) + 1 == (S.drop (a + 1)).length + 1) = false := by
            rw [beq_eq_false_iff_ne]; omega
          rw [z1, z2]
      · rw [if_neg hn]; simp only [sp, if_neg hn, List.length_cons]; rfl
    · exact ih a k ha (by omega) (by omega)
theorem rSimple_is (t : List UInt8) (h : t.length ≤ 100000) (k : Nat) (hk : t.length + 30 ≤ k) : gudgeonref05_Simple.f k (ba t) = some (simpl t) := by
  obtain ⟨k, rfl⟩ : ∃ j, k = j + 1 := ⟨k - 1, by omega⟩
  unfold gudgeonref05_Simple.f
  rw [ByteArray.toList_eq]
  have hS := rSimple_at t h t.length 0 k (by omega) (by omega) (by omega)
  rw [List.drop_zero, show ((0 : Nat) : Int) = 0 from rfl] at hS
  cases t with
  | nil => rw [if_pos rfl, gudgeonref05_Simple.j0, if_pos rfl, simpl]
  | cons c r =>
    have hb : bt (ba (c :: r)) 0 = (c.toNat : Int) := bt_ba (c :: r) 0 (Nat.zero_lt_succ _)
    have hz : (0 : Int) < ((ba (c :: r)).size : Int) := by rw [ba_size, List.length_cons]; omega
    have hne : ¬ (ba (c :: r)).data.toList = [] := List.cons_ne_nil c r
    rw [if_neg hne, if_pos hz, hb, rdg_is, Option.bind_some, gudgeonref05_Simple.j0, hS, simpl]
    by_cases hd : dg c = true
    · rw [if_pos hd, hd, Bool.not_true, Bool.false_and]
    · have hd' : dg c = false := by simpa using hd
      rw [if_neg hd, hd', Bool.not_false, Bool.true_and]

/-- Literals, step by step. -/
theorem lit_nil (k : Nat) (a : Int) (acc : List UInt8) : litF (k + 1) [] a acc = some e51 := by
  simp only [litF, hspan1, Option.bind_some, Int.toNat_natCast, sp, List.drop_nil]
theorem lit_end2 (k : Nat) (d : UInt8) (hd : d ≠ 34) (l : List UInt8) (a : Int) (acc : List UInt8) : litF (k + 1) (34 :: d :: l) a acc = some (6, ba acc, 0, a + 2, 0) := by
  have e : sp q1 (34 :: d :: l) = 0 := by simp [sp, q134]
  simp only [litF, hspan1, Option.bind_some, Int.toNat_natCast, e, List.drop_zero, List.take_zero, if_true, List.append_nil, if_neg hd]
  simp
theorem lit_bad (k : Nat) (c : UInt8) (hc : q1 c = false) (h34 : c ≠ 34) (l : List UInt8) (a : Int) (acc : List UInt8) : litF (k + 1) (c :: l) a acc = some (0, ⟨#[]⟩, 0, a + 1, 50) := by
  have e : sp q1 (c :: l) = 0 := by simp [sp, hc]
  simp only [litF, hspan1, Option.bind_some, Int.toNat_natCast, e, List.drop_zero, if_neg h34]
  simp
abbrev nums8 (l : List UInt8) : List Int := l.map (fun c => (c.toNat : Int))
theorem str_nums8 (l : List UInt8) : strOfNums (nums8 l) = ba l := by
  apply ByteArray.ext
  simp [strOfNums, nums8, Function.comp_def]
theorem quoted34 (S : List UInt8) (hS : S.length ≤ 100000) (a : Nat) (ha : a < S.length) (h34 : S[a] = 34) : ∀ (m i k : Nat) (l : List UInt8) (f : Nat) (A : Int) (acc : List UInt8), i ≤ S.length → S.drop i = l → l.length ≤ m → m + 1 ≤ k → l.length < f → acc.length ≤ 100000 + i →
    ∃ v, gudgeonref05_quoted.l0 k (ba S) (a : Int) (nums8 acc) (i : Int) = some v ∧ ∃ r, litF f l A acc = some r ∧ v.2.2.1 = r.2.2.2.2 ∧ (r.2.2.2.2 = 0 → v.1 = r.2.1 ∧ r.1 = 6 ∧ v.2.1 = (i : Int) + (r.2.2.2.1 - A) - 1) := by
  intro m
  induction m with
  | zero =>
    intro i k l f A acc hi hl hm hk hf hacc
    obtain ⟨k, rfl⟩ : ∃ j, k = j + 1 := ⟨k - 1, by omega⟩
    obtain ⟨f, rfl⟩ : ∃ j, f = j + 1 := ⟨f - 1, by omega⟩
    have hl0 : l = [] := List.eq_nil_of_length_eq_zero (by omega)
    have hlen := congrArg List.length hl
    rw [List.length_drop] at hlen
    rw [gudgeonref05_quoted.l0, ba_size, if_neg (by omega), hl0]
    exact ⟨_, rfl, _, lit_nil f A acc, rfl, fun z => absurd z (by decide)⟩
  | succ m ih =>
    intro i k l f A acc hi hl hm hk hf hacc
    obtain ⟨k, rfl⟩ : ∃ j, k = j + 1 := ⟨k - 1, by omega⟩
    obtain ⟨f, rfl⟩ : ∃ j, f = j + 1 := ⟨f - 1, by omega⟩
    have hlen := congrArg List.length hl
    rw [List.length_drop] at hlen
    cases l with
    | nil =>
      simp only [List.length_nil] at hlen
      rw [gudgeonref05_quoted.l0, ba_size, if_neg (by omega)]
      exact ⟨_, rfl, _, lit_nil f A acc, rfl, fun z => absurd z (by decide)⟩
    | cons c r =>
      simp only [List.length_cons] at hlen hm hf
      have hi' : i < S.length := by omega
      have hd := List.drop_eq_getElem_cons hi'
      rw [hl] at hd
      have hc : S[i] = c := (List.cons.inj hd).1.symm
      have hr : S.drop (i + 1) = r := (List.cons.inj hd).2.symm
      rw [gudgeonref05_quoted.l0, ba_size, if_pos (show (i : Int) < (S.length : Int) by omega), if_pos (show (0 : Int) ≤ (i : Int) by omega), bt_ba S i hi', hc, rgd_is, Option.bind_some]
      by_cases hg : gd c = true
      · rw [if_pos hg, if_pos (show (0 : Int) ≤ (a : Int) by omega), if_pos (show (a : Int) < (S.length : Int) by omega), bt_ba S a ha, h34]
        rw [wn (by omega)]
        by_cases hc34 : c = 34
        · subst hc34
          rw [if_pos rfl, if_pos (by rfl)]
          by_cases hi2 : i + 1 < S.length
          · have hd2 := List.drop_eq_getElem_cons hi2
            rw [hr] at hd2
            rw [if_pos (show ((i + 1 : Nat) : Int) < (S.length : Int) by omega), if_pos (by omega), bt_ba S (i + 1) hi2]
            by_cases h2 : S[i + 1] = 34
            · rw [h2] at hd2 ⊢
              rw [if_pos (by rfl), if_pos (by simp; omega), wn (by omega)]
              have hacc2 : nums8 acc ++ [34] = nums8 (acc ++ [34]) := by simp [nums8]
              rw [hacc2, hd2, lit_two f]
              obtain ⟨v, hv, q, hq, h3, h4⟩ := ih (i + 1 + 1) k (S.drop (i + 1 + 1)) f (A + 2) (acc ++ [34]) (by omega) rfl (by rw [List.length_drop]; omega) (by omega) (by rw [List.length_drop]; omega) (by simp only [List.length_append, List.length_singleton]; omega)
              refine ⟨v, hv, q, hq, h3, fun z => ?_⟩
              obtain ⟨g1, g2, g3⟩ := h4 z
              exact ⟨g1, g2, by rw [g3]; push_cast; omega⟩
            · have h2' : ¬ ((S[i + 1].toNat : Int) = 34) := fun z => h2 ((nat34 S[i + 1] 34).1 z)
              rw [if_neg h2', hd2, lit_end2 f _ h2]
              exact ⟨_, rfl, _, rfl, rfl, fun _ => ⟨str_nums8 acc, rfl, by simp only; push_cast; omega⟩⟩
          · rw [if_neg (show ¬ ((i + 1 : Nat) : Int) < (S.length : Int) by omega)]
            have hr0 : r = [] := List.eq_nil_of_length_eq_zero (by omega)
            rw [hr0, lit_one]
            exact ⟨_, rfl, _, rfl, rfl, fun _ => ⟨str_nums8 acc, rfl, by simp only; push_cast; omega⟩⟩
        · have hq : q1 c = true := by rw [q1_gd, hg, bne_iff_ne.2 hc34]; rfl
          have hc' : ¬ ((c.toNat : Int) = ((34 : UInt8).toNat : Int)) := fun z => hc34 ((nat34 c 34).1 z)
          rw [if_neg hc', if_pos (by simp; omega)]
          have hacc2 : nums8 acc ++ [(c.toNat : Int)] = nums8 (acc ++ [c]) := by simp [nums8]
          rw [hacc2, lit_step f c hq]
          obtain ⟨v, hv, q, hq', h3, h4⟩ := ih (i + 1) k r (f + 1) (A + 1) (acc ++ [c]) (by omega) hr (by omega) (by omega) (by omega) (by simp only [List.length_append, List.length_singleton]; omega)
          refine ⟨v, hv, q, hq', h3, fun z => ?_⟩
          obtain ⟨g1, g2, g3⟩ := h4 z
          exact ⟨g1, g2, by rw [g3]; push_cast; omega⟩
      · rw [if_neg hg]
        have hc34 : c ≠ 34 := fun z => hg (by rw [z]; exact gd34)
        have hq : q1 c = false := by
          rw [q1_gd]; have : gd c = false := by simpa using hg
          rw [this]; rfl
        rw [lit_bad f c hq hc34]
        exact ⟨_, rfl, _, rfl, rfl, fun z => absurd z (show ¬ (50 : Int) = 0 by decide)⟩
theorem quoted124 (S : List UInt8) (hS : S.length ≤ 100000) (a : Nat) (ha : a < S.length) (h124 : S[a] = 124) : ∀ (m i k : Nat) (l : List UInt8) (acc : List UInt8), i ≤ S.length → S.drop i = l → l.length ≤ m → m + 1 ≤ k → acc.length ≤ 100000 + i →
    ∃ v, gudgeonref05_quoted.l0 k (ba S) (a : Int) (nums8 acc) (i : Int) = some v ∧
      (if h : sp b1 l < l.length then (if l[sp b1 l] = 124 then v.2.2.1 = 0 ∧ v.1 = ba (acc ++ l.take (sp b1 l)) ∧ v.2.1 = ((i + sp b1 l + 1 : Nat) : Int) else v.2.2.1 = 50) else v.2.2.1 = 51) := by
  intro m
  induction m with
  | zero =>
    intro i k l acc hi hl hm hk hacc
    obtain ⟨k, rfl⟩ : ∃ j, k = j + 1 := ⟨k - 1, by omega⟩
    have hl0 : l = [] := List.eq_nil_of_length_eq_zero (by omega)
    have hlen := congrArg List.length hl
    rw [List.length_drop] at hlen
    subst hl0
    rw [gudgeonref05_quoted.l0, ba_size, if_neg (by simp only [List.length_nil] at hlen; omega)]
    exact ⟨_, rfl, by rw [dif_neg (by simp)]⟩
  | succ m ih =>
    intro i k l acc hi hl hm hk hacc
    obtain ⟨k, rfl⟩ : ∃ j, k = j + 1 := ⟨k - 1, by omega⟩
    have hlen := congrArg List.length hl
    rw [List.length_drop] at hlen
    cases l with
    | nil =>
      simp only [List.length_nil] at hlen
      rw [gudgeonref05_quoted.l0, ba_size, if_neg (by omega)]
      exact ⟨_, rfl, by rw [dif_neg (by simp)]⟩
    | cons c r =>
      simp only [List.length_cons] at hlen hm
      have hi' : i < S.length := by omega
      have hd := List.drop_eq_getElem_cons hi'
      rw [hl] at hd
      have hc : S[i] = c := (List.cons.inj hd).1.symm
      have hr : S.drop (i + 1) = r := (List.cons.inj hd).2.symm
      rw [gudgeonref05_quoted.l0, ba_size, if_pos (show (i : Int) < (S.length : Int) by omega), if_pos (show (0 : Int) ≤ (i : Int) by omega), bt_ba S i hi', hc, rgd_is, Option.bind_some]
      by_cases hg : gd c = true
      · rw [if_pos hg, if_pos (show (0 : Int) ≤ (a : Int) by omega), if_pos (show (a : Int) < (S.length : Int) by omega), bt_ba S a ha, h124]
        rw [wn (by omega)]
        by_cases hc124 : c = 124
        · subst hc124
          have e : sp b1 (124 :: r) = 0 := by simp [sp, b1124]
          rw [if_pos rfl, if_neg (show ¬ (((124 : UInt8).toNat : Int)) = 34 by decide)]
          refine ⟨_, rfl, ?_⟩
          rw [dif_pos (by rw [e]; simp)]
          simp only [e, List.getElem_cons_zero, if_true, List.take_zero, List.append_nil, Nat.add_zero, true_and, and_true]
          exact str_nums8 acc
        · have hb : b1 c = true := by rw [b1_gd, hg, bne_iff_ne.2 hc124]; rfl
          have e : sp b1 (c :: r) = sp b1 r + 1 := by simp only [sp, if_pos hb]
          have hc' : ¬ ((c.toNat : Int) = ((124 : UInt8).toNat : Int)) := fun z => hc124 ((nat34 c 124).1 z)
          rw [if_neg hc', if_pos (by simp; omega)]
          have hacc2 : nums8 acc ++ [(c.toNat : Int)] = nums8 (acc ++ [c]) := by simp [nums8]
          rw [hacc2]
          obtain ⟨v, hv, h3⟩ := ih (i + 1) k r (acc ++ [c]) (by omega) hr (by omega) (by omega) (by simp only [List.length_append, List.length_singleton]; omega)
          refine ⟨v, hv, ?_⟩
          by_cases hlt : sp b1 r < r.length
          · rw [dif_pos hlt] at h3
            rw [dif_pos (by rw [e]; simp only [List.length_cons]; omega)]
            simp only [e, List.getElem_cons_succ, List.take_succ_cons]
            split
            · rename_i h4
              rw [if_pos h4] at h3
              refine ⟨h3.1, ?_, ?_⟩
              · rw [h3.2.1, List.append_assoc]; rfl
              · rw [h3.2.2]; congr 1; omega
            · rename_i h4
              rw [if_neg h4] at h3; exact h3
          · rw [dif_neg hlt] at h3
            rw [dif_neg (by rw [e]; simp only [List.length_cons]; omega)]; exact h3
      · rw [if_neg hg]
        have hc124 : c ≠ 124 := fun z => hg (by rw [z]; exact gd124)
        have hb : b1 c = false := by
          rw [b1_gd]; have : gd c = false := by simpa using hg
          rw [this]; rfl
        have e : sp b1 (c :: r) = 0 := by simp [sp, hb]
        refine ⟨_, rfl, ?_⟩
        rw [dif_pos (by rw [e]; simp)]
        simp only [e, List.getElem_cons_zero, if_neg hc124]
end Go.Proofs.YtnpmmhceiaedcaaDoor.X
/- lex: the reference's numbers, codes, tokens and scripts; the law LexShows. -/
namespace Go.Proofs.YtnpmmhceiaedcaaDoor.X
open Go.RowKit Go.Proofs.YtnpmmhceiaedcaaDoor.H Go.Proofs.YtnpmmhceiaedcaaDoor.PA Go.Proofs.YtnpmmhceiaedcaaDoorW.PrintWords Go.Proofs.YtnpmmhceiaedcaaDoorW.PrintLast Go.Proofs.YtnpmmhceiaedcaaDoorW.PrintMore
set_option linter.unusedVariables false
set_option linter.unusedSimpArgs false

/-- Digits alone, and at least one. -/
def dgs (t : List UInt8) : Bool := !t.isEmpty && (sp dg t == t.length)
theorem sp_all_iff (p : UInt8 → Bool) : ∀ t : List UInt8, (sp p t == t.length) = t.all p
  | [] => rfl
  | c :: r => by
    have := sp_all_iff p r
    have hl := sp_le p r
    by_cases hc : p c = true
    · have e : sp p (c :: r) = sp p r + 1 := by simp only [sp, if_pos hc]
      rw [e, List.all_cons, hc, Bool.true_and, List.length_cons, ← this]
      by_cases z : sp p r = r.length
      · rw [z]; simp
      · have z1 : (sp p r == r.length) = false := by simpa using z
        have z2 : (sp p r + 1 == r.length + 1) = false := by rw [beq_eq_false_iff_ne]; omega
        rw [z1, z2]
    · have hc' : p c = false := by simpa using hc
      simp only [sp, if_neg hc, List.all_cons, hc', List.length_cons, Bool.false_and]; rfl
theorem digits_at (S : List UInt8) (hS : S.length ≤ 100000) : ∀ (m a k : Nat), a ≤ S.length → S.length - a ≤ m → m + 1 ≤ k →
    gudgeonref05_digits.l0 k (ba S) (a : Int) = some ((S.drop a).all dg && !S.isEmpty) := by
  intro m
  induction m with
  | zero =>
    intro a k ha hm hk
    obtain ⟨k, rfl⟩ : ∃ j, k = j + 1 := ⟨k - 1, by omega⟩
    rw [List.drop_eq_nil_of_le (by omega), gudgeonref05_digits.l0, ba_size, if_neg (by omega), ByteArray.toList_eq]
    cases S <;> rfl
  | succ m ih =>
    intro a k ha hm hk
    by_cases h : a < S.length
    · obtain ⟨k, rfl⟩ : ∃ j, k = j + 1 := ⟨k - 1, by omega⟩
      have ih0 := ih (a + 1) k (by omega) (by omega) (by omega)
      rw [List.drop_eq_getElem_cons h, gudgeonref05_digits.l0, ba_size, if_pos (show (a : Int) < (S.length : Int) by omega), if_pos (show (0 : Int) ≤ (a : Int) by omega), bt_ba S a h, rdg_is, Option.bind_some]
      by_cases hn : dg S[a] = true
      · rw [if_pos hn, wn (by omega), ih0]
        simp only [List.all_cons, hn, Bool.true_and]
      · have hn' : dg S[a] = false := by simpa using hn
        rw [if_neg hn]; simp only [List.all_cons, hn', Bool.false_and]
    · exact ih a k ha (by omega) (by omega)
theorem digits_is (t : List UInt8) (h : t.length ≤ 100000) (k : Nat) (hk : t.length + 1 ≤ k) : gudgeonref05_digits.f k (ba t) = some (dgs t) := by
  have := digits_at t h t.length 0 k (by omega) (by omega) (by omega)
  unfold gudgeonref05_digits.f
  rw [show ((0 : Nat) : Int) = 0 from rfl, List.drop_zero] at this
  rw [this, dgs, sp_all_iff, Bool.and_comm]
theorem byte46 (c : UInt8) : ((c.toNat : Int) = 46) ↔ c = 46 := nat34 c 46
theorem byte48 (c : UInt8) : ((c.toNat : Int) = 48) ↔ c = 48 := nat34 c 48
theorem byte98 (c : UInt8) : ((c.toNat : Int) = 98) ↔ c = 98 := nat34 c 98
def lead : List UInt8 → Bool
  | [] => false
  | c :: _ => c == 48
/-- Where the first point stands. -/
def pt (t : List UInt8) : Nat := sp (fun c => c != 46) t
theorem pt_index : ∀ t : List UInt8, Lib.indexByte t 46 = if pt t < t.length then (pt t : Int) else -1
  | [] => rfl
  | c :: r => by
    have ih := pt_index r
    have hl := sp_le (fun c => c != 46) r
    simp only [Lib.indexByte]
    by_cases h : c = 46
    · subst h
      have e : pt (46 :: r) = 0 := by simp [pt, sp]
      rw [e]; simp
    · have h2 : (c == 46) = false := by simpa using h
      have e : pt (c :: r) = pt r + 1 := by simp [pt, sp, h]
      have hl : pt r ≤ r.length := hl
      rw [h2, if_neg (by decide), ih, e, List.length_cons]
      by_cases z : pt r < r.length
      · rw [if_pos z, if_pos (show pt r + 1 < r.length + 1 by omega), if_neg (by rw [beq_iff_eq]; omega)]; push_cast; rfl
      · rw [if_neg z, if_neg (show ¬ pt r + 1 < r.length + 1 by omega), if_pos (by decide)]
def numv (t : List UInt8) : Int :=
  if dgs (t.take (pt t)) = false ∨ (1 < pt t ∧ lead t = true) then 0 else if pt t = t.length then 4 else if dgs (t.drop (pt t + 1)) = true then 5 else 0
theorem number_at (t : List UInt8) (h : t.length ≤ 100000) (h0 : t ≠ []) (p : Nat) (hp : pt t = p) : ∀ (i k : Nat), i ≤ t.length → 2 * t.length + i + 10 ≤ k →
    gudgeonref05_number.l0 k (ba t) ((i + sp (fun c => c != 46) (t.drop i) : Nat) : Int) ((i : Int) - 1) = some (numv t) := by
  intro i
  induction i with
  | zero =>
    intro k hi hk
    obtain ⟨k, rfl⟩ : ∃ j, k = j + 1 := ⟨k - 1, by omega⟩
    obtain ⟨k, rfl⟩ : ∃ j, k = j + 1 := ⟨k - 1, by omega⟩
    rw [List.drop_zero, Nat.zero_add, show sp (fun c => c != 46) t = p from hp]
    have hl : p ≤ t.length := by rw [← hp]; exact sp_le _ t
    have hne : 0 < t.length := by cases t with | nil => exact absurd rfl h0 | cons => simp
    rw [gudgeonref05_number.l0, if_neg (by omega), if_pos (by omega), ba_size, if_pos (by omega), Int.toNat_natCast, ext_take, digits_is _ (by rw [List.length_take]; omega) _ (by rw [List.length_take]; omega), Option.bind_some]
    have hb0 : bt (ba t) 0 = (t[0].toNat : Int) := bt_ba t 0 hne
    have hh : lead t = (t[0] == 48) := by cases t with | nil => exact absurd rfl h0 | cons => rfl
    have last : ∀ b : Bool, gudgeonref05_number.j1 (k + 1) (ba t) (p : Int) b = some (if b = true then 0 else if p = t.length then 4 else if dgs (t.drop (p + 1)) = true then 5 else 0) := by
      intro b
      rw [gudgeonref05_number.j1]
      cases b
      · simp only [Bool.false_eq_true, if_false]
        rw [ba_size]
        by_cases hpl : p = t.length
        · rw [if_pos (by omega), if_pos hpl]
        · rw [if_neg (by omega), if_neg hpl, wn (by omega), if_pos (by omega), if_pos (by omega), Int.toNat_natCast, show (t.length : Nat) = (ba t).size from rfl, ext_drop, digits_is _ (by rw [List.length_drop]; omega) _ (by rw [List.length_drop]; omega), Option.bind_some]
          split <;> rfl
      · simp only [if_true]
    unfold numv
    rw [hp]
    by_cases hd : dgs (t.take p) = true
    · rw [if_pos hd]
      have hd' : ¬ dgs (t.take p) = false := by rw [hd]; decide
      by_cases h1 : (p : Int) > 1
      · rw [if_pos h1, if_pos (by omega), last, hb0]
        have e48 := byte48 t[0]
        by_cases h48 : t[0] = 48
        · have e : ((t[0].toNat : Int) == 48) = true := beq_iff_eq.2 (e48.2 h48)
          rw [e, if_pos rfl, if_pos (.inr ⟨by omega, by rw [hh, h48]; rfl⟩)]
        · have e : ((t[0].toNat : Int) == 48) = false := by
            rw [beq_eq_false_iff_ne]; exact fun z => h48 (e48.1 z)
          have hnn : ¬ (dgs (t.take p) = false ∨ 1 < p ∧ lead t = true) := by
            rintro (z | z)
            · exact hd' z
            · have := z.2; rw [hh] at this; exact h48 (beq_iff_eq.1 this)
          rw [e, if_neg hnn, if_neg (show ¬ (false = true) by decide)]
      · have hnn : ¬ (dgs (t.take p) = false ∨ 1 < p ∧ lead t = true) := by
          rintro (z | z)
          · exact hd' z
          · omega
        rw [if_neg h1, last, if_neg hnn, if_neg (show ¬ (false = true) by decide)]
    · rw [if_neg hd, last, if_pos rfl, if_pos (.inl (by simpa using hd))]
  | succ i ih =>
    intro k hi hk
    obtain ⟨k, rfl⟩ : ∃ j, k = j + 1 := ⟨k - 1, by omega⟩
    have hi' : i < t.length := by omega
    have ih0 := ih k (by omega) (by omega)
    have ew : wrap64 (((i + 1 : Nat) : Int) - 1 - 1) = (i : Int) - 1 := by unfold wrap64; omega
    have ei : (((i + 1 : Nat) : Int) - 1) = (i : Int) := by omega
    rw [gudgeonref05_number.l0, ew, ei, if_pos (by omega), if_pos (by omega), ba_size, if_pos (by omega), bt_ba t i hi']
    rw [List.drop_eq_getElem_cons hi'] at ih0
    by_cases h46 : t[i] = 46
    · have e : sp (fun c => c != 46) (t[i] :: t.drop (i + 1)) = 0 := by simp [sp, h46]
      rw [e, Nat.add_zero] at ih0
      rw [if_pos ((byte46 t[i]).2 h46), ih0]
    · have e : sp (fun c => c != 46) (t[i] :: t.drop (i + 1)) = sp (fun c => c != 46) (t.drop (i + 1)) + 1 := by simp [sp, h46]
      rw [e] at ih0
      rw [if_neg (fun z => h46 ((byte46 t[i]).1 z)), show i + 1 + sp (fun c => c != 46) (t.drop (i + 1)) = i + (sp (fun c => c != 46) (t.drop (i + 1)) + 1) by omega, ih0]
theorem number_is (t : List UInt8) (h : t.length ≤ 100000) (h0 : t ≠ []) (k : Nat) (hk : 3 * t.length + 10 ≤ k) : gudgeonref05_number.f k (ba t) = some (numv t) := by
  have := number_at t h h0 _ rfl t.length k (Nat.le_refl _) (by omega)
  rw [List.drop_eq_nil_of_le (Nat.le_refl _)] at this
  unfold gudgeonref05_number.f
  have ew : wrap64 (((ba t).size : Int) - 1) = (t.length : Int) - 1 := by rw [ba_size]; unfold wrap64; omega
  rw [ew, ba_size]
  simpa [sp] using this
theorem plain_is (t : List UInt8) (h : t.length ≤ 140737488351232) : lex_plain.f (ba t) = some (dgs t && !(lead t && decide (1 < t.length))) := by
  unfold lex_plain.f
  rw [ByteArray.toList_eq]
  cases t with
  | nil => rw [if_pos rfl]; rfl
  | cons c r =>
    have hne : ¬ (ba (c :: r)).data.toList = [] := List.cons_ne_nil c r
    have hb : bt (ba (c :: r)) 0 = (c.toNat : Int) := bt_ba (c :: r) 0 (Nat.zero_lt_succ _)
    rw [if_neg hne, F17 _ h, Option.bind_some, ba_size, hb]
    have e48 := byte48 c
    have hdg : dgs (c :: r) = (sp dg (c :: r) == (c :: r).length) := by unfold dgs; rfl
    have hle : lead (c :: r) = (c == 48) := rfl
    rw [hdg, hle]
    by_cases hz : sp dg (c :: r) = (c :: r).length
    · have hz' : (sp dg (c :: r) == (c :: r).length) = true := beq_iff_eq.2 hz
      rw [if_pos (by omega), if_pos (by simp only [List.length_cons]; omega), hz', Bool.true_and]
      by_cases h48 : c = 48
      · have h2 : (c == 48) = true := beq_iff_eq.2 h48
        rw [if_pos (e48.2 h48), h2, Bool.true_and]
        by_cases h1 : 1 < (c :: r).length
        · have e : ((((c :: r).length : Nat) : Int) == 1) = false := by rw [beq_eq_false_iff_ne]; omega
          rw [e, decide_eq_true h1]; rfl
        · have e : ((((c :: r).length : Nat) : Int) == 1) = true := by rw [beq_iff_eq]; simp only [List.length_cons] at h1 ⊢; omega
          rw [e, decide_eq_false h1]; rfl
      · have h2 : (c == 48) = false := by simpa using h48
        rw [if_neg (fun z => h48 (e48.1 z)), h2, Bool.false_and]; rfl
    · have hz' : (sp dg (c :: r) == (c :: r).length) = false := by simpa using hz
      rw [if_neg (by omega), hz', Bool.false_and]
theorem dg46 : dg 46 = false := by kernel_rfl
theorem pt_lt (t : List UInt8) (h : pt t < t.length) : t[pt t] = 46 := by
  have := sp_at (fun c => c != 46) t h
  show t[sp (fun c => c != 46) t]'h = 46
  simpa using this
theorem cut46 (t : List UInt8) (h : t.length ≤ 100000) : strings_Cut.f (ba t) (⟨#[46]⟩ : ByteArray) = some (if pt t < t.length then (ba (t.take (pt t)), ba (t.drop (pt t + 1)), true) else (ba t, ⟨#[]⟩, false)) := by
  have hpl : pt t ≤ t.length := sp_le (fun c => c != 46) t
  have hI : stringslite_Index.f (ba t) (⟨#[46]⟩ : ByteArray) = some (if pt t < t.length then (pt t : Int) else -1) := by
    unfold stringslite_Index.f
    show some (Lib.indexByte t 46) = _
    rw [pt_index]
  unfold strings_Cut.f stringslite_Cut.f
  rw [hI, Option.bind_some]
  by_cases hp : pt t < t.length
  · rw [if_pos hp, if_pos hp]
    have hs : (((⟨#[46]⟩ : ByteArray).size : Nat) : Int) = 1 := rfl
    rw [hs, wn (by omega), if_pos (by omega), if_pos (by omega), ba_size, if_pos (by omega), if_pos (by omega), if_pos (by omega), Option.bind_some]
    rw [Int.toNat_natCast, Int.toNat_natCast, ext_take, show (t.length : Nat) = (ba t).size from rfl, ext_drop]
  · rw [if_neg hp, if_neg hp, if_neg (by omega), Option.bind_some]
theorem numeral_num (t : List UInt8) (h : t.length ≤ 100000) (h0 : t ≠ []) : lex_numeral.f (ba t) = some (if numv t = 0 then (0, ⟨#[]⟩, 0, 0, 8) else (numv t, ba t, 0, (t.length : Int), 0)) := by
  have hpl : pt t ≤ t.length := sp_le (fun c => c != 46) t
  unfold lex_numeral.f
  rw [cut46 t h, Option.bind_some]
  by_cases hp : pt t < t.length
  · have h46 := pt_lt t hp
    simp only [if_pos hp]
    rw [plain_is t (by omega), Option.bind_some, ba_size]
    have hall : dgs t = false := by
      unfold dgs
      rw [sp_all_iff]
      have : t.all dg = false := by
        rw [List.all_eq_false]
        exact ⟨_, List.getElem_mem hp, by rw [h46, dg46]; decide⟩
      rw [this, Bool.and_false]
    rw [hall, Bool.false_and]
    simp only [Bool.false_eq_true, if_false, if_true]
    rw [plain_is _ (by rw [List.length_take]; omega), Option.bind_some, List.length_take, Nat.min_eq_left hpl]
    have hnv : numv t = if dgs (t.take (pt t)) = false ∨ (1 < pt t ∧ lead t = true) then 0 else if dgs (t.drop (pt t + 1)) = true then 5 else 0 := by
      unfold numv; rw [if_neg (show ¬ pt t = t.length by omega)]
    have hhd : lead (t.take (pt t)) = (decide (0 < pt t) && lead t) := by
      cases hq : pt t with
      | zero => simp [lead]
      | succ n => cases t with | nil => exact absurd rfl h0 | cons => simp [lead]
    by_cases hd : dgs (t.take (pt t)) = true
    · have hp0 : 0 < pt t := by
        rcases Nat.eq_zero_or_pos (pt t) with z | z
        · rw [z] at hd; simp [dgs] at hd
        · exact z
      rw [hhd, decide_eq_true hp0, Bool.true_and]
      by_cases h1 : 1 < pt t ∧ lead t = true
      · have e0 : numv t = 0 := by rw [hnv]; exact if_pos (.inr h1)
        rw [e0, hd, h1.2, decide_eq_true h1.1, if_neg (by decide), if_pos rfl]
      · have : (!(lead t && decide (1 < pt t))) = true := by
          by_cases z : lead t = true
          · have : ¬ 1 < pt t := fun y => h1 ⟨y, z⟩
            rw [decide_eq_false this]; simp
          · have z' : lead t = false := by simpa using z
            rw [z']; rfl
        have e0 : numv t = if dgs (t.drop (pt t + 1)) = true then 5 else 0 := by
          rw [hnv]; refine if_neg ?_
          rintro (z | z)
          · rw [hd] at z; cases z
          · exact h1 z
        rw [e0, hd, this, Bool.and_self, if_pos rfl, ByteArray.toList_eq]
        clear e0 hnv
        by_cases hn : t.drop (pt t + 1) = []
        · rw [if_pos hn, hn]; rfl
        · rw [if_neg hn, F17 _ (by rw [List.length_drop]; omega), Option.bind_some, ba_size]
          have hdg : dgs (t.drop (pt t + 1)) = (sp dg (t.drop (pt t + 1)) == (t.drop (pt t + 1)).length) := by
            unfold dgs
            have : (t.drop (pt t + 1)).isEmpty = false := by simpa using hn
            rw [this]; rfl
          rw [hdg]
          by_cases z : sp dg (t.drop (pt t + 1)) = (t.drop (pt t + 1)).length
          · rw [if_pos (by omega), z]; simp
          · have z2 : (sp dg (t.drop (pt t + 1)) == (t.drop (pt t + 1)).length) = false := by simpa using z
            rw [if_neg (by omega), z2]; rfl
    · have hd' : dgs (t.take (pt t)) = false := by simpa using hd
      have e0 : numv t = 0 := by rw [hnv]; exact if_pos (.inl hd')
      rw [e0, hd', Bool.false_and, if_neg (by decide), if_pos rfl]
  · have hpe : pt t = t.length := by omega
    simp only [if_neg hp]
    rw [plain_is t (by omega), Option.bind_some]
    simp only [Bool.false_eq_true, if_false]
    have hnv : numv t = if dgs t = false ∨ (1 < t.length ∧ lead t = true) then 0 else 4 := by
      unfold numv; rw [hpe, List.take_length]; split
      · rfl
      · rw [if_pos rfl]
    rw [ba_size]
    by_cases hd : dgs t = true
    · by_cases h1 : 1 < t.length ∧ lead t = true
      · have e0 : numv t = 0 := by rw [hnv]; exact if_pos (.inr h1)
        rw [e0, hd, h1.2, decide_eq_true h1.1, if_neg (by decide), if_pos rfl]
      · have : (!(lead t && decide (1 < t.length))) = true := by
          by_cases z : lead t = true
          · have : ¬ 1 < t.length := fun y => h1 ⟨y, z⟩
            rw [decide_eq_false this]; simp
          · have z' : lead t = false := by simpa using z
            rw [z']; rfl
        have e0 : numv t = 4 := by
          rw [hnv]; refine if_neg ?_
          rintro (z | z)
          · rw [hd] at z; cases z
          · exact h1 z
        rw [e0, hd, this, Bool.and_self, if_pos rfl, if_neg (by decide)]
    · have hd' : dgs t = false := by simpa using hd
      have e0 : numv t = 0 := by rw [hnv]; exact if_pos (.inl hd')
      rw [e0, hd', Bool.false_and, if_neg (by decide), if_pos rfl]

/-- Codes. -/
def hexP (x : Int) : Prop := (48 ≤ x ∧ x ≤ 57) ∨ (97 ≤ x ∧ x ≤ 102) ∨ (65 ≤ x ∧ x ≤ 70)
instance (x : Int) : Decidable (hexP x) := by unfold hexP; infer_instance
def okP (y x : Int) : Prop := hexP x ∧ (¬ y = 98 ∨ x = 48 ∨ x = 49)
instance (y x : Int) : Decidable (okP y x) := by unfold okP; infer_instance
theorem other_step (t : ByteArray) (i : Int) (k : Nat) (hi : 0 ≤ i) (hi' : i < (t.size : Int)) (h1 : 1 < (t.size : Int)) :
    gudgeonref05_other.l0 (k + 1) t i = if okP (bt t 1) (bt t i) then gudgeonref05_other.l0 k t (wrap64 (i + 1)) else some false := by
  rw [gudgeonref05_other.l0, if_pos hi', if_pos hi]
  generalize bt t i = x
  generalize bt t 1 = y
  generalize gudgeonref05_other.l0 k t (wrap64 (i + 1)) = R
  unfold gudgeonref05_Digit.f
  simp only [if_pos h1]
  by_cases ho : okP y x
  · have ho' : ((48 ≤ x ∧ x ≤ 57) ∨ (97 ≤ x ∧ x ≤ 102) ∨ (65 ≤ x ∧ x ≤ 70)) ∧ (¬ y = 98 ∨ x = 48 ∨ x = 49) := ho
    rw [if_pos ho]
    clear ho
    by_cases a : x ≥ 48
    · rw [if_pos a]
      by_cases b : x ≤ 57
      · rw [decide_eq_true b]
        simp only [Option.bind_some, if_true]
        repeat' split
        all_goals first | rfl | omega
      · rw [decide_eq_false b]
        simp only [Option.bind_some, Bool.false_eq_true, if_false]
        repeat' split
        all_goals first | rfl | omega
    · omega
  · have ho' : ¬ (((48 ≤ x ∧ x ≤ 57) ∨ (97 ≤ x ∧ x ≤ 102) ∨ (65 ≤ x ∧ x ≤ 70)) ∧ (¬ y = 98 ∨ x = 48 ∨ x = 49)) := ho
    rw [if_neg ho]
    clear ho
    by_cases a : x ≥ 48
    · rw [if_pos a]
      by_cases b : x ≤ 57
      · rw [decide_eq_true b]
        simp only [Option.bind_some, if_true]
        repeat' split
        all_goals first | rfl | omega
      · rw [decide_eq_false b]
        simp only [Option.bind_some, Bool.false_eq_true, if_false]
        repeat' split
        all_goals first | rfl | omega
    · rw [if_neg a]
      simp only [Option.bind_some, Bool.false_eq_true, if_false]
      repeat' split
      all_goals first | rfl | omega
theorem other_at (t : List UInt8) (h : t.length ≤ 100000) (h1 : 1 < t.length) : ∀ (m i k : Nat), i ≤ t.length → t.length - i ≤ m → m + 1 ≤ k →
    gudgeonref05_other.l0 k (ba t) (i : Int) = some ((t.drop i).all (fun c => decide (okP (t[1].toNat : Int) (c.toNat : Int)))) := by
  intro m
  induction m with
  | zero =>
    intro i k hi hm hk
    obtain ⟨k, rfl⟩ : ∃ j, k = j + 1 := ⟨k - 1, by omega⟩
    rw [List.drop_eq_nil_of_le (by omega), gudgeonref05_other.l0, ba_size, if_neg (by omega)]; rfl
  | succ m ih =>
    intro i k hi hm hk
    by_cases hl : i < t.length
    · obtain ⟨k, rfl⟩ : ∃ j, k = j + 1 := ⟨k - 1, by omega⟩
      have hb1 : bt (ba t) 1 = (t[1].toNat : Int) := bt_ba t 1 h1
      rw [other_step (ba t) (i : Int) k (by omega) (by rw [ba_size]; omega) (by rw [ba_size]; omega), List.drop_eq_getElem_cons hl, bt_ba t i hl, hb1]
      by_cases ho : okP (t[1].toNat : Int) (t[i].toNat : Int)
      · rw [if_pos ho, wn (by omega), ih (i + 1) k (by omega) (by omega) (by omega)]
        simp only [List.all_cons, decide_eq_true ho, Bool.true_and]
      · rw [if_neg ho]
        simp only [List.all_cons, decide_eq_false ho, Bool.false_and]
    · exact ih i k hi (by omega) (by omega)
theorem c1_hex (c : UInt8) : c1 c = decide (hexP (c.toNat : Int)) := by
  have := byte_all (P := fun n => (lex_coded_1.f (n : Int) == some true) == decide (hexP (n : Int))) (by kernel_rfl) c
  exact beq_iff_eq.1 this
theorem c2_bit (c : UInt8) : c2 c = decide ((c.toNat : Int) = 48 ∨ (c.toNat : Int) = 49) := by
  have := byte_all (P := fun n => (lex_coded_2.f (n : Int) == some true) == decide ((n : Int) = 48 ∨ (n : Int) = 49)) (by kernel_rfl) c
  exact beq_iff_eq.1 this
/-- Codes are the same codes. -/
theorem other_is (t : List UInt8) (h : t.length ≤ 100000) (h0 : t ≠ []) (k : Nat) (hk : t.length + 5 ≤ k) : ∃ b, gudgeonref05_other.f k (ba t) = some b ∧ lex_coded.f (ba (t.drop 1)) = some b := by
  obtain ⟨k, rfl⟩ : ∃ j, k = j + 1 := ⟨k - 1, by omega⟩
  cases t with
  | nil => exact absurd rfl h0
  | cons c0 r =>
  simp only [List.drop_succ_cons, List.drop_zero]
  unfold gudgeonref05_other.f lex_coded.f
  simp only [ba_size, List.length_cons] at h hk ⊢
  by_cases hl : r.length < 2
  · rw [if_pos (by omega), if_pos (by omega), gudgeonref05_other.j0, if_pos rfl]
    exact ⟨_, rfl, rfl⟩
  · obtain ⟨x, u, rfl⟩ : ∃ x u, r = x :: u := by cases r with | nil => simp at hl | cons x u => exact ⟨x, u, rfl⟩
    have hb1 : bt (ba (c0 :: x :: u)) 1 = (x.toNat : Int) := bt_ba (c0 :: x :: u) 1 (by simp)
    have hb0 : bt (ba (x :: u)) 0 = (x.toNat : Int) := bt_ba (x :: u) 0 (by simp)
    have hat := other_at (c0 :: x :: u) (by simpa using h) (by simp) u.length 2 k (by simp) (by simp) (by have := hk; rw [List.length_cons] at this; omega)
    rw [show ((2 : Nat) : Int) = 2 from rfl] at hat
    simp only [List.drop_succ_cons, List.drop_zero, List.getElem_cons_succ, List.getElem_cons_zero] at hat
    simp only [List.length_cons] at hl h hk ⊢
    rw [if_neg (show ¬ (((u.length + 1 + 1 : Nat) : Nat) : Int) < 3 by omega), if_pos (show (1 : Int) < (((u.length + 1 + 1 : Nat) : Nat) : Int) by omega), if_neg (show ¬ ((u.length + 1 : Nat) : Int) < 2 by omega), if_pos (show (0 : Int) < ((u.length + 1 : Nat) : Int) by omega), hb1, hb0]
    have hx : (ba (x :: u)).extract 1 (u.length + 1) = ba u := by
      have := ext_drop (x :: u) 1
      simp only [ba_size, List.length_cons, List.drop_succ_cons, List.drop_zero] at this
      exact this
    have hw : wrap64 (((u.length + 1 : Nat) : Int) - 1) = (u.length : Int) := by rw [w64 (by omega) (by omega)]; omega
    rw [hx, F29 u (by omega), F30 u (by omega), hw]
    have hc1 : ∀ (z : x ≠ 98), (u.all (fun c => decide (okP (x.toNat : Int) (c.toNat : Int)))) = (sp c1 u == u.length) := by
      intro z
      rw [sp_all_iff]
      congr 1; funext c
      rw [c1_hex]; congr 1
      unfold okP
      have : ¬ (x.toNat : Int) = 98 := fun y => z ((byte98 x).1 y)
      simp [this]
    have hc2 : ∀ (z : x = 98), (u.all (fun c => decide (okP (x.toNat : Int) (c.toNat : Int)))) = (sp c2 u == u.length) := by
      intro z
      rw [sp_all_iff]
      congr 1; funext c
      rw [c2_bit]
      apply decide_eq_decide.2
      unfold okP hexP
      have : (x.toNat : Int) = 98 := (byte98 x).2 z
      omega
    have natb : ∀ a b : Nat, ((a : Int) == (b : Int)) = (a == b) := by
      intro a b
      by_cases z : a = b
      · subst z; simp
      · have z1 : ((a : Int) == (b : Int)) = false := by rw [beq_eq_false_iff_ne]; omega
        have z2 : (a == b) = false := by rw [beq_eq_false_iff_ne]; exact z
        rw [z1, z2]
    by_cases h120 : (x.toNat : Int) = 120
    · have hne : x ≠ 98 := by rintro rfl; exact absurd h120 (by decide)
      rw [if_pos h120, if_pos h120, if_pos (by omega), gudgeonref05_other.j0, if_neg (by decide), hat, hc1 hne, Option.bind_some]
      have h98 : ¬ (x.toNat : Int) = 98 := by omega
      refine ⟨_, rfl, ?_⟩
      by_cases z : sp c1 u = u.length
      · rw [if_pos (by omega), z]; simp
      · have z2 : (sp c1 u == u.length) = false := by rw [beq_eq_false_iff_ne]; exact z
        rw [if_neg (by omega), if_neg h98, z2]
    · rw [if_neg h120, if_neg h120]
      by_cases h98 : (x.toNat : Int) = 98
      · have hxe : x = 98 := (byte98 x).1 h98
        have : ((x.toNat : Int) != 98) = false := by rw [h98]; rfl
        rw [this, gudgeonref05_other.j0, if_neg (by decide), hat, hc2 hxe, if_pos h98, if_pos (by omega), Option.bind_some, natb]
        exact ⟨_, rfl, rfl⟩
      · have : ((x.toNat : Int) != 98) = true := bne_iff_ne.2 h98
        rw [this, gudgeonref05_other.j0, if_pos rfl, if_neg h98]
        exact ⟨_, rfl, rfl⟩
end Go.Proofs.YtnpmmhceiaedcaaDoor.X
/- lex: the reference's tokens and scripts; the law LexShows, in plain Lean. -/
namespace Go.Proofs.YtnpmmhceiaedcaaDoor.X
open Go.RowKit Go.Proofs.YtnpmmhceiaedcaaDoor.H Go.Proofs.YtnpmmhceiaedcaaDoor.PA Go.Proofs.YtnpmmhceiaedcaaDoorW.PrintWords Go.Proofs.YtnpmmhceiaedcaaDoorW.PrintLast Go.Proofs.YtnpmmhceiaedcaaDoorW.PrintMore
set_option linter.unusedVariables false
set_option linter.unusedSimpArgs false

theorem ex1 {α : Type} {P : α → Prop} {x : α} (h : P x) : ∃ v, some x = some v ∧ P v := ⟨x, rfl, h⟩
/-- A backslash among bytes, from a place on. -/
theorem back92 (t : List UInt8) (h : t.length ≤ 100000) (a : Int) (b : Int) (z0 z2 : Int) (z1 : ByteArray) : ∀ (m i k : Nat), i ≤ t.length → t.length - i ≤ m → m + 1 ≤ k →
    gudgeonref05_one.l0 k a (ba t) b (i : Int) z0 z1 z2 = some (if 0 ≤ Lib.indexByte (t.drop i) 92 then (z0, z1, z2, 0, 8, a) else (3, ba t, a, b, 0, 0)) := by
  intro m
  induction m with
  | zero =>
    intro i k hi hm hk
    obtain ⟨k, rfl⟩ : ∃ j, k = j + 1 := ⟨k - 1, by omega⟩
    rw [List.drop_eq_nil_of_le (by omega), gudgeonref05_one.l0, ba_size, if_neg (by omega)]; rfl
  | succ m ih =>
    intro i k hi hm hk
    by_cases hl : i < t.length
    · obtain ⟨k, rfl⟩ : ∃ j, k = j + 1 := ⟨k - 1, by omega⟩
      rw [gudgeonref05_one.l0, ba_size, if_pos (show (i : Int) < (t.length : Int) by omega), if_pos (show (0 : Int) ≤ (i : Int) by omega), bt_ba t i hl, List.drop_eq_getElem_cons hl]
      have e92 : ((t[i].toNat : Int) = 92) ↔ t[i] = 92 := nat34 t[i] 92
      have hg := Lib.indexByte_ge (t.drop (i + 1)) 92
      by_cases h92 : t[i] = 92
      · rw [if_pos (e92.2 h92)]
        have : Lib.indexByte (t[i] :: t.drop (i + 1)) 92 = 0 := by
          simp only [Lib.indexByte]; rw [if_pos (beq_iff_eq.2 h92)]
        rw [this, if_pos (Int.le_refl 0)]
      · rw [if_neg (fun z => h92 (e92.1 z)), wn (by omega), ih (i + 1) k (by omega) (by omega) (by omega)]
        have e : (t[i] == (92 : UInt8)) = false := by rw [beq_eq_false_iff_ne]; exact h92
        simp only [Lib.indexByte, e, Bool.false_eq_true, if_false]
        by_cases z : Lib.indexByte (t.drop (i + 1)) 92 = -1
        · have z2 : (Lib.indexByte (t.drop (i + 1)) 92 == -1) = true := beq_iff_eq.2 z
          rw [z2, if_pos rfl, z]
        · have z2 : (Lib.indexByte (t.drop (i + 1)) 92 == -1) = false := by rw [beq_eq_false_iff_ne]; exact z
          rw [z2, if_neg Bool.false_ne_true, if_pos (show 0 ≤ Lib.indexByte (t.drop (i + 1)) 92 by omega), if_pos (show 0 ≤ Lib.indexByte (t.drop (i + 1)) 92 + 1 by omega)]
    · exact ih i k hi (by omega) (by omega)
/-- What the reference's answer of a token has to do with the program's. -/
def Alike1 (a : Nat) (o : R5) (v : Int × ByteArray × Int × Int × Int × Int) : Prop :=
  v.2.2.2.2.1 = o.2.2.2.2 ∧ (o.2.2.2.2 = 0 → v.1 = o.1 ∧ v.2.1 = o.2.1 ∧ v.2.2.1 = (a : Int) ∧ v.2.2.2.1 = (a : Int) + o.2.2.2.1)
theorem rone_is (S : List UInt8) (hS : S.length ≤ 20000) (a : Nat) (ha : a < S.length) (k : Nat) (hk : 100000 ≤ k) : ∃ v, gudgeonref05_one.f (k + 1) (ba S) (a : Int) = some v ∧ Alike1 a (one (S.drop a)) v := by
  have hd := List.drop_eq_getElem_cons ha
  have hrl : (S.drop (a + 1)).length = S.length - (a + 1) := List.length_drop
  obtain ⟨c, hc⟩ : ∃ c, S[a] = c := ⟨_, rfl⟩
  obtain ⟨r, hr⟩ : ∃ r, S.drop (a + 1) = r := ⟨_, rfl⟩
  rw [hc, hr] at hd
  rw [hr] at hrl
  have hone := one_eq c r (by omega)
  have hl := sp_le nm r
  have hnames := names_at S (by omega) S.length (a + 1) (k + 1) (by omega) (by omega) (by omega)
  rw [hr] at hnames
  have hext : (ba S).extract a (a + 1 + sp nm r) = ba ((c :: r).take (sp nm r + 1)) := by
    rw [ext_ba, List.drop_take, hd, show a + 1 + sp nm r - a = sp nm r + 1 by omega]
  have htl : ((c :: r).take (sp nm r + 1)).length = sp nm r + 1 := by rw [List.length_take]; simp only [List.length_cons]; omega
  have htne : (c :: r).take (sp nm r + 1) ≠ [] := by rw [List.take_succ_cons]; exact List.cons_ne_nil _ _
  have hdrop1 : ((c :: r).take (sp nm r + 1)).drop 1 = r.take (sp nm r) := by rw [List.take_succ_cons]; rfl
  unfold gudgeonref05_one.f
  rw [if_pos (show (0 : Int) ≤ (a : Int) by omega), ba_size, if_pos (show (a : Int) < (S.length : Int) by omega), wn (by omega)]
  unfold gudgeonref05_names.f
  rw [hnames, Option.bind_some, if_pos (show (a : Int) ≤ ((a + 1 + sp nm r : Nat) : Int) by omega), if_pos (show ((a + 1 + sp nm r : Nat) : Int) ≤ (S.length : Int) by omega), bt_ba S a ha, hc, Int.toNat_natCast, Int.toNat_natCast, hext, hd]
  generalize ht : (c :: r).take (sp nm r + 1) = t at *
  have e40 : ((c.toNat : Int) = 40) ↔ c = 40 := nat34 c 40
  have e41 : ((c.toNat : Int) = 41) ↔ c = 41 := nat34 c 41
  have e124 : ((c.toNat : Int) = 124) ↔ c = 124 := nat34 c 124
  have e34 : ((c.toNat : Int) = 34) ↔ c = 34 := nat34 c 34
  have e58 : ((c.toNat : Int) = 58) ↔ c = 58 := nat34 c 58
  have e35 : ((c.toNat : Int) = 35) ↔ c = 35 := nat34 c 35
  unfold oneS at hone
  by_cases a1 : c = 40
  · rw [if_pos a1] at hone
    rw [if_pos (e40.2 a1), ← Option.some.inj hone]
    exact ex1 ⟨rfl, fun _ => ⟨rfl, rfl, rfl, by push_cast; rfl⟩⟩
  rw [if_neg a1] at hone
  rw [if_neg (fun z => a1 (e40.1 z))]
  by_cases a2 : c = 41
  · rw [if_pos a2] at hone
    rw [if_pos (e41.2 a2), ← Option.some.inj hone]
    exact ex1 ⟨rfl, fun _ => ⟨rfl, rfl, rfl, by push_cast; rfl⟩⟩
  rw [if_neg a2] at hone
  rw [if_neg (fun z => a2 (e41.1 z))]
  by_cases a3 : c = 124
  · rw [if_pos a3] at hone
    rw [if_pos (e124.2 a3), gudgeonref05_one.j0, if_pos rfl, ← Option.some.inj hone]
    obtain ⟨v, hv, hq⟩ := quoted124 S (by omega) a ha (hc.trans a3) S.length (a + 1) k r [] (by omega) hr (by omega) (by omega) (by simp)
    unfold gudgeonref05_quoted.f
    rw [wn (by omega), show ([] : List Int) = nums8 [] from rfl, hv, Option.bind_some]
    have hb := sp_le b1 r
    unfold barsS
    by_cases q1' : sp b1 r < r.length
    · rw [dif_pos q1'] at hq
      rw [dif_pos q1']
      by_cases q2 : r[sp b1 r] = 124
      · rw [if_pos q2] at hq
        obtain ⟨h1, h2, h3⟩ := hq
        have hne : ¬ (c.toNat : Int) = 34 := fun z => absurd (e34.1 z) (by rw [a3]; decide)
        rw [if_pos q2, if_pos h1, if_neg hne, h2, List.nil_append]
        have hbk := back92 (r.take (sp b1 r)) (by rw [List.length_take]; omega) (a : Int) v.2.1 0 0 (⟨#[]⟩ : ByteArray) S.length 0 k (by omega) (by rw [List.length_take]; omega) (by omega)
        rw [List.drop_zero, show ((0 : Nat) : Int) = 0 from rfl] at hbk
        rw [hbk]
        by_cases h92 : 0 ≤ Lib.indexByte (r.take (sp b1 r)) 92
        · rw [if_pos h92, if_pos h92]
          exact ex1 ⟨rfl, fun z => absurd z (show ¬ (8 : Int) = 0 by decide)⟩
        · rw [if_neg h92, if_neg h92]
          exact ex1 ⟨rfl, fun _ => ⟨rfl, rfl, rfl, by rw [h3]; simp only; push_cast; omega⟩⟩
      · rw [if_neg q2] at hq
        rw [if_neg q2, if_neg (by rw [hq]; decide)]
        exact ex1 ⟨hq, fun z => absurd z (show ¬ (50 : Int) = 0 by decide)⟩
    · rw [dif_neg q1'] at hq
      rw [dif_neg q1', if_neg (by rw [hq]; decide)]
      exact ex1 ⟨hq, fun z => absurd z (show ¬ (51 : Int) = 0 by decide)⟩
  rw [if_neg a3] at hone
  rw [if_neg (fun z => a3 (e124.1 z))]
  by_cases a4 : c = 34
  · rw [if_pos a4] at hone
    have hq34 : ((c.toNat : Int) == 34) = true := beq_iff_eq.2 (e34.2 a4)
    rw [hq34, gudgeonref05_one.j0, if_pos rfl, ← Option.some.inj hone]
    obtain ⟨v, hv, q, hq, h1, h2⟩ := quoted34 S (by omega) a ha (hc.trans a4) S.length (a + 1) k r (r.length + 1) 0 [] (by omega) hr (by omega) (by omega) (by omega) (by simp)
    unfold gudgeonref05_quoted.f
    rw [wn (by omega), show ([] : List Int) = nums8 [] from rfl, hv, Option.bind_some]
    have hls : litS r = q := by unfold litS; rw [hq]; rfl
    rw [hls]
    by_cases h0 : q.2.2.2.2 = 0
    · obtain ⟨g1, g2, g3⟩ := h2 h0
      rw [if_pos (h1.trans h0), if_pos (e34.2 a4)]
      exact ex1 ⟨h0.symm, fun _ => ⟨g2.symm, g1, rfl, by rw [g3]; push_cast; omega⟩⟩
    · rw [if_neg (fun z => h0 (h1.symm.trans z))]
      exact ex1 ⟨h1, fun z => absurd z h0⟩
  rw [if_neg a4] at hone
  have hq34 : ((c.toNat : Int) == 34) = false := by rw [beq_eq_false_iff_ne]; exact fun z => a4 (e34.1 z)
  rw [hq34, gudgeonref05_one.j0, if_neg (by decide), rdg_is, Option.bind_some]
  by_cases a5 : dg c = true
  · rw [if_pos a5] at hone
    rw [if_pos a5, number_is t (by omega) htne k (by omega), Option.bind_some]
    rw [numeral_num t (by omega) htne] at hone
    rw [← Option.some.inj hone]
    by_cases h0 : numv t = 0
    · rw [if_pos h0, if_pos h0]
      exact ex1 ⟨rfl, fun z => absurd z (show ¬ (8 : Int) = 0 by decide)⟩
    · rw [if_neg h0, if_neg h0]
      exact ex1 ⟨rfl, fun _ => ⟨rfl, rfl, rfl, by simp only [htl]; push_cast; omega⟩⟩
  rw [if_neg a5] at hone
  rw [if_neg a5, rnm_is c k (by omega), Option.bind_some]
  by_cases a6 : nm c = true
  · rw [if_pos a6] at hone
    rw [if_pos a6, ← Option.some.inj hone]
    exact ex1 ⟨rfl, fun _ => ⟨rfl, rfl, rfl, by simp only; push_cast; omega⟩⟩
  rw [if_neg a6] at hone
  rw [if_neg a6]
  by_cases a7 : c = 58
  · rw [if_pos (e58.2 a7), ba_size, htl]
    by_cases a8 : 0 < sp nm r
    · rw [if_pos ⟨a7, a8⟩] at hone
      rw [if_neg (by omega), ← Option.some.inj hone]
      exact ex1 ⟨rfl, fun _ => ⟨rfl, rfl, rfl, by simp only; push_cast; omega⟩⟩
    · have h35 : ¬ c = 35 := by rw [a7]; decide
      rw [if_neg (fun z => a8 z.2), if_neg h35, if_pos a7] at hone
      rw [if_pos (by omega), ← Option.some.inj hone]
      exact ex1 ⟨rfl, fun z => absurd z (show ¬ (8 : Int) = 0 by decide)⟩
  rw [if_neg (fun z => a7 z.1)] at hone
  rw [if_neg (fun z => a7 (e58.1 z))]
  by_cases a9 : c = 35
  · rw [if_pos a9] at hone
    obtain ⟨b, hb1, hb2⟩ := other_is t (by omega) htne k (by omega)
    rw [hb2, Option.bind_some] at hone
    rw [if_pos (e35.2 a9), hb1, Option.bind_some]
    cases b with
    | true =>
      rw [if_pos rfl] at hone
      rw [if_pos rfl, ← Option.some.inj hone]
      exact ex1 ⟨rfl, fun _ => ⟨rfl, rfl, rfl, by simp only; push_cast; omega⟩⟩
    | false =>
      rw [if_neg (by decide)] at hone
      rw [if_neg (by decide), ← Option.some.inj hone]
      exact ex1 ⟨rfl, fun z => absurd z (show ¬ (8 : Int) = 0 by decide)⟩
  rw [if_neg a9, if_neg a7] at hone
  rw [if_neg (fun z => a9 (e35.1 z)), ← Option.some.inj hone]
  exact ex1 ⟨rfl, fun z => absurd z (show ¬ (50 : Int) = 0 by decide)⟩
theorem rLex_at (S : List UInt8) (hS : S.length ≤ 16384) : ∀ (f : Nat) (a : Nat) (acc : List S23) (k : Nat), a ≤ S.length → S.length - a < f → f + 100010 ≤ k → acc.length ≤ a →
    ∃ v, gudgeonref05_Lex.l0 k (ba S) acc (a : Int) = some v ∧ v.1 = acc ++ (lx f (S.drop a) acc.length a).1 ∧ v.2.1 = (lx f (S.drop a) acc.length a).2.1 := by
  intro f
  induction f with
  | zero => intro a acc k ha hf hk hc; omega
  | succ f ih =>
    intro a acc k ha hf hk hc
    obtain ⟨k, rfl⟩ : ∃ j, k = j + 1 := ⟨k - 1, by omega⟩
    have hlen : (S.drop a).length = S.length - a := List.length_drop
    have hle := sk_le false (S.drop a)
    have hst := start_at S (by omega) S.length a k false ha (by omega) (by omega)
    rw [gudgeonref05_Lex.l0]
    unfold gudgeonref05_start.f
    rw [hst, Option.bind_some, ba_size]
    clear hst
    simp only [lx]
    by_cases h2 : (sk false (S.drop a)).1 = (S.drop a).length
    · have hnb : ¬ (sk false (S.drop a)).2 = true := by intro z; have := sk_bad false (S.drop a) z; omega
      rw [if_pos (show ((a + (sk false (S.drop a)).1 : Nat) : Int) = (S.length : Int) by omega), if_neg hnb, if_pos h2]
      exact ex1 ⟨by simp, rfl⟩
    rw [if_neg (show ¬ ((a + (sk false (S.drop a)).1 : Nat) : Int) = (S.length : Int) by omega)]
    have hlt : (sk false (S.drop a)).1 < (S.drop a).length := by omega
    have hgd := sk_gd false (S.drop a) hlt
    rw [List.getElem_drop] at hgd
    obtain ⟨n, hn⟩ : ∃ n, (sk false (S.drop a)).1 = n := ⟨_, rfl⟩
    have hone := rone_is S (by omega) (a + n) (by omega) (k - 1) (by omega)
    rw [show k - 1 + 1 = k by omega] at hone
    simp only [hn] at hgd h2 hlt hle ⊢
    rw [if_pos (show (0 : Int) ≤ ((a + n : Nat) : Int) by omega), if_pos (show ((a + n : Nat) : Int) < (S.length : Int) by omega), bt_ba S (a + n) (by omega), rgd_is, Option.bind_some, hgd, if_neg h2]
    by_cases h1 : (sk false (S.drop a)).2 = true
    · rw [h1, if_pos rfl, if_neg (by decide)]
      exact ex1 ⟨by simp, rfl⟩
    have h1' : (sk false (S.drop a)).2 = false := by simpa using h1
    rw [h1', if_pos (by rfl), if_neg Bool.false_ne_true]
    by_cases h3 : acc.length = 4000
    · rw [if_pos (show (acc.length : Int) = 4000 by omega), if_pos h3]
      exact ex1 ⟨by simp, rfl⟩
    rw [if_neg (show ¬ (acc.length : Int) = 4000 by omega), if_neg h3]
    obtain ⟨v, hv, hal⟩ := hone
    rw [hv, Option.bind_some]
    have hdd : (S.drop a).drop n = S.drop (a + n) := List.drop_drop
    obtain ⟨hne, o1, o2, o3⟩ := one_at (S.drop a) (by omega) (by rw [hn]; exact hlt)
    rw [hn, hdd] at o1 o2 o3
    rw [hdd]
    unfold Alike1 at hal
    generalize one (S.drop (a + n)) = O at *
    by_cases h4 : O.2.2.2.2 = 0
    · have h5 := o3 h4
      obtain ⟨g1, g2, g3, g4⟩ := hal.2 h4
      rw [if_pos (hal.1.trans h4), if_pos h4, if_pos (show acc.length < 4398046511104 by omega)]
      have hpos : v.2.2.2.1 = ((a + n + O.2.2.2.1.toNat : Nat) : Int) := by rw [g4]; push_cast; omega
      have hit := ih (a + n + O.2.2.2.1.toNat) (acc ++ [(⟨v.1, v.2.1, v.2.2.1⟩ : S23)]) k (by omega) (by omega) (by omega) (by simp only [List.length_append, List.length_singleton]; omega)
      rw [hpos]
      obtain ⟨u, hu, hu1, hu2⟩ := hit
      refine ⟨u, hu, ?_, ?_⟩
      · rw [hu1, List.drop_drop, ← Nat.add_assoc]
        simp only [List.length_append, List.length_singleton, List.append_assoc, List.singleton_append, g1, g2, g3]
      · rw [hu2, List.drop_drop, ← Nat.add_assoc]
        simp only [List.length_append, List.length_singleton]
    · rw [if_neg (fun z => h4 (hal.1.symm.trans z)), if_neg h4]
      exact ex1 ⟨by simp, hal.1⟩
theorem rLex_is (S : List UInt8) (hS : S.length ≤ 16384) (k : Nat) (hk : 120000 ≤ k) : ∃ v, gudgeonref05_Lex.f k (ba S) = some v ∧ v.1 = (lx (S.length + 1) S 0 0).1 ∧ v.2.1 = (lx (S.length + 1) S 0 0).2.1 := by
  have := rLex_at S hS (S.length + 1) 0 [] k (by omega) (by omega) (by omega) (by simp)
  unfold gudgeonref05_Lex.f
  rw [if_neg (show ¬ ((ba S).size : Int) > 16384 by rw [ba_size]; omega)]
  rw [show ((0 : Nat) : Int) = 0 from rfl, List.drop_zero, List.nil_append] at this
  exact this
theorem showB_eq (L L' : List S23 × Int × Int) (h1 : L.1 = L'.1) (h2 : L.2.1 = L'.2.1) (W t : ByteArray) (kd : Int) : showB L W t kd = showB L' W t kd := by
  unfold showB; rw [h1, h2]
/-- The reference doubles quotes. -/
theorem rShow_dbl (t : List UInt8) (ht : t.length ≤ 2000) (kd at' : Int) (z : ByteArray) : ∀ (m i k : Nat) (acc : List UInt8), i ≤ t.length → t.length - i ≤ m → m + 130000 ≤ k → acc.length ≤ 2 * i →
    gudgeonref05_Show.l0 k (ba t) (nums8 acc) (i : Int) kd z at' = showB (lx ((34 :: (acc ++ dbl (t.drop i) ++ [34])).length + 1) (34 :: (acc ++ dbl (t.drop i) ++ [34])) 0 0) (ba (34 :: (acc ++ dbl (t.drop i) ++ [34]))) z kd := by
  intro m
  induction m with
  | zero =>
    intro i k acc hi hm hk ha
    obtain ⟨k, rfl⟩ : ∃ j, k = j + 1 := ⟨k - 1, by omega⟩
    rw [List.drop_eq_nil_of_le (by omega), gudgeonref05_Show.l0, ba_size, if_neg (by omega), str_nums8]
    simp only [dbl, List.append_nil]
    have e2 : ((⟨#[34]⟩ : ByteArray) ++ ba acc) ++ (⟨#[34]⟩ : ByteArray) = ba (34 :: (acc ++ [34])) := by
      have h1 := app_ba [34] acc
      have h2 := app_ba ([34] ++ acc) [34]
      rw [← h1] at h2
      exact h2
    have hsz : (34 :: (acc ++ [34])).length = acc.length + 2 := by simp
    obtain ⟨v, hv, g1, g2⟩ := rLex_is (34 :: (acc ++ [34])) (by omega) k (by omega)
    rw [if_pos (by rw [ba_size]; omega), if_pos (by rw [ba_size]; omega), e2, hv, Option.bind_some]
    exact showB_eq v _ g1 g2 _ z kd
  | succ m ih =>
    intro i k acc hi hm hk ha
    by_cases hl : i < t.length
    · obtain ⟨k, rfl⟩ : ∃ j, k = j + 1 := ⟨k - 1, by omega⟩
      rw [gudgeonref05_Show.l0, ba_size, if_pos (show (i : Int) < (t.length : Int) by omega), if_pos (show (0 : Int) ≤ (i : Int) by omega), bt_ba t i hl, List.drop_eq_getElem_cons hl]
      have hlen1 : (nums8 acc).length < 140737488355328 := by rw [List.length_map]; omega
      rw [if_pos hlen1, Option.bind_some]
      have e34 : ((t[i].toNat : Int) = 34) ↔ t[i] = 34 := nat34 t[i] 34
      have hacc2 : nums8 acc ++ [(t[i].toNat : Int)] = nums8 (acc ++ [t[i]]) := by simp [nums8]
      rw [hacc2, wn (by omega)]
      by_cases h34 : t[i] = 34
      · have hlen2 : (nums8 (acc ++ [t[i]])).length < 140737488355328 := by rw [List.length_map, List.length_append, List.length_singleton]; omega
        have hacc3 : nums8 (acc ++ [t[i]]) ++ [34] = nums8 (acc ++ [34, 34]) := by simp [nums8, h34]
        rw [if_pos (e34.2 h34), if_pos hlen2, hacc3, ih (i + 1) k (acc ++ [34, 34]) (by omega) (by omega) (by omega) (by simp only [List.length_append, List.length_cons, List.length_nil]; omega)]
        simp only [dbl, if_pos h34, List.append_assoc, List.cons_append, List.nil_append]
      · rw [if_neg (fun z => h34 (e34.1 z)), ih (i + 1) k (acc ++ [t[i]]) (by omega) (by omega) (by omega) (by simp only [List.length_append, List.length_cons, List.length_nil]; omega)]
        simp only [dbl, if_neg h34, List.append_assoc, List.cons_append, List.nil_append]
    · exact ih i k acc hi (by omega) (by omega) ha
theorem rShow_is (kd at' : Int) (t : List UInt8) (ht : t.length ≤ 2000) (k : Nat) (hk : 140000 ≤ k) :
    (Own kd t (TokW kd t) → gudgeonref05_Show.f k kd (ba t) at' = some (ba (TokW kd t), 0)) ∧ (¬ Own kd t (TokW kd t) → gudgeonref05_Show.f k kd (ba t) at' = some (⟨#[]⟩, 1)) := by
  have hW := dbl_len2 (kd := kd) t
  have hd := dbl_len t
  obtain ⟨k, rfl⟩ : ∃ j, k = j + 1 := ⟨k - 1, by omega⟩
  obtain ⟨k, rfl⟩ : ∃ j, k = j + 1 := ⟨k - 1, by omega⟩
  have main : gudgeonref05_Show.f (k + 1 + 1) kd (ba t) at' = showB (lx ((TokW kd t).length + 1) (TokW kd t) 0 0) (ba (TokW kd t)) (ba t) kd := by
    obtain ⟨v, hv, g1, g2⟩ := rLex_is (TokW kd t) (by omega) k (by omega)
    have j1plain : kd ≠ 6 → gudgeonref05_Show.j1 (k + 1) (ba (TokW kd t)) kd (ba t) at' = showB (lx ((TokW kd t).length + 1) (TokW kd t) 0 0) (ba (TokW kd t)) (ba t) kd := by
      intro h6
      rw [gudgeonref05_Show.j1, if_neg h6, hv, Option.bind_some]
      exact showB_eq v _ g1 g2 _ (ba t) kd
    unfold gudgeonref05_Show.f
    rw [rSimple_is t (by omega) (k + 1 + 1) (by omega), Option.bind_some]
    by_cases h3 : kd = 3
    · rw [if_pos h3, gudgeonref05_Show.j0]
      by_cases hs : simpl t = true
      · have e : TokW kd t = t := by unfold TokW; rw [if_neg (by rw [hs]; exact fun z => absurd z.2 (by decide)), if_neg (by omega)]
        rw [hs, if_neg (by decide)]
        have := j1plain (by omega)
        rw [e] at this ⊢
        exact this
      · have hs' : simpl t = false := by simpa using hs
        have e : TokW kd t = 124 :: (t ++ [124]) := by unfold TokW; rw [if_pos ⟨h3, hs'⟩]
        have e2 : ((⟨#[124]⟩ : ByteArray) ++ ba t) ++ (⟨#[124]⟩ : ByteArray) = ba (TokW kd t) := by
          have h1 := app_ba [124] t
          have h2 := app_ba ([124] ++ t) [124]
          rw [← h1] at h2
          rw [e]; exact h2
        rw [hs', if_pos (by decide), if_pos (by rw [ba_size]; omega), if_pos (by rw [ba_size]; omega), e2]
        exact j1plain (by omega)
    · rw [if_neg h3, gudgeonref05_Show.j0, if_neg (by decide)]
      by_cases h6 : kd = 6
      · have e : TokW kd t = 34 :: (dbl t ++ [34]) := by unfold TokW; rw [if_neg (fun z => h3 z.1), if_pos h6]
        have := rShow_dbl t ht kd at' (ba t) t.length 0 k [] (by omega) (by omega) (by omega) (by simp)
        rw [List.drop_zero, show ((0 : Nat) : Int) = 0 from rfl, List.nil_append] at this
        rw [gudgeonref05_Show.j1, if_pos h6, e]
        exact this
      · have e : TokW kd t = t := by unfold TokW; rw [if_neg (fun z => h3 z.1), if_neg h6]
        have := j1plain h6
        rw [e] at this ⊢
        exact this
  rw [main]
  exact showB_is kd t _ rfl (by omega)
theorem shows (kd at' : Int) (t s : List UInt8) (K : Nat) (hK : 150000 ≤ K) : gudgeonlaw05_LexShows.f (K + 1) kd (ba t) at' (ba s) = some true := by
  unfold gudgeonlaw05_LexShows.f
  rw [awake_is (K + 1) (by omega), Option.bind_some, if_pos rfl, ba_size, ba_size]
  by_cases hx : (t.length : Int) > 2000
  · rw [if_pos hx, gudgeonlaw05_LexShows.j0, if_pos rfl]
  rw [if_neg hx]
  by_cases hy : (s.length : Int) > 2000
  · rw [decide_eq_true hy, gudgeonlaw05_LexShows.j0, if_pos rfl]
  rw [decide_eq_false hy, gudgeonlaw05_LexShows.j0, if_neg (by decide)]
  have h1 := Show_is kd at' t (by omega) K (by omega)
  have h2 := rShow_is kd at' t (by omega) K (by omega)
  have main : ∃ p, lex_Show.f K kd (ba t) at' = some p ∧ gudgeonref05_Show.f K kd (ba t) at' = some p := by
    by_cases ho : Own kd t (TokW kd t)
    · exact ⟨_, h1.1 ho, h2.1 ho⟩
    · exact ⟨_, h1.2 ho, h2.2 ho⟩
  obtain ⟨p, e1, e2⟩ := main
  rw [e1, Option.bind_some, e2, Option.bind_some, if_pos rfl, if_pos rfl, Simple_is s (by omega), Option.bind_some, rSimple_is s (by omega) K (by omega), Option.bind_some]
  simp
theorem LexShows (kd at' : Int) (t s : ByteArray) : ∃ k, gudgeonlaw05_LexShows.f k kd t at' s = some true := ⟨_, shows kd at' t.data.toList s.data.toList 150000 (by omega)⟩
end Go.Proofs.YtnpmmhceiaedcaaDoor.X
/- A law's plain wrap that hands the walk both the row's listed variables and the world's shape (the kit has each alone). -/
namespace Go.Proofs.YtnpmmhceiaedcaaDoor.H
open Go
theorem handed_both {Hh : Type} {enc : TypeId × Value → Hh} {a : Assume} {C : Checked} {os : Os} {f : FuncId} {fn : Func} {s : ChangeSpec} {conds : List PathCond} {p1 p2 p3 p4 : Bool} {X : World → Array Value → Prop}
    (keeps : ∀ (u u' : World) (xs : Array Value), u.heap = u'.heap → X u xs → X u' xs)
    (own : ownKnob C.prog.godebug = none) (started : os.Started) (noInit : C.prog.inits.idxOf? f = none) (hfn : C.prog.funcs[f]? = some fn)
    (witness : ∃ (u : World) (tape : Tape) (i : Input), u.os = os ∧ (u.forCall tape i).Shaped C.prog ∧ i.vars = [] ∧ Input.okWide C.prog (u.forCall tape i) .any u.heap.size f i ∧
      ((s.pre enc C.prog fn conds p1 (u.forCall tape i).memory i.args ∧ X (u.forCall tape i).memory i.args) ∧ sizedMet enc C.prog fn (OpenSpec.ofChange s) p1 (u.forCall tape i).memory i.args) ∧ a.holds C.prog (lone (Frame.enter C.prog f i.args .normal) [] (u.forCall tape i)))
    (walk : ∀ (W : World) (base : Nat) (args : Array Value) (ds gs : List (DataW Hh)) (before : List MemPlace),
      (∀ (j : Nat) t v, fn.params[j]? = some t → args[j]? = some v → Value.okWide C.prog W .any base t v) →
      DataW.Whole enc C.prog fn.params.toList s.vars p1 W args.toList ds gs before →
      conds.all (PathCond.test C.prog ⟨fn.params.toList, ds, s.plain.varTypes C.prog, gs⟩) = true →
      (DataW.weightsEach C.prog (fn.params.toList ++ s.plain.varTypes C.prog) (ds ++ gs)).all (· ≤ reachBytes) = true → X W args → W.ShapedOpen C.prog →
      a.holds C.prog (lone (Frame.enter C.prog f args .normal) [] W) →
      Calls C.prog f args W fun e W' => ∃ v, e = .returned v ∧ s.post enc C.prog fn p1 p2 p3 p4 W args v W') :
    ReturnsInHanded a C os f .any (fun w args => (s.pre enc C.prog fn conds p1 w args ∧ X w args) ∧ sizedMet enc C.prog fn (OpenSpec.ofChange s) p1 w args) (s.post enc C.prog fn p1 p2 p3 p4) := by
  refine returnsInHanded_of_calls own started noInit witness fun u tape i _ shape _ ok pre holds => ?_
  obtain ⟨_, _, _, fn', hfn', _, _, _, _, hval⟩ := ok
  obtain rfl : fn' = fn := Option.some.inj (hfn'.symm.trans hfn)
  obtain ⟨⟨⟨ds, gs, before, whole, hc⟩, hx⟩, hz⟩ := pre
  refine (walk (u.forCall tape i) u.heap.size i.args ds gs before hval (DataW.Whole.of_heap (w' := u.forCall tape i) (by rfl) whole) hc (hz.weights whole) (keeps _ _ _ (by rfl) hx) shape holds).mono ?_
  rintro e W' ⟨v, rfl, hp⟩
  exact ChangeSpec.post_blind hp
end Go.Proofs.YtnpmmhceiaedcaaDoor.H
/- The law LexShows of package gudgeonlaw05 returns true and leaves its arguments as they were, for every input that can be read as data; the library's tables that the row lists read as the program's text lays them, to which the card ties them. -/
namespace Go.Proofs.YtnpmmhceiaedcaaDoor.lexShows
open Go.ChangeShapes Go.WideShapes Go.ChangeAt Go.RowKit
open Go.ChangeMaps (open_string shut_string)
set_option linter.unusedVariables false
theorem laidOut : laidOutB Tryd.prog = true := by kernel_rfl
theorem own : ownKnob Tryd.prog.godebug = none := by kernel_rfl
noncomputable def laidWorld (os : Os) : World :=
  let w0 := World.holding Tryd.prog os ⟨#[], #[], []⟩
  let put (h : Array Obj) (g : Nat) (cs : Array Value) : Array Obj := h.modify g fun
    | .cells _ t frozen => .cells cs t frozen
    | o => o
  let h0 := w0.heap
  let h1 := put h0 2 #[.int .u8 128, .int .u8 191, .int .u8 160, .int .u8 191, .int .u8 128, .int .u8 159, .int .u8 144, .int .u8 191, .int .u8 128, .int .u8 143, .int .u8 0, .int .u8 0, .int .u8 0, .int .u8 0, .int .u8 0, .int .u8 0, .int .u8 0, .int .u8 0, .int .u8 0, .int .u8 0, .int .u8 0, .int .u8 0, .int .u8 0, .int .u8 0, .int .u8 0, .int .u8 0, .int .u8 0, .int .u8 0, .int .u8 0, .int .u8 0, .int .u8 0, .int .u8 0]
  let h2 := put h1 1 ((Go.Pinned.utf8FirstZ.map fun (n : Nat) => Value.int .u8 (n : Int)).toArray)
  { w0 with heap := h2 }
theorem laidWorld_met (os : Os) (args : Array Value) : laidMetH Tryd.prog Rows.lexShowsRow.laid ((laidWorld os).forCall (fun _ _ => 0) ⟨#[], args, []⟩).memory :=
  (LaidIn.of_run (P := Tryd.prog) (l := Rows.lexShowsRow.laid) [2, 1] 8 (by kernel_rfl) (by kernel_rfl) (by kernel_rfl) (by kernel_rfl)).met
set_option maxRecDepth 100000 in
theorem lifted (os : Os) (started : os.Started) (H : Type) (enc : TypeId × Value → H) :
    ReturnsInHanded {} Tryd.checked os 3 .any (fun w args => (Rows.lexShowsSpec.pre enc Tryd.prog Tryd.f3 Rows.lexShowsRow.domain false w args ∧ laidMetH Tryd.prog Rows.lexShowsRow.laid w) ∧ sizedMet enc Tryd.prog Tryd.f3 (OpenSpec.ofChange Rows.lexShowsSpec) false w args) (Rows.lexShowsSpec.post enc Tryd.prog Tryd.f3 false true false false) := by
  refine Go.Proofs.YtnpmmhceiaedcaaDoor.H.handed_both (C := Tryd.checked) (X := fun w _ => laidMetH Tryd.prog Rows.lexShowsRow.laid w) (fun _ _ _ hh h => h.of_heap hh) own started (by kernel_rfl) Tryd.func3
    (ChangeSpec.witness_at (enc := enc) (C := Tryd.checked) (os := os) (X := fun w _ => laidMetH Tryd.prog Rows.lexShowsRow.laid w) false (laidWorld os) #[.agg #[.int .i64 0, .string ByteArray.empty, .int .i64 0], .string ByteArray.empty] 8 rfl (by kernel_rfl) (by kernel_rfl) (by kernel_rfl) (by kernel_rfl) (by kernel_rfl) (laidWorld_met os _)) ?_
  intro W base args ds gs before hval0 hW hcnd hsz0 hL hS _
  have hsz : (DataW.weightsEach Tryd.prog (Tryd.f3.params.toList ++ Rows.lexShowsSpec.plain.varTypes Tryd.prog) (ds ++ gs)).all (· ≤ reachBytes) = true := hsz0
  have hval : ∀ (j : Nat) t v, Tryd.f3.params[j]? = some t → args[j]? = some v → Value.okWide Tryd.prog W .any base t v := hval0
  have hW' := hW
  obtain ⟨p, q, hA0, hV, rfl, hfz, hnd⟩ := hW
  have hA : DataW.TrodAll enc Tryd.prog W 0 (fun _ => true) true Tryd.f3.params.toList args.toList ds p := hA0
  rw [Tryd.params3] at hA hval hsz
  obtain ⟨v0, vs0, d0, ds0, p0, q0, hargs, rfl, rfl, h0, r0⟩ := trodAll_cons hA
  obtain ⟨v1, vs1, d1, ds1, p1, q1, rfl, rfl, rfl, h1, r1⟩ := trodAll_cons r0
  obtain ⟨rfl, rfl, rfl⟩ := trodAll_nil r1
  obtain rfl : args = #[v0, v1] := by cases args; simp_all
  obtain ⟨rfl, rfl⟩ := trodVars_none hV
  have k0 := h0
  have lt0 : ∀ x ∈ p0, x.block < W.heap.size := by obtain ⟨m, hm⟩ := k0; exact DataW.trod_lt m _ _ _ hm
  obtain ⟨u0, u1, u2, y0, y1, y2, n0, rfl, rfl, rfl, g0, g1, g2⟩ := Go.Joins.open_agg3 Tryd.underlying23 (by kernel_rfl) (by kernel_rfl) (hval 0 23 v0 rfl rfl) h0
  obtain ⟨b0, e0, _⟩ := DataW.trod_int Tryd.underlying3 g0
  obtain ⟨b1, e1, _⟩ := DataW.trod_string Tryd.underlying9 g1
  obtain ⟨b2, e2, _⟩ := DataW.trod_int Tryd.underlying3 g2
  simp only [List.cons.injEq, and_true] at e0 e1 e2
  subst e0 e1 e2
  obtain ⟨a1, rfl, rfl, rfl, z1⟩ := open_string Tryd.underlying9 (hval 1 9 v1 rfl rfl) h1
  have hG : Go.Proofs.YtnpmmhceiaedcaaDoor.H.Glob W := Go.Proofs.YtnpmmhceiaedcaaDoor.H.glob_of_shaped hS
  clear hA0 hval0 hsz0 hsz
  obtain ⟨k, hk⟩ := Go.Proofs.YtnpmmhceiaedcaaDoor.X.LexShows b0 b2 b1 a1
  refine (PA.gudgeonlaw05_LexShows.calls k b0 b1 b2 a1 true W hG hk).mono fun e W' ⟨he, bel⟩ => ?_
  subst he
  exact ⟨_, rfl, _, _, _, [], _, [], hW', trodAll_mk1 (shut_bool Tryd.underlying4 _), (trodAll_cons_mk (Below.trod laidOut (by kernel_rfl) (of_decide_eq_true (by kernel_rfl)) k0 bel lt0) (trodAll_cons_mk (shut_string Tryd.underlying9 z1) trodAll_mk0)), rfl, bel.frame _, fun h => by cases h⟩
theorem over : Rows.lexShowsRow.holds Tryd.pinned (OpenSpec.ofChange Rows.lexShowsSpec) :=
  OpenClaim.holds_of_wide 3 Tryd.f3 rfl rfl rfl rfl rfl rfl rfl ⟨rfl, rfl, rfl, rfl, rfl⟩ rfl rfl rfl rfl rfl (by kernel_rfl) Tryd.func3 (by kernel_rfl)
    (of_decide_eq_true (by kernel_rfl)) (by unfold Func.isWrapper; first | (rw [if_pos (by decide +kernel)]; kernel_rfl) | (rw [if_neg (by decide +kernel)]; exact ⟨rfl, rfl⟩))
    (fun os started H enc _ => lifted os started H enc)
theorem carded : Rows.LexShowsCardSaid :=
  Claim7.holds_tied_plain_at .later [] [.data, .pinned] true (true, "a0a5aff81371c8004eb209a02a91941e41e74df61f669bfafea09ae90e38d5f6") false
    over (fun _ h => by cases h) (by kernel_rfl) (fun _ h => by cases h) lexShows_row_tie rfl ⟨rfl, rfl⟩ (by kernel_rfl) rfl
    (fun f fn hf hfn => by
      obtain rfl : f = 3 := Option.some.inj ((show Tryd.prog.funcNamed "gudgeon/gudgeonlaw05.LexShows" = some 3 by kernel_rfl).symm.trans hf) |>.symm
      obtain rfl : fn = Tryd.f3 := (Option.some.inj (Tryd.func3.symm.trans hfn)).symm
      exact ⟨by kernel_rfl, fun j t ht => by
        rw [Tryd.params3] at ht
        have hm := Array.mem_of_getElem? ht
        simp only [List.mem_toArray, List.mem_cons, List.not_mem_nil, or_false] at hm
        rcases hm with rfl | rfl
        · exact (show Tryd.prog.wantsStandIn 23 = false by kernel_rfl)
        · exact (show Tryd.prog.wantsStandIn 9 = false by kernel_rfl)⟩)
    (by kernel_rfl)
end Go.Proofs.YtnpmmhceiaedcaaDoor.lexShows
namespace Go.Proofs.YtnpmmhceiaedcaaDoor
/-- The card, under a short name, for the claim. -/
theorem lexShows_card : Rows.LexShowsCardSaid := lexShows.carded
end Go.Proofs.YtnpmmhceiaedcaaDoor
