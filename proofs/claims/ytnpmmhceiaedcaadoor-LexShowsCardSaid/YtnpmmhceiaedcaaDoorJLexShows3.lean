/- Joined by wip/tools/shake.py for the claim of LexShows: PAx4, HReplace. -/
import Derived.Test.YtnpmmhceiaedcaaDoorJLexShows2
import Derived.Test.YtnpmmhceiaedcaaDoorJLexShows1
import Derived.Lib.ReplaceLaws
import Derived.Shelf.Vars
import Derived.HandedShaped
/- Written by a program of this session, wip/tools/patch_print.py, over the kit's print of the loaded functions. -/
namespace Go.Proofs.YtnpmmhceiaedcaaDoor.H
end Go.Proofs.YtnpmmhceiaedcaaDoor.H
namespace Go.Proofs.YtnpmmhceiaedcaaDoor.PA
open Go.RowKit Go.Proofs.YtnpmmhceiaedcaaDoorW.PrintWords Go.Proofs.YtnpmmhceiaedcaaDoorW.PrintLast Go.Proofs.YtnpmmhceiaedcaaDoorW.PrintMore Go.Proofs.YtnpmmhceiaedcaaDoor.H
attribute [local go_sem] max2_int min2_int max_two min_two max_three min_three max_four min_four   -- for this text's walks alone
attribute [local go_sem] box_twice
set_option linter.unusedVariables false
set_option linter.unusedSimpArgs false

/-! ### lex_one: function 22 -/
mutual
def lex_one.j0 : Nat → ByteArray → Int → Int → Bool → Option (Int × ByteArray × Int × Int × Int)
 | 0, _, _, _, _ => none
 | k + 1, x0, x6, x7, x57 => if x57 = true then (if 0 ≤ x6 then (if x6 ≤ (x0.size : Int) then (some (7, x0.extract 0 (x6 : Int).toNat, 0, x6, 0)) else (none)) else (none)) else (if x7 = 35 then (if 1 ≤ x6 then (if x6 ≤ (x0.size : Int) then ((lex_coded.f (x0.extract 1 (x6 : Int).toNat)).bind fun t150 => (lex_one.j1 k x0 x6 x7 t150)) else (none)) else (none)) else (lex_one.j1 k x0 x6 x7 false))
def lex_one.j1 : Nat → ByteArray → Int → Int → Bool → Option (Int × ByteArray × Int × Int × Int)
 | 0, _, _, _, _ => none
 | k + 1, x0, x6, x7, x69 => if x69 = true then (if 0 ≤ x6 then (if x6 ≤ (x0.size : Int) then (some (8, x0.extract 0 (x6 : Int).toNat, 0, x6, 0)) else (none)) else (none)) else (if x7 = 58 then (some (0, (⟨#[]⟩ : ByteArray), 0, 0, 8)) else (if x7 = 35 then (some (0, (⟨#[]⟩ : ByteArray), 0, 0, 8)) else (some (0, (⟨#[]⟩ : ByteArray), 0, 0, 50))))
end
def lex_one.f (k : Nat) (a0 : ByteArray) : Option (Int × ByteArray × Int × Int × Int) := if 1 ≤ (a0.size : Int) then ((lex_span_F18.f (a0.extract 1 a0.size)).bind fun t132 => (if 0 < (a0.size : Int) then (if (bt a0 0) = 40 then (some (1, (⟨#[40]⟩ : ByteArray), 0, 1, 0)) else (if (bt a0 0) = 41 then (some (2, (⟨#[41]⟩ : ByteArray), 0, 1, 0)) else (if (bt a0 0) = 124 then ((lex_bars.f (a0.extract 1 a0.size)).bind fun bt133 => (some (bt133.1, bt133.2.1, bt133.2.2.1, bt133.2.2.2.1, bt133.2.2.2.2))) else (if (bt a0 0) = 34 then ((lex_literal.f (a0.extract 1 a0.size)).bind fun bt138 => (some (bt138.1, bt138.2.1, bt138.2.2.1, bt138.2.2.2.1, bt138.2.2.2.2))) else ((lex_digit.f (bt a0 0)).bind fun t143 => (if t143 = true then (if 0 ≤ (wrap64 (1 + t132)) then (if (wrap64 (1 + t132)) ≤ (a0.size : Int) then ((lex_numeral.f (a0.extract 0 ((wrap64 (1 + t132)) : Int).toNat)).bind fun bt144 => (some (bt144.1, bt144.2.1, bt144.2.2.1, bt144.2.2.2.1, bt144.2.2.2.2))) else (none)) else (none)) else ((lex_named.f k (bt a0 0)).bind fun t149 => (if t149 = true then (if 0 ≤ (wrap64 (1 + t132)) then (if (wrap64 (1 + t132)) ≤ (a0.size : Int) then (some (3, a0.extract 0 ((wrap64 (1 + t132)) : Int).toNat, 0, wrap64 (1 + t132), 0)) else (none)) else (none)) else (if (bt a0 0) = 58 then (lex_one.j0 k a0 (wrap64 (1 + t132)) (bt a0 0) (decide ((wrap64 (1 + t132)) > 1))) else (lex_one.j0 k a0 (wrap64 (1 + t132)) (bt a0 0) false)))))))))) else (none))) else (none)
theorem lex_one.mono_l : ∀ k, (∀ y0 y1 y2 y3, LeO (lex_one.j0 k y0 y1 y2 y3) (lex_one.j0 (k + 1) y0 y1 y2 y3)) ∧ (∀ y0 y1 y2 y3, LeO (lex_one.j1 k y0 y1 y2 y3) (lex_one.j1 (k + 1) y0 y1 y2 y3))
 | 0 => ⟨fun _ _ _ _ r h => by simp [lex_one.j0] at h, fun _ _ _ _ r h => by simp [lex_one.j1] at h⟩
 | k + 1 => by
  obtain ⟨ih0, ih1⟩ := lex_one.mono_l k
  refine ⟨?_, ?_⟩
  ·intro y0 y1 y2 y3
   unfold lex_one.j0
   repeat' first
   | (with_reducible exact ih0 _ _ _ _)
   | (with_reducible exact ih1 _ _ _ _)
   | (with_reducible exact lex_named.mono _ _)
   | (with_reducible exact LeO.refl _)
   | (with_reducible exact LeO.none _)
   | (with_reducible refine LeO.ite ?_ ?_)
   | (with_reducible refine LeO.bind ?_ (fun _ => ?_))
   | exact ih0 _ _ _ _
   | exact ih1 _ _ _ _
   | exact lex_named.mono _ _
   | exact LeO.none _
   | refine LeO.ite ?_ ?_
   | refine LeO.bind ?_ (fun _ => ?_)
  ·intro y0 y1 y2 y3
   unfold lex_one.j1
   repeat' first
   | (with_reducible exact ih0 _ _ _ _)
   | (with_reducible exact ih1 _ _ _ _)
   | (with_reducible exact lex_named.mono _ _)
   | (with_reducible exact LeO.refl _)
   | (with_reducible exact LeO.none _)
   | (with_reducible refine LeO.ite ?_ ?_)
   | (with_reducible refine LeO.bind ?_ (fun _ => ?_))
   | exact ih0 _ _ _ _
   | exact ih1 _ _ _ _
   | exact lex_named.mono _ _
   | exact LeO.none _
   | refine LeO.ite ?_ ?_
   | refine LeO.bind ?_ (fun _ => ?_)
theorem lex_one.mono : ∀ a0 k, LeO (lex_one.f k a0) (lex_one.f (k + 1) a0) := by
 intro a0 k
 obtain ⟨ih0, ih1⟩ := lex_one.mono_l k
 unfold lex_one.f
 repeat' first
   | (with_reducible exact ih0 _ _ _ _)
   | (with_reducible exact ih1 _ _ _ _)
   | (with_reducible exact lex_named.mono _ _)
   | (with_reducible exact LeO.refl _)
   | (with_reducible exact LeO.none _)
   | (with_reducible refine LeO.ite ?_ ?_)
   | (with_reducible refine LeO.bind ?_ (fun _ => ?_))
   | exact ih0 _ _ _ _
   | exact ih1 _ _ _ _
   | exact lex_named.mono _ _
   | exact LeO.none _
   | refine LeO.ite ?_ ?_
   | refine LeO.bind ?_ (fun _ => ?_)
set_option maxHeartbeats 8000000 in
set_option maxRecDepth 100000 in
theorem lex_one.calls (k : Nat) (a0 : ByteArray) (r1 : Int) (r2 : ByteArray) (r3 : Int) (r4 : Int) (r5 : Int) (w : World) (h : lex_one.f k a0 = some (r1, r2, r3, r4, r5)) :
  Calls Tryd.prog 22 #[.string a0] w fun e w' => e = .returned (.tuple #[.agg #[.int .i64 r1, .string r2, .int .i64 r3], .int .i64 r4, .int .i64 r5]) ∧ Below w.heap.size w w' := by
 have hu23 := Tryd.underlying23
 have HB := Aside0.mk (Below.refl w.heap.size w)
 have H : (if 1 ≤ (a0.size : Int) then ((lex_span_F18.f (a0.extract 1 a0.size)).bind fun t132 => (if 0 < (a0.size : Int) then (if (bt a0 0) = 40 then (some (1, (⟨#[40]⟩ : ByteArray), 0, 1, 0)) else (if (bt a0 0) = 41 then (some (2, (⟨#[41]⟩ : ByteArray), 0, 1, 0)) else (if (bt a0 0) = 124 then ((lex_bars.f (a0.extract 1 a0.size)).bind fun bt133 => (some (bt133.1, bt133.2.1, bt133.2.2.1, bt133.2.2.2.1, bt133.2.2.2.2))) else (if (bt a0 0) = 34 then ((lex_literal.f (a0.extract 1 a0.size)).bind fun bt138 => (some (bt138.1, bt138.2.1, bt138.2.2.1, bt138.2.2.2.1, bt138.2.2.2.2))) else ((lex_digit.f (bt a0 0)).bind fun t143 => (if t143 = true then (if 0 ≤ (wrap64 (1 + t132)) then (if (wrap64 (1 + t132)) ≤ (a0.size : Int) then ((lex_numeral.f (a0.extract 0 ((wrap64 (1 + t132)) : Int).toNat)).bind fun bt144 => (some (bt144.1, bt144.2.1, bt144.2.2.1, bt144.2.2.2.1, bt144.2.2.2.2))) else (none)) else (none)) else ((lex_named.f k (bt a0 0)).bind fun t149 => (if t149 = true then (if 0 ≤ (wrap64 (1 + t132)) then (if (wrap64 (1 + t132)) ≤ (a0.size : Int) then (some (3, a0.extract 0 ((wrap64 (1 + t132)) : Int).toNat, 0, wrap64 (1 + t132), 0)) else (none)) else (none)) else (if (bt a0 0) = 58 then (lex_one.j0 k a0 (wrap64 (1 + t132)) (bt a0 0) (decide ((wrap64 (1 + t132)) > 1))) else (lex_one.j0 k a0 (wrap64 (1 + t132)) (bt a0 0) false)))))))))) else (none))) else (none)) = some (r1, r2, r3, r4, r5) := h
 clear h
 by_cases c2 : 1 ≤ (a0.size : Int)
 ·rw [if_pos c2] at H
  have c2b0 := eq_true c2
  have c2b1 : decide (1 ≤ (a0.size : Int)) = true := decide_eq_true c2
  clear c2
  replace H := Option.bind_eq_some_iff.mp H
  obtain ⟨t132, A30, H⟩ := H
  replace H : (if 0 < (a0.size : Int) then (if (bt a0 0) = 40 then (some (1, (⟨#[40]⟩ : ByteArray), 0, 1, 0)) else (if (bt a0 0) = 41 then (some (2, (⟨#[41]⟩ : ByteArray), 0, 1, 0)) else (if (bt a0 0) = 124 then ((lex_bars.f (a0.extract 1 a0.size)).bind fun bt133 => (some (bt133.1, bt133.2.1, bt133.2.2.1, bt133.2.2.2.1, bt133.2.2.2.2))) else (if (bt a0 0) = 34 then ((lex_literal.f (a0.extract 1 a0.size)).bind fun bt138 => (some (bt138.1, bt138.2.1, bt138.2.2.1, bt138.2.2.2.1, bt138.2.2.2.2))) else ((lex_digit.f (bt a0 0)).bind fun t143 => (if t143 = true then (if 0 ≤ (wrap64 (1 + t132)) then (if (wrap64 (1 + t132)) ≤ (a0.size : Int) then ((lex_numeral.f (a0.extract 0 ((wrap64 (1 + t132)) : Int).toNat)).bind fun bt144 => (some (bt144.1, bt144.2.1, bt144.2.2.1, bt144.2.2.2.1, bt144.2.2.2.2))) else (none)) else (none)) else ((lex_named.f k (bt a0 0)).bind fun t149 => (if t149 = true then (if 0 ≤ (wrap64 (1 + t132)) then (if (wrap64 (1 + t132)) ≤ (a0.size : Int) then (some (3, a0.extract 0 ((wrap64 (1 + t132)) : Int).toNat, 0, wrap64 (1 + t132), 0)) else (none)) else (none)) else (if (bt a0 0) = 58 then (lex_one.j0 k a0 (wrap64 (1 + t132)) (bt a0 0) (decide ((wrap64 (1 + t132)) > 1))) else (lex_one.j0 k a0 (wrap64 (1 + t132)) (bt a0 0) false)))))))))) else (none)) = some (r1, r2, r3, r4, r5) := H
  have A3 := Aside0.mk A30
  clear A30
  by_cases c4 : 0 < (a0.size : Int)
  ·rw [if_pos c4] at H
   have c4b0 : decide (0 < (a0.size : Int)) = true := decide_eq_true c4
   have c4b1 : decide (0 < a0.size) = true := decide_eq_true (by omega)
   clear c4
   by_cases c6 : (bt a0 0) = 40
   ·rw [if_pos c6] at H
    have c6b0 : ((bt a0 0) == 40) = true := beq_iff_eq.mpr c6
    have c6b1 : ((bt a0 0) != 40) = false := bne_eq_false_iff_eq.mpr c6
    clear c6
    simp only [Option.some.injEq, Prod.mk.injEq] at H
    obtain ⟨rfl, rfl, rfl, rfl, rfl⟩ := H
    go_enter Tryd.func22, Tryd.ntmps22
    go_wp2_with (first | ((with_reducible refine gate_dst (N := 2) rfl ?_); refine box_event ?hg (N := 2) ?hd (cs := #[.int .i64 0, .string (⟨#[]⟩ : ByteArray), .int .i64 0]) (t := 23) ?hr ?_; (case hd => rfl); (case hg => rfl); (case hr => first | (go_simp; done) | (go_simp; rfl) | (go_simp; simp only [IntKind.wrap_u8, IntKind.wrap_u32]; congr 4; omega) | (go_simp; simp only [IntKind.wrap_u8, IntKind.wrap_u32]; congr 5; omega)); intro gb131 hg w7 hbox hb; have n0_ := Aside0.mk (below_step (by repeat (first | (with_reducible first | exact HB.out | apply below_alloc | apply pw_below_drewN | apply below_drew1) | exact HB.out)) hb); have n1_ := Aside0.mk (hbox); have n2_ := Aside0.mk ((by rw [hg]; exact (below_size (by repeat (first | (with_reducible first | exact HB.out | apply below_alloc | apply pw_below_drewN | apply below_drew1) | exact HB.out))) : w.heap.size ≤ gb131)); have n3_ := Aside0.mk ((by rw [hg]; exact (below_size (by repeat (first | (with_reducible first | exact HB.out | apply below_alloc | apply pw_below_drewN | apply below_drew1) | exact HB.out))) : w.heap.size ≤ gb131)); clear HB; have HB := n0_; have BK131 := n1_; have GW131 := n2_; have GE131 := n3_; clear n0_ n1_ n2_ n3_; clear hb hbox hg) | ((with_reducible refine gate_callee (f := 17) rfl ?_); refine goesL_ (some 11) rfl rfl Tryd.func17 (by kernel_rfl) rfl #[.string (a0.extract 1 a0.size), .func (.func 18) #[] #[]] rfl (by (try simp only [List.map_toArray, List.map_cons, List.map_nil]); first | done | rfl | (simp only [List.length_drop, List.length_take]; rfl)) ?_; (with_reducible refine (lex_span_F18.calls (a0.extract 1 a0.size) t132 _ A3.out).mono ?_); rintro e w' ⟨rfl, ⟨nd, rfl⟩⟩; refine ⟨_, rfl, ?_⟩; (try (rw [drewN_self w7]; generalize hq_ : World.drewN w7 _ = w7; have n0_ : Aside0 (w7.heap[gb131]? = some (.cells #[.int .i64 0, .string (⟨#[]⟩ : ByteArray), .int .i64 0] 23 (0, 0))) := ⟨by rw [← hq_]; exact (by (with_reducible repeat (first | refine blk_drewN ?_ _ | refine blk_drew ?_ | refine blk_alloc ?_ _)); exact BK131.out)⟩; have n1_ : Aside0 (Below w.heap.size w w7) := ⟨by rw [← hq_]; exact (by repeat (first | (with_reducible first | exact HB.out | apply below_alloc | apply pw_below_drewN | apply below_drew1 | refine below_set ?_ GE131.out) | exact HB.out))⟩; clear BK131 HB hq_; have BK131 := n0_; have HB := n1_; clear n0_ n1_)); have p5 : 0 ≤ (0 : Int) := (by omega); have q5 : 0 < a0.size := (by have : (0 : Int) < (a0.size : Int) := of_decide_eq_true (by first | (with_reducible assumption) | assumption); omega); have hx5 : ∀ h : 0 < a0.size, ((a0[0]'h).toNat : Int) = bt a0 0 := bt_at a0 0; clear p5; have qi5 : (0 < (a0.size : Int)) = True := eq_true (of_decide_eq_true (by first | (with_reducible assumption) | assumption)); replace q5 := eq_true q5; have hcz8_0 : w7.cell? ⟨gb131, 0, none⟩ = some (.int .i64 0) := (blk_cell BK131.out 0).trans rfl; have hcz8_1 : w7.cell? ⟨gb131, 1, none⟩ = some (.string (⟨#[]⟩ : ByteArray)) := (blk_cell BK131.out 1).trans rfl; have hcz8_2 : w7.cell? ⟨gb131, 2, none⟩ = some (.int .i64 0) := (blk_cell BK131.out 2).trans rfl; have hfz8_0 := blk_frozen BK131.out 0; have hfz8_1 := blk_frozen BK131.out 1; have hfz8_2 := blk_frozen BK131.out 2))
    refine bodyPost_ret (results_ctt rfl _ _ gb131 23 #[.int .i64 1, .string (⟨#[40]⟩ : ByteArray), .int .i64 0] (0, 0) _ rfl (by (with_reducible repeat (first | refine blk_drewN ?_ _ | refine blk_drew ?_ | refine blk_alloc ?_ _)); refine blk_put (cs := #[.int .i64 1, .string (⟨#[40]⟩ : ByteArray), .int .i64 0]) ?_ 2 _ rfl; (with_reducible repeat (first | refine blk_drewN ?_ _ | refine blk_drew ?_ | refine blk_alloc ?_ _)); refine blk_put (cs := #[.int .i64 1, .string (⟨#[]⟩ : ByteArray), .int .i64 0]) ?_ 1 _ rfl; (with_reducible repeat (first | refine blk_drewN ?_ _ | refine blk_drew ?_ | refine blk_alloc ?_ _)); refine blk_put (cs := #[.int .i64 0, .string (⟨#[]⟩ : ByteArray), .int .i64 0]) ?_ 0 _ rfl; (with_reducible repeat (first | refine blk_drewN ?_ _ | refine blk_drew ?_ | refine blk_alloc ?_ _)); exact BK131.out) Tryd.underlying23 rfl (by kernel_rfl)) rfl ?_
    exact ⟨by first | rfl | (simp [errW_none, errW_some] <;> rfl) | (refine congrArg (fun z_ => Ending.returned (Value.bool z_)) (decide_eq_decide.mpr ?_); unfold wrap64; omega) | (simp [*, errW_none, errW_some] <;> rfl), by repeat (first | (with_reducible first | exact HB.out | apply below_alloc | apply pw_below_drewN | apply below_drew1 | refine below_set ?_ GE131.out) | exact HB.out)⟩
   ·rw [if_neg c6] at H
    have c6b0 : ((bt a0 0) == 40) = false := beq_eq_false_iff_ne.mpr c6
    have c6b1 : ((bt a0 0) != 40) = true := bne_iff_ne.mpr c6
    by_cases c9 : (bt a0 0) = 41
    ·rw [if_pos c9] at H
     have c9b0 : ((bt a0 0) == 41) = true := beq_iff_eq.mpr c9
     have c9b1 : ((bt a0 0) != 41) = false := bne_eq_false_iff_eq.mpr c9
     clear c9
     simp only [Option.some.injEq, Prod.mk.injEq] at H
     obtain ⟨rfl, rfl, rfl, rfl, rfl⟩ := H
     go_enter Tryd.func22, Tryd.ntmps22
     go_wp2_with (first | ((with_reducible refine gate_dst (N := 2) rfl ?_); refine box_event ?hg (N := 2) ?hd (cs := #[.int .i64 0, .string (⟨#[]⟩ : ByteArray), .int .i64 0]) (t := 23) ?hr ?_; (case hd => rfl); (case hg => rfl); (case hr => first | (go_simp; done) | (go_simp; rfl) | (go_simp; simp only [IntKind.wrap_u8, IntKind.wrap_u32]; congr 4; omega) | (go_simp; simp only [IntKind.wrap_u8, IntKind.wrap_u32]; congr 5; omega)); intro gb131 hg w10 hbox hb; have n0_ := Aside0.mk (below_step (by repeat (first | (with_reducible first | exact HB.out | apply below_alloc | apply pw_below_drewN | apply below_drew1) | exact HB.out)) hb); have n1_ := Aside0.mk (hbox); have n2_ := Aside0.mk ((by rw [hg]; exact (below_size (by repeat (first | (with_reducible first | exact HB.out | apply below_alloc | apply pw_below_drewN | apply below_drew1) | exact HB.out))) : w.heap.size ≤ gb131)); have n3_ := Aside0.mk ((by rw [hg]; exact (below_size (by repeat (first | (with_reducible first | exact HB.out | apply below_alloc | apply pw_below_drewN | apply below_drew1) | exact HB.out))) : w.heap.size ≤ gb131)); clear HB; have HB := n0_; have BK131 := n1_; have GW131 := n2_; have GE131 := n3_; clear n0_ n1_ n2_ n3_; clear hb hbox hg) | ((with_reducible refine gate_callee (f := 17) rfl ?_); refine goesL_ (some 11) rfl rfl Tryd.func17 (by kernel_rfl) rfl #[.string (a0.extract 1 a0.size), .func (.func 18) #[] #[]] rfl (by (try simp only [List.map_toArray, List.map_cons, List.map_nil]); first | done | rfl | (simp only [List.length_drop, List.length_take]; rfl)) ?_; (with_reducible refine (lex_span_F18.calls (a0.extract 1 a0.size) t132 _ A3.out).mono ?_); rintro e w' ⟨rfl, ⟨nd, rfl⟩⟩; refine ⟨_, rfl, ?_⟩; (try (rw [drewN_self w10]; generalize hq_ : World.drewN w10 _ = w10; have n0_ : Aside0 (w10.heap[gb131]? = some (.cells #[.int .i64 0, .string (⟨#[]⟩ : ByteArray), .int .i64 0] 23 (0, 0))) := ⟨by rw [← hq_]; exact (by (with_reducible repeat (first | refine blk_drewN ?_ _ | refine blk_drew ?_ | refine blk_alloc ?_ _)); exact BK131.out)⟩; have n1_ : Aside0 (Below w.heap.size w w10) := ⟨by rw [← hq_]; exact (by repeat (first | (with_reducible first | exact HB.out | apply below_alloc | apply pw_below_drewN | apply below_drew1 | refine below_set ?_ GE131.out) | exact HB.out))⟩; clear BK131 HB hq_; have BK131 := n0_; have HB := n1_; clear n0_ n1_)); have p5 : 0 ≤ (0 : Int) := (by omega); have q5 : 0 < a0.size := (by have : (0 : Int) < (a0.size : Int) := of_decide_eq_true (by first | (with_reducible assumption) | assumption); omega); have hx5 : ∀ h : 0 < a0.size, ((a0[0]'h).toNat : Int) = bt a0 0 := bt_at a0 0; clear p5; have qi5 : (0 < (a0.size : Int)) = True := eq_true (of_decide_eq_true (by first | (with_reducible assumption) | assumption)); replace q5 := eq_true q5; have hcz11_0 : w10.cell? ⟨gb131, 0, none⟩ = some (.int .i64 0) := (blk_cell BK131.out 0).trans rfl; have hcz11_1 : w10.cell? ⟨gb131, 1, none⟩ = some (.string (⟨#[]⟩ : ByteArray)) := (blk_cell BK131.out 1).trans rfl; have hcz11_2 : w10.cell? ⟨gb131, 2, none⟩ = some (.int .i64 0) := (blk_cell BK131.out 2).trans rfl; have hfz11_0 := blk_frozen BK131.out 0; have hfz11_1 := blk_frozen BK131.out 1; have hfz11_2 := blk_frozen BK131.out 2))
     refine bodyPost_ret (results_ctt rfl _ _ gb131 23 #[.int .i64 2, .string (⟨#[41]⟩ : ByteArray), .int .i64 0] (0, 0) _ rfl (by (with_reducible repeat (first | refine blk_drewN ?_ _ | refine blk_drew ?_ | refine blk_alloc ?_ _)); refine blk_put (cs := #[.int .i64 2, .string (⟨#[41]⟩ : ByteArray), .int .i64 0]) ?_ 2 _ rfl; (with_reducible repeat (first | refine blk_drewN ?_ _ | refine blk_drew ?_ | refine blk_alloc ?_ _)); refine blk_put (cs := #[.int .i64 2, .string (⟨#[]⟩ : ByteArray), .int .i64 0]) ?_ 1 _ rfl; (with_reducible repeat (first | refine blk_drewN ?_ _ | refine blk_drew ?_ | refine blk_alloc ?_ _)); refine blk_put (cs := #[.int .i64 0, .string (⟨#[]⟩ : ByteArray), .int .i64 0]) ?_ 0 _ rfl; (with_reducible repeat (first | refine blk_drewN ?_ _ | refine blk_drew ?_ | refine blk_alloc ?_ _)); exact BK131.out) Tryd.underlying23 rfl (by kernel_rfl)) rfl ?_
     exact ⟨by first | rfl | (simp [errW_none, errW_some] <;> rfl) | (refine congrArg (fun z_ => Ending.returned (Value.bool z_)) (decide_eq_decide.mpr ?_); unfold wrap64; omega) | (simp [*, errW_none, errW_some] <;> rfl), by repeat (first | (with_reducible first | exact HB.out | apply below_alloc | apply pw_below_drewN | apply below_drew1 | refine below_set ?_ GE131.out) | exact HB.out)⟩
    ·rw [if_neg c9] at H
     have c9b0 : ((bt a0 0) == 41) = false := beq_eq_false_iff_ne.mpr c9
     have c9b1 : ((bt a0 0) != 41) = true := bne_iff_ne.mpr c9
     by_cases c12 : (bt a0 0) = 124
     ·rw [if_pos c12] at H
      have c12b0 : ((bt a0 0) == 124) = true := beq_iff_eq.mpr c12
      have c12b1 : ((bt a0 0) != 124) = false := bne_eq_false_iff_eq.mpr c12
      clear c12
      replace H := Option.bind_eq_some_iff.mp H
      obtain ⟨⟨t133, t134, t135, t136, t137⟩, A130, H⟩ := H
      replace H : (some (t133, t134, t135, t136, t137)) = some (r1, r2, r3, r4, r5) := H
      have A13 := Aside0.mk A130
      clear A130
      simp only [Option.some.injEq, Prod.mk.injEq] at H
      obtain ⟨rfl, rfl, rfl, rfl, rfl⟩ := H
      go_enter Tryd.func22, Tryd.ntmps22
      go_wp2_with (first | ((with_reducible refine gate_dst (N := 2) rfl ?_); refine box_event ?hg (N := 2) ?hd (cs := #[.int .i64 0, .string (⟨#[]⟩ : ByteArray), .int .i64 0]) (t := 23) ?hr ?_; (case hd => rfl); (case hg => rfl); (case hr => first | (go_simp; done) | (go_simp; rfl) | (go_simp; simp only [IntKind.wrap_u8, IntKind.wrap_u32]; congr 4; omega) | (go_simp; simp only [IntKind.wrap_u8, IntKind.wrap_u32]; congr 5; omega)); intro gb131 hg w14 hbox hb; have n0_ := Aside0.mk (below_step (by repeat (first | (with_reducible first | exact HB.out | apply below_alloc | apply pw_below_drewN | apply below_drew1) | exact HB.out)) hb); have n1_ := Aside0.mk (hbox); have n2_ := Aside0.mk ((by rw [hg]; exact (below_size (by repeat (first | (with_reducible first | exact HB.out | apply below_alloc | apply pw_below_drewN | apply below_drew1) | exact HB.out))) : w.heap.size ≤ gb131)); have n3_ := Aside0.mk ((by rw [hg]; exact (below_size (by repeat (first | (with_reducible first | exact HB.out | apply below_alloc | apply pw_below_drewN | apply below_drew1) | exact HB.out))) : w.heap.size ≤ gb131)); clear HB; have HB := n0_; have BK131 := n1_; have GW131 := n2_; have GE131 := n3_; clear n0_ n1_ n2_ n3_; clear hb hbox hg) | ((with_reducible refine gate_callee (f := 17) rfl ?_); refine goesL_ (some 11) rfl rfl Tryd.func17 (by kernel_rfl) rfl #[.string (a0.extract 1 a0.size), .func (.func 18) #[] #[]] rfl (by (try simp only [List.map_toArray, List.map_cons, List.map_nil]); first | done | rfl | (simp only [List.length_drop, List.length_take]; rfl)) ?_; (with_reducible refine (lex_span_F18.calls (a0.extract 1 a0.size) t132 _ A3.out).mono ?_); rintro e w' ⟨rfl, ⟨nd, rfl⟩⟩; refine ⟨_, rfl, ?_⟩; (try (rw [drewN_self w14]; generalize hq_ : World.drewN w14 _ = w14; have n0_ : Aside0 (w14.heap[gb131]? = some (.cells #[.int .i64 0, .string (⟨#[]⟩ : ByteArray), .int .i64 0] 23 (0, 0))) := ⟨by rw [← hq_]; exact (by (with_reducible repeat (first | refine blk_drewN ?_ _ | refine blk_drew ?_ | refine blk_alloc ?_ _)); exact BK131.out)⟩; have n1_ : Aside0 (Below w.heap.size w w14) := ⟨by rw [← hq_]; exact (by repeat (first | (with_reducible first | exact HB.out | apply below_alloc | apply pw_below_drewN | apply below_drew1 | refine below_set ?_ GE131.out) | exact HB.out))⟩; clear BK131 HB hq_; have BK131 := n0_; have HB := n1_; clear n0_ n1_)); have p5 : 0 ≤ (0 : Int) := (by omega); have q5 : 0 < a0.size := (by have : (0 : Int) < (a0.size : Int) := of_decide_eq_true (by first | (with_reducible assumption) | assumption); omega); have hx5 : ∀ h : 0 < a0.size, ((a0[0]'h).toNat : Int) = bt a0 0 := bt_at a0 0; clear p5; have qi5 : (0 < (a0.size : Int)) = True := eq_true (of_decide_eq_true (by first | (with_reducible assumption) | assumption)); replace q5 := eq_true q5) | ((with_reducible refine gate_callee (f := 31) rfl ?_); refine goesL_ (some 27) rfl rfl Tryd.func31 (by kernel_rfl) rfl #[.string (a0.extract 1 a0.size)] rfl (by (try simp only [List.map_toArray, List.map_cons, List.map_nil]); first | done | rfl | (simp only [List.length_drop, List.length_take]; rfl)) ?_; (with_reducible refine (lex_bars.calls (a0.extract 1 a0.size) t133 t134 t135 t136 t137 _ A13.out).mono ?_); rintro e w15 ⟨rfl, hb⟩; refine ⟨_, rfl, ?_⟩; have n0_ := Aside0.mk (blk_below (g := gb131) (o := .cells #[.int .i64 0, .string (⟨#[]⟩ : ByteArray), .int .i64 0] 23 (0, 0)) (by (with_reducible repeat (first | refine blk_drewN ?_ _ | refine blk_drew ?_ | refine blk_alloc ?_ _)); exact BK131.out) hb); have n1_ := Aside0.mk (below_step (by repeat (first | (with_reducible first | exact HB.out | apply below_alloc | apply pw_below_drewN | apply below_drew1 | refine below_set ?_ GE131.out) | exact HB.out)) hb); clear BK131; clear HB; have BK131 := n0_; have HB := n1_; clear n0_ n1_; (try clear hb); (try clear hb2); (try clear hk); (try clear hi); have hcz16_0 : w15.cell? ⟨gb131, 0, none⟩ = some (.int .i64 0) := (blk_cell BK131.out 0).trans rfl; have hcz16_1 : w15.cell? ⟨gb131, 1, none⟩ = some (.string (⟨#[]⟩ : ByteArray)) := (blk_cell BK131.out 1).trans rfl; have hcz16_2 : w15.cell? ⟨gb131, 2, none⟩ = some (.int .i64 0) := (blk_cell BK131.out 2).trans rfl; have hfz16_0 := blk_frozen BK131.out 0; have hfz16_1 := blk_frozen BK131.out 1; have hfz16_2 := blk_frozen BK131.out 2))
      refine bodyPost_ret (results_ctt rfl _ _ gb131 23 #[.int .i64 t133, .string t134, .int .i64 t135] (0, 0) _ rfl (by (with_reducible repeat (first | refine blk_drewN ?_ _ | refine blk_drew ?_ | refine blk_alloc ?_ _)); refine blk_put (cs := #[.int .i64 t133, .string t134, .int .i64 0]) ?_ 2 _ rfl; (with_reducible repeat (first | refine blk_drewN ?_ _ | refine blk_drew ?_ | refine blk_alloc ?_ _)); refine blk_put (cs := #[.int .i64 t133, .string (⟨#[]⟩ : ByteArray), .int .i64 0]) ?_ 1 _ rfl; (with_reducible repeat (first | refine blk_drewN ?_ _ | refine blk_drew ?_ | refine blk_alloc ?_ _)); refine blk_put (cs := #[.int .i64 0, .string (⟨#[]⟩ : ByteArray), .int .i64 0]) ?_ 0 _ rfl; (with_reducible repeat (first | refine blk_drewN ?_ _ | refine blk_drew ?_ | refine blk_alloc ?_ _)); exact BK131.out) Tryd.underlying23 rfl (by kernel_rfl)) rfl ?_
      exact ⟨by first | rfl | (simp [errW_none, errW_some] <;> rfl) | (refine congrArg (fun z_ => Ending.returned (Value.bool z_)) (decide_eq_decide.mpr ?_); unfold wrap64; omega) | (simp [*, errW_none, errW_some] <;> rfl), by repeat (first | (with_reducible first | exact HB.out | apply below_alloc | apply pw_below_drewN | apply below_drew1 | refine below_set ?_ GE131.out) | exact HB.out)⟩
     ·rw [if_neg c12] at H
      have c12b0 : ((bt a0 0) == 124) = false := beq_eq_false_iff_ne.mpr c12
      have c12b1 : ((bt a0 0) != 124) = true := bne_iff_ne.mpr c12
      by_cases c17 : (bt a0 0) = 34
      ·rw [if_pos c17] at H
       have c17b0 : ((bt a0 0) == 34) = true := beq_iff_eq.mpr c17
       have c17b1 : ((bt a0 0) != 34) = false := bne_eq_false_iff_eq.mpr c17
       clear c17
       replace H := Option.bind_eq_some_iff.mp H
       obtain ⟨⟨t138, t139, t140, t141, t142⟩, A180, H⟩ := H
       replace H : (some (t138, t139, t140, t141, t142)) = some (r1, r2, r3, r4, r5) := H
       have A18 := Aside0.mk A180
       clear A180
       simp only [Option.some.injEq, Prod.mk.injEq] at H
       obtain ⟨rfl, rfl, rfl, rfl, rfl⟩ := H
       go_enter Tryd.func22, Tryd.ntmps22
       go_wp2_with (first | ((with_reducible refine gate_dst (N := 2) rfl ?_); refine box_event ?hg (N := 2) ?hd (cs := #[.int .i64 0, .string (⟨#[]⟩ : ByteArray), .int .i64 0]) (t := 23) ?hr ?_; (case hd => rfl); (case hg => rfl); (case hr => first | (go_simp; done) | (go_simp; rfl) | (go_simp; simp only [IntKind.wrap_u8, IntKind.wrap_u32]; congr 4; omega) | (go_simp; simp only [IntKind.wrap_u8, IntKind.wrap_u32]; congr 5; omega)); intro gb131 hg w19 hbox hb; have n0_ := Aside0.mk (below_step (by repeat (first | (with_reducible first | exact HB.out | apply below_alloc | apply pw_below_drewN | apply below_drew1) | exact HB.out)) hb); have n1_ := Aside0.mk (hbox); have n2_ := Aside0.mk ((by rw [hg]; exact (below_size (by repeat (first | (with_reducible first | exact HB.out | apply below_alloc | apply pw_below_drewN | apply below_drew1) | exact HB.out))) : w.heap.size ≤ gb131)); have n3_ := Aside0.mk ((by rw [hg]; exact (below_size (by repeat (first | (with_reducible first | exact HB.out | apply below_alloc | apply pw_below_drewN | apply below_drew1) | exact HB.out))) : w.heap.size ≤ gb131)); clear HB; have HB := n0_; have BK131 := n1_; have GW131 := n2_; have GE131 := n3_; clear n0_ n1_ n2_ n3_; clear hb hbox hg) | ((with_reducible refine gate_callee (f := 17) rfl ?_); refine goesL_ (some 11) rfl rfl Tryd.func17 (by kernel_rfl) rfl #[.string (a0.extract 1 a0.size), .func (.func 18) #[] #[]] rfl (by (try simp only [List.map_toArray, List.map_cons, List.map_nil]); first | done | rfl | (simp only [List.length_drop, List.length_take]; rfl)) ?_; (with_reducible refine (lex_span_F18.calls (a0.extract 1 a0.size) t132 _ A3.out).mono ?_); rintro e w' ⟨rfl, ⟨nd, rfl⟩⟩; refine ⟨_, rfl, ?_⟩; (try (rw [drewN_self w19]; generalize hq_ : World.drewN w19 _ = w19; have n0_ : Aside0 (w19.heap[gb131]? = some (.cells #[.int .i64 0, .string (⟨#[]⟩ : ByteArray), .int .i64 0] 23 (0, 0))) := ⟨by rw [← hq_]; exact (by (with_reducible repeat (first | refine blk_drewN ?_ _ | refine blk_drew ?_ | refine blk_alloc ?_ _)); exact BK131.out)⟩; have n1_ : Aside0 (Below w.heap.size w w19) := ⟨by rw [← hq_]; exact (by repeat (first | (with_reducible first | exact HB.out | apply below_alloc | apply pw_below_drewN | apply below_drew1 | refine below_set ?_ GE131.out) | exact HB.out))⟩; clear BK131 HB hq_; have BK131 := n0_; have HB := n1_; clear n0_ n1_)); have p5 : 0 ≤ (0 : Int) := (by omega); have q5 : 0 < a0.size := (by have : (0 : Int) < (a0.size : Int) := of_decide_eq_true (by first | (with_reducible assumption) | assumption); omega); have hx5 : ∀ h : 0 < a0.size, ((a0[0]'h).toNat : Int) = bt a0 0 := bt_at a0 0; clear p5; have qi5 : (0 < (a0.size : Int)) = True := eq_true (of_decide_eq_true (by first | (with_reducible assumption) | assumption)); replace q5 := eq_true q5) | ((with_reducible refine gate_callee (f := 32) rfl ?_); refine goesL_ (some 35) rfl rfl Tryd.func32 (by kernel_rfl) rfl #[.string (a0.extract 1 a0.size)] rfl (by (try simp only [List.map_toArray, List.map_cons, List.map_nil]); first | done | rfl | (simp only [List.length_drop, List.length_take]; rfl)) ?_; (with_reducible refine (lex_literal.calls (a0.extract 1 a0.size) t138 t139 t140 t141 t142 _ A18.out).mono ?_); rintro e w20 ⟨rfl, hb⟩; refine ⟨_, rfl, ?_⟩; have n0_ := Aside0.mk (blk_below (g := gb131) (o := .cells #[.int .i64 0, .string (⟨#[]⟩ : ByteArray), .int .i64 0] 23 (0, 0)) (by (with_reducible repeat (first | refine blk_drewN ?_ _ | refine blk_drew ?_ | refine blk_alloc ?_ _)); exact BK131.out) hb); have n1_ := Aside0.mk (below_step (by repeat (first | (with_reducible first | exact HB.out | apply below_alloc | apply pw_below_drewN | apply below_drew1 | refine below_set ?_ GE131.out) | exact HB.out)) hb); clear BK131; clear HB; have BK131 := n0_; have HB := n1_; clear n0_ n1_; (try clear hb); (try clear hb2); (try clear hk); (try clear hi); have hcz21_0 : w20.cell? ⟨gb131, 0, none⟩ = some (.int .i64 0) := (blk_cell BK131.out 0).trans rfl; have hcz21_1 : w20.cell? ⟨gb131, 1, none⟩ = some (.string (⟨#[]⟩ : ByteArray)) := (blk_cell BK131.out 1).trans rfl; have hcz21_2 : w20.cell? ⟨gb131, 2, none⟩ = some (.int .i64 0) := (blk_cell BK131.out 2).trans rfl; have hfz21_0 := blk_frozen BK131.out 0; have hfz21_1 := blk_frozen BK131.out 1; have hfz21_2 := blk_frozen BK131.out 2))
       refine bodyPost_ret (results_ctt rfl _ _ gb131 23 #[.int .i64 t138, .string t139, .int .i64 t140] (0, 0) _ rfl (by (with_reducible repeat (first | refine blk_drewN ?_ _ | refine blk_drew ?_ | refine blk_alloc ?_ _)); refine blk_put (cs := #[.int .i64 t138, .string t139, .int .i64 0]) ?_ 2 _ rfl; (with_reducible repeat (first | refine blk_drewN ?_ _ | refine blk_drew ?_ | refine blk_alloc ?_ _)); refine blk_put (cs := #[.int .i64 t138, .string (⟨#[]⟩ : ByteArray), .int .i64 0]) ?_ 1 _ rfl; (with_reducible repeat (first | refine blk_drewN ?_ _ | refine blk_drew ?_ | refine blk_alloc ?_ _)); refine blk_put (cs := #[.int .i64 0, .string (⟨#[]⟩ : ByteArray), .int .i64 0]) ?_ 0 _ rfl; (with_reducible repeat (first | refine blk_drewN ?_ _ | refine blk_drew ?_ | refine blk_alloc ?_ _)); exact BK131.out) Tryd.underlying23 rfl (by kernel_rfl)) rfl ?_
       exact ⟨by first | rfl | (simp [errW_none, errW_some] <;> rfl) | (refine congrArg (fun z_ => Ending.returned (Value.bool z_)) (decide_eq_decide.mpr ?_); unfold wrap64; omega) | (simp [*, errW_none, errW_some] <;> rfl), by repeat (first | (with_reducible first | exact HB.out | apply below_alloc | apply pw_below_drewN | apply below_drew1 | refine below_set ?_ GE131.out) | exact HB.out)⟩
      ·rw [if_neg c17] at H
       have c17b0 : ((bt a0 0) == 34) = false := beq_eq_false_iff_ne.mpr c17
       have c17b1 : ((bt a0 0) != 34) = true := bne_iff_ne.mpr c17
       replace H := Option.bind_eq_some_iff.mp H
       obtain ⟨t143, A220, H⟩ := H
       replace H : (if t143 = true then (if 0 ≤ (wrap64 (1 + t132)) then (if (wrap64 (1 + t132)) ≤ (a0.size : Int) then ((lex_numeral.f (a0.extract 0 ((wrap64 (1 + t132)) : Int).toNat)).bind fun bt144 => (some (bt144.1, bt144.2.1, bt144.2.2.1, bt144.2.2.2.1, bt144.2.2.2.2))) else (none)) else (none)) else ((lex_named.f k (bt a0 0)).bind fun t149 => (if t149 = true then (if 0 ≤ (wrap64 (1 + t132)) then (if (wrap64 (1 + t132)) ≤ (a0.size : Int) then (some (3, a0.extract 0 ((wrap64 (1 + t132)) : Int).toNat, 0, wrap64 (1 + t132), 0)) else (none)) else (none)) else (if (bt a0 0) = 58 then (lex_one.j0 k a0 (wrap64 (1 + t132)) (bt a0 0) (decide ((wrap64 (1 + t132)) > 1))) else (lex_one.j0 k a0 (wrap64 (1 + t132)) (bt a0 0) false))))) = some (r1, r2, r3, r4, r5) := H
       have A22 := Aside0.mk A220
       clear A220
       by_cases c23 : t143 = true
       ·subst c23
        have H1 : (if 0 ≤ (wrap64 (1 + t132)) then (if (wrap64 (1 + t132)) ≤ (a0.size : Int) then ((lex_numeral.f (a0.extract 0 ((wrap64 (1 + t132)) : Int).toNat)).bind fun bt144 => (some (bt144.1, bt144.2.1, bt144.2.2.1, bt144.2.2.2.1, bt144.2.2.2.2))) else (none)) else (none)) = some (r1, r2, r3, r4, r5) := by rw [if_pos rfl] at H; exact H
        clear H
        have H := H1
        clear H1
        obtain ⟨ji24, hji24⟩ : ∃ j_ : Int, (wrap64 (1 + t132)) = j_ := ⟨_, rfl⟩
        replace H : (if 0 ≤ (ji24) then (if (ji24) ≤ (a0.size : Int) then ((lex_numeral.f (a0.extract 0 ((ji24) : Int).toNat)).bind fun bt144 => (some (bt144.1, bt144.2.1, bt144.2.2.1, bt144.2.2.2.1, bt144.2.2.2.2))) else (none)) else (none)) = some (r1, r2, r3, r4, r5) := by first | (rw [hji24] at H; exact H) | (simp only [hji24] at H ⊢; exact H)
        (try rw [hji24] at A3)
        (try rw [hji24] at A22)
        have hji24w : (IntKind.i64.wrap (1 + t132)) = ji24 := (i64_w _).trans hji24
        by_cases c25 : 0 ≤ (ji24)
        ·rw [if_pos c25] at H
         have c25b0 := eq_true c25
         have c25b1 : decide (0 ≤ (ji24)) = true := decide_eq_true c25
         clear c25
         by_cases c26 : (ji24) ≤ (a0.size : Int)
         ·rw [if_pos c26] at H
          have c26b0 := eq_true c26
          have c26b1 : decide ((ji24) ≤ (a0.size : Int)) = true := decide_eq_true c26
          clear c26
          replace H := Option.bind_eq_some_iff.mp H
          obtain ⟨⟨t144, t145, t146, t147, t148⟩, A270, H⟩ := H
          replace H : (some (t144, t145, t146, t147, t148)) = some (r1, r2, r3, r4, r5) := H
          have A27 := Aside0.mk A270
          clear A270
          simp only [Option.some.injEq, Prod.mk.injEq] at H
          obtain ⟨rfl, rfl, rfl, rfl, rfl⟩ := H
          go_enter Tryd.func22, Tryd.ntmps22
          go_wp2_with (first | ((with_reducible refine gate_dst (N := 2) rfl ?_); refine box_event ?hg (N := 2) ?hd (cs := #[.int .i64 0, .string (⟨#[]⟩ : ByteArray), .int .i64 0]) (t := 23) ?hr ?_; (case hd => rfl); (case hg => rfl); (case hr => first | (go_simp; done) | (go_simp; rfl) | (go_simp; simp only [IntKind.wrap_u8, IntKind.wrap_u32]; congr 4; omega) | (go_simp; simp only [IntKind.wrap_u8, IntKind.wrap_u32]; congr 5; omega)); intro gb131 hg w28 hbox hb; have n0_ := Aside0.mk (below_step (by repeat (first | (with_reducible first | exact HB.out | apply below_alloc | apply pw_below_drewN | apply below_drew1) | exact HB.out)) hb); have n1_ := Aside0.mk (hbox); have n2_ := Aside0.mk ((by rw [hg]; exact (below_size (by repeat (first | (with_reducible first | exact HB.out | apply below_alloc | apply pw_below_drewN | apply below_drew1) | exact HB.out))) : w.heap.size ≤ gb131)); have n3_ := Aside0.mk ((by rw [hg]; exact (below_size (by repeat (first | (with_reducible first | exact HB.out | apply below_alloc | apply pw_below_drewN | apply below_drew1) | exact HB.out))) : w.heap.size ≤ gb131)); clear HB; have HB := n0_; have BK131 := n1_; have GW131 := n2_; have GE131 := n3_; clear n0_ n1_ n2_ n3_; clear hb hbox hg) | ((with_reducible refine gate_callee (f := 17) rfl ?_); refine goesL_ (some 11) rfl rfl Tryd.func17 (by kernel_rfl) rfl #[.string (a0.extract 1 a0.size), .func (.func 18) #[] #[]] rfl (by (try simp only [List.map_toArray, List.map_cons, List.map_nil]); first | done | rfl | (simp only [List.length_drop, List.length_take]; rfl)) ?_; (with_reducible refine (lex_span_F18.calls (a0.extract 1 a0.size) t132 _ A3.out).mono ?_); rintro e w' ⟨rfl, ⟨nd, rfl⟩⟩; refine ⟨_, rfl, ?_⟩; (try (rw [drewN_self w28]; generalize hq_ : World.drewN w28 _ = w28; have n0_ : Aside0 (w28.heap[gb131]? = some (.cells #[.int .i64 0, .string (⟨#[]⟩ : ByteArray), .int .i64 0] 23 (0, 0))) := ⟨by rw [← hq_]; exact (by (with_reducible repeat (first | refine blk_drewN ?_ _ | refine blk_drew ?_ | refine blk_alloc ?_ _)); exact BK131.out)⟩; have n1_ : Aside0 (Below w.heap.size w w28) := ⟨by rw [← hq_]; exact (by repeat (first | (with_reducible first | exact HB.out | apply below_alloc | apply pw_below_drewN | apply below_drew1 | refine below_set ?_ GE131.out) | exact HB.out))⟩; clear BK131 HB hq_; have BK131 := n0_; have HB := n1_; clear n0_ n1_)); have p5 : 0 ≤ (0 : Int) := (by omega); have q5 : 0 < a0.size := (by have : (0 : Int) < (a0.size : Int) := of_decide_eq_true (by first | (with_reducible assumption) | assumption); omega); have hx5 : ∀ h : 0 < a0.size, ((a0[0]'h).toNat : Int) = bt a0 0 := bt_at a0 0; clear p5; have qi5 : (0 < (a0.size : Int)) = True := eq_true (of_decide_eq_true (by first | (with_reducible assumption) | assumption)); replace q5 := eq_true q5) | ((with_reducible refine gate_callee (f := 16) rfl ?_); refine goesL_ (some 41) rfl rfl Tryd.func16 (by kernel_rfl) rfl #[.int .u8 (bt a0 0)] rfl (by (try simp only [List.map_toArray, List.map_cons, List.map_nil]); first | done | rfl | (simp only [List.length_drop, List.length_take]; rfl)) ?_; (with_reducible refine (lex_digit.calls (bt a0 0) true _ A22.out).mono ?_); rintro e w' ⟨rfl, ⟨nd, rfl⟩⟩; refine ⟨_, rfl, ?_⟩; (try (rw [drewN_self w28]; generalize hq_ : World.drewN w28 _ = w28; have n0_ : Aside0 (w28.heap[gb131]? = some (.cells #[.int .i64 0, .string (⟨#[]⟩ : ByteArray), .int .i64 0] 23 (0, 0))) := ⟨by rw [← hq_]; exact (by (with_reducible repeat (first | refine blk_drewN ?_ _ | refine blk_drew ?_ | refine blk_alloc ?_ _)); exact BK131.out)⟩; have n1_ : Aside0 (Below w.heap.size w w28) := ⟨by rw [← hq_]; exact (by repeat (first | (with_reducible first | exact HB.out | apply below_alloc | apply pw_below_drewN | apply below_drew1 | refine below_set ?_ GE131.out) | exact HB.out))⟩; clear BK131 HB hq_; have BK131 := n0_; have HB := n1_; clear n0_ n1_))) | ((with_reducible refine gate_callee (f := 33) rfl ?_); refine goesL_ (some 45) rfl rfl Tryd.func33 (by kernel_rfl) rfl #[.string (a0.extract 0 ((ji24) : Int).toNat)] rfl (by (try simp only [List.map_toArray, List.map_cons, List.map_nil]); first | done | (simp only [hji24]; rfl) | rfl | (simp only [List.length_drop, List.length_take]; rfl)) ?_; (with_reducible refine (lex_numeral.calls (a0.extract 0 ((ji24) : Int).toNat) t144 t145 t146 t147 t148 _ A27.out).mono ?_); rintro e w29 ⟨rfl, hb⟩; refine ⟨_, rfl, ?_⟩; have n0_ := Aside0.mk (blk_below (g := gb131) (o := .cells #[.int .i64 0, .string (⟨#[]⟩ : ByteArray), .int .i64 0] 23 (0, 0)) (by (with_reducible repeat (first | refine blk_drewN ?_ _ | refine blk_drew ?_ | refine blk_alloc ?_ _)); exact BK131.out) hb); have n1_ := Aside0.mk (below_step (by repeat (first | (with_reducible first | exact HB.out | apply below_alloc | apply pw_below_drewN | apply below_drew1 | refine below_set ?_ GE131.out) | exact HB.out)) hb); clear BK131; clear HB; have BK131 := n0_; have HB := n1_; clear n0_ n1_; (try clear hb); (try clear hb2); (try clear hk); (try clear hi); have hcz30_0 : w29.cell? ⟨gb131, 0, none⟩ = some (.int .i64 0) := (blk_cell BK131.out 0).trans rfl; have hcz30_1 : w29.cell? ⟨gb131, 1, none⟩ = some (.string (⟨#[]⟩ : ByteArray)) := (blk_cell BK131.out 1).trans rfl; have hcz30_2 : w29.cell? ⟨gb131, 2, none⟩ = some (.int .i64 0) := (blk_cell BK131.out 2).trans rfl; have hfz30_0 := blk_frozen BK131.out 0; have hfz30_1 := blk_frozen BK131.out 1; have hfz30_2 := blk_frozen BK131.out 2))
          refine bodyPost_ret (results_ctt rfl _ _ gb131 23 #[.int .i64 t144, .string t145, .int .i64 t146] (0, 0) _ rfl (by (with_reducible repeat (first | refine blk_drewN ?_ _ | refine blk_drew ?_ | refine blk_alloc ?_ _)); refine blk_put (cs := #[.int .i64 t144, .string t145, .int .i64 0]) ?_ 2 _ rfl; (with_reducible repeat (first | refine blk_drewN ?_ _ | refine blk_drew ?_ | refine blk_alloc ?_ _)); refine blk_put (cs := #[.int .i64 t144, .string (⟨#[]⟩ : ByteArray), .int .i64 0]) ?_ 1 _ rfl; (with_reducible repeat (first | refine blk_drewN ?_ _ | refine blk_drew ?_ | refine blk_alloc ?_ _)); refine blk_put (cs := #[.int .i64 0, .string (⟨#[]⟩ : ByteArray), .int .i64 0]) ?_ 0 _ rfl; (with_reducible repeat (first | refine blk_drewN ?_ _ | refine blk_drew ?_ | refine blk_alloc ?_ _)); exact BK131.out) Tryd.underlying23 rfl (by kernel_rfl)) rfl ?_
          exact ⟨by first | rfl | (simp [errW_none, errW_some] <;> rfl) | (simp only [← hji24]; first | rfl | (simp [errW_none, errW_some] <;> rfl)) | (refine congrArg (fun z_ => Ending.returned (Value.bool z_)) (decide_eq_decide.mpr ?_); unfold wrap64; omega) | (simp [*, errW_none, errW_some] <;> rfl), by repeat (first | (with_reducible first | exact HB.out | apply below_alloc | apply pw_below_drewN | apply below_drew1 | refine below_set ?_ GE131.out) | exact HB.out)⟩
         ·rw [if_neg c26] at H
          exact absurd H (by simp)
        ·rw [if_neg c25] at H
         exact absurd H (by simp)
       ·replace c23 := Bool.eq_false_iff.mpr c23
        subst c23
        have H1 : ((lex_named.f k (bt a0 0)).bind fun t149 => (if t149 = true then (if 0 ≤ (wrap64 (1 + t132)) then (if (wrap64 (1 + t132)) ≤ (a0.size : Int) then (some (3, a0.extract 0 ((wrap64 (1 + t132)) : Int).toNat, 0, wrap64 (1 + t132), 0)) else (none)) else (none)) else (if (bt a0 0) = 58 then (lex_one.j0 k a0 (wrap64 (1 + t132)) (bt a0 0) (decide ((wrap64 (1 + t132)) > 1))) else (lex_one.j0 k a0 (wrap64 (1 + t132)) (bt a0 0) false)))) = some (r1, r2, r3, r4, r5) := by rw [if_neg (show ¬ (false = true) by decide)] at H; exact H
        clear H
        have H := H1
        clear H1
        replace H := Option.bind_eq_some_iff.mp H
        obtain ⟨t149, A310, H⟩ := H
        replace H : (if t149 = true then (if 0 ≤ (wrap64 (1 + t132)) then (if (wrap64 (1 + t132)) ≤ (a0.size : Int) then (some (3, a0.extract 0 ((wrap64 (1 + t132)) : Int).toNat, 0, wrap64 (1 + t132), 0)) else (none)) else (none)) else (if (bt a0 0) = 58 then (lex_one.j0 k a0 (wrap64 (1 + t132)) (bt a0 0) (decide ((wrap64 (1 + t132)) > 1))) else (lex_one.j0 k a0 (wrap64 (1 + t132)) (bt a0 0) false))) = some (r1, r2, r3, r4, r5) := H
        have A31 := Aside0.mk A310
        clear A310
        by_cases c32 : t149 = true
        ·subst c32
         have H1 : (if 0 ≤ (wrap64 (1 + t132)) then (if (wrap64 (1 + t132)) ≤ (a0.size : Int) then (some (3, a0.extract 0 ((wrap64 (1 + t132)) : Int).toNat, 0, wrap64 (1 + t132), 0)) else (none)) else (none)) = some (r1, r2, r3, r4, r5) := by rw [if_pos rfl] at H; exact H
         clear H
         have H := H1
         clear H1
         obtain ⟨ji33, hji33⟩ : ∃ j_ : Int, (wrap64 (1 + t132)) = j_ := ⟨_, rfl⟩
         replace H : (if 0 ≤ (ji33) then (if (ji33) ≤ (a0.size : Int) then (some (3, a0.extract 0 ((ji33) : Int).toNat, 0, ji33, 0)) else (none)) else (none)) = some (r1, r2, r3, r4, r5) := by first | (rw [hji33] at H; exact H) | (simp only [hji33] at H ⊢; exact H)
         (try rw [hji33] at hji24)
         (try rw [hji33] at hji24w)
         (try rw [hji33] at A3)
         (try rw [hji33] at A22)
         (try rw [hji33] at A31)
         have hji33w : (IntKind.i64.wrap (1 + t132)) = ji33 := (i64_w _).trans hji33
         (try clear hji24w)
         (try clear hji24)
         by_cases c34 : 0 ≤ (ji33)
         ·rw [if_pos c34] at H
          have c34b0 := eq_true c34
          have c34b1 : decide (0 ≤ (ji33)) = true := decide_eq_true c34
          clear c34
          by_cases c35 : (ji33) ≤ (a0.size : Int)
          ·rw [if_pos c35] at H
           have c35b0 := eq_true c35
           have c35b1 : decide ((ji33) ≤ (a0.size : Int)) = true := decide_eq_true c35
           clear c35
           simp only [Option.some.injEq, Prod.mk.injEq] at H
           obtain ⟨rfl, rfl, rfl, rfl, rfl⟩ := H
           go_enter Tryd.func22, Tryd.ntmps22
           go_wp2_with (first | ((with_reducible refine gate_dst (N := 2) rfl ?_); refine box_event ?hg (N := 2) ?hd (cs := #[.int .i64 0, .string (⟨#[]⟩ : ByteArray), .int .i64 0]) (t := 23) ?hr ?_; (case hd => rfl); (case hg => rfl); (case hr => first | (go_simp; done) | (go_simp; rfl) | (go_simp; simp only [IntKind.wrap_u8, IntKind.wrap_u32]; congr 4; omega) | (go_simp; simp only [IntKind.wrap_u8, IntKind.wrap_u32]; congr 5; omega)); intro gb131 hg w36 hbox hb; have n0_ := Aside0.mk (below_step (by repeat (first | (with_reducible first | exact HB.out | apply below_alloc | apply pw_below_drewN | apply below_drew1) | exact HB.out)) hb); have n1_ := Aside0.mk (hbox); have n2_ := Aside0.mk ((by rw [hg]; exact (below_size (by repeat (first | (with_reducible first | exact HB.out | apply below_alloc | apply pw_below_drewN | apply below_drew1) | exact HB.out))) : w.heap.size ≤ gb131)); have n3_ := Aside0.mk ((by rw [hg]; exact (below_size (by repeat (first | (with_reducible first | exact HB.out | apply below_alloc | apply pw_below_drewN | apply below_drew1) | exact HB.out))) : w.heap.size ≤ gb131)); clear HB; have HB := n0_; have BK131 := n1_; have GW131 := n2_; have GE131 := n3_; clear n0_ n1_ n2_ n3_; clear hb hbox hg) | ((with_reducible refine gate_callee (f := 17) rfl ?_); refine goesL_ (some 11) rfl rfl Tryd.func17 (by kernel_rfl) rfl #[.string (a0.extract 1 a0.size), .func (.func 18) #[] #[]] rfl (by (try simp only [List.map_toArray, List.map_cons, List.map_nil]); first | done | rfl | (simp only [List.length_drop, List.length_take]; rfl)) ?_; (with_reducible refine (lex_span_F18.calls (a0.extract 1 a0.size) t132 _ A3.out).mono ?_); rintro e w' ⟨rfl, ⟨nd, rfl⟩⟩; refine ⟨_, rfl, ?_⟩; (try (rw [drewN_self w36]; generalize hq_ : World.drewN w36 _ = w36; have n0_ : Aside0 (w36.heap[gb131]? = some (.cells #[.int .i64 0, .string (⟨#[]⟩ : ByteArray), .int .i64 0] 23 (0, 0))) := ⟨by rw [← hq_]; exact (by (with_reducible repeat (first | refine blk_drewN ?_ _ | refine blk_drew ?_ | refine blk_alloc ?_ _)); exact BK131.out)⟩; have n1_ : Aside0 (Below w.heap.size w w36) := ⟨by rw [← hq_]; exact (by repeat (first | (with_reducible first | exact HB.out | apply below_alloc | apply pw_below_drewN | apply below_drew1 | refine below_set ?_ GE131.out) | exact HB.out))⟩; clear BK131 HB hq_; have BK131 := n0_; have HB := n1_; clear n0_ n1_)); have p5 : 0 ≤ (0 : Int) := (by omega); have q5 : 0 < a0.size := (by have : (0 : Int) < (a0.size : Int) := of_decide_eq_true (by first | (with_reducible assumption) | assumption); omega); have hx5 : ∀ h : 0 < a0.size, ((a0[0]'h).toNat : Int) = bt a0 0 := bt_at a0 0; clear p5; have qi5 : (0 < (a0.size : Int)) = True := eq_true (of_decide_eq_true (by first | (with_reducible assumption) | assumption)); replace q5 := eq_true q5) | ((with_reducible refine gate_callee (f := 16) rfl ?_); refine goesL_ (some 41) rfl rfl Tryd.func16 (by kernel_rfl) rfl #[.int .u8 (bt a0 0)] rfl (by (try simp only [List.map_toArray, List.map_cons, List.map_nil]); first | done | rfl | (simp only [List.length_drop, List.length_take]; rfl)) ?_; (with_reducible refine (lex_digit.calls (bt a0 0) false _ A22.out).mono ?_); rintro e w' ⟨rfl, ⟨nd, rfl⟩⟩; refine ⟨_, rfl, ?_⟩; (try (rw [drewN_self w36]; generalize hq_ : World.drewN w36 _ = w36; have n0_ : Aside0 (w36.heap[gb131]? = some (.cells #[.int .i64 0, .string (⟨#[]⟩ : ByteArray), .int .i64 0] 23 (0, 0))) := ⟨by rw [← hq_]; exact (by (with_reducible repeat (first | refine blk_drewN ?_ _ | refine blk_drew ?_ | refine blk_alloc ?_ _)); exact BK131.out)⟩; have n1_ : Aside0 (Below w.heap.size w w36) := ⟨by rw [← hq_]; exact (by repeat (first | (with_reducible first | exact HB.out | apply below_alloc | apply pw_below_drewN | apply below_drew1 | refine below_set ?_ GE131.out) | exact HB.out))⟩; clear BK131 HB hq_; have BK131 := n0_; have HB := n1_; clear n0_ n1_))) | ((with_reducible refine gate_callee (f := 18) rfl ?_); refine goesL_ (some 51) rfl rfl Tryd.func18 (by kernel_rfl) rfl #[.int .u8 (bt a0 0)] rfl (by (try simp only [List.map_toArray, List.map_cons, List.map_nil]); first | done | rfl | (simp only [List.length_drop, List.length_take]; rfl)) ?_; (with_reducible refine (lex_named.calls k (bt a0 0) true _ A31.out).mono ?_); rintro e w' ⟨rfl, ⟨nd, rfl⟩⟩; refine ⟨_, rfl, ?_⟩; (try (rw [drewN_self w36]; generalize hq_ : World.drewN w36 _ = w36; have n0_ : Aside0 (w36.heap[gb131]? = some (.cells #[.int .i64 0, .string (⟨#[]⟩ : ByteArray), .int .i64 0] 23 (0, 0))) := ⟨by rw [← hq_]; exact (by (with_reducible repeat (first | refine blk_drewN ?_ _ | refine blk_drew ?_ | refine blk_alloc ?_ _)); exact BK131.out)⟩; have n1_ : Aside0 (Below w.heap.size w w36) := ⟨by rw [← hq_]; exact (by repeat (first | (with_reducible first | exact HB.out | apply below_alloc | apply pw_below_drewN | apply below_drew1 | refine below_set ?_ GE131.out) | exact HB.out))⟩; clear BK131 HB hq_; have BK131 := n0_; have HB := n1_; clear n0_ n1_)); have hcz37_0 : w36.cell? ⟨gb131, 0, none⟩ = some (.int .i64 0) := (blk_cell BK131.out 0).trans rfl; have hcz37_1 : w36.cell? ⟨gb131, 1, none⟩ = some (.string (⟨#[]⟩ : ByteArray)) := (blk_cell BK131.out 1).trans rfl; have hcz37_2 : w36.cell? ⟨gb131, 2, none⟩ = some (.int .i64 0) := (blk_cell BK131.out 2).trans rfl; have hfz37_0 := blk_frozen BK131.out 0; have hfz37_1 := blk_frozen BK131.out 1; have hfz37_2 := blk_frozen BK131.out 2))
           refine bodyPost_ret (results_ctt rfl _ _ gb131 23 #[.int .i64 3, .string (a0.extract 0 ((ji33) : Int).toNat), .int .i64 0] (0, 0) _ rfl (by (with_reducible repeat (first | refine blk_drewN ?_ _ | refine blk_drew ?_ | refine blk_alloc ?_ _)); refine blk_put (cs := #[.int .i64 3, .string (a0.extract 0 ((ji33) : Int).toNat), .int .i64 0]) ?_ 2 _ rfl; (with_reducible repeat (first | refine blk_drewN ?_ _ | refine blk_drew ?_ | refine blk_alloc ?_ _)); refine blk_put (cs := #[.int .i64 3, .string (⟨#[]⟩ : ByteArray), .int .i64 0]) ?_ 1 _ rfl; (with_reducible repeat (first | refine blk_drewN ?_ _ | refine blk_drew ?_ | refine blk_alloc ?_ _)); refine blk_put (cs := #[.int .i64 0, .string (⟨#[]⟩ : ByteArray), .int .i64 0]) ?_ 0 _ rfl; (with_reducible repeat (first | refine blk_drewN ?_ _ | refine blk_drew ?_ | refine blk_alloc ?_ _)); exact BK131.out) Tryd.underlying23 rfl (by kernel_rfl)) rfl ?_
           exact ⟨by first | rfl | (simp [errW_none, errW_some] <;> rfl) | (simp only [← hji33]; first | rfl | (simp [errW_none, errW_some] <;> rfl)) | (refine congrArg (fun z_ => Ending.returned (Value.bool z_)) (decide_eq_decide.mpr ?_); unfold wrap64; omega) | (simp [*, errW_none, errW_some] <;> rfl), by repeat (first | (with_reducible first | exact HB.out | apply below_alloc | apply pw_below_drewN | apply below_drew1 | refine below_set ?_ GE131.out) | exact HB.out)⟩
          ·rw [if_neg c35] at H
           exact absurd H (by simp)
         ·rw [if_neg c34] at H
          exact absurd H (by simp)
        ·replace c32 := Bool.eq_false_iff.mpr c32
         subst c32
         have H1 : (if (bt a0 0) = 58 then (lex_one.j0 k a0 (wrap64 (1 + t132)) (bt a0 0) (decide ((wrap64 (1 + t132)) > 1))) else (lex_one.j0 k a0 (wrap64 (1 + t132)) (bt a0 0) false)) = some (r1, r2, r3, r4, r5) := by rw [if_neg (show ¬ (false = true) by decide)] at H; exact H
         clear H
         have H := H1
         clear H1
         have HC38 := Aside0.mk H
         clear H
         go_enter Tryd.func22, Tryd.ntmps22
         go_upto_region 16 with (first | ((with_reducible refine gate_dst (N := 2) rfl ?_); refine box_event ?hg (N := 2) ?hd (cs := #[.int .i64 0, .string (⟨#[]⟩ : ByteArray), .int .i64 0]) (t := 23) ?hr ?_; (case hd => rfl); (case hg => rfl); (case hr => first | (go_simp; done) | (go_simp; rfl) | (go_simp; simp only [IntKind.wrap_u8, IntKind.wrap_u32]; congr 4; omega) | (go_simp; simp only [IntKind.wrap_u8, IntKind.wrap_u32]; congr 5; omega)); intro gb131 hg w39 hbox hb; have n0_ := Aside0.mk (below_step (by repeat (first | (with_reducible first | exact HB.out | apply below_alloc | apply pw_below_drewN | apply below_drew1) | exact HB.out)) hb); have n1_ := Aside0.mk (hbox); have n2_ := Aside0.mk ((by rw [hg]; exact (below_size (by repeat (first | (with_reducible first | exact HB.out | apply below_alloc | apply pw_below_drewN | apply below_drew1) | exact HB.out))) : w.heap.size ≤ gb131)); have n3_ := Aside0.mk ((by rw [hg]; exact (below_size (by repeat (first | (with_reducible first | exact HB.out | apply below_alloc | apply pw_below_drewN | apply below_drew1) | exact HB.out))) : w.heap.size ≤ gb131)); clear HB; have HB := n0_; have BK131 := n1_; have GW131 := n2_; have GE131 := n3_; clear n0_ n1_ n2_ n3_; clear hb hbox hg) | ((with_reducible refine gate_callee (f := 17) rfl ?_); refine goesL_ (some 11) rfl rfl Tryd.func17 (by kernel_rfl) rfl #[.string (a0.extract 1 a0.size), .func (.func 18) #[] #[]] rfl (by (try simp only [List.map_toArray, List.map_cons, List.map_nil]); first | done | rfl | (simp only [List.length_drop, List.length_take]; rfl)) ?_; (with_reducible refine (lex_span_F18.calls (a0.extract 1 a0.size) t132 _ A3.out).mono ?_); rintro e w' ⟨rfl, ⟨nd, rfl⟩⟩; refine ⟨_, rfl, ?_⟩; have p5 : 0 ≤ (0 : Int) := (by omega); have q5 : 0 < a0.size := (by have : (0 : Int) < (a0.size : Int) := of_decide_eq_true (by first | (with_reducible assumption) | assumption); omega); have hx5 : ∀ h : 0 < a0.size, ((a0[0]'h).toNat : Int) = bt a0 0 := bt_at a0 0; clear p5; have qi5 : (0 < (a0.size : Int)) = True := eq_true (of_decide_eq_true (by first | (with_reducible assumption) | assumption)); replace q5 := eq_true q5) | ((with_reducible refine gate_callee (f := 16) rfl ?_); refine goesL_ (some 41) rfl rfl Tryd.func16 (by kernel_rfl) rfl #[.int .u8 (bt a0 0)] rfl (by (try simp only [List.map_toArray, List.map_cons, List.map_nil]); first | done | rfl | (simp only [List.length_drop, List.length_take]; rfl)) ?_; (with_reducible refine (lex_digit.calls (bt a0 0) false _ A22.out).mono ?_); rintro e w' ⟨rfl, ⟨nd, rfl⟩⟩; refine ⟨_, rfl, ?_⟩) | ((with_reducible refine gate_callee (f := 18) rfl ?_); refine goesL_ (some 51) rfl rfl Tryd.func18 (by kernel_rfl) rfl #[.int .u8 (bt a0 0)] rfl (by (try simp only [List.map_toArray, List.map_cons, List.map_nil]); first | done | rfl | (simp only [List.length_drop, List.length_take]; rfl)) ?_; (with_reducible refine (lex_named.calls k (bt a0 0) false _ A31.out).mono ?_); rintro e w' ⟨rfl, ⟨nd, rfl⟩⟩; refine ⟨_, rfl, ?_⟩))
         (try simp only [Act.put, List.setIfInBounds_toArray, List.set_cons_zero, List.set_cons_succ])
         go_cut [57] (fun v57 wc => ∃ (kq : Nat) (x57_37 : Bool), v57 = .bool x57_37 ∧ Aside0 (lex_one.j0 kq a0 (wrap64 (1 + t132)) (bt a0 0) x57_37 = some (r1, r2, r3, r4, r5)) ∧ Aside0 (kq ≤ k) ∧ Aside0 (wc.heap[gb131]? = some (.cells #[.int .i64 0, .string (⟨#[]⟩ : ByteArray), .int .i64 0] 23 (0, 0))) ∧ Aside0 (Below w.heap.size w wc))
         case first =>
          have H := HC38.out
          clear HC38
          by_cases c40 : (bt a0 0) = 58
          ·rw [if_pos c40] at H
           have c40b0 : ((bt a0 0) == 58) = true := beq_iff_eq.mpr c40
           have c40b1 : ((bt a0 0) != 58) = false := bne_eq_false_iff_eq.mpr c40
           clear c40
           (first | rw [c40b0] | rw [c40b1] | (simp only [i64_w, i32_w]; rw [c40b0]) | skip)
           have H' := Aside0.mk H
           clear H
           go_wp2
           go_meet
           case rel => exact ⟨_, (decide ((wrap64 (1 + t132)) > 1)), (by first | rfl | (simp; done) | (simp [*]; done) | (refine congrArg (Value.int _) ?_; omega) | (refine congrArg Value.bool ?_; generalize ByteArray.toList _ = z_; cases z_ <;> rfl)), H', ⟨by first | omega | exact Nat.le_refl _⟩, ⟨by (with_reducible repeat (first | refine blk_drewN ?_ _ | refine blk_drew ?_ | refine blk_alloc ?_ _)); exact BK131.out⟩, ⟨by repeat (first | (with_reducible first | exact HB.out | apply below_alloc | apply pw_below_drewN | apply below_drew1 | refine below_set ?_ GE131.out) | exact HB.out)⟩⟩
          ·rw [if_neg c40] at H
           have c40b0 : ((bt a0 0) == 58) = false := beq_eq_false_iff_ne.mpr c40
           have c40b1 : ((bt a0 0) != 58) = true := bne_iff_ne.mpr c40
           (first | rw [c40b0] | rw [c40b1] | (simp only [i64_w, i32_w]; rw [c40b0]) | skip)
           have H' := Aside0.mk H
           clear H
           go_wp2
           go_meet
           case rel => exact ⟨_, (false), (by first | rfl | (simp; done) | (simp [*]; done) | (refine congrArg (Value.int _) ?_; omega) | (refine congrArg Value.bool ?_; generalize ByteArray.toList _ = z_; cases z_ <;> rfl)), H', ⟨by first | omega | exact Nat.le_refl _⟩, ⟨by (with_reducible repeat (first | refine blk_drewN ?_ _ | refine blk_drew ?_ | refine blk_alloc ?_ _)); exact BK131.out⟩, ⟨by repeat (first | (with_reducible first | exact HB.out | apply below_alloc | apply pw_below_drewN | apply below_drew1 | refine below_set ?_ GE131.out) | exact HB.out)⟩⟩
         case rest =>
          clear HC38
          try clear c1
          try clear c2
          try clear c2b0
          try clear c2b1
          try clear p2
          try clear c3
          try clear c4
          try clear c4b0
          try clear c4b1
          try clear p5
          try clear q5
          try clear hx5
          try clear qi5
          try clear c6
          try clear c6b0
          try clear c6b1
          try clear p6
          try clear c9
          try clear c9b0
          try clear c9b1
          try clear c12
          try clear c12b0
          try clear c12b1
          try clear c16
          try clear c17
          try clear c17b0
          try clear c17b1
          try clear c18
          try clear c22
          try clear c23
          try clear c25
          try clear c25b0
          try clear c25b1
          try clear c26
          try clear c26b0
          try clear c26b1
          try clear c31
          try clear c32
          try clear c33
          try clear c34
          try clear c34b0
          try clear c34b1
          try clear c35
          try clear c35b0
          try clear c35b1
          try clear c40
          try clear c40b0
          try clear c40b1
          try clear hcz11_0
          try clear hcz11_1
          try clear hcz11_2
          try clear hcz16_0
          try clear hcz16_1
          try clear hcz16_2
          try clear hcz21_0
          try clear hcz21_1
          try clear hcz21_2
          try clear hcz30_0
          try clear hcz30_1
          try clear hcz30_2
          try clear hcz37_0
          try clear hcz37_1
          try clear hcz37_2
          try clear hcz8_0
          try clear hcz8_1
          try clear hcz8_2
          try clear hfz11_0
          try clear hfz11_1
          try clear hfz11_2
          try clear hfz16_0
          try clear hfz16_1
          try clear hfz16_2
          try clear hfz21_0
          try clear hfz21_1
          try clear hfz21_2
          try clear hfz30_0
          try clear hfz30_1
          try clear hfz30_2
          try clear hfz37_0
          try clear hfz37_1
          try clear hfz37_2
          try clear hfz8_0
          try clear hfz8_1
          try clear hfz8_2
          try clear p5
          try clear q5
          obtain ⟨kq, x57_37, rfl, HA, HJ37, BK131, HB⟩ := hcut
          cases kq with
          | zero => exact absurd HA.out (by simp [lex_one.j0])
          | succ kj37 =>
           have H := HA.out
           clear HA
           simp only [lex_one.j0] at H
           by_cases c41 : x57_37 = true
           ·subst c41
            have H1 : (if 0 ≤ (wrap64 (1 + t132)) then (if (wrap64 (1 + t132)) ≤ (a0.size : Int) then (some (7, a0.extract 0 ((wrap64 (1 + t132)) : Int).toNat, 0, (wrap64 (1 + t132)), 0)) else (none)) else (none)) = some (r1, r2, r3, r4, r5) := by rw [if_pos rfl] at H; exact H
            clear H
            have H := H1
            clear H1
            obtain ⟨ji42, hji42⟩ : ∃ j_ : Int, (wrap64 (1 + t132)) = j_ := ⟨_, rfl⟩
            replace H : (if 0 ≤ (ji42) then (if (ji42) ≤ (a0.size : Int) then (some (7, a0.extract 0 ((ji42) : Int).toNat, 0, (ji42), 0)) else (none)) else (none)) = some (r1, r2, r3, r4, r5) := by first | (rw [hji42] at H; exact H) | (simp only [hji42] at H ⊢; exact H)
            (try rw [hji42] at hji24)
            (try rw [hji42] at hji24w)
            (try rw [hji42] at hji33)
            (try rw [hji42] at hji33w)
            have hji42w : (IntKind.i64.wrap (1 + t132)) = ji42 := (i64_w _).trans hji42
            (try clear hji24w)
            (try clear hji24)
            (try clear hji33w)
            (try clear hji33)
            by_cases c43 : 0 ≤ (ji42)
            ·rw [if_pos c43] at H
             have c43b0 := eq_true c43
             have c43b1 : decide (0 ≤ (ji42)) = true := decide_eq_true c43
             clear c43
             by_cases c44 : (ji42) ≤ (a0.size : Int)
             ·rw [if_pos c44] at H
              have c44b0 := eq_true c44
              have c44b1 : decide ((ji42) ≤ (a0.size : Int)) = true := decide_eq_true c44
              clear c44
              simp only [Option.some.injEq, Prod.mk.injEq] at H
              obtain ⟨rfl, rfl, rfl, rfl, rfl⟩ := H
              have hcz45_0 : wc.cell? ⟨gb131, 0, none⟩ = some (.int .i64 0) := (blk_cell BK131.out 0).trans rfl
              have hcz45_1 : wc.cell? ⟨gb131, 1, none⟩ = some (.string (⟨#[]⟩ : ByteArray)) := (blk_cell BK131.out 1).trans rfl
              have hcz45_2 : wc.cell? ⟨gb131, 2, none⟩ = some (.int .i64 0) := (blk_cell BK131.out 2).trans rfl
              have hfz45_0 := blk_frozen BK131.out 0
              have hfz45_1 := blk_frozen BK131.out 1
              have hfz45_2 := blk_frozen BK131.out 2
              go_wp2
              refine bodyPost_ret (results_ctt rfl _ _ gb131 23 #[.int .i64 7, .string (a0.extract 0 ((ji42) : Int).toNat), .int .i64 0] (0, 0) _ rfl (by (with_reducible repeat (first | refine blk_drewN ?_ _ | refine blk_drew ?_ | refine blk_alloc ?_ _)); refine blk_put (cs := #[.int .i64 7, .string (a0.extract 0 ((ji42) : Int).toNat), .int .i64 0]) ?_ 2 _ rfl; (with_reducible repeat (first | refine blk_drewN ?_ _ | refine blk_drew ?_ | refine blk_alloc ?_ _)); refine blk_put (cs := #[.int .i64 7, .string (⟨#[]⟩ : ByteArray), .int .i64 0]) ?_ 1 _ rfl; (with_reducible repeat (first | refine blk_drewN ?_ _ | refine blk_drew ?_ | refine blk_alloc ?_ _)); refine blk_put (cs := #[.int .i64 0, .string (⟨#[]⟩ : ByteArray), .int .i64 0]) ?_ 0 _ rfl; (with_reducible repeat (first | refine blk_drewN ?_ _ | refine blk_drew ?_ | refine blk_alloc ?_ _)); exact BK131.out) Tryd.underlying23 rfl (by kernel_rfl)) rfl ?_
              exact ⟨by first | rfl | (simp [errW_none, errW_some] <;> rfl) | (simp only [← hji42]; first | rfl | (simp [errW_none, errW_some] <;> rfl)) | (refine congrArg (fun z_ => Ending.returned (Value.bool z_)) (decide_eq_decide.mpr ?_); unfold wrap64; omega) | (simp [*, errW_none, errW_some] <;> rfl), by repeat (first | (with_reducible first | exact HB.out | apply below_alloc | apply pw_below_drewN | apply below_drew1 | refine below_set ?_ GE131.out) | exact HB.out)⟩
             ·rw [if_neg c44] at H
              exact absurd H (by simp)
            ·rw [if_neg c43] at H
             exact absurd H (by simp)
           ·replace c41 := Bool.eq_false_iff.mpr c41
            subst c41
            have H1 : (if (bt a0 0) = 35 then (if 1 ≤ (wrap64 (1 + t132)) then (if (wrap64 (1 + t132)) ≤ (a0.size : Int) then ((lex_coded.f (a0.extract 1 ((wrap64 (1 + t132)) : Int).toNat)).bind fun t150 => (lex_one.j1 kj37 a0 (wrap64 (1 + t132)) (bt a0 0) t150)) else (none)) else (none)) else (lex_one.j1 kj37 a0 (wrap64 (1 + t132)) (bt a0 0) false)) = some (r1, r2, r3, r4, r5) := by rw [if_neg (show ¬ (false = true) by decide)] at H; exact H
            clear H
            have H := H1
            clear H1
            have HC46 := Aside0.mk H
            clear H
            go_upto_region 18 with (fail)
            go_cut [69] (fun v69 wc => ∃ (kq : Nat) (x69_45 : Bool), v69 = .bool x69_45 ∧ Aside0 (lex_one.j1 kq a0 (wrap64 (1 + t132)) (bt a0 0) x69_45 = some (r1, r2, r3, r4, r5)) ∧ Aside0 (kq ≤ kj37) ∧ Aside0 (wc.heap[gb131]? = some (.cells #[.int .i64 0, .string (⟨#[]⟩ : ByteArray), .int .i64 0] 23 (0, 0))) ∧ Aside0 (Below w.heap.size w wc))
            case first =>
             have H := HC46.out
             clear HC46
             by_cases c47 : (bt a0 0) = 35
             ·rw [if_pos c47] at H
              have c47b0 : ((bt a0 0) == 35) = true := beq_iff_eq.mpr c47
              have c47b1 : ((bt a0 0) != 35) = false := bne_eq_false_iff_eq.mpr c47
              clear c47
              (first | rw [c47b0] | rw [c47b1] | (simp only [i64_w, i32_w]; rw [c47b0]) | skip)
              by_cases c48 : 1 ≤ (wrap64 (1 + t132))
              ·rw [if_pos c48] at H
               have c48b0 := eq_true c48
               have c48b1 : decide (1 ≤ (wrap64 (1 + t132))) = true := decide_eq_true c48
               by_cases c49 : (wrap64 (1 + t132)) ≤ (a0.size : Int)
               ·rw [if_pos c49] at H
                have c49b0 := eq_true c49
                have c49b1 : decide ((wrap64 (1 + t132)) ≤ (a0.size : Int)) = true := decide_eq_true c49
                replace H := Option.bind_eq_some_iff.mp H
                obtain ⟨t150, A500, H⟩ := H
                replace H : (lex_one.j1 kj37 a0 (wrap64 (1 + t132)) (bt a0 0) t150) = some (r1, r2, r3, r4, r5) := H
                have A50 := Aside0.mk A500
                clear A500
                have H' := Aside0.mk H
                clear H
                go_wp2_with (first | (go_at_call 34; (with_reducible refine (lex_coded.calls (a0.extract 1 ((wrap64 (1 + t132)) : Int).toNat) t150 _ A50.out).mono ?_); rintro e w' ⟨rfl, ⟨nd, rfl⟩⟩))
                go_meet
                case rel => exact ⟨_, (t150), (by first | rfl | (simp; done) | (simp [*]; done) | (refine congrArg (Value.int _) ?_; omega) | (refine congrArg Value.bool ?_; generalize ByteArray.toList _ = z_; cases z_ <;> rfl)), H', ⟨by have := HJ37.out; first | omega | exact Nat.le_refl _⟩, ⟨by (with_reducible repeat (first | refine blk_drewN ?_ _ | refine blk_drew ?_ | refine blk_alloc ?_ _)); exact BK131.out⟩, ⟨by repeat (first | (with_reducible first | exact HB.out | apply below_alloc | apply pw_below_drewN | apply below_drew1 | refine below_set ?_ GE131.out) | exact HB.out)⟩⟩
               ·rw [if_neg c49] at H
                exact absurd H (by simp)
              ·rw [if_neg c48] at H
               exact absurd H (by simp)
             ·rw [if_neg c47] at H
              have c47b0 : ((bt a0 0) == 35) = false := beq_eq_false_iff_ne.mpr c47
              have c47b1 : ((bt a0 0) != 35) = true := bne_iff_ne.mpr c47
              (first | rw [c47b0] | rw [c47b1] | (simp only [i64_w, i32_w]; rw [c47b0]) | skip)
              have H' := Aside0.mk H
              clear H
              go_wp2
              go_meet
              case rel => exact ⟨_, (false), (by first | rfl | (simp; done) | (simp [*]; done) | (refine congrArg (Value.int _) ?_; omega) | (refine congrArg Value.bool ?_; generalize ByteArray.toList _ = z_; cases z_ <;> rfl)), H', ⟨by have := HJ37.out; first | omega | exact Nat.le_refl _⟩, ⟨by (with_reducible repeat (first | refine blk_drewN ?_ _ | refine blk_drew ?_ | refine blk_alloc ?_ _)); exact BK131.out⟩, ⟨by repeat (first | (with_reducible first | exact HB.out | apply below_alloc | apply pw_below_drewN | apply below_drew1 | refine below_set ?_ GE131.out) | exact HB.out)⟩⟩
            case rest =>
             clear HC46
             try clear c1
             try clear c2
             try clear c2b0
             try clear c2b1
             try clear p2
             try clear c3
             try clear c4
             try clear c4b0
             try clear c4b1
             try clear p5
             try clear q5
             try clear hx5
             try clear qi5
             try clear c6
             try clear c6b0
             try clear c6b1
             try clear p6
             try clear c9
             try clear c9b0
             try clear c9b1
             try clear c12
             try clear c12b0
             try clear c12b1
             try clear c16
             try clear c17
             try clear c17b0
             try clear c17b1
             try clear c18
             try clear c22
             try clear c23
             try clear c25
             try clear c25b0
             try clear c25b1
             try clear c26
             try clear c26b0
             try clear c26b1
             try clear c31
             try clear c32
             try clear c33
             try clear c34
             try clear c34b0
             try clear c34b1
             try clear c35
             try clear c35b0
             try clear c35b1
             try clear c40
             try clear c40b0
             try clear c40b1
             try clear c41
             try clear c43
             try clear c43b0
             try clear c43b1
             try clear c44
             try clear c44b0
             try clear c44b1
             try clear c47
             try clear c47b0
             try clear c47b1
             try clear c48
             try clear c48b0
             try clear c48b1
             try clear c49
             try clear c49b0
             try clear c49b1
             try clear hcz11_0
             try clear hcz11_1
             try clear hcz11_2
             try clear hcz16_0
             try clear hcz16_1
             try clear hcz16_2
             try clear hcz21_0
             try clear hcz21_1
             try clear hcz21_2
             try clear hcz30_0
             try clear hcz30_1
             try clear hcz30_2
             try clear hcz37_0
             try clear hcz37_1
             try clear hcz37_2
             try clear hcz45_0
             try clear hcz45_1
             try clear hcz45_2
             try clear hcz8_0
             try clear hcz8_1
             try clear hcz8_2
             try clear hfz11_0
             try clear hfz11_1
             try clear hfz11_2
             try clear hfz16_0
             try clear hfz16_1
             try clear hfz16_2
             try clear hfz21_0
             try clear hfz21_1
             try clear hfz21_2
             try clear hfz30_0
             try clear hfz30_1
             try clear hfz30_2
             try clear hfz37_0
             try clear hfz37_1
             try clear hfz37_2
             try clear hfz45_0
             try clear hfz45_1
             try clear hfz45_2
             try clear hfz8_0
             try clear hfz8_1
             try clear hfz8_2
             try clear p2
             try clear p5
             try clear p6
             try clear q5
             obtain ⟨kq, x69_45, rfl, HA, HJ45, BK131, HB⟩ := hcut
             cases kq with
             | zero => exact absurd HA.out (by simp [lex_one.j1])
             | succ kj45 =>
              have H := HA.out
              clear HA
              simp only [lex_one.j1] at H
              by_cases c51 : x69_45 = true
              ·subst c51
               have H1 : (if 0 ≤ (wrap64 (1 + t132)) then (if (wrap64 (1 + t132)) ≤ (a0.size : Int) then (some (8, a0.extract 0 ((wrap64 (1 + t132)) : Int).toNat, 0, (wrap64 (1 + t132)), 0)) else (none)) else (none)) = some (r1, r2, r3, r4, r5) := by rw [if_pos rfl] at H; exact H
               clear H
               have H := H1
               clear H1
               obtain ⟨ji52, hji52⟩ : ∃ j_ : Int, (wrap64 (1 + t132)) = j_ := ⟨_, rfl⟩
               replace H : (if 0 ≤ (ji52) then (if (ji52) ≤ (a0.size : Int) then (some (8, a0.extract 0 ((ji52) : Int).toNat, 0, (ji52), 0)) else (none)) else (none)) = some (r1, r2, r3, r4, r5) := by first | (rw [hji52] at H; exact H) | (simp only [hji52] at H ⊢; exact H)
               (try rw [hji52] at hji24)
               (try rw [hji52] at hji24w)
               (try rw [hji52] at hji33)
               (try rw [hji52] at hji33w)
               (try rw [hji52] at hji42)
               (try rw [hji52] at hji42w)
               have hji52w : (IntKind.i64.wrap (1 + t132)) = ji52 := (i64_w _).trans hji52
               (try clear hji24w)
               (try clear hji24)
               (try clear hji33w)
               (try clear hji33)
               (try clear hji42w)
               (try clear hji42)
               by_cases c53 : 0 ≤ (ji52)
               ·rw [if_pos c53] at H
                have c53b0 := eq_true c53
                have c53b1 : decide (0 ≤ (ji52)) = true := decide_eq_true c53
                clear c53
                by_cases c54 : (ji52) ≤ (a0.size : Int)
                ·rw [if_pos c54] at H
                 have c54b0 := eq_true c54
                 have c54b1 : decide ((ji52) ≤ (a0.size : Int)) = true := decide_eq_true c54
                 clear c54
                 simp only [Option.some.injEq, Prod.mk.injEq] at H
                 obtain ⟨rfl, rfl, rfl, rfl, rfl⟩ := H
                 have hcz55_0 : wc.cell? ⟨gb131, 0, none⟩ = some (.int .i64 0) := (blk_cell BK131.out 0).trans rfl
                 have hcz55_1 : wc.cell? ⟨gb131, 1, none⟩ = some (.string (⟨#[]⟩ : ByteArray)) := (blk_cell BK131.out 1).trans rfl
                 have hcz55_2 : wc.cell? ⟨gb131, 2, none⟩ = some (.int .i64 0) := (blk_cell BK131.out 2).trans rfl
                 have hfz55_0 := blk_frozen BK131.out 0
                 have hfz55_1 := blk_frozen BK131.out 1
                 have hfz55_2 := blk_frozen BK131.out 2
                 go_wp2
                 refine bodyPost_ret (results_ctt rfl _ _ gb131 23 #[.int .i64 8, .string (a0.extract 0 ((ji52) : Int).toNat), .int .i64 0] (0, 0) _ rfl (by (with_reducible repeat (first | refine blk_drewN ?_ _ | refine blk_drew ?_ | refine blk_alloc ?_ _)); refine blk_put (cs := #[.int .i64 8, .string (a0.extract 0 ((ji52) : Int).toNat), .int .i64 0]) ?_ 2 _ rfl; (with_reducible repeat (first | refine blk_drewN ?_ _ | refine blk_drew ?_ | refine blk_alloc ?_ _)); refine blk_put (cs := #[.int .i64 8, .string (⟨#[]⟩ : ByteArray), .int .i64 0]) ?_ 1 _ rfl; (with_reducible repeat (first | refine blk_drewN ?_ _ | refine blk_drew ?_ | refine blk_alloc ?_ _)); refine blk_put (cs := #[.int .i64 0, .string (⟨#[]⟩ : ByteArray), .int .i64 0]) ?_ 0 _ rfl; (with_reducible repeat (first | refine blk_drewN ?_ _ | refine blk_drew ?_ | refine blk_alloc ?_ _)); exact BK131.out) Tryd.underlying23 rfl (by kernel_rfl)) rfl ?_
                 exact ⟨by first | rfl | (simp [errW_none, errW_some] <;> rfl) | (simp only [← hji52]; first | rfl | (simp [errW_none, errW_some] <;> rfl)) | (refine congrArg (fun z_ => Ending.returned (Value.bool z_)) (decide_eq_decide.mpr ?_); unfold wrap64; omega) | (simp [*, errW_none, errW_some] <;> rfl), by repeat (first | (with_reducible first | exact HB.out | apply below_alloc | apply pw_below_drewN | apply below_drew1 | refine below_set ?_ GE131.out) | exact HB.out)⟩
                ·rw [if_neg c54] at H
                 exact absurd H (by simp)
               ·rw [if_neg c53] at H
                exact absurd H (by simp)
              ·replace c51 := Bool.eq_false_iff.mpr c51
               subst c51
               have H1 : (if (bt a0 0) = 58 then (some (0, (⟨#[]⟩ : ByteArray), 0, 0, 8)) else (if (bt a0 0) = 35 then (some (0, (⟨#[]⟩ : ByteArray), 0, 0, 8)) else (some (0, (⟨#[]⟩ : ByteArray), 0, 0, 50)))) = some (r1, r2, r3, r4, r5) := by rw [if_neg (show ¬ (false = true) by decide)] at H; exact H
               clear H
               have H := H1
               clear H1
               by_cases c56 : (bt a0 0) = 58
               ·rw [if_pos c56] at H
                have c56b0 : ((bt a0 0) == 58) = true := beq_iff_eq.mpr c56
                have c56b1 : ((bt a0 0) != 58) = false := bne_eq_false_iff_eq.mpr c56
                clear c56
                simp only [Option.some.injEq, Prod.mk.injEq] at H
                obtain ⟨rfl, rfl, rfl, rfl, rfl⟩ := H
                have hcz57_0 : wc.cell? ⟨gb131, 0, none⟩ = some (.int .i64 0) := (blk_cell BK131.out 0).trans rfl
                have hcz57_1 : wc.cell? ⟨gb131, 1, none⟩ = some (.string (⟨#[]⟩ : ByteArray)) := (blk_cell BK131.out 1).trans rfl
                have hcz57_2 : wc.cell? ⟨gb131, 2, none⟩ = some (.int .i64 0) := (blk_cell BK131.out 2).trans rfl
                have hfz57_0 := blk_frozen BK131.out 0
                have hfz57_1 := blk_frozen BK131.out 1
                have hfz57_2 := blk_frozen BK131.out 2
                go_wp2
                refine bodyPost_ret (results_ctt rfl _ _ gb131 23 #[.int .i64 0, .string (⟨#[]⟩ : ByteArray), .int .i64 0] (0, 0) _ rfl (by (with_reducible repeat (first | refine blk_drewN ?_ _ | refine blk_drew ?_ | refine blk_alloc ?_ _)); refine blk_put (cs := #[.int .i64 0, .string (⟨#[]⟩ : ByteArray), .int .i64 0]) ?_ 2 _ rfl; (with_reducible repeat (first | refine blk_drewN ?_ _ | refine blk_drew ?_ | refine blk_alloc ?_ _)); refine blk_put (cs := #[.int .i64 0, .string (⟨#[]⟩ : ByteArray), .int .i64 0]) ?_ 1 _ rfl; (with_reducible repeat (first | refine blk_drewN ?_ _ | refine blk_drew ?_ | refine blk_alloc ?_ _)); refine blk_put (cs := #[.int .i64 0, .string (⟨#[]⟩ : ByteArray), .int .i64 0]) ?_ 0 _ rfl; (with_reducible repeat (first | refine blk_drewN ?_ _ | refine blk_drew ?_ | refine blk_alloc ?_ _)); exact BK131.out) Tryd.underlying23 rfl (by kernel_rfl)) rfl ?_
                exact ⟨by first | rfl | (simp [errW_none, errW_some] <;> rfl) | (refine congrArg (fun z_ => Ending.returned (Value.bool z_)) (decide_eq_decide.mpr ?_); unfold wrap64; omega) | (simp [*, errW_none, errW_some] <;> rfl), by repeat (first | (with_reducible first | exact HB.out | apply below_alloc | apply pw_below_drewN | apply below_drew1 | refine below_set ?_ GE131.out) | exact HB.out)⟩
               ·rw [if_neg c56] at H
                have c56b0 : ((bt a0 0) == 58) = false := beq_eq_false_iff_ne.mpr c56
                have c56b1 : ((bt a0 0) != 58) = true := bne_iff_ne.mpr c56
                by_cases c58 : (bt a0 0) = 35
                ·rw [if_pos c58] at H
                 have c58b0 : ((bt a0 0) == 35) = true := beq_iff_eq.mpr c58
                 have c58b1 : ((bt a0 0) != 35) = false := bne_eq_false_iff_eq.mpr c58
                 clear c58
                 simp only [Option.some.injEq, Prod.mk.injEq] at H
                 obtain ⟨rfl, rfl, rfl, rfl, rfl⟩ := H
                 have hcz59_0 : wc.cell? ⟨gb131, 0, none⟩ = some (.int .i64 0) := (blk_cell BK131.out 0).trans rfl
                 have hcz59_1 : wc.cell? ⟨gb131, 1, none⟩ = some (.string (⟨#[]⟩ : ByteArray)) := (blk_cell BK131.out 1).trans rfl
                 have hcz59_2 : wc.cell? ⟨gb131, 2, none⟩ = some (.int .i64 0) := (blk_cell BK131.out 2).trans rfl
                 have hfz59_0 := blk_frozen BK131.out 0
                 have hfz59_1 := blk_frozen BK131.out 1
                 have hfz59_2 := blk_frozen BK131.out 2
                 go_wp2
                 refine bodyPost_ret (results_ctt rfl _ _ gb131 23 #[.int .i64 0, .string (⟨#[]⟩ : ByteArray), .int .i64 0] (0, 0) _ rfl (by (with_reducible repeat (first | refine blk_drewN ?_ _ | refine blk_drew ?_ | refine blk_alloc ?_ _)); refine blk_put (cs := #[.int .i64 0, .string (⟨#[]⟩ : ByteArray), .int .i64 0]) ?_ 2 _ rfl; (with_reducible repeat (first | refine blk_drewN ?_ _ | refine blk_drew ?_ | refine blk_alloc ?_ _)); refine blk_put (cs := #[.int .i64 0, .string (⟨#[]⟩ : ByteArray), .int .i64 0]) ?_ 1 _ rfl; (with_reducible repeat (first | refine blk_drewN ?_ _ | refine blk_drew ?_ | refine blk_alloc ?_ _)); refine blk_put (cs := #[.int .i64 0, .string (⟨#[]⟩ : ByteArray), .int .i64 0]) ?_ 0 _ rfl; (with_reducible repeat (first | refine blk_drewN ?_ _ | refine blk_drew ?_ | refine blk_alloc ?_ _)); exact BK131.out) Tryd.underlying23 rfl (by kernel_rfl)) rfl ?_
                 exact ⟨by first | rfl | (simp [errW_none, errW_some] <;> rfl) | (refine congrArg (fun z_ => Ending.returned (Value.bool z_)) (decide_eq_decide.mpr ?_); unfold wrap64; omega) | (simp [*, errW_none, errW_some] <;> rfl), by repeat (first | (with_reducible first | exact HB.out | apply below_alloc | apply pw_below_drewN | apply below_drew1 | refine below_set ?_ GE131.out) | exact HB.out)⟩
                ·rw [if_neg c58] at H
                 have c58b0 : ((bt a0 0) == 35) = false := beq_eq_false_iff_ne.mpr c58
                 have c58b1 : ((bt a0 0) != 35) = true := bne_iff_ne.mpr c58
                 simp only [Option.some.injEq, Prod.mk.injEq] at H
                 obtain ⟨rfl, rfl, rfl, rfl, rfl⟩ := H
                 have hcz60_0 : wc.cell? ⟨gb131, 0, none⟩ = some (.int .i64 0) := (blk_cell BK131.out 0).trans rfl
                 have hcz60_1 : wc.cell? ⟨gb131, 1, none⟩ = some (.string (⟨#[]⟩ : ByteArray)) := (blk_cell BK131.out 1).trans rfl
                 have hcz60_2 : wc.cell? ⟨gb131, 2, none⟩ = some (.int .i64 0) := (blk_cell BK131.out 2).trans rfl
                 have hfz60_0 := blk_frozen BK131.out 0
                 have hfz60_1 := blk_frozen BK131.out 1
                 have hfz60_2 := blk_frozen BK131.out 2
                 go_wp2
                 refine bodyPost_ret (results_ctt rfl _ _ gb131 23 #[.int .i64 0, .string (⟨#[]⟩ : ByteArray), .int .i64 0] (0, 0) _ rfl (by (with_reducible repeat (first | refine blk_drewN ?_ _ | refine blk_drew ?_ | refine blk_alloc ?_ _)); refine blk_put (cs := #[.int .i64 0, .string (⟨#[]⟩ : ByteArray), .int .i64 0]) ?_ 2 _ rfl; (with_reducible repeat (first | refine blk_drewN ?_ _ | refine blk_drew ?_ | refine blk_alloc ?_ _)); refine blk_put (cs := #[.int .i64 0, .string (⟨#[]⟩ : ByteArray), .int .i64 0]) ?_ 1 _ rfl; (with_reducible repeat (first | refine blk_drewN ?_ _ | refine blk_drew ?_ | refine blk_alloc ?_ _)); refine blk_put (cs := #[.int .i64 0, .string (⟨#[]⟩ : ByteArray), .int .i64 0]) ?_ 0 _ rfl; (with_reducible repeat (first | refine blk_drewN ?_ _ | refine blk_drew ?_ | refine blk_alloc ?_ _)); exact BK131.out) Tryd.underlying23 rfl (by kernel_rfl)) rfl ?_
                 exact ⟨by first | rfl | (simp [errW_none, errW_some] <;> rfl) | (refine congrArg (fun z_ => Ending.returned (Value.bool z_)) (decide_eq_decide.mpr ?_); unfold wrap64; omega) | (simp [*, errW_none, errW_some] <;> rfl), by repeat (first | (with_reducible first | exact HB.out | apply below_alloc | apply pw_below_drewN | apply below_drew1 | refine below_set ?_ GE131.out) | exact HB.out)⟩
  ·rw [if_neg c4] at H
   exact absurd H (by simp)
 ·rw [if_neg c2] at H
  exact absurd H (by simp)

/-! ### lex_Lex: function 12 -/
def lex_Lex.l0 : Nat → ByteArray → List (S23) → Int → Option ((List (S23)) × Int × Int)
 | 0, _, _, _ => none
 | k + 1, x0, x5, x6 => if 0 ≤ x6 then (if x6 ≤ (x0.size : Int) then ((lex_skip.f k (x0.extract (x6 : Int).toNat x0.size)).bind fun bt151 => (if bt151.2 = true then (some (x5, 50, wrap64 (x6 + bt151.1))) else (if (wrap64 (x6 + bt151.1)) = (x0.size : Int) then (some (x5, 0, wrap64 (x6 + bt151.1))) else (if (x5.length : Int) = 4000 then (some (x5, 2, wrap64 (x6 + bt151.1))) else (if 0 ≤ (wrap64 (x6 + bt151.1)) then (if (wrap64 (x6 + bt151.1)) ≤ (x0.size : Int) then ((lex_one.f k (x0.extract ((wrap64 (x6 + bt151.1)) : Int).toNat x0.size)).bind fun bt153 => (if bt153.2.2.2.2 = 0 then (if x5.length < 4398046511104 then (lex_Lex.l0 k x0 (x5 ++ [(⟨bt153.1, bt153.2.1, wrap64 (x6 + bt151.1)⟩ : S23)]) (wrap64 ((wrap64 (x6 + bt151.1)) + bt153.2.2.2.1))) else (none)) else (some (x5, bt153.2.2.2.2, wrap64 ((wrap64 (x6 + bt151.1)) + bt153.2.2.2.1))))) else (none)) else (none)))))) else (none)) else (none)
def lex_Lex.f (k : Nat) (a0 : ByteArray) : Option ((List (S23)) × Int × Int) := if (a0.size : Int) > 16384 then (some (([] : List (S23)), 2, 0)) else (lex_Lex.l0 k a0 ([] : List (S23)) 0)
set_option maxHeartbeats 8000000 in
set_option maxRecDepth 100000 in
theorem lex_Lex.calls (k : Nat) (a0 : ByteArray) (r1 : List (S23)) (r2 : Int) (r3 : Int) (w : World) (h : lex_Lex.f k a0 = some (r1, r2, r3)) :
  Calls Tryd.prog 12 #[.string a0] w fun e w' => ∃ v0_ : Value, e = .returned (.tuple #[v0_, .int .i64 r2, .int .i64 r3]) ∧ Kd.R k23 23 w' w.heap.size (fun _ => True) v0_ r1 ∧ Below w.heap.size w w' := by
 have hu23 := Tryd.underlying23
 have HB := Aside0.mk (Below.refl w.heap.size w)
 have H : (if (a0.size : Int) > 16384 then (some (([] : List (S23)), 2, 0)) else (lex_Lex.l0 k a0 ([] : List (S23)) 0)) = some (r1, r2, r3) := h
 clear h
 by_cases c2 : (a0.size : Int) > 16384
 ·rw [if_pos c2] at H
  have c2b0 : decide (16384 < (a0.size : Int)) = true := decide_eq_true c2
  have c2b1 : decide (16384 < a0.size) = true := decide_eq_true (by omega)
  clear c2
  simp only [Option.some.injEq, Prod.mk.injEq] at H
  obtain ⟨rfl, rfl, rfl⟩ := H
  go_enter Tryd.func12, Tryd.ntmps12
  go_wp2
  go_ret3
  exact ⟨_, by first | rfl | (simp [errW_none, errW_some] <;> rfl) | (simp [*, errW_none, errW_some] <;> rfl), by first | exact Kd.R_nil _ _ _ _ _ | exact Kd.N_nil _ _ _ _ _ | exact Kd.V_nil _ _ _ _ _ | exact Kd.Q_nil _ _ _ _ _ | exact Kd.S_nil _ _ _ _ _, by repeat (first | (with_reducible first | exact HB.out | apply below_alloc | apply pw_below_drewN | apply below_drew1) | exact HB.out)⟩
 ·rw [if_neg c2] at H
  have c2b0 : decide (16384 < (a0.size : Int)) = false := decide_eq_false c2
  have c2b1 : decide (16384 < a0.size) = false := decide_eq_false (by omega)
  clear c2
  have H' := Aside0.mk H
  clear H
  go_enter Tryd.func12, Tryd.ntmps12
  go_wp2
  go_loopg [5, 6] k (fun kq v5 v6 w' => ∃ (x5_1 : List (S23)) (x6_1 : Int), v6 = .int .i64 x6_1 ∧ Aside0 (lex_Lex.l0 kq a0 x5_1 x6_1 = some (r1, r2, r3)) ∧ Aside0 (kq ≤ k) ∧ Aside0 (Kd.R k23 23 w' w.heap.size (fun _ => True) v5 x5_1) ∧ Aside0 (Below w.heap.size w w'))
  case atStart => exact ⟨(([] : List (S23))), (0), (by first | rfl | (simp; done) | (simp [*]; done) | (refine congrArg (Value.int _) ?_; omega) | (refine congrArg Value.bool ?_; generalize ByteArray.toList _ = z_; cases z_ <;> rfl)), H', ⟨Nat.le_refl _⟩, ⟨by first | exact Kd.R_nil _ _ _ _ _ | exact Kd.N_nil _ _ _ _ _ | exact Kd.V_nil _ _ _ _ _ | exact Kd.Q_nil _ _ _ _ _ | exact Kd.S_nil _ _ _ _ _⟩, ⟨by repeat (first | (with_reducible first | exact HB.out | apply below_alloc | apply pw_below_drewN | apply below_drew1) | exact HB.out)⟩⟩
  case round =>
   clear H'
   try clear c1
   try clear c2
   try clear c2b0
   try clear c2b1
   try clear p2
   obtain ⟨x5_1, x6_1, rfl, HA, HK1, HO_5, HB⟩ := hrel
   cases gk with
   | zero => exact absurd HA.out (by simp [lex_Lex.l0])
   | succ k1 =>
    have H := HA.out
    clear HA
    simp only [lex_Lex.l0] at H
    by_cases c3 : 0 ≤ x6_1
    ·rw [if_pos c3] at H
     have c3b0 := eq_true c3
     have c3b1 : decide (0 ≤ x6_1) = true := decide_eq_true c3
     clear c3
     by_cases c4 : x6_1 ≤ (a0.size : Int)
     ·rw [if_pos c4] at H
      have c4b0 := eq_true c4
      have c4b1 : decide (x6_1 ≤ (a0.size : Int)) = true := decide_eq_true c4
      clear c4
      replace H := Option.bind_eq_some_iff.mp H
      obtain ⟨⟨t151, t152⟩, A50, H⟩ := H
      replace H : (if t152 = true then (some (x5_1, 50, wrap64 (x6_1 + t151))) else (if (wrap64 (x6_1 + t151)) = (a0.size : Int) then (some (x5_1, 0, wrap64 (x6_1 + t151))) else (if (x5_1.length : Int) = 4000 then (some (x5_1, 2, wrap64 (x6_1 + t151))) else (if 0 ≤ (wrap64 (x6_1 + t151)) then (if (wrap64 (x6_1 + t151)) ≤ (a0.size : Int) then ((lex_one.f k1 (a0.extract ((wrap64 (x6_1 + t151)) : Int).toNat a0.size)).bind fun bt153 => (if bt153.2.2.2.2 = 0 then (if x5_1.length < 4398046511104 then (lex_Lex.l0 k1 a0 (x5_1 ++ [(⟨bt153.1, bt153.2.1, wrap64 (x6_1 + t151)⟩ : S23)]) (wrap64 ((wrap64 (x6_1 + t151)) + bt153.2.2.2.1))) else (none)) else (some (x5_1, bt153.2.2.2.2, wrap64 ((wrap64 (x6_1 + t151)) + bt153.2.2.2.1))))) else (none)) else (none))))) = some (r1, r2, r3) := H
      have A5 := Aside0.mk A50
      clear A50
      by_cases c6 : t152 = true
      ·subst c6
       have H1 : (some (x5_1, 50, wrap64 (x6_1 + t151))) = some (r1, r2, r3) := by rw [if_pos rfl] at H; exact H
       clear H
       have H := H1
       clear H1
       simp only [Option.some.injEq, Prod.mk.injEq] at H
       obtain ⟨rfl, rfl, rfl⟩ := H
       go_wp2_with (first | ((with_reducible refine gate_callee (f := 21) rfl ?_); refine goesL_ (some 18) rfl rfl Tryd.func21 (by kernel_rfl) rfl #[.string (a0.extract (x6_1 : Int).toNat a0.size)] rfl (by (try simp only [List.map_toArray, List.map_cons, List.map_nil]); first | done | rfl | (simp only [List.length_drop, List.length_take]; rfl)) ?_; (with_reducible refine (lex_skip.calls k1 (a0.extract (x6_1 : Int).toNat a0.size) t151 true _ A5.out).mono ?_); rintro e w' ⟨rfl, ⟨nd, rfl⟩⟩; refine ⟨_, rfl, ?_⟩))
       go_ret3
       exact ⟨_, by first | rfl | (simp [errW_none, errW_some] <;> rfl) | (simp [*, errW_none, errW_some] <;> rfl), by (with_reducible repeat (first | apply Kd.R_alloc | apply Kd.R_drewN | apply Kd.R_drew)); exact HO_5.out, by repeat (first | (with_reducible first | exact HB.out | apply below_alloc | apply pw_below_drewN | apply below_drew1) | exact HB.out)⟩
      ·replace c6 := Bool.eq_false_iff.mpr c6
       subst c6
       have H1 : (if (wrap64 (x6_1 + t151)) = (a0.size : Int) then (some (x5_1, 0, wrap64 (x6_1 + t151))) else (if (x5_1.length : Int) = 4000 then (some (x5_1, 2, wrap64 (x6_1 + t151))) else (if 0 ≤ (wrap64 (x6_1 + t151)) then (if (wrap64 (x6_1 + t151)) ≤ (a0.size : Int) then ((lex_one.f k1 (a0.extract ((wrap64 (x6_1 + t151)) : Int).toNat a0.size)).bind fun bt153 => (if bt153.2.2.2.2 = 0 then (if x5_1.length < 4398046511104 then (lex_Lex.l0 k1 a0 (x5_1 ++ [(⟨bt153.1, bt153.2.1, wrap64 (x6_1 + t151)⟩ : S23)]) (wrap64 ((wrap64 (x6_1 + t151)) + bt153.2.2.2.1))) else (none)) else (some (x5_1, bt153.2.2.2.2, wrap64 ((wrap64 (x6_1 + t151)) + bt153.2.2.2.1))))) else (none)) else (none)))) = some (r1, r2, r3) := by rw [if_neg (show ¬ (false = true) by decide)] at H; exact H
       clear H
       have H := H1
       clear H1
       by_cases c7 : (wrap64 (x6_1 + t151)) = (a0.size : Int)
       ·rw [if_pos c7] at H
        have c7b0 : ((wrap64 (x6_1 + t151)) == (a0.size : Int)) = true := beq_iff_eq.mpr c7
        have c7b1 : ((wrap64 (x6_1 + t151)) != (a0.size : Int)) = false := bne_eq_false_iff_eq.mpr c7
        clear c7
        simp only [Option.some.injEq, Prod.mk.injEq] at H
        obtain ⟨rfl, rfl, rfl⟩ := H
        go_wp2_with (first | ((with_reducible refine gate_callee (f := 21) rfl ?_); refine goesL_ (some 18) rfl rfl Tryd.func21 (by kernel_rfl) rfl #[.string (a0.extract (x6_1 : Int).toNat a0.size)] rfl (by (try simp only [List.map_toArray, List.map_cons, List.map_nil]); first | done | rfl | (simp only [List.length_drop, List.length_take]; rfl)) ?_; (with_reducible refine (lex_skip.calls k1 (a0.extract (x6_1 : Int).toNat a0.size) t151 false _ A5.out).mono ?_); rintro e w' ⟨rfl, ⟨nd, rfl⟩⟩; refine ⟨_, rfl, ?_⟩))
        go_ret3
        exact ⟨_, by first | rfl | (simp [errW_none, errW_some] <;> rfl) | (simp [*, errW_none, errW_some] <;> rfl), by (with_reducible repeat (first | apply Kd.R_alloc | apply Kd.R_drewN | apply Kd.R_drew)); exact HO_5.out, by repeat (first | (with_reducible first | exact HB.out | apply below_alloc | apply pw_below_drewN | apply below_drew1) | exact HB.out)⟩
       ·rw [if_neg c7] at H
        have c7b0 : ((wrap64 (x6_1 + t151)) == (a0.size : Int)) = false := beq_eq_false_iff_ne.mpr c7
        have c7b1 : ((wrap64 (x6_1 + t151)) != (a0.size : Int)) = true := bne_iff_ne.mpr c7
        by_cases c8 : (x5_1.length : Int) = 4000
        ·rw [if_pos c8] at H
         have c8b0 : ((x5_1.length : Int) == 4000) = true := beq_iff_eq.mpr c8
         have c8b1 : ((x5_1.length : Int) != 4000) = false := bne_eq_false_iff_eq.mpr c8
         clear c8
         simp only [Option.some.injEq, Prod.mk.injEq] at H
         obtain ⟨rfl, rfl, rfl⟩ := H
         go_wp2_with (first | ((with_reducible refine gate_callee (f := 21) rfl ?_); refine goesL_ (some 18) rfl rfl Tryd.func21 (by kernel_rfl) rfl #[.string (a0.extract (x6_1 : Int).toNat a0.size)] rfl (by (try simp only [List.map_toArray, List.map_cons, List.map_nil]); first | done | rfl | (simp only [List.length_drop, List.length_take]; rfl)) ?_; (with_reducible refine (lex_skip.calls k1 (a0.extract (x6_1 : Int).toNat a0.size) t151 false _ A5.out).mono ?_); rintro e w' ⟨rfl, ⟨nd, rfl⟩⟩; refine ⟨_, rfl, ?_⟩; obtain ⟨Ao9, co9, eo9⟩ := Kd.R_slice HO_5.out; subst eo9))
         go_ret3
         exact ⟨_, by first | rfl | (simp [errW_none, errW_some] <;> rfl) | (simp [*, errW_none, errW_some] <;> rfl), by (with_reducible repeat (first | apply Kd.R_alloc | apply Kd.R_drewN | apply Kd.R_drew)); exact HO_5.out, by repeat (first | (with_reducible first | exact HB.out | apply below_alloc | apply pw_below_drewN | apply below_drew1) | exact HB.out)⟩
        ·rw [if_neg c8] at H
         have c8b0 : ((x5_1.length : Int) == 4000) = false := beq_eq_false_iff_ne.mpr c8
         have c8b1 : ((x5_1.length : Int) != 4000) = true := bne_iff_ne.mpr c8
         obtain ⟨ji10, hji10⟩ : ∃ j_ : Int, (wrap64 (x6_1 + t151)) = j_ := ⟨_, rfl⟩
         replace H : (if 0 ≤ (ji10) then (if (ji10) ≤ (a0.size : Int) then ((lex_one.f k1 (a0.extract ((ji10) : Int).toNat a0.size)).bind fun bt153 => (if bt153.2.2.2.2 = 0 then (if x5_1.length < 4398046511104 then (lex_Lex.l0 k1 a0 (x5_1 ++ [(⟨bt153.1, bt153.2.1, ji10⟩ : S23)]) (wrap64 ((ji10) + bt153.2.2.2.1))) else (none)) else (some (x5_1, bt153.2.2.2.2, wrap64 ((ji10) + bt153.2.2.2.1))))) else (none)) else (none)) = some (r1, r2, r3) := by first | (rw [hji10] at H; exact H) | (simp only [hji10] at H ⊢; exact H)
         (try rw [hji10] at c7b0)
         (try rw [hji10] at c7b1)
         (try rw [hji10] at A5)
         have hji10w : (IntKind.i64.wrap (x6_1 + t151)) = ji10 := (i64_w _).trans hji10
         by_cases c11 : 0 ≤ (ji10)
         ·rw [if_pos c11] at H
          have c11b0 := eq_true c11
          have c11b1 : decide (0 ≤ (ji10)) = true := decide_eq_true c11
          clear c11
          by_cases c12 : (ji10) ≤ (a0.size : Int)
          ·rw [if_pos c12] at H
           have c12b0 := eq_true c12
           have c12b1 : decide ((ji10) ≤ (a0.size : Int)) = true := decide_eq_true c12
           clear c12
           replace H := Option.bind_eq_some_iff.mp H
           obtain ⟨⟨t153, t154, t155, t156, t157⟩, A130, H⟩ := H
           replace H : (if t157 = 0 then (if x5_1.length < 4398046511104 then (lex_Lex.l0 k1 a0 (x5_1 ++ [(⟨t153, t154, ji10⟩ : S23)]) (wrap64 ((ji10) + t156))) else (none)) else (some (x5_1, t157, wrap64 ((ji10) + t156)))) = some (r1, r2, r3) := H
           have A13 := Aside0.mk A130
           clear A130
           by_cases c14 : t157 = 0
           ·rw [if_pos c14] at H
            have c14b0 : (t157 == 0) = true := beq_iff_eq.mpr c14
            have c14b1 : (t157 != 0) = false := bne_eq_false_iff_eq.mpr c14
            clear c14
            by_cases c15 : x5_1.length < 4398046511104
            ·rw [if_pos c15] at H
             have LMc15 := Aside0.mk c15
             clear c15
             obtain ⟨y159, hy159⟩ : ∃ y_ : List (S23), y_ = (x5_1 ++ [(⟨t153, t154, ji10⟩ : S23)]) := ⟨_, rfl⟩
             replace H : (lex_Lex.l0 k1 a0 y159 (wrap64 ((ji10) + t156))) = some (r1, r2, r3) := by first | (rw [hy159]; with_reducible exact H) | (have H2_ := (Option.bind_some _ _).symm.trans H; rw [hy159]; with_reducible exact H2_) | (have H2_ := (Option.bind_some _ _).symm.trans H; with_reducible exact H2_) | with_reducible exact H | (rw [hy159]; exact H) | exact H
             have Ny159 := Aside0.mk hy159
             clear hy159
             have H' := Aside0.mk H
             clear H
             go_wp2_with (first | ((with_reducible refine gate_callee (f := 21) rfl ?_); refine goesL_ (some 18) rfl rfl Tryd.func21 (by kernel_rfl) rfl #[.string (a0.extract (x6_1 : Int).toNat a0.size)] rfl (by (try simp only [List.map_toArray, List.map_cons, List.map_nil]); first | done | rfl | (simp only [List.length_drop, List.length_take]; rfl)) ?_; (with_reducible refine (lex_skip.calls k1 (a0.extract (x6_1 : Int).toNat a0.size) t151 false _ A5.out).mono ?_); rintro e w' ⟨rfl, ⟨nd, rfl⟩⟩; refine ⟨_, rfl, ?_⟩; (try (rw [drewN_self wr]; generalize hq_ : World.drewN wr _ = wr; have n0_ : Aside0 (Kd.R k23 23 wr w.heap.size (fun _ => True) u5 x5_1) := ⟨by rw [← hq_]; exact (by (with_reducible repeat (first | apply Kd.R_alloc | apply Kd.R_drewN | apply Kd.R_drew)); exact HO_5.out)⟩; have n1_ : Aside0 (Below w.heap.size w wr) := ⟨by rw [← hq_]; exact (by repeat (first | (with_reducible first | exact HB.out | apply below_alloc | apply pw_below_drewN | apply below_drew1) | exact HB.out))⟩; clear HO_5 HB hq_; have HO_5 := n0_; have HB := n1_; clear n0_ n1_)); obtain ⟨Ao16, co16, eo16⟩ := Kd.R_slice HO_5.out; subst eo16) | ((with_reducible refine gate_callee (f := 22) rfl ?_); refine goesL_ (some 45) rfl rfl Tryd.func22 (by kernel_rfl) rfl #[.string (a0.extract ((ji10) : Int).toNat a0.size)] rfl (by (try simp only [List.map_toArray, List.map_cons, List.map_nil]); first | done | (simp only [hji10]; rfl) | rfl | (simp only [List.length_drop, List.length_take]; rfl)) ?_; (with_reducible refine (lex_one.calls k1 (a0.extract ((ji10) : Int).toNat a0.size) t153 t154 t155 t156 t157 _ A13.out).mono ?_); rintro e w17 ⟨rfl, hb⟩; refine ⟨_, rfl, ?_⟩; have n0_ := Aside0.mk (Kd.R_below (by (with_reducible repeat (first | apply Kd.R_alloc | apply Kd.R_drewN | apply Kd.R_drew)); exact HO_5.out) hb); have n1_ := Aside0.mk (below_step (by repeat (first | (with_reducible first | exact HB.out | apply below_alloc | apply pw_below_drewN | apply below_drew1) | exact HB.out)) hb); clear HO_5; clear HB; have HO_5 := n0_; have HB := n1_; clear n0_ n1_; (try clear hb); (try clear hb2); (try clear hk); (try clear hi)) | ((with_reducible refine gate_dst (N := 9) rfl ?_); refine box_event ?hg (N := 9) ?hd (cs := #[.int .i64 0, .string (⟨#[]⟩ : ByteArray), .int .i64 0]) (t := 23) ?hr ?_; (case hd => rfl); (case hg => rfl); (case hr => first | (go_simp; done) | (go_simp; rfl) | (go_simp; simp only [IntKind.wrap_u8, IntKind.wrap_u32]; congr 4; omega) | (go_simp; simp only [IntKind.wrap_u8, IntKind.wrap_u32]; congr 5; omega)); intro gb158 hg w18 hbox hb; have n0_ := Aside0.mk (Kd.R_below (Kd.R_elderB (by (with_reducible repeat (first | apply Kd.R_alloc | apply Kd.R_drewN | apply Kd.R_drew)); exact HO_5.out) gb158 (Nat.le_of_eq hg.symm)) hb); have n1_ := Aside0.mk (below_step (by repeat (first | (with_reducible first | exact HB.out | apply below_alloc | apply pw_below_drewN | apply below_drew1) | exact HB.out)) hb); have n2_ := Aside0.mk (hbox); have n3_ := Aside0.mk ((by rw [hg]; exact (below_size (by repeat (first | (with_reducible first | exact HB.out | apply below_alloc | apply pw_below_drewN | apply below_drew1) | exact HB.out))) : w.heap.size ≤ gb158)); have n4_ := Aside0.mk ((by rw [hg]; exact (below_size (by repeat (first | (with_reducible first | exact HB.out | apply below_alloc | apply pw_below_drewN | apply below_drew1) | exact HB.out))) : w.heap.size ≤ gb158)); clear HO_5; clear HB; have HO_5 := n0_; have HB := n1_; have BK158 := n2_; have GW158 := n3_; have GE158 := n4_; clear n0_ n1_ n2_ n3_ n4_; clear hb hbox hg; have hcz19_0 : w18.cell? ⟨gb158, 0, none⟩ = some (.int .i64 0) := (blk_cell BK158.out 0).trans rfl; have hcz19_1 : w18.cell? ⟨gb158, 1, none⟩ = some (.string (⟨#[]⟩ : ByteArray)) := (blk_cell BK158.out 1).trans rfl; have hcz19_2 : w18.cell? ⟨gb158, 2, none⟩ = some (.int .i64 0) := (blk_cell BK158.out 2).trans rfl; have hfz19_0 := blk_frozen BK158.out 0; have hfz19_1 := blk_frozen BK158.out 1; have hfz19_2 := blk_frozen BK158.out 2) | ((with_reducible refine gate_builtin (b := .append) (xs := #[.tmp 58, .tmp 60]) rfl ?_); at_builtin; refine Kd.R_append k23 (w0 := w) w.heap.size rfl (.tmp 58) (.tmp 60) 30 23 (.agg #[(.int .i64 0), (.string ⟨#[]⟩), (.int .i64 0)]) 32 rfl Tryd.underlying30 info23 rfl (by decide) (by omega) (.slice Ao16 x5_1.length co16) x5_1 (⟨t153, t154, ji10⟩ : S23) [.int .i64 t153, .string t154, .int .i64 ji10] (fun k_ => k_ ≠ gb158) (fun _ => False) rfl (by first | (go_simp; done) | (go_simp; rfl)) ?aP (fun _ hk => hk.elim) ?aF ?aO ?aB ?aS ?aL ?_; (case aP => exact k23_mkM _ _ _ (⟨t153, t154, ji10⟩ : S23)); (case aB => exact (by repeat (first | (with_reducible first | exact HB.out | apply below_alloc | apply pw_below_drewN | apply below_drew1 | refine below_set ?_ GE158.out) | exact HB.out))); (case aF => exact (fun k_ hk => Kd.freshB (g := gb158) (o := .cells #[.int .i64 t153, .string t154, .int .i64 ji10] 23 (0, 0)) (by (with_reducible repeat (first | refine blk_drewN ?_ _ | refine blk_drew ?_ | refine blk_alloc ?_ _)); refine blk_put (cs := #[.int .i64 t153, .string t154, .int .i64 t155]) ?_ 2 _ rfl; (with_reducible repeat (first | refine blk_drewN ?_ _ | refine blk_drew ?_ | refine blk_alloc ?_ _)); refine blk_put (cs := #[.int .i64 t153, .string t154, .int .i64 0]) ?_ 2 _ rfl; (with_reducible repeat (first | refine blk_drewN ?_ _ | refine blk_drew ?_ | refine blk_alloc ?_ _)); refine blk_put (cs := #[.int .i64 t153, .string (⟨#[]⟩ : ByteArray), .int .i64 0]) ?_ 1 _ rfl; (with_reducible repeat (first | refine blk_drewN ?_ _ | refine blk_drew ?_ | refine blk_alloc ?_ _)); refine blk_put (cs := #[.int .i64 0, .string (⟨#[]⟩ : ByteArray), .int .i64 0]) ?_ 0 _ rfl; (with_reducible repeat (first | refine blk_drewN ?_ _ | refine blk_drew ?_ | refine blk_alloc ?_ _)); exact BK158.out) k_ hk)); (case aO => exact (by (with_reducible repeat (first | apply Kd.R_alloc | apply Kd.R_drewN | apply Kd.R_drew)); exact Kd.R_mono (Kd.R_far (p := ⟨gb158, 2, none⟩) (Kd.R_far (p := ⟨gb158, 2, none⟩) (Kd.R_far (p := ⟨gb158, 1, none⟩) (Kd.R_far (p := ⟨gb158, 0, none⟩) (Kd.R_mono HO_5.out (fun k_ hk => (⟨hk, hk.2⟩ : _ ∧ k_ ≠ gb158))) (fun _ hk => hk.2) (.int .i64 t153)) (fun _ hk => hk.2) (.string t154)) (fun _ hk => hk.2) (.int .i64 t155)) (fun _ hk => hk.2) (.int .i64 ji10)) (fun _ hk => hk.1.2))); (case aS => exact (below_size (by repeat (first | (with_reducible first | exact HB.out | apply below_alloc | apply pw_below_drewN | apply below_drew1 | refine below_set ?_ GE158.out) | exact HB.out)))); (case aL => have := LMc15.out; omega); intro v160 w20 ho hb hg hat; rw [← Ny159.out] at ho; have n0_ := Aside0.mk (blk_grown (g := gb158) (o := .cells #[.int .i64 t153, .string t154, .int .i64 ji10] 23 (0, 0)) (by (with_reducible repeat (first | refine blk_drewN ?_ _ | refine blk_drew ?_ | refine blk_alloc ?_ _)); refine blk_put (cs := #[.int .i64 t153, .string t154, .int .i64 t155]) ?_ 2 _ rfl; (with_reducible repeat (first | refine blk_drewN ?_ _ | refine blk_drew ?_ | refine blk_alloc ?_ _)); refine blk_put (cs := #[.int .i64 t153, .string t154, .int .i64 0]) ?_ 2 _ rfl; (with_reducible repeat (first | refine blk_drewN ?_ _ | refine blk_drew ?_ | refine blk_alloc ?_ _)); refine blk_put (cs := #[.int .i64 t153, .string (⟨#[]⟩ : ByteArray), .int .i64 0]) ?_ 1 _ rfl; (with_reducible repeat (first | refine blk_drewN ?_ _ | refine blk_drew ?_ | refine blk_alloc ?_ _)); refine blk_put (cs := #[.int .i64 0, .string (⟨#[]⟩ : ByteArray), .int .i64 0]) ?_ 0 _ rfl; (with_reducible repeat (first | refine blk_drewN ?_ _ | refine blk_drew ?_ | refine blk_alloc ?_ _)); exact BK158.out) hg (Kd.R_away HO_5.out (fun _ hk => hk.2))); have n1_ := Aside0.mk (hb); have n2_ := Aside0.mk (ho); clear BK158; clear HB; clear HO_5; have BK158 := n0_; have HB := n1_; have HO161 := n2_; clear n0_ n1_ n2_; clear ho hb hg hat))
             go_roundg k1
             case measure => have := HK1.out; omega
             case rel => exact ⟨(y159), (wrap64 ((ji10) + t156)), (by first | rfl | (simp; done) | (simp only [← hji10] <;> (first | rfl | simp)) | (simp [*]; done)), H', ⟨by have := HK1.out; omega⟩, ⟨by (with_reducible repeat (first | apply Kd.R_alloc | apply Kd.R_drewN | apply Kd.R_drew)); exact Kd.R_mono HO161.out (fun _ hk => trivial)⟩, ⟨by repeat (first | (with_reducible first | exact HB.out | apply below_alloc | apply pw_below_drewN | apply below_drew1 | refine below_set ?_ GE158.out) | exact HB.out)⟩⟩
            ·rw [if_neg c15] at H
             exact absurd H (by simp)
           ·rw [if_neg c14] at H
            have c14b0 : (t157 == 0) = false := beq_eq_false_iff_ne.mpr c14
            have c14b1 : (t157 != 0) = true := bne_iff_ne.mpr c14
            simp only [Option.some.injEq, Prod.mk.injEq] at H
            obtain ⟨rfl, rfl, rfl⟩ := H
            go_wp2_with (first | ((with_reducible refine gate_callee (f := 21) rfl ?_); refine goesL_ (some 18) rfl rfl Tryd.func21 (by kernel_rfl) rfl #[.string (a0.extract (x6_1 : Int).toNat a0.size)] rfl (by (try simp only [List.map_toArray, List.map_cons, List.map_nil]); first | done | rfl | (simp only [List.length_drop, List.length_take]; rfl)) ?_; (with_reducible refine (lex_skip.calls k1 (a0.extract (x6_1 : Int).toNat a0.size) t151 false _ A5.out).mono ?_); rintro e w' ⟨rfl, ⟨nd, rfl⟩⟩; refine ⟨_, rfl, ?_⟩; (try (rw [drewN_self wr]; generalize hq_ : World.drewN wr _ = wr; have n0_ : Aside0 (Kd.R k23 23 wr w.heap.size (fun _ => True) u5 x5_1) := ⟨by rw [← hq_]; exact (by (with_reducible repeat (first | apply Kd.R_alloc | apply Kd.R_drewN | apply Kd.R_drew)); exact HO_5.out)⟩; have n1_ : Aside0 (Below w.heap.size w wr) := ⟨by rw [← hq_]; exact (by repeat (first | (with_reducible first | exact HB.out | apply below_alloc | apply pw_below_drewN | apply below_drew1) | exact HB.out))⟩; clear HO_5 HB hq_; have HO_5 := n0_; have HB := n1_; clear n0_ n1_)); obtain ⟨Ao21, co21, eo21⟩ := Kd.R_slice HO_5.out; subst eo21) | ((with_reducible refine gate_callee (f := 22) rfl ?_); refine goesL_ (some 45) rfl rfl Tryd.func22 (by kernel_rfl) rfl #[.string (a0.extract ((ji10) : Int).toNat a0.size)] rfl (by (try simp only [List.map_toArray, List.map_cons, List.map_nil]); first | done | (simp only [hji10]; rfl) | rfl | (simp only [List.length_drop, List.length_take]; rfl)) ?_; (with_reducible refine (lex_one.calls k1 (a0.extract ((ji10) : Int).toNat a0.size) t153 t154 t155 t156 t157 _ A13.out).mono ?_); rintro e w22 ⟨rfl, hb⟩; refine ⟨_, rfl, ?_⟩; have n0_ := Aside0.mk (Kd.R_below (by (with_reducible repeat (first | apply Kd.R_alloc | apply Kd.R_drewN | apply Kd.R_drew)); exact HO_5.out) hb); have n1_ := Aside0.mk (below_step (by repeat (first | (with_reducible first | exact HB.out | apply below_alloc | apply pw_below_drewN | apply below_drew1) | exact HB.out)) hb); clear HO_5; clear HB; have HO_5 := n0_; have HB := n1_; clear n0_ n1_; (try clear hb); (try clear hb2); (try clear hk); (try clear hi)) | ((with_reducible refine gate_dst (N := 9) rfl ?_); refine box_event ?hg (N := 9) ?hd (cs := #[.int .i64 0, .string (⟨#[]⟩ : ByteArray), .int .i64 0]) (t := 23) ?hr ?_; (case hd => rfl); (case hg => rfl); (case hr => first | (go_simp; done) | (go_simp; rfl) | (go_simp; simp only [IntKind.wrap_u8, IntKind.wrap_u32]; congr 4; omega) | (go_simp; simp only [IntKind.wrap_u8, IntKind.wrap_u32]; congr 5; omega)); intro gb158 hg w23 hbox hb; have n0_ := Aside0.mk (Kd.R_below (Kd.R_elderB (by (with_reducible repeat (first | apply Kd.R_alloc | apply Kd.R_drewN | apply Kd.R_drew)); exact HO_5.out) gb158 (Nat.le_of_eq hg.symm)) hb); have n1_ := Aside0.mk (below_step (by repeat (first | (with_reducible first | exact HB.out | apply below_alloc | apply pw_below_drewN | apply below_drew1) | exact HB.out)) hb); have n2_ := Aside0.mk (hbox); have n3_ := Aside0.mk ((by rw [hg]; exact (below_size (by repeat (first | (with_reducible first | exact HB.out | apply below_alloc | apply pw_below_drewN | apply below_drew1) | exact HB.out))) : w.heap.size ≤ gb158)); have n4_ := Aside0.mk ((by rw [hg]; exact (below_size (by repeat (first | (with_reducible first | exact HB.out | apply below_alloc | apply pw_below_drewN | apply below_drew1) | exact HB.out))) : w.heap.size ≤ gb158)); clear HO_5; clear HB; have HO_5 := n0_; have HB := n1_; have BK158 := n2_; have GW158 := n3_; have GE158 := n4_; clear n0_ n1_ n2_ n3_ n4_; clear hb hbox hg; have hcz24_0 : w23.cell? ⟨gb158, 0, none⟩ = some (.int .i64 0) := (blk_cell BK158.out 0).trans rfl; have hcz24_1 : w23.cell? ⟨gb158, 1, none⟩ = some (.string (⟨#[]⟩ : ByteArray)) := (blk_cell BK158.out 1).trans rfl; have hcz24_2 : w23.cell? ⟨gb158, 2, none⟩ = some (.int .i64 0) := (blk_cell BK158.out 2).trans rfl; have hfz24_0 := blk_frozen BK158.out 0; have hfz24_1 := blk_frozen BK158.out 1; have hfz24_2 := blk_frozen BK158.out 2))
            go_ret3
            exact ⟨_, by first | rfl | (simp [errW_none, errW_some] <;> rfl) | (simp only [← hji10]; first | rfl | (simp [errW_none, errW_some] <;> rfl)) | (simp [*, errW_none, errW_some] <;> rfl), by (with_reducible repeat (first | apply Kd.R_alloc | apply Kd.R_drewN | apply Kd.R_drew)); exact Kd.R_mono (Kd.R_far (p := ⟨gb158, 2, none⟩) (Kd.R_far (p := ⟨gb158, 1, none⟩) (Kd.R_far (p := ⟨gb158, 0, none⟩) (Kd.R_mono HO_5.out (fun k_ hk => (⟨hk, hk.2⟩ : _ ∧ k_ ≠ gb158))) (fun _ hk => hk.2) (.int .i64 t153)) (fun _ hk => hk.2) (.string t154)) (fun _ hk => hk.2) (.int .i64 t155)) (fun _ hk => trivial), by repeat (first | (with_reducible first | exact HB.out | apply below_alloc | apply pw_below_drewN | apply below_drew1 | refine below_set ?_ GE158.out) | exact HB.out)⟩
          ·rw [if_neg c12] at H
           exact absurd H (by simp)
         ·rw [if_neg c11] at H
          exact absurd H (by simp)
     ·rw [if_neg c4] at H
      exact absurd H (by simp)
    ·rw [if_neg c3] at H
     exact absurd H (by simp)

end Go.Proofs.YtnpmmhceiaedcaaDoor.PA
/- strings.ReplaceAll, off the shelf, in the printed shape; and what it reads of the world: that the library's MaxLen is some number. -/
namespace Go.Proofs.YtnpmmhceiaedcaaDoor.H
open Go.RowKit Go.Proofs.YtnpmmhceiaedcaaDoorW.PrintWords Go.Proofs.YtnpmmhceiaedcaaDoorW.PrintLast

structure Glob (w : World) : Prop where mk :: (out : ∃ m, w.cell? ⟨0, 0, none⟩ = some (.int .i64 m))
theorem Glob.below {w W : World} (h : Glob w) (hb : Below w.heap.size w W) : Glob W := by
  obtain ⟨m, hm⟩ := h.out
  exact ⟨m, pw_cell_below hb hm⟩
theorem Glob.drewN {w : World} {n : Nat} (h : Glob w) : Glob (w.drewN n) := ⟨h.out⟩
theorem Glob.drew {w : World} (h : Glob w) : Glob w.drew := ⟨h.out⟩
theorem glob_of_shaped {w : World} (h : w.ShapedOpen Tryd.prog) : Glob w :=
  ⟨cell_of_shapedOpen_int (g := 0) (t := 3) (zero := #[.int .i64 0]) h (of_decide_eq_true (by kernel_rfl)) (by kernel_rfl) rfl (by kernel_rfl) (by kernel_rfl) Tryd.underlying3⟩
def strings_ReplaceAll.f (a0 a1 a2 : ByteArray) : Option ByteArray :=
  if a0.size ≤ 1000000 ∧ 1 ≤ a1.size ∧ a2.size ≤ 1000 then some ⟨(Lib.replaceAll a0.data.toList a1.data.toList a2.data.toList).toArray⟩ else none
theorem strings_ReplaceAll.calls (s o n : ByteArray) (r : ByteArray) (w : World) (hG : Glob w) (h : strings_ReplaceAll.f s o n = some r) :
    Calls Tryd.prog 14 #[.string s, .string o, .string n] w fun e w' => e = .returned (.string r) ∧ Below w.heap.size w w' := by
  unfold strings_ReplaceAll.f at h
  split at h
  case isFalse => cases h
  case isTrue hs =>
    obtain ⟨h0, h1, h2⟩ := hs
    obtain rfl := Option.some.inj h
    obtain ⟨m, hm⟩ := hG.out
    have hc := Lib.countB_mul_le o h1 s.size s (Nat.le_refl _)
    have hc' : Lib.countB s o ≤ s.size := Nat.le_trans (Nat.le_mul_of_pos_right _ h1) hc
    have hm2 : Lib.countB s o * n.size ≤ 1000000 * 1000 := Nat.mul_le_mul (Nat.le_trans hc' h0) h2
    exact Tryd.strings_ReplaceAll s o n m w (by omega) hm h1 (by omega)
end Go.Proofs.YtnpmmhceiaedcaaDoor.H
