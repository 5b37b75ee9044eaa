/- Joined by wip/tools/shake.py for the claim of LinForms: HLEven, PAx13, PAx11, NatR, HSameE, HRd, HLAt, HConM, HLAdd, HLPut, HLOfV, LinC, LinD, LinK, HAwk. -/
import Derived.Test.YtdicjemjmlbmlaaJLinForms4
import Derived.Test.YtdicjemjmlbmlaaJLinForms2
import Derived.Test.YtdicjemjmlbmlaaJLinForms3
import Derived.StillTailTactics
import Derived.Deep.QuietTactic
import Derived.BigQuiet
import Derived.WalkKit
import Derived.KernelRfl
import Derived.Test.YtdicjemjmlbmlaaJLinForms1
import Derived.Shelf.RegionOpenPlain
/- lin.Even, by its numbers. -/
namespace Go.Proofs.Ytdicjemjmlbmlaa.H
set_option linter.unusedSimpArgs false
set_option linter.unusedVariables false
open Go.RowKit Go.Proofs.YtdicjemjmlbmlaaW.PrintWords Go.Proofs.YtdicjemjmlbmlaaW.PrintLast Go.Proofs.YtdicjemjmlbmlaaW.PrintMore Go.Proofs.Ytdicjemjmlbmlaa.PA Go.Proofs.Ytdicjemjmlbmlaa.V Go.Proofs.Ytdicjemjmlbmlaa.S
attribute [local go_sem] box_twice
def lin_Even.f (b : Bool) (l1 : List Int) (l2 : List S46) : Option (Bool × List Int × List S46 × Int) := if guardT l1 l2 = true then some (OU (evenP (wv b l1) (normP (l2.map prM)))) else none
set_option maxHeartbeats 8000000 in
set_option maxRecDepth 100000 in
theorem lin_Even.calls (a0_0 : Bool) (A0_1 : Option Addr) (c0_1 : Nat) (l0_1 : List Int) (A0_2 : Option Addr) (c0_2 : Nat) (l0_2 : List (S46)) (r1 : Bool) (r2 : List Int) (r3 : List (S46)) (r4 : Int) (w : World) (hr0_1 : Kd.C (Kd.int .u32) w A0_1 l0_1.length l0_1) (hc0_1 : l0_1.length ≤ c0_1) (hr0_2 : Kd.C k46 w A0_2 l0_2.length l0_2) (hc0_2 : l0_2.length ≤ c0_2) (h : lin_Even.f a0_0 l0_1 l0_2 = some (r1, r2, r3, r4)) :
    Calls Try.prog 13 #[.agg #[.bool a0_0, .slice A0_1 l0_1.length c0_1, .slice A0_2 l0_2.length c0_2]] w fun e w' => ∃ v1_ v2_ : Value, e = .returned (.tuple #[.agg #[.bool r1, v1_, v2_], .int .i64 r4]) ∧ Kd.V (Kd.int .u32) 81 w' w.heap.size (fun k_ => w.heap.size ≤ k_ ∧ some k_ ≠ (v2_ : Value).ownBlock) v1_ r2 ∧ Kd.S k46 46 w' w.heap.size (fun k_ => w.heap.size ≤ k_) v2_ r3 ∧ Below w.heap.size w w' := by
  have mixed : Try.prog.follows Departure.mixedOrders = true := by kernel_rfl
  have hu27 := Try.underlying27
  have hu24 := Try.underlying24
  have hu46 := Try.underlying46
  unfold lin_Even.f at h
  split at h
  case isFalse => cases h
  case isTrue hg =>
  have hs := guardT_small hg
  have hN := lnorm_ev hs (by omega) (by omega) a0_0
  obtain ⟨hq1, hq2⟩ := norm_small hs
  have hcB := hs.b a0_0
  have hf := form_norm (l0_2.map prM)
  have HR1 := Aside0.mk hr0_1
  have HC1 := Aside0.mk hc0_1
  have HR2 := Aside0.mk hr0_2
  have HC2 := Aside0.mk hc0_2
  generalize normP (l0_2.map prM) = q at *
  generalize wv a0_0 l0_1 = c at *
  have hsg := wSign_ev (W c).1 (W c).2 (W_lim c) (by have := hcB.len; omega)
  rw [wv_W] at hsg
  have hOU := Option.some.inj h
  have hN2 : lin_Norm.f a0_0 l0_1 l0_2 = some ((W c).1, (W c).2, q.map enP) := hN
  clear hr0_1 hc0_1 hr0_2 hc0_2 hN h hg
  by_cases hq : q = []
  · subst hq
    rw [show evenP c [] = (c, [], if c = 0 then 1 else -1) from rfl] at hOU
    have hOU2 : ((W c).1, (W c).2, ([] : List S46), if c = 0 then (1 : Int) else -1) = (r1, r2, r3, r4) := hOU
    have hN3 : lin_Norm.f a0_0 l0_1 l0_2 = some ((W c).1, (W c).2, []) := hN2
    have hcc : (sg c = 0) ↔ (c = 0) := by unfold sg; split <;> (try split) <;> omega
    generalize (W c).1 = nb at *
    generalize (W c).2 = nl at *
    generalize sg c = s at *
    have HN := Aside0.mk hN3
    have HSG := Aside0.mk hsg
    simp only [Prod.mk.injEq] at hOU2
    obtain ⟨rfl, rfl, rfl, hr4⟩ := hOU2
    have hd : (r4 = 1 ∧ (s != 0) = false) ∨ (r4 = -1 ∧ (s != 0) = true) := by
      by_cases hc : c = 0
      · rw [if_pos hc] at hr4
        exact .inl ⟨hr4.symm, bne_eq_false_iff_eq.2 (hcc.2 hc)⟩
      · rw [if_neg hc] at hr4
        exact .inr ⟨hr4.symm, bne_iff_ne.2 (fun e => hc (hcc.1 e))⟩
    clear hcB hf hq1 hq2 hOU hN2 hN3 hsg hcc hs hr4
    rcases hd with ⟨rfl, d1⟩ | ⟨rfl, d1⟩
    all_goals go_enter Try.func13, Try.ntmps13
    all_goals go_wp2_with (first
        | ((with_reducible refine gate_dst (N := 1) rfl ?_); refine box_event ?hg (N := 1) ?hd (cs := #[.bool a0_0, .slice A0_1 l0_1.length c0_1, .slice A0_2 l0_2.length c0_2]) (t := 27) ?hr ?_; (case hd => rfl); (case hg => rfl); (case hr => first | (go_simp; done) | (go_simp; rfl)); intro gA hgA w1 hbox hb; have BA1 := Aside0.mk hbox; have GA := Aside0.mk (show w.heap.size ≤ gA by rw [hgA]; exact Nat.le_refl _); have HB1 := Aside0.mk hb; clear hgA hbox hb)
        | ((with_reducible refine gate_dst (N := 2) rfl ?_); refine box_event ?hg (N := 2) ?hd (cs := #[.bool false, .slice none 0 0, .slice none 0 0]) (t := 27) ?hr ?_; (case hd => rfl); (case hg => rfl); (case hr => first | (go_simp; done) | (go_simp; rfl)); intro gR hgR w2 hbox hb; have BR2 := Aside0.mk hbox; have BA2 := Aside0.mk (blk_below BA1.out hb); have GR := Aside0.mk (show w.heap.size ≤ gR by rw [hgR]; exact below_size HB1.out); have NAR := Aside0.mk (show gA ≠ gR by rw [hgR]; exact Nat.ne_of_lt (blk_lt BA1.out)); have HB2 := Aside0.mk (below_step HB1.out hb); clear hgR hbox hb; have hcA0 : w2.cell? ⟨gA, 0, none⟩ = some (.bool a0_0) := (blk_cell BA2.out 0).trans rfl; have hcA1 : w2.cell? ⟨gA, 1, none⟩ = some (.slice A0_1 l0_1.length c0_1) := (blk_cell BA2.out 1).trans rfl; have hcA2 : w2.cell? ⟨gA, 2, none⟩ = some (.slice A0_2 l0_2.length c0_2) := (blk_cell BA2.out 2).trans rfl)
        | (go_at_call 20; (with_reducible refine (lin_Norm.calls a0_0 _ _ l0_1 _ _ l0_2 nb nl [] _ ?s1 HC1.out ?s3 HC2.out HN.out).mono ?_); (case s1 => exact Kd.C_below HR1.out HB2.out); (case s3 => exact Kd.C_below HR2.out HB2.out); rintro e w3 ⟨v1, v2, rfl, ho, hs, hb⟩; obtain ⟨AC, cC, eC⟩ := Kd.R_slice ho; subst eC; obtain ⟨AV, cV, eV⟩ := Kd.S_slice hs; subst eV; have HO3 := Aside0.mk ho; have HS3 := Aside0.mk hs; have HB23 := Aside0.mk hb; have BA3 := Aside0.mk (blk_below BA2.out hb); have BR3 := Aside0.mk (blk_below BR2.out hb); have HB3 := Aside0.mk (below_step HB2.out hb); clear ho hs hb; have hcB0 : w3.cell? ⟨gA, 0, none⟩ = some (.bool a0_0) := (blk_cell BA3.out 0).trans rfl; have hcB1 : w3.cell? ⟨gA, 1, none⟩ = some (.slice A0_1 l0_1.length c0_1) := (blk_cell BA3.out 1).trans rfl; have hcB2 : w3.cell? ⟨gA, 2, none⟩ = some (.slice A0_2 l0_2.length c0_2) := (blk_cell BA3.out 2).trans rfl; have hfB0 := blk_frozen BA3.out 0; have hfB1 := blk_frozen BA3.out 1; have hfB2 := blk_frozen BA3.out 2)
        | (go_at_call 19; (with_reducible refine (whole_Sign.calls nb _ _ nl s _ ?s4 ?s5 HSG.out).mono ?_); (case s4 => exact (Kd.R_reads' (OwnK.move (x := ⟨0, false, AC, cC, nl⟩) HO3.out (fun k cells hk => set3_other _ _ _ _ _ _ _ _ k (box_ne BA3.out hk (by decide))))).2.2); (case s5 => exact (Kd.R_reads' HO3.out).2.1); rintro e w4 ⟨rfl, hb⟩; have BA4 := Aside0.mk (blk_below (g := gA) (o := .cells #[.bool nb, .slice AC nl.length cC, .slice AV 0 cV] 27 (0, 0)) (by refine blk_put (cs := #[.bool nb, .slice AC nl.length cC, .slice A0_2 l0_2.length c0_2]) ?_ 2 _ rfl; refine blk_put (cs := #[.bool nb, .slice A0_1 l0_1.length c0_1, .slice A0_2 l0_2.length c0_2]) ?_ 1 _ rfl; refine blk_put (cs := #[.bool a0_0, .slice A0_1 l0_1.length c0_1, .slice A0_2 l0_2.length c0_2]) ?_ 0 _ rfl; exact BA3.out) hb); have BR4 := Aside0.mk (blk_below (g := gR) (o := .cells #[.bool false, .slice none 0 0, .slice none 0 0] 27 (0, 0)) ((set3_other _ _ _ _ _ _ _ _ gR (fun e => NAR.out e.symm)).trans BR3.out) hb); have KM := Aside0.mk (fun (k : Nat) (cells : Array Value) (t : Nat) (ht : t ≠ 27) (hk : w3.heap[k]? = some (Obj.cells cells t (0, 0))) => (hb.block k (Array.getElem?_eq_some_iff.1 ((set3_other w3 gA 0 1 2 (.bool nb) (.slice AC nl.length cC) (.slice AV 0 cV) k (box_ne BA3.out hk (fun e => ht e.symm))).trans hk)).1).trans (set3_other w3 gA 0 1 2 (.bool nb) (.slice AC nl.length cC) (.slice AV 0 cV) k (box_ne BA3.out hk (fun e => ht e.symm)))); have HB4 := Aside0.mk (below_step (show Below w.heap.size w (((w3.setCell ⟨gA, 0, none⟩ (.bool nb)).setCell ⟨gA, 1, none⟩ (.slice AC nl.length cC)).setCell ⟨gA, 2, none⟩ (.slice AV 0 cV)) by repeat first | exact HB3.out | refine below_set ?_ GA.out) hb); clear hb; have hcD0 : w4.cell? ⟨gA, 0, none⟩ = some (.bool nb) := (blk_cell BA4.out 0).trans rfl; have hcD1 : w4.cell? ⟨gA, 1, none⟩ = some (.slice AC nl.length cC) := (blk_cell BA4.out 1).trans rfl; have hcD2 : w4.cell? ⟨gA, 2, none⟩ = some (.slice AV 0 cV) := (blk_cell BA4.out 2).trans rfl; have hcR0 : w4.cell? ⟨gR, 0, none⟩ = some (.bool false) := (blk_cell BR4.out 0).trans rfl; have hcR1 : w4.cell? ⟨gR, 1, none⟩ = some (.slice none 0 0) := (blk_cell BR4.out 1).trans rfl; have hcR2 : w4.cell? ⟨gR, 2, none⟩ = some (.slice none 0 0) := (blk_cell BR4.out 2).trans rfl; have hfR0 := blk_frozen BR4.out 0; have hfR1 := blk_frozen BR4.out 1; have hfR2 := blk_frozen BR4.out 2))
    all_goals refine bodyPost_ret (results_ct rfl _ _ gR 27 #[.bool nb, .slice AC nl.length cC, .slice AV 0 cV] (0, 0) _ rfl (by refine blk_put (cs := #[.bool nb, .slice AC nl.length cC, .slice none 0 0]) ?_ 2 _ rfl; refine blk_put (cs := #[.bool nb, .slice none 0 0, .slice none 0 0]) ?_ 1 _ rfl; refine blk_put (cs := #[.bool false, .slice none 0 0, .slice none 0 0]) ?_ 0 _ rfl; exact BR4.out) Try.underlying27 rfl (by kernel_rfl)) rfl ?_
    all_goals (obtain ⟨hV, hS⟩ := out_lin (w1 := ((w4.setCell ⟨gR, 0, none⟩ (.bool nb)).setCell ⟨gR, 1, none⟩ (.slice AC nl.length cC)).setCell ⟨gR, 2, none⟩ (.slice AV 0 cV)) (Kd.R_lower HO3.out HB2.out.size) (Kd.S_lower HS3.out HB2.out.size) (fun k cells t ht hk => (set3_other _ _ _ _ _ _ _ _ k (box_ne BR3.out hk (fun e => by rcases ht with rfl | rfl <;> exact absurd e (by decide)))).trans (KM.out k cells t (fun e => by rcases ht with rfl | rfl <;> exact absurd e (by decide)) hk)))
    all_goals exact ⟨_, _, rfl, hV, hS, by repeat first | exact HB4.out | refine below_set ?_ GR.out⟩
  · obtain ⟨y, r, rfl⟩ : ∃ y r, q = y :: r := by cases q with | nil => exact absurd rfl hq | cons y r => exact ⟨y, r, rfl⟩
    have hne := form_ne hf
    have hg := gP_pos hq hne
    have hgB := gP_B hq hne hq2
    rw [evenP] at hOU
    have hNB : OU (c, y :: r, -1) = ((W c).1, (W c).2, (y :: r).map enP, -1) := rfl
    obtain ⟨kd, hkd⟩ := (div_ev (y :: r) (by omega) (n := 10000 + 10000) (by omega) hq2 (W c).1 (W c).2).rounds
    have e1 := wDivMod_ev (W c).1 false (W c).2 (dig (gP 0 (y :: r))) (W_lim c) (dig_lim _) (by have := hcB.len; omega) (by have := B_pos (Int.le_of_lt hg) hgB; omega)
    rw [wv_W, wv_dig (Int.le_of_lt hg), if_neg (by omega)] at e1
    obtain ⟨kf, hkf⟩ := e1.rounds
    have hby := fun b l b2 l3 => by_ev (q := y :: r) (by omega) (hq2.mono (by omega)) hg (hgB.mono (by omega)) b b2 l l3
    have hrB : B (10000 + 10000) (c % gP 0 (y :: r)) := hgB.le (by have h1 := Int.emod_nonneg c (Int.ne_of_gt hg); have h2 := Int.emod_lt_of_pos c hg; unfold az; rw [if_neg (by omega), if_neg (by omega)]; omega)
    have hs1 := wSign_ev (W (c % gP 0 (y :: r))).1 (W (c % gP 0 (y :: r))).2 (W_lim _) (by have := hrB.len; omega)
    rw [wv_W] at hs1
    have hs0 : (sg (c % gP 0 (y :: r)) = 0) ↔ (c % gP 0 (y :: r) = 0) := by unfold sg; split <;> (try split) <;> omega
    have hqn : 0 < ((y :: r).map enP).length := by rw [List.length_map, List.length_cons]; omega
    have hyB : B (10000 + 10000) (y.2 / gP 0 (y :: r)) := B_div (hq2 y List.mem_cons_self) hg
    have hs2 := wSign_ev (W (y.2 / gP 0 (y :: r))).1 (W (y.2 / gP 0 (y :: r))).2 (W_lim _) (by have := hyB.len; omega)
    rw [wv_W] at hs2
    have hs2' : whole_Sign.f (rd_T46 ((partP (gP 0 (y :: r)) (y :: r)).map enP) 0).f1.f0 (rd_T46 ((partP (gP 0 (y :: r)) (y :: r)).map enP) 0).f1.f1 = some (sg (y.2 / gP 0 (y :: r))) := hs2
    have hnp : (0 : Int) < ((partP (gP 0 (y :: r)) (y :: r)).map enP).length := by unfold partP; rw [List.length_map, List.length_map, List.length_cons]; omega
    have hsn : (sg (y.2 / gP 0 (y :: r)) < 0) ↔ (y.2 / gP 0 (y :: r) < 0) := sg_neg _
    have hof : whole_Of.f (-1) = some ((W (-1)).1, (W (-1)).2) := wOf_ev (-1) (by decide) (by decide)
    have hd : ((sg (c % gP 0 (y :: r)) != 0) = true ∧ (W c).1 = r1 ∧ (W c).2 = r2 ∧ (y :: r).map enP = r3 ∧ (-1 : Int) = r4) ∨ ((sg (c % gP 0 (y :: r)) != 0) = false ∧ decide (sg (y.2 / gP 0 (y :: r)) < 0) = false ∧ (W (c / gP 0 (y :: r))).1 = r1 ∧ (W (c / gP 0 (y :: r))).2 = r2 ∧ (partP (gP 0 (y :: r)) (y :: r)).map enP = r3 ∧ (0 : Int) = r4) ∨ ((sg (c % gP 0 (y :: r)) != 0) = false ∧ decide (sg (y.2 / gP 0 (y :: r)) < 0) = true ∧ (0 : Int) = r4 ∧ ∃ kS, lin_Scale.f kS (W (c / gP 0 (y :: r))).1 (W (c / gP 0 (y :: r))).2 ((partP (gP 0 (y :: r)) (y :: r)).map enP) (W (-1)).1 (W (-1)).2 = some (r1, r2, r3)) := by
      generalize gP 0 (y :: r) = g at *
      by_cases hz : c % g = 0
      · rw [if_pos hz] at hOU
        have d3 : (sg (c % g) != 0) = false := bne_eq_false_iff_eq.2 (hs0.2 hz)
        by_cases hy : y.2 / g < 0
        · rw [if_pos hy] at hOU
          have hpl : (partP g (y :: r)).length ≤ 100000 := by unfold partP; rw [List.length_map]; omega
          have hsm : Small 100000 100000 (W (c / g)).2 ((partP g (y :: r)).map enP) := small_SU ((B_div hcB hg).mono (by omega)) hpl ((partP_B hq2 hg).mono (by omega))
          have hsc0 := scale_ev hsm (by omega) (by omega) (W (c / g)).1 (W (-1)).1 (W (-1)).2 (W_lim _) (by have : B 1 (-1) := by { unfold B; exact dig_length_le (az_nonneg _) (by decide) }; have := this.len; omega)
          rw [wv_W, wv_W, map_enP] at hsc0
          obtain ⟨kS, hsc⟩ := hsc0.rounds
          have h2 : ((SU (c / g * -1) (normP (scP (-1) (partP g (y :: r))))).1, (SU (c / g * -1) (normP (scP (-1) (partP g (y :: r))))).2.1, (SU (c / g * -1) (normP (scP (-1) (partP g (y :: r))))).2.2, (0 : Int)) = (r1, r2, r3, r4) := hOU
          simp only [Prod.mk.injEq] at h2
          obtain ⟨q1, q2, q3, q4⟩ := h2
          refine .inr (.inr ⟨d3, decide_eq_true (hsn.2 hy), q4, kS, ?_⟩)
          rw [← q1, ← q2, ← q3]
          exact hsc
        · rw [if_neg hy] at hOU
          have hOU2 : ((W (c / g)).1, (W (c / g)).2, (partP g (y :: r)).map enP, (0 : Int)) = (r1, r2, r3, r4) := hOU
          simp only [Prod.mk.injEq] at hOU2
          exact .inr (.inl ⟨d3, decide_eq_false (fun e => hy (hsn.1 e)), hOU2⟩)
      · rw [if_neg hz] at hOU
        have hOU2 : ((W c).1, (W c).2, (y :: r).map enP, (-1 : Int)) = (r1, r2, r3, r4) := by rw [← hOU]; exact hNB.symm
        simp only [Prod.mk.injEq] at hOU2
        exact .inl ⟨bne_iff_ne.2 (fun e => hz (hs0.1 e)), hOU2⟩
    have d1 : (((((y :: r).map enP).length : Nat) : Int) == 0) = false := beq_eq_false_iff_ne.2 (by omega)
    have d2 : (((y :: r).map enP).length == 0) = false := beq_eq_false_iff_ne.2 (by omega)
    generalize (W c).1 = nb at *
    generalize (W c).2 = nl at *
    generalize gP 0 (y :: r) = g at *
    generalize (W (c % g)).1 = sb at *
    generalize (W (c % g)).2 = sl at *
    generalize sg (c % g) = s1 at *
    generalize (W (c / g)).1 = cb at *
    generalize (W (c / g)).2 = cl at *
    generalize dig g = gl at *
    generalize (partP g (y :: r)).map enP = np at *
    generalize sg (y.2 / g) = s2 at *
    generalize (y :: r).map enP = nq at *
    generalize (W (-1)).1 = tb at *
    generalize (W (-1)).2 = tl at *
    have HN := Aside0.mk hN2
    have HD := Aside0.mk hkd
    have HS1 := Aside0.mk hs1
    have HF := Aside0.mk hkf
    have HY := Aside0.mk hby
    have HS2 := Aside0.mk hs2'
    have HNP := Aside0.mk hnp
    have HOF := Aside0.mk hof
    have p1 : ((0 : Int) < (np.length : Int)) = True := eq_true hnp
    have p2 : (0 < np.length) = True := eq_true (by omega)
    clear hcB hf hq1 hq2 hOU hNB hN2 hsg hs hne hg hgB hkd e1 hkf hby hrB hs1 hs0 hqn hq hyB hs2 hs2' hnp hsn hof
    rcases hd with ⟨d3, rfl, rfl, rfl, rfl⟩ | ⟨d3, d5, rfl, rfl, rfl, rfl⟩ | ⟨d3, d5, rfl, kS, hsc⟩
    rotate_right
    have HSC := Aside0.mk hsc
    clear hsc
    rotate_left
    all_goals go_enter Try.func13, Try.ntmps13
    all_goals go_wp2_with (first
      | ((with_reducible refine gate_dst (N := 1) rfl ?_); refine box_event ?hg (N := 1) ?hd (cs := #[.bool a0_0, .slice A0_1 l0_1.length c0_1, .slice A0_2 l0_2.length c0_2]) (t := 27) ?hr ?_; (case hd => rfl); (case hg => rfl); (case hr => first | (go_simp; done) | (go_simp; rfl)); intro gA hgA w1 hbox hb; have BA1 := Aside0.mk hbox; have GA := Aside0.mk (show w.heap.size ≤ gA by rw [hgA]; exact Nat.le_refl _); have HB1 := Aside0.mk hb; clear hgA hbox hb)
      | ((with_reducible refine gate_dst (N := 2) rfl ?_); refine box_event ?hg (N := 2) ?hd (cs := #[.bool false, .slice none 0 0, .slice none 0 0]) (t := 27) ?hr ?_; (case hd => rfl); (case hg => rfl); (case hr => first | (go_simp; done) | (go_simp; rfl)); intro gR hgR w2 hbox hb; have BR2 := Aside0.mk hbox; have BA2 := Aside0.mk (blk_below BA1.out hb); have GR := Aside0.mk (show w.heap.size ≤ gR by rw [hgR]; exact below_size HB1.out); have NAR := Aside0.mk (show gA ≠ gR by rw [hgR]; exact Nat.ne_of_lt (blk_lt BA1.out)); have HB2 := Aside0.mk (below_step HB1.out hb); clear hgR hbox hb; have hcA0 : w2.cell? ⟨gA, 0, none⟩ = some (.bool a0_0) := (blk_cell BA2.out 0).trans rfl; have hcA1 : w2.cell? ⟨gA, 1, none⟩ = some (.slice A0_1 l0_1.length c0_1) := (blk_cell BA2.out 1).trans rfl; have hcA2 : w2.cell? ⟨gA, 2, none⟩ = some (.slice A0_2 l0_2.length c0_2) := (blk_cell BA2.out 2).trans rfl)
      | (go_at_call 20; (with_reducible refine (lin_Norm.calls a0_0 _ _ l0_1 _ _ l0_2 nb nl nq _ ?s1 HC1.out ?s3 HC2.out HN.out).mono ?_); (case s1 => exact Kd.C_below HR1.out HB2.out); (case s3 => exact Kd.C_below HR2.out HB2.out); rintro e w3 ⟨v1, v2, rfl, ho, hs, hb⟩; obtain ⟨AC, cC, eC⟩ := Kd.R_slice ho; subst eC; obtain ⟨AV, cV, eV⟩ := Kd.S_slice hs; subst eV; have HO3 := Aside0.mk ho; have HS3 := Aside0.mk hs; have HB23 := Aside0.mk hb; have BA3 := Aside0.mk (blk_below BA2.out hb); have BR3 := Aside0.mk (blk_below BR2.out hb); have HB3 := Aside0.mk (below_step HB2.out hb); clear ho hs hb; have hcB0 : w3.cell? ⟨gA, 0, none⟩ = some (.bool a0_0) := (blk_cell BA3.out 0).trans rfl; have hcB1 : w3.cell? ⟨gA, 1, none⟩ = some (.slice A0_1 l0_1.length c0_1) := (blk_cell BA3.out 1).trans rfl; have hcB2 : w3.cell? ⟨gA, 2, none⟩ = some (.slice A0_2 l0_2.length c0_2) := (blk_cell BA3.out 2).trans rfl; have hfB0 := blk_frozen BA3.out 0; have hfB1 := blk_frozen BA3.out 1; have hfB2 := blk_frozen BA3.out 2)
      | (have n3_ := Aside0.mk (out_lin (w1 := (((w3.setCell ⟨gA, 0, none⟩ (.bool nb)).setCell ⟨gA, 1, none⟩ (.slice AC nl.length cC)).setCell ⟨gA, 2, none⟩ (.slice AV nq.length cV))) HO3.out HS3.out (fun k cells t ht hk => set3_other w3 gA 0 1 2 (.bool nb) (.slice AC nl.length cC) (.slice AV nq.length cV) k (box_ne BA3.out hk (fun e => by rcases ht with rfl | rfl <;> exact absurd e (by decide))))); go_at_call 41; (with_reducible refine (lin_divisor.calls kd nb _ _ nl _ _ nq false gl _ ?d1 ?d2 ?d3 ?d4 HD.out).mono ?_); (case d1 => exact (Kd.V_reads' n3_.out.1).2.2); (case d2 => exact (Kd.V_reads' n3_.out.1).2.1); (case d3 => exact (Kd.S_reads' n3_.out.2).2.2); (case d4 => exact (Kd.S_reads' n3_.out.2).2.1); rintro e w5 ⟨vg, rfl, ho, hb⟩; obtain ⟨Ag, cg, eg⟩ := Kd.R_slice ho; subst eg; have HG5 := Aside0.mk (show OwnK (w5.alloc (.cells #[.bool false, .slice Ag gl.length cg] 24 (0, 0))) w.heap.size ⟨0, false, Ag, cg, gl⟩ from Kd.R_alloc (Kd.R_mono (Kd.R_lower ho (Below.size (show Below w.heap.size w (((w3.setCell ⟨gA, 0, none⟩ (.bool nb)).setCell ⟨gA, 1, none⟩ (.slice AC nl.length cC)).setCell ⟨gA, 2, none⟩ (.slice AV nq.length cV)) by repeat first | exact HB3.out | refine below_set ?_ GA.out))) (fun _ _ => trivial)) _); have HV5 := Aside0.mk (Kd.V_alloc (Kd.V_below n3_.out.1 hb) (.cells #[.bool false, .slice Ag gl.length cg] 24 (0, 0))); have HS5 := Aside0.mk (Kd.S_alloc (Kd.S_below n3_.out.2 hb) (.cells #[.bool false, .slice Ag gl.length cg] 24 (0, 0))); have BA5 := Aside0.mk (show (w5.alloc (.cells #[.bool false, .slice Ag gl.length cg] 24 (0, 0))).heap[gA]? = some (.cells #[.bool nb, .slice AC nl.length cC, .slice AV nq.length cV] 27 (0, 0)) from blk_alloc (blk_below (by refine blk_put (cs := #[.bool nb, .slice AC nl.length cC, .slice A0_2 l0_2.length c0_2]) ?_ 2 _ rfl; refine blk_put (cs := #[.bool nb, .slice A0_1 l0_1.length c0_1, .slice A0_2 l0_2.length c0_2]) ?_ 1 _ rfl; refine blk_put (cs := #[.bool a0_0, .slice A0_1 l0_1.length c0_1, .slice A0_2 l0_2.length c0_2]) ?_ 0 _ rfl; exact BA3.out) hb) _); have BR5 := Aside0.mk (show (w5.alloc (.cells #[.bool false, .slice Ag gl.length cg] 24 (0, 0))).heap[gR]? = some (.cells #[.bool false, .slice none 0 0, .slice none 0 0] 27 (0, 0)) from blk_alloc (blk_below ((set3_other w3 gA 0 1 2 (.bool nb) (.slice AC nl.length cC) (.slice AV nq.length cV) gR (fun e => NAR.out e.symm)).trans BR3.out) hb) _); have HB5 := Aside0.mk (below_alloc (below_step (show Below w.heap.size w (((w3.setCell ⟨gA, 0, none⟩ (.bool nb)).setCell ⟨gA, 1, none⟩ (.slice AC nl.length cC)).setCell ⟨gA, 2, none⟩ (.slice AV nq.length cV)) by repeat first | exact HB3.out | refine below_set ?_ GA.out) hb) (.cells #[.bool false, .slice Ag gl.length cg] 24 (0, 0))); clear ho hb n3_; have hcE0 : (w5.alloc (.cells #[.bool false, .slice Ag gl.length cg] 24 (0, 0))).cell? ⟨gA, 0, none⟩ = some (.bool nb) := (blk_cell BA5.out 0).trans rfl; have hcE1 : (w5.alloc (.cells #[.bool false, .slice Ag gl.length cg] 24 (0, 0))).cell? ⟨gA, 1, none⟩ = some (.slice AC nl.length cC) := (blk_cell BA5.out 1).trans rfl; have hcE2 : (w5.alloc (.cells #[.bool false, .slice Ag gl.length cg] 24 (0, 0))).cell? ⟨gA, 2, none⟩ = some (.slice AV nq.length cV) := (blk_cell BA5.out 2).trans rfl; have hg0 : (w5.alloc (.cells #[.bool false, .slice Ag gl.length cg] 24 (0, 0))).cell? ⟨w5.heap.size, 0, none⟩ = some (.bool false) := (blk_cell (blk_new w5 _) 0).trans rfl; have hg1 : (w5.alloc (.cells #[.bool false, .slice Ag gl.length cg] 24 (0, 0))).cell? ⟨w5.heap.size, 1, none⟩ = some (.slice Ag gl.length cg) := (blk_cell (blk_new w5 _) 1).trans rfl)
      | (go_at_call 48; (with_reducible refine (whole_DivMod.calls kf nb _ _ nl false _ _ gl cb cl sb sl 0 _ ?f1 ?f2 ?f3 ?f4 HF.out).mono ?_); (case f1 => exact (Kd.V_reads' HV5.out).2.2); (case f2 => exact (Kd.V_reads' HV5.out).2.1); (case f3 => exact (Kd.R_reads' HG5.out).2.2); (case f4 => exact (Kd.R_reads' HG5.out).2.1); rintro e w6 ⟨vc, vs, rfl, ho, ho2, hb⟩; obtain ⟨Ac, cc, ec⟩ := Kd.R_slice ho; subst ec; obtain ⟨As, cs, es⟩ := Kd.R_slice ho2; subst es; have HC6 := Aside0.mk (show OwnK ((w6.alloc (.cells #[.bool cb, .slice Ac cl.length cc] 24 (0, 0))).alloc (.cells #[.bool sb, .slice As sl.length cs] 24 (0, 0))) w.heap.size ⟨0, false, Ac, cc, cl⟩ from Kd.R_alloc (Kd.R_alloc (Kd.R_mono (Kd.R_lower ho HB5.out.size) (fun _ _ => trivial)) (.cells #[.bool cb, .slice Ac cl.length cc] 24 (0, 0))) (.cells #[.bool sb, .slice As sl.length cs] 24 (0, 0))); have HR6 := Aside0.mk (show OwnK ((w6.alloc (.cells #[.bool cb, .slice Ac cl.length cc] 24 (0, 0))).alloc (.cells #[.bool sb, .slice As sl.length cs] 24 (0, 0))) w.heap.size ⟨0, false, As, cs, sl⟩ from Kd.R_alloc (Kd.R_alloc (Kd.R_mono (Kd.R_lower ho2 HB5.out.size) (fun _ _ => trivial)) (.cells #[.bool cb, .slice Ac cl.length cc] 24 (0, 0))) (.cells #[.bool sb, .slice As sl.length cs] 24 (0, 0))); have HV6 := Aside0.mk (Kd.V_alloc (Kd.V_alloc (Kd.V_below HV5.out hb) (.cells #[.bool cb, .slice Ac cl.length cc] 24 (0, 0))) (.cells #[.bool sb, .slice As sl.length cs] 24 (0, 0))); have HS6 := Aside0.mk (Kd.S_alloc (Kd.S_alloc (Kd.S_below HS5.out hb) (.cells #[.bool cb, .slice Ac cl.length cc] 24 (0, 0))) (.cells #[.bool sb, .slice As sl.length cs] 24 (0, 0))); have HG6 := Aside0.mk (show OwnK ((w6.alloc (.cells #[.bool cb, .slice Ac cl.length cc] 24 (0, 0))).alloc (.cells #[.bool sb, .slice As sl.length cs] 24 (0, 0))) w.heap.size ⟨0, false, Ag, cg, gl⟩ from Kd.R_alloc (Kd.R_alloc (Kd.R_below HG5.out hb) (.cells #[.bool cb, .slice Ac cl.length cc] 24 (0, 0))) (.cells #[.bool sb, .slice As sl.length cs] 24 (0, 0))); have BA6 := Aside0.mk (show ((w6.alloc (.cells #[.bool cb, .slice Ac cl.length cc] 24 (0, 0))).alloc (.cells #[.bool sb, .slice As sl.length cs] 24 (0, 0))).heap[gA]? = some (.cells #[.bool nb, .slice AC nl.length cC, .slice AV nq.length cV] 27 (0, 0)) from blk_alloc (blk_alloc (blk_below BA5.out hb) _) _); have BR6 := Aside0.mk (show ((w6.alloc (.cells #[.bool cb, .slice Ac cl.length cc] 24 (0, 0))).alloc (.cells #[.bool sb, .slice As sl.length cs] 24 (0, 0))).heap[gR]? = some (.cells #[.bool false, .slice none 0 0, .slice none 0 0] 27 (0, 0)) from blk_alloc (blk_alloc (blk_below BR5.out hb) _) _); have BG6 := Aside0.mk (show ((w6.alloc (.cells #[.bool cb, .slice Ac cl.length cc] 24 (0, 0))).alloc (.cells #[.bool sb, .slice As sl.length cs] 24 (0, 0))).heap[w5.heap.size]? = some (.cells #[.bool false, .slice Ag gl.length cg] 24 (0, 0)) from blk_alloc (blk_alloc (blk_below (blk_new w5 _) hb) _) _); have BC6 := Aside0.mk (show ((w6.alloc (.cells #[.bool cb, .slice Ac cl.length cc] 24 (0, 0))).alloc (.cells #[.bool sb, .slice As sl.length cs] 24 (0, 0))).heap[w6.heap.size]? = some (.cells #[.bool cb, .slice Ac cl.length cc] 24 (0, 0)) from blk_alloc (blk_new w6 _) _); have HB6 := Aside0.mk (below_alloc (below_alloc (below_step HB5.out hb) (.cells #[.bool cb, .slice Ac cl.length cc] 24 (0, 0))) (.cells #[.bool sb, .slice As sl.length cs] 24 (0, 0))); have hsz : (w6.alloc (.cells #[.bool cb, .slice Ac cl.length cc] 24 (0, 0))).heap.size = w6.heap.size + 1 := (by simp only [World.alloc, Array.size_push]); have BS6 := Aside0.mk (show ((w6.alloc (.cells #[.bool cb, .slice Ac cl.length cc] 24 (0, 0))).alloc (.cells #[.bool sb, .slice As sl.length cs] 24 (0, 0))).heap[w6.heap.size + 1]? = some (.cells #[.bool sb, .slice As sl.length cs] 24 (0, 0)) from hsz ▸ blk_new (w6.alloc (.cells #[.bool cb, .slice Ac cl.length cc] 24 (0, 0))) (.cells #[.bool sb, .slice As sl.length cs] 24 (0, 0))); clear ho ho2 hb hsz; have hcF0 : ((w6.alloc (.cells #[.bool cb, .slice Ac cl.length cc] 24 (0, 0))).alloc (.cells #[.bool sb, .slice As sl.length cs] 24 (0, 0))).cell? ⟨gA, 0, none⟩ = some (.bool nb) := (blk_cell BA6.out 0).trans rfl; have hcF1 : ((w6.alloc (.cells #[.bool cb, .slice Ac cl.length cc] 24 (0, 0))).alloc (.cells #[.bool sb, .slice As sl.length cs] 24 (0, 0))).cell? ⟨gA, 1, none⟩ = some (.slice AC nl.length cC) := (blk_cell BA6.out 1).trans rfl; have hcF2 : ((w6.alloc (.cells #[.bool cb, .slice Ac cl.length cc] 24 (0, 0))).alloc (.cells #[.bool sb, .slice As sl.length cs] 24 (0, 0))).cell? ⟨gA, 2, none⟩ = some (.slice AV nq.length cV) := (blk_cell BA6.out 2).trans rfl; have hcS0 : ((w6.alloc (.cells #[.bool cb, .slice Ac cl.length cc] 24 (0, 0))).alloc (.cells #[.bool sb, .slice As sl.length cs] 24 (0, 0))).cell? ⟨(w6.heap.size + 1), 0, none⟩ = some (.bool sb) := (blk_cell BS6.out 0).trans rfl; have hcS1 : ((w6.alloc (.cells #[.bool cb, .slice Ac cl.length cc] 24 (0, 0))).alloc (.cells #[.bool sb, .slice As sl.length cs] 24 (0, 0))).cell? ⟨(w6.heap.size + 1), 1, none⟩ = some (.slice As sl.length cs) := (blk_cell BS6.out 1).trans rfl)
      | (go_at_call 19; (with_reducible refine (whole_Sign.calls sb _ _ sl s1 _ ?g1 ?g2 HS1.out).mono ?_); (case g1 => exact (Kd.R_reads' HR6.out).2.2); (case g2 => exact (Kd.R_reads' HR6.out).2.1); rintro e w7 ⟨rfl, hb⟩; have HC7 := Aside0.mk (HC6.out.below hb); have HV7 := Aside0.mk (Kd.V_below HV6.out hb); have HS7 := Aside0.mk (Kd.S_below HS6.out hb); have HG7 := Aside0.mk (HG6.out.below hb); have BA7 := Aside0.mk (blk_below BA6.out hb); have BR7 := Aside0.mk (blk_below BR6.out hb); have BG7 := Aside0.mk (blk_below BG6.out hb); have BC7 := Aside0.mk (blk_below BC6.out hb); have HB7 := Aside0.mk (below_step HB6.out hb); clear hb; have hcH0 : w7.cell? ⟨gA, 0, none⟩ = some (.bool nb) := (blk_cell BA7.out 0).trans rfl; have hcH1 : w7.cell? ⟨gA, 1, none⟩ = some (.slice AC nl.length cC) := (blk_cell BA7.out 1).trans rfl; have hcH2 : w7.cell? ⟨gA, 2, none⟩ = some (.slice AV nq.length cV) := (blk_cell BA7.out 2).trans rfl; have hcR0 : w7.cell? ⟨gR, 0, none⟩ = some (.bool false) := (blk_cell BR7.out 0).trans rfl; have hcR1 : w7.cell? ⟨gR, 1, none⟩ = some (.slice none 0 0) := (blk_cell BR7.out 1).trans rfl; have hcR2 : w7.cell? ⟨gR, 2, none⟩ = some (.slice none 0 0) := (blk_cell BR7.out 2).trans rfl; have hcI0 : w7.cell? ⟨w5.heap.size, 0, none⟩ = some (.bool false) := (blk_cell BG7.out 0).trans rfl; have hcI1 : w7.cell? ⟨w5.heap.size, 1, none⟩ = some (.slice Ag gl.length cg) := (blk_cell BG7.out 1).trans rfl; have hcJ0 : w7.cell? ⟨w6.heap.size, 0, none⟩ = some (.bool cb) := (blk_cell BC7.out 0).trans rfl; have hcJ1 : w7.cell? ⟨w6.heap.size, 1, none⟩ = some (.slice Ac cl.length cc) := (blk_cell BC7.out 1).trans rfl; have hfR0 := blk_frozen BR7.out 0; have hfR1 := blk_frozen BR7.out 1; have hfR2 := blk_frozen BR7.out 2)
      | (go_at_call 43; (with_reducible refine (lin_by.calls nb _ _ nl _ _ nq false _ _ gl cb (fun k_ => w.heap.size ≤ k_ ∧ k_ ≠ gR) _ _ cl cb cl np _ ?b1 ?b2 ?b3 ?b4 ?b5 ?b6 ?b7 (HY.out nb nl cb cl)).mono ?_); (case b1 => exact (Kd.V_reads' HV7.out).2.2); (case b2 => exact (Kd.V_reads' HV7.out).2.1); (case b3 => exact (Kd.S_reads' HS7.out).2.2); (case b4 => exact (Kd.S_reads' HS7.out).2.1); (case b5 => exact (Kd.R_reads' HG7.out).2.2); (case b6 => exact (Kd.R_reads' HG7.out).2.1); (case b7 => exact Kd.R_V (Kd.R_mono (Kd.R_bound (Kd.R_types HC7.out BR7.out (by decide))) (fun k hk => ⟨hk.2.1, hk.1.2⟩))); rintro e w8 ⟨v1, v2, rfl, ho, hs, hb⟩; obtain ⟨A8, c8, e8⟩ := Kd.V_slice ho; subst e8; obtain ⟨A9, c9, e9⟩ := Kd.S_slice hs; subst e9; have GO8 := Aside0.mk (show w.heap.size ≤ w8.heap.size from Nat.le_trans HB7.out.size hb.size); have NRO := Aside0.mk (show gR ≠ w8.heap.size from Nat.ne_of_lt (Nat.lt_of_lt_of_le (blk_lt BR7.out) hb.size)); have HO9 := Aside0.mk (Kd.V_alloc ho (.cells #[.bool cb, .slice A8 cl.length c8, .slice A9 np.length c9] 27 (0, 0))); have HS9 := Aside0.mk (Kd.S_alloc hs (.cells #[.bool cb, .slice A8 cl.length c8, .slice A9 np.length c9] 27 (0, 0))); obtain ⟨ad9, AX, cX, eX, hx0, hx1, hx2, hx3, hx4⟩ := at_T46 (Kd.S_reads' HS9.out).2.2 0 (Int.le_refl 0) HNP.out; have HX := Aside0.mk hx4; have HXc := Aside0.mk hx3; have BR9 := Aside0.mk (show (w8.alloc (.cells #[.bool cb, .slice A8 cl.length c8, .slice A9 np.length c9] 27 (0, 0))).heap[gR]? = some (.cells #[.bool false, .slice none 0 0, .slice none 0 0] 27 (0, 0)) from blk_alloc (blk_below BR7.out hb) _); have BO9 := Aside0.mk (blk_new w8 (.cells #[.bool cb, .slice A8 cl.length c8, .slice A9 np.length c9] 27 (0, 0))); have HB9 := Aside0.mk (below_alloc (below_step HB7.out hb) (.cells #[.bool cb, .slice A8 cl.length c8, .slice A9 np.length c9] 27 (0, 0))); clear ho hs hb hx3 hx4; have ho0 : (w8.alloc (.cells #[.bool cb, .slice A8 cl.length c8, .slice A9 np.length c9] 27 (0, 0))).cell? ⟨w8.heap.size, 0, none⟩ = some (.bool cb) := (blk_cell BO9.out 0).trans rfl; have ho1 : (w8.alloc (.cells #[.bool cb, .slice A8 cl.length c8, .slice A9 np.length c9] 27 (0, 0))).cell? ⟨w8.heap.size, 1, none⟩ = some (.slice A8 cl.length c8) := (blk_cell BO9.out 1).trans rfl; have ho2 : (w8.alloc (.cells #[.bool cb, .slice A8 cl.length c8, .slice A9 np.length c9] 27 (0, 0))).cell? ⟨w8.heap.size, 2, none⟩ = some (.slice A9 np.length c9) := (blk_cell BO9.out 2).trans rfl; cases eX; rw [show ad9.add ((0 : Int).toNat * 3) = ad9 by cases ad9; rfl] at hx1 hx2)
      | (go_at_call 19; (with_reducible refine (whole_Sign.calls _ _ _ _ s2 _ ?i1 ?i2 HS2.out).mono ?_); (case i1 => exact HX.out); (case i2 => exact HXc.out); rintro e w10 ⟨rfl, hb⟩; have HO10 := Aside0.mk (Kd.V_below HO9.out hb); have HS10 := Aside0.mk (Kd.S_below HS9.out hb); have BR10 := Aside0.mk (blk_below BR9.out hb); have BO10 := Aside0.mk (blk_below BO9.out hb); have HB10 := Aside0.mk (below_step HB9.out hb); clear hb; have hp0 : w10.cell? ⟨w8.heap.size, 0, none⟩ = some (.bool cb) := (blk_cell BO10.out 0).trans rfl; have hp1 : w10.cell? ⟨w8.heap.size, 1, none⟩ = some (.slice A8 cl.length c8) := (blk_cell BO10.out 1).trans rfl; have hp2 : w10.cell? ⟨w8.heap.size, 2, none⟩ = some (.slice (some ad9) np.length c9) := (blk_cell BO10.out 2).trans rfl; have hcS0 : w10.cell? ⟨gR, 0, none⟩ = some (.bool false) := (blk_cell BR10.out 0).trans rfl; have hcS1 : w10.cell? ⟨gR, 1, none⟩ = some (.slice none 0 0) := (blk_cell BR10.out 1).trans rfl; have hcS2 : w10.cell? ⟨gR, 2, none⟩ = some (.slice none 0 0) := (blk_cell BR10.out 2).trans rfl; have hgR0 := blk_frozen BR10.out 0; have hgR1 := blk_frozen BR10.out 1; have hgR2 := blk_frozen BR10.out 2))
    · skip
      refine bodyPost_ret (results_ct rfl _ _ gR 27 #[.bool nb, .slice AC nl.length cC, .slice AV nq.length cV] (0, 0) _ rfl (by refine blk_put (cs := #[.bool nb, .slice AC nl.length cC, .slice none 0 0]) ?_ 2 _ rfl; refine blk_put (cs := #[.bool nb, .slice none 0 0, .slice none 0 0]) ?_ 1 _ rfl; refine blk_put (cs := #[.bool false, .slice none 0 0, .slice none 0 0]) ?_ 0 _ rfl; exact BR7.out) Try.underlying27 rfl (by kernel_rfl)) rfl ?_
      have hlt := blk_lt BR2.out
      have hsz := HB2.out.size
      refine ⟨_, _, rfl, Kd.V_mono (Kd.V_far (p := ⟨gR, 2, none⟩) (Kd.V_far (p := ⟨gR, 1, none⟩) (Kd.V_far (p := ⟨gR, 0, none⟩) HV7.out ?n1 _) ?n2 _) ?n3 _) ?n4, Kd.S_mono (Kd.S_lower (Kd.S_far (p := ⟨gR, 2, none⟩) (Kd.S_far (p := ⟨gR, 1, none⟩) (Kd.S_far (p := ⟨gR, 0, none⟩) HS7.out ?m1 _) ?m2 _) ?m3 _) hsz) ?m4, by repeat first | exact HB7.out | refine below_set ?_ GR.out⟩
      case n1 => exact fun k hk e => by have := hk.1; subst e; omega
      case n2 => exact fun k hk e => by have := hk.1; subst e; omega
      case n3 => exact fun k hk e => by have := hk.1; subst e; omega
      case n4 => exact fun k hk => ⟨Nat.le_trans hsz hk.1, hk.2⟩
      case m1 => exact fun k hk e => by subst e; omega
      case m2 => exact fun k hk e => by subst e; omega
      case m3 => exact fun k hk e => by subst e; omega
      case m4 => exact fun k hk => Nat.le_trans hsz hk
    · skip
      refine bodyPost_ret (results_ct rfl _ _ gR 27 #[.bool cb, .slice A8 cl.length c8, .slice (some ad9) np.length c9] (0, 0) _ rfl (by refine blk_put (cs := #[.bool cb, .slice A8 cl.length c8, .slice none 0 0]) ?_ 2 _ rfl; refine blk_put (cs := #[.bool cb, .slice none 0 0, .slice none 0 0]) ?_ 1 _ rfl; refine blk_put (cs := #[.bool false, .slice none 0 0, .slice none 0 0]) ?_ 0 _ rfl; exact BR10.out) Try.underlying27 rfl (by kernel_rfl)) rfl ?_
      have hlt := blk_lt BR7.out
      have hsz := HB7.out.size
      refine ⟨_, _, rfl, Kd.V_mono (Kd.V_far (p := ⟨gR, 2, none⟩) (Kd.V_far (p := ⟨gR, 1, none⟩) (Kd.V_far (p := ⟨gR, 0, none⟩) HO10.out ?n1 _) ?n2 _) ?n3 _) ?n4, Kd.S_mono (Kd.S_lower (Kd.S_far (p := ⟨gR, 2, none⟩) (Kd.S_far (p := ⟨gR, 1, none⟩) (Kd.S_far (p := ⟨gR, 0, none⟩) HS10.out ?m1 _) ?m2 _) ?m3 _) hsz) ?m4, by repeat first | exact HB10.out | refine below_set ?_ GR.out⟩
      case n1 => exact fun k hk => hk.1.elim (fun h => h.2) (fun h e => by subst e; omega)
      case n2 => exact fun k hk => hk.1.elim (fun h => h.2) (fun h e => by subst e; omega)
      case n3 => exact fun k hk => hk.1.elim (fun h => h.2) (fun h e => by subst e; omega)
      case n4 => exact fun k hk => ⟨hk.1.elim (fun h => h.1) (fun h => Nat.le_trans hsz h), hk.2⟩
      case m1 => exact fun k hk e => by subst e; omega
      case m2 => exact fun k hk e => by subst e; omega
      case m3 => exact fun k hk e => by subst e; omega
      case m4 => exact fun k hk => Nat.le_trans hsz hk
    · skip
      refine start_ (n := 4) (S := fun w' => w'.cell? ⟨w8.heap.size, 0, none⟩ = some (.bool cb) ∧ w'.cell? ⟨w8.heap.size, 1, none⟩ = some (.slice A8 cl.length c8) ∧ w'.cell? ⟨w8.heap.size, 2, none⟩ = some (.slice (some ad9) np.length c9)) (ds := [3]) #[false, false, false, false] (by kernel_rfl) rfl rfl ⟨hp0, hp1, hp2⟩ (fun hHeld => ?_)
      refine take_ (i := 0) (N := some 46) (v := ?_) (a' := ?_) #[true, false, false, false] rfl rfl (by kernel_rfl) (fun _ _ _ h => h) (Or.inl ⟨by rfl, ?_⟩) hHeld ?_ ?_
      rotate_left
      · rintro w' ⟨s0, s1, s2⟩
        go_simp
        with_reducible rfl
      rotate_left
      · simp only [Act.put, List.setIfInBounds_toArray, List.set_cons_zero, List.set_cons_succ, i64_w, i32_w]
        rfl
      refine one_ (i := 1) (N := some 47) #[true, true, false, false] rfl rfl (by kernel_rfl) (by decide) (fun K hK => ?_)
      refine goes_ Try.func33 (by kernel_rfl) rfl #[.int .i64 (-1)] (by rfl) rfl rfl (by simp only [List.map_toArray, List.map_cons, List.map_nil]; rfl) ?_
      with_reducible refine (whole_Of.calls (-1) tb tl _ HOF.out).mono ?_
      rintro e w11 ⟨v11, rfl, ho, hb⟩
      obtain ⟨A11, c11, e11⟩ := Kd.R_slice ho
      subst e11
      have HV11 := Aside0.mk ho
      have HB11 := Aside0.mk (show Below w10.heap.size w10 w11 from below_step (by repeat first | exact Below.refl _ _ | apply below_drew1) hb)
      have BO11 := Aside0.mk (blk_below BO10.out HB11.out)
      have hq0 : w11.cell? ⟨w8.heap.size, 0, none⟩ = some (.bool cb) := (blk_cell BO11.out 0).trans rfl
      have hq1 : w11.cell? ⟨w8.heap.size, 1, none⟩ = some (.slice A8 cl.length c8) := (blk_cell BO11.out 1).trans rfl
      have hq2 : w11.cell? ⟨w8.heap.size, 2, none⟩ = some (.slice (some ad9) np.length c9) := (blk_cell BO11.out 2).trans rfl
      clear ho hb
      refine ⟨_, rfl, ?_⟩
      refine hK.out _ _ ⟨hq0, hq1, hq2⟩ (fun hHeld => ?_)
      clear hK K
      refine norm_ (a' := ?_) ?_ ?_
      rotate_left
      · show Act.put _ (some 47) _ = _
        simp only [Act.put, List.setIfInBounds_toArray, List.set_cons_zero, List.set_cons_succ, i64_w, i32_w]
        rfl
      refine one_ (i := 2) (N := some 48) #[true, true, true, false] rfl rfl (by kernel_rfl) (by decide) (fun K hK => ?_)
      refine goes_ Try.func24 (by kernel_rfl) rfl #[.agg #[.bool cb, .slice A8 cl.length c8, .slice (some ad9) np.length c9], .agg #[.bool tb, .slice A11 tl.length c11]] (by rfl) rfl rfl (by simp only [List.map_toArray, List.map_cons, List.map_nil]; rfl) ?_
      with_reducible refine (lin_Scale.calls kS cb _ _ cl _ _ np tb _ _ tl r1 r2 r3 _ ?s1 ?s2 ?s3 ?s4 ?s5 ?s6 HSC.out).mono ?_
      (case s1 => exact (Kd.V_reads' (Kd.V_below HO10.out HB11.out)).2.2)
      (case s2 => exact (Kd.V_reads' HO10.out).2.1)
      (case s3 => exact (Kd.S_reads' (Kd.S_below HS10.out HB11.out)).2.2)
      (case s4 => exact (Kd.S_reads' HS10.out).2.1)
      (case s5 => exact (Kd.R_reads' HV11.out).2.2)
      (case s6 => exact (Kd.R_reads' HV11.out).2.1)
      rintro e w12 ⟨v1, v2, rfl, ho, hs, hb⟩
      obtain ⟨A12, c12, e12⟩ := Kd.R_slice ho
      subst e12
      obtain ⟨A13, c13, e13⟩ := Kd.S_slice hs
      subst e13
      have HO12 := Aside0.mk ho
      have HS12 := Aside0.mk hs
      have HB12 := Aside0.mk (below_step HB11.out hb)
      have BO12 := Aside0.mk (blk_below BO10.out HB12.out)
      have BR12 := Aside0.mk (blk_below BR10.out HB12.out)
      have hcT0 : w12.cell? ⟨gR, 0, none⟩ = some (.bool false) := (blk_cell BR12.out 0).trans rfl
      have hcT1 : w12.cell? ⟨gR, 1, none⟩ = some (.slice none 0 0) := (blk_cell BR12.out 1).trans rfl
      have hcT2 : w12.cell? ⟨gR, 2, none⟩ = some (.slice none 0 0) := (blk_cell BR12.out 2).trans rfl
      have hgT0 := blk_frozen BR12.out 0
      have hgT1 := blk_frozen BR12.out 1
      have hgT2 := blk_frozen BR12.out 2
      have nRO : gR ≠ w8.heap.size := NRO.out
      have nOR : w8.heap.size ≠ gR := fun e => NRO.out e.symm
      have hr0 : w12.cell? ⟨w8.heap.size, 0, none⟩ = some (.bool cb) := (blk_cell BO12.out 0).trans rfl
      have hr1 : w12.cell? ⟨w8.heap.size, 1, none⟩ = some (.slice A8 cl.length c8) := (blk_cell BO12.out 1).trans rfl
      have hr2 : w12.cell? ⟨w8.heap.size, 2, none⟩ = some (.slice (some ad9) np.length c9) := (blk_cell BO12.out 2).trans rfl
      have hfo0 := blk_frozen BO12.out 0
      have hfo1 := blk_frozen BO12.out 1
      have hfo2 := blk_frozen BO12.out 2
      clear ho hs hb
      refine ⟨_, rfl, ?_⟩
      refine hK.out _ _ ⟨hr0, hr1, hr2⟩ (fun hHeld => ?_)
      clear hK K
      refine norm_ (a' := ?_) ?_ ?_
      rotate_left
      · show Act.put _ (some 48) _ = _
        simp only [Act.put, List.setIfInBounds_toArray, List.set_cons_zero, List.set_cons_succ, i64_w, i32_w]
        rfl
      refine last_ (i := 3) (N := none) #[true, true, true, true] rfl rfl (by kernel_rfl) (by decide) (fun K hK => ?_)
      refine skip_ (w1 := ?_) (by rfl) rfl ?_ ?_
      rotate_left
      · go_simp
        rfl
      refine hK.out _ _ ?_
      clear hK K
      refine done_ (by kernel_rfl) ?_
      go_wp2_with fail
      have hbR : (((w12.setCell ⟨w8.heap.size, 0, none⟩ (.bool r1)).setCell ⟨w8.heap.size, 1, none⟩ (.slice A12 r2.length c12)).setCell ⟨w8.heap.size, 2, none⟩ (.slice A13 r3.length c13)).heap[gR]? = some (.cells #[.bool false, .slice none 0 0, .slice none 0 0] 27 (0, 0)) := (set3_other w12 w8.heap.size 0 1 2 _ _ _ gR NRO.out).trans BR12.out
      refine bodyPost_ret (results_ct rfl _ _ gR 27 #[.bool r1, .slice A12 r2.length c12, .slice A13 r3.length c13] (0, 0) _ rfl (by refine blk_put (cs := #[.bool r1, .slice A12 r2.length c12, .slice none 0 0]) ?_ 2 _ rfl; refine blk_put (cs := #[.bool r1, .slice none 0 0, .slice none 0 0]) ?_ 1 _ rfl; refine blk_put (cs := #[.bool false, .slice none 0 0, .slice none 0 0]) ?_ 0 _ rfl; exact hbR) Try.underlying27 rfl (by kernel_rfl)) rfl ?_
      have hlb := Nat.le_trans HB10.out.size HB11.out.size
      obtain ⟨hV, hS⟩ := out_lin (w1 := (((((w12.setCell ⟨w8.heap.size, 0, none⟩ (.bool r1)).setCell ⟨w8.heap.size, 1, none⟩ (.slice A12 r2.length c12)).setCell ⟨w8.heap.size, 2, none⟩ (.slice A13 r3.length c13)).setCell ⟨gR, 0, none⟩ (.bool r1)).setCell ⟨gR, 1, none⟩ (.slice A12 r2.length c12)).setCell ⟨gR, 2, none⟩ (.slice A13 r3.length c13)) (Kd.R_lower HO12.out hlb) (Kd.S_lower HS12.out hlb) (fun k cells t ht hk => by
        have hne : t ≠ 27 := by rcases ht with rfl | rfl <;> decide
        exact (set3_other _ _ _ _ _ _ _ _ k (box_ne BR12.out hk (fun e => hne e.symm))).trans (set3_other _ _ _ _ _ _ _ _ k (box_ne BO12.out hk (fun e => hne e.symm))))
      exact ⟨_, _, rfl, hV, hS, by repeat first | exact below_step HB10.out HB12.out | refine below_set ?_ GR.out | refine below_set ?_ GO8.out⟩
end Go.Proofs.Ytdicjemjmlbmlaa.H
/- Written by a program of this session, wip/tools/patch_print.py, over the kit's print of the loaded functions. -/
namespace Go.Proofs.Ytdicjemjmlbmlaa.H
end Go.Proofs.Ytdicjemjmlbmlaa.H
namespace Go.Proofs.Ytdicjemjmlbmlaa.PA
open Go.RowKit Go.Proofs.YtdicjemjmlbmlaaW.PrintWords Go.Proofs.YtdicjemjmlbmlaaW.PrintLast Go.Proofs.YtdicjemjmlbmlaaW.PrintMore Go.Proofs.Ytdicjemjmlbmlaa.H
attribute [local go_sem] max2_int min2_int max_two min_two max_three min_three max_four min_four   -- for this text's walks alone
set_option linter.unusedVariables false
set_option linter.unusedSimpArgs false

/-! ### gudgeonref13_Light: function 40 -/
mutual
def gudgeonref13_Light.j0 : Nat → Int → Bool → Bool → List Int → List (S46) → Option (Bool)
 | 0, _, _, _, _, _ => none
 | k + 1, x2, x20, x611000, x611001, x611002 => if x20 = true then (some false) else (gudgeonref13_Light.l0 k x2 0 x611000 x611001 x611002)
def gudgeonref13_Light.l0 : Nat → Int → Int → Bool → List Int → List (S46) → Option (Bool)
 | 0, _, _, _, _, _ => none
 | k + 1, x2, x7, x611000, x611001, x611002 => if x7 < (x611002.length : Int) then (if 0 ≤ x7 then (if (((rd_T46 x611002 x7).f1.f1).length : Int) > x2 then (some false) else (gudgeonref13_Light.l0 k x2 (wrap64 (x7 + 1)) x611000 x611001 x611002)) else (none)) else (some true)
end
def gudgeonref13_Light.f (k : Nat) (a0_0 : Bool) (l0_1 : List Int) (l0_2 : List (S46)) (a1 : Int) (a2 : Int) : Option (Bool) := if (l0_2.length : Int) > a1 then (gudgeonref13_Light.j0 k a2 true a0_0 l0_1 l0_2) else (gudgeonref13_Light.j0 k a2 (decide ((l0_1.length : Int) > a2)) a0_0 l0_1 l0_2)
set_option maxHeartbeats 8000000 in
set_option maxRecDepth 100000 in
theorem gudgeonref13_Light.calls (k : Nat) (a0_0 : Bool) (A0_1 : Option Addr) (c0_1 : Nat) (l0_1 : List Int) (A0_2 : Option Addr) (c0_2 : Nat) (l0_2 : List (S46)) (a1 : Int) (a2 : Int) (r : Bool) (w : World) (hr0_1 : Kd.C (Kd.int .u32) w A0_1 l0_1.length l0_1) (hc0_1 : l0_1.length ≤ c0_1) (hr0_2 : Kd.C k46 w A0_2 l0_2.length l0_2) (hc0_2 : l0_2.length ≤ c0_2) (h : gudgeonref13_Light.f k a0_0 l0_1 l0_2 a1 a2 = some r) :
  Calls Try.prog 40 #[.agg #[.bool a0_0, .slice A0_1 l0_1.length c0_1, .slice A0_2 l0_2.length c0_2], .int .i64 a1, .int .i64 a2] w fun e w' => e = .returned (.bool r) ∧ Below w.heap.size w w' := by
 have hu27 := Try.underlying27
 have HR0_1 := Aside0.mk hr0_1
 have HC0_1 := Aside0.mk hc0_1
 clear hr0_1 hc0_1
 have HR0_2 := Aside0.mk hr0_2
 have HC0_2 := Aside0.mk hc0_2
 clear hr0_2 hc0_2
 have HB := Aside0.mk (Below.refl w.heap.size w)
 have H : (if (l0_2.length : Int) > a1 then (gudgeonref13_Light.j0 k a2 true a0_0 l0_1 l0_2) else (gudgeonref13_Light.j0 k a2 (decide ((l0_1.length : Int) > a2)) a0_0 l0_1 l0_2)) = some r := h
 clear h
 have HC4 := Aside0.mk H
 clear H
 go_enter Try.func40, Try.ntmps40
 go_upto_region 1 with (first | ((with_reducible refine gate_dst (N := 3) rfl ?_); (try (refine gate_guard (by rfl) ?_; dsimp only)); refine box_event ?hg (N := 3) ?hd (cs := #[.bool a0_0, .slice A0_1 l0_1.length c0_1, .slice A0_2 l0_2.length c0_2]) (t := 27) ?hr ?_; (case hd => rfl); (case hg => rfl); (case hr => first | (go_simp; done) | (go_simp; rfl)); intro gb610 hg w5 hbox hb; have BK610 := Aside0.mk (hbox); have GW610 := Aside0.mk (bxLe HB.out hg); have GE610 := GW610; replace HB := Aside0.mk (below_step HB.out hb); clear hb hbox hg))
 (try simp only [Act.put, List.setIfInBounds_toArray, List.set_cons_zero, List.set_cons_succ])
 go_cut [20] (fun v20 wc => ∃ (kq : Nat) (x20_3 : Bool), v20 = .bool x20_3 ∧ Aside0 (gudgeonref13_Light.j0 kq a2 x20_3 a0_0 l0_1 l0_2 = some r) ∧ Aside0 (kq ≤ k) ∧ Aside0 (wc.heap[gb610]? = some (.cells #[.bool a0_0, (.slice A0_1 l0_1.length c0_1), (.slice A0_2 l0_2.length c0_2)] 27 (0, 0))) ∧ Aside0 (Below w.heap.size w wc))
 case first =>
  have H := HC4.out
  clear HC4
  by_cases c6 : (l0_2.length : Int) > a1
  ·rw [if_pos c6] at H
   have c6b0 : decide (a1 < (l0_2.length : Int)) = true := decide_eq_true c6
   clear c6
   (first | rw [c6b0] | rw [c6b1] | (simp only [i64_w, i32_w]; rw [c6b0]) | skip)
   have H' := Aside0.mk H
   clear H
   have hcz7_0 : w5.cell? ⟨gb610, 0, none⟩ = some (.bool a0_0) := bc0 BK610.out
   have hcz7_1 : w5.cell? ⟨gb610, 1, none⟩ = some (.slice A0_1 l0_1.length c0_1) := bc1 BK610.out
   have hcz7_2 : w5.cell? ⟨gb610, 2, none⟩ = some (.slice A0_2 l0_2.length c0_2) := bc2 BK610.out
   have hfz7_0 := blk_frozen BK610.out 0
   have hfz7_1 := blk_frozen BK610.out 1
   have hfz7_2 := blk_frozen BK610.out 2
   go_wp2
   go_meet
   case rel => exact ⟨_, (true), (by first | rfl | (simp; done)), H', ⟨by first | omega | exact Nat.le_refl _⟩, ⟨BK610.out⟩, ⟨HB.out⟩⟩
  ·rw [if_neg c6] at H
   have c6b0 : decide (a1 < (l0_2.length : Int)) = false := decide_eq_false c6
   clear c6
   (first | rw [c6b0] | rw [c6b1] | (simp only [i64_w, i32_w]; rw [c6b0]) | skip)
   have H' := Aside0.mk H
   clear H
   have hcz8_0 : w5.cell? ⟨gb610, 0, none⟩ = some (.bool a0_0) := bc0 BK610.out
   have hcz8_1 : w5.cell? ⟨gb610, 1, none⟩ = some (.slice A0_1 l0_1.length c0_1) := bc1 BK610.out
   have hcz8_2 : w5.cell? ⟨gb610, 2, none⟩ = some (.slice A0_2 l0_2.length c0_2) := bc2 BK610.out
   have hfz8_0 := blk_frozen BK610.out 0
   have hfz8_1 := blk_frozen BK610.out 1
   have hfz8_2 := blk_frozen BK610.out 2
   go_wp2
   go_meet
   case rel => exact ⟨_, (decide ((l0_1.length : Int) > a2)), (by first | rfl | (simp; done)), H', ⟨by first | omega | exact Nat.le_refl _⟩, ⟨BK610.out⟩, ⟨HB.out⟩⟩
 case rest =>
  clear HC4
  try clear p2
  try clear c4
  try clear c6
  try clear c6b0
  try clear hcz7_0
  try clear hcz7_1
  try clear hcz7_2
  try clear hcz8_0
  try clear hcz8_1
  try clear hcz8_2
  try clear hfz7_0
  try clear hfz7_1
  try clear hfz7_2
  try clear hfz8_0
  try clear hfz8_1
  try clear hfz8_2
  obtain ⟨kq, x20_3, rfl, HA, HJ3, BK610, HB⟩ := hcut
  cases kq with
  | zero => exact absurd HA.out (by simp [gudgeonref13_Light.j0])
  | succ kj3 =>
   have H := HA.out
   clear HA
   simp only [gudgeonref13_Light.j0] at H
   by_cases c9 : x20_3 = true
   ·subst c9
    rw [if_pos rfl] at H
    obtain rfl := Option.some.inj H
    go_wp2
    go_ret
    exact ⟨by first | rfl | (simp [errW_none, errW_some] <;> rfl) | (refine congrArg (fun z_ => Ending.returned (Value.bool z_)) (decide_eq_decide.mpr ?_); unfold wrap64; omega) | (simp [*, errW_none, errW_some] <;> rfl), HB.out⟩
   ·replace c9 := Bool.eq_false_iff.mpr c9
    subst c9
    rw [if_neg (show ¬ (false = true) by decide)] at H
    have H' := Aside0.mk H
    clear H
    go_wp2
    go_loopg [7] kj3 (fun kq v7 w' => ∃ (x7_2 : Int), v7 = .int .i64 x7_2 ∧ Aside0 (gudgeonref13_Light.l0 kq a2 x7_2 a0_0 l0_1 l0_2 = some r) ∧ Aside0 (kq ≤ kj3) ∧ Aside0 (w'.heap[gb610]? = some (.cells #[.bool a0_0, (.slice A0_1 l0_1.length c0_1), (.slice A0_2 l0_2.length c0_2)] 27 (0, 0))) ∧ Aside0 (Below w.heap.size w w'))
    case atStart => exact ⟨(0), (by first | rfl | (simp; done)), H', ⟨Nat.le_refl _⟩, ⟨BK610.out⟩, ⟨HB.out⟩⟩
    case round =>
     clear H'
     try clear p2
     try clear c4
     try clear c6
     try clear c6b0
     try clear c9
     try clear hcz7_0
     try clear hcz7_1
     try clear hcz7_2
     try clear hcz8_0
     try clear hcz8_1
     try clear hcz8_2
     try clear hfz7_0
     try clear hfz7_1
     try clear hfz7_2
     try clear hfz8_0
     try clear hfz8_1
     try clear hfz8_2
     try clear p2
     obtain ⟨x7_2, rfl, HA, HK2, BK610, HB⟩ := hrel
     cases gk with
     | zero => exact absurd HA.out (by simp [gudgeonref13_Light.l0])
     | succ k2 =>
      have H := HA.out
      clear HA
      simp only [gudgeonref13_Light.l0] at H
      by_cases c10 : x7_2 < (l0_2.length : Int)
      ·rw [if_pos c10] at H
       have c10b0 : decide (x7_2 < (l0_2.length : Int)) = true := decide_eq_true c10
       clear c10
       by_cases c11 : 0 ≤ x7_2
       ·rw [if_pos c11] at H
        have c11b0 : decide (0 ≤ x7_2) = true := decide_eq_true c11
        clear c11
        by_cases c12 : (((rd_T46 l0_2 x7_2).f1.f1).length : Int) > a2
        ·rw [if_pos c12] at H
         have c12b0 : decide (a2 < (((rd_T46 l0_2 x7_2).f1.f1).length : Int)) = true := decide_eq_true c12
         clear c12
         obtain rfl := Option.some.inj H
         have hcz13_0 : wr.cell? ⟨gb610, 0, none⟩ = some (.bool a0_0) := bc0 BK610.out
         have hcz13_1 : wr.cell? ⟨gb610, 1, none⟩ = some (.slice A0_1 l0_1.length c0_1) := bc1 BK610.out
         have hcz13_2 : wr.cell? ⟨gb610, 2, none⟩ = some (.slice A0_2 l0_2.length c0_2) := bc2 BK610.out
         have hfz13_0 := blk_frozen BK610.out 0
         have hfz13_1 := blk_frozen BK610.out 1
         have hfz13_2 := blk_frozen BK610.out 2
         have p611 : 0 ≤ (x7_2 : Int) := of_decide_eq_true (by first | (with_reducible assumption) | assumption)
         have q611 : x7_2 < (l0_2.length : Int) := of_decide_eq_true (by first | (with_reducible assumption) | assumption)
         obtain ⟨ad611, A611_2, c611_2, e611, hx611_0, hx611_1, hx611_2, hl611_2, hi611_2⟩ := at_T46 HR0_2.out x7_2 p611 q611
         cases e611
         replace hx611_0 := (HB.out.cell (World.block_lt_of_cell? w _ hx611_0)).trans hx611_0
         replace hx611_1 := (HB.out.cell (World.block_lt_of_cell? w _ hx611_1)).trans hx611_1
         replace hx611_2 := (HB.out.cell (World.block_lt_of_cell? w _ hx611_2)).trans hx611_2
         have HR611_2 := Aside0.mk hi611_2
         have HC611_2 := Aside0.mk hl611_2
         clear hi611_2 hl611_2
         replace p611 := eq_true p611
         replace q611 := eq_true q611
         go_wp2
         go_ret
         exact ⟨by first | rfl | (simp [errW_none, errW_some] <;> rfl) | (refine congrArg (fun z_ => Ending.returned (Value.bool z_)) (decide_eq_decide.mpr ?_); unfold wrap64; omega) | (simp [*, errW_none, errW_some] <;> rfl), HB.out⟩
        ·rw [if_neg c12] at H
         have c12b0 : decide (a2 < (((rd_T46 l0_2 x7_2).f1.f1).length : Int)) = false := decide_eq_false c12
         clear c12
         have H' := Aside0.mk H
         clear H
         have hcz14_0 : wr.cell? ⟨gb610, 0, none⟩ = some (.bool a0_0) := bc0 BK610.out
         have hcz14_1 : wr.cell? ⟨gb610, 1, none⟩ = some (.slice A0_1 l0_1.length c0_1) := bc1 BK610.out
         have hcz14_2 : wr.cell? ⟨gb610, 2, none⟩ = some (.slice A0_2 l0_2.length c0_2) := bc2 BK610.out
         have hfz14_0 := blk_frozen BK610.out 0
         have hfz14_1 := blk_frozen BK610.out 1
         have hfz14_2 := blk_frozen BK610.out 2
         have p611 : 0 ≤ (x7_2 : Int) := of_decide_eq_true (by first | (with_reducible assumption) | assumption)
         have q611 : x7_2 < (l0_2.length : Int) := of_decide_eq_true (by first | (with_reducible assumption) | assumption)
         obtain ⟨ad611, A611_2, c611_2, e611, hx611_0, hx611_1, hx611_2, hl611_2, hi611_2⟩ := at_T46 HR0_2.out x7_2 p611 q611
         cases e611
         replace hx611_0 := (HB.out.cell (World.block_lt_of_cell? w _ hx611_0)).trans hx611_0
         replace hx611_1 := (HB.out.cell (World.block_lt_of_cell? w _ hx611_1)).trans hx611_1
         replace hx611_2 := (HB.out.cell (World.block_lt_of_cell? w _ hx611_2)).trans hx611_2
         have HR611_2 := Aside0.mk hi611_2
         have HC611_2 := Aside0.mk hl611_2
         clear hi611_2 hl611_2
         replace p611 := eq_true p611
         replace q611 := eq_true q611
         go_wp2
         go_roundg k2
         case measure => have := HJ3.out; have := HK2.out; omega
         case rel => exact ⟨(wrap64 (x7_2 + 1)), (by first | rfl | (simp; done)), H', ⟨by have := HJ3.out; have := HK2.out; omega⟩, ⟨BK610.out⟩, ⟨HB.out⟩⟩
       ·rw [if_neg c11] at H
        exact absurd H (by simp)
      ·rw [if_neg c10] at H
       have c10b0 : decide (x7_2 < (l0_2.length : Int)) = false := decide_eq_false c10
       clear c10
       obtain rfl := Option.some.inj H
       have hcz15_0 : wr.cell? ⟨gb610, 0, none⟩ = some (.bool a0_0) := bc0 BK610.out
       have hcz15_1 : wr.cell? ⟨gb610, 1, none⟩ = some (.slice A0_1 l0_1.length c0_1) := bc1 BK610.out
       have hcz15_2 : wr.cell? ⟨gb610, 2, none⟩ = some (.slice A0_2 l0_2.length c0_2) := bc2 BK610.out
       have hfz15_0 := blk_frozen BK610.out 0
       have hfz15_1 := blk_frozen BK610.out 1
       have hfz15_2 := blk_frozen BK610.out 2
       go_wp2
       go_ret
       exact ⟨by first | rfl | (simp [errW_none, errW_some] <;> rfl) | (refine congrArg (fun z_ => Ending.returned (Value.bool z_)) (decide_eq_decide.mpr ?_); unfold wrap64; omega) | (simp [*, errW_none, errW_some] <;> rfl), HB.out⟩

/-! ### gudgeonlaw13_light: function 10 -/
def gudgeonlaw13_light.f (k : Nat) (a0_0 : Bool) (l0_1 : List Int) (l0_2 : List (S46)) (a1_0 : Bool) (l1_1 : List Int) (l1_2 : List (S46)) : Option (Bool) := (gudgeonref13_Light.f k a0_0 l0_1 l0_2 20 8).bind fun t614 => ((gudgeonref13_Light.f k a1_0 l1_1 l1_2 20 8).bind fun t615 => (if t614 = true then (some t615) else (some false)))
set_option maxHeartbeats 8000000 in
set_option maxRecDepth 100000 in
theorem gudgeonlaw13_light.calls (k : Nat) (a0_0 : Bool) (A0_1 : Option Addr) (c0_1 : Nat) (l0_1 : List Int) (A0_2 : Option Addr) (c0_2 : Nat) (l0_2 : List (S46)) (a1_0 : Bool) (A1_1 : Option Addr) (c1_1 : Nat) (l1_1 : List Int) (A1_2 : Option Addr) (c1_2 : Nat) (l1_2 : List (S46)) (r : Bool) (w : World) (hr0_1 : Kd.C (Kd.int .u32) w A0_1 l0_1.length l0_1) (hc0_1 : l0_1.length ≤ c0_1) (hr0_2 : Kd.C k46 w A0_2 l0_2.length l0_2) (hc0_2 : l0_2.length ≤ c0_2) (hr1_1 : Kd.C (Kd.int .u32) w A1_1 l1_1.length l1_1) (hc1_1 : l1_1.length ≤ c1_1) (hr1_2 : Kd.C k46 w A1_2 l1_2.length l1_2) (hc1_2 : l1_2.length ≤ c1_2) (h : gudgeonlaw13_light.f k a0_0 l0_1 l0_2 a1_0 l1_1 l1_2 = some r) :
  Calls Try.prog 10 #[.agg #[.bool a0_0, .slice A0_1 l0_1.length c0_1, .slice A0_2 l0_2.length c0_2], .agg #[.bool a1_0, .slice A1_1 l1_1.length c1_1, .slice A1_2 l1_2.length c1_2]] w fun e w' => e = .returned (.bool r) ∧ Below w.heap.size w w' := by
 have hu27 := Try.underlying27
 have HR0_1 := Aside0.mk hr0_1
 have HC0_1 := Aside0.mk hc0_1
 clear hr0_1 hc0_1
 have HR0_2 := Aside0.mk hr0_2
 have HC0_2 := Aside0.mk hc0_2
 clear hr0_2 hc0_2
 have HR1_1 := Aside0.mk hr1_1
 have HC1_1 := Aside0.mk hc1_1
 clear hr1_1 hc1_1
 have HR1_2 := Aside0.mk hr1_2
 have HC1_2 := Aside0.mk hc1_2
 clear hr1_2 hc1_2
 have HB := Aside0.mk (Below.refl w.heap.size w)
 have H : ((gudgeonref13_Light.f k a0_0 l0_1 l0_2 20 8).bind fun t614 => ((gudgeonref13_Light.f k a1_0 l1_1 l1_2 20 8).bind fun t615 => (if t614 = true then (some t615) else (some false)))) = some r := h
 clear h
 obtain ⟨t614, A30, H⟩ := Option.bind_eq_some_iff.mp H
 try dsimp only at H
 have A3 := Aside0.mk A30
 clear A30
 obtain ⟨t615, A40, H⟩ := Option.bind_eq_some_iff.mp H
 try dsimp only at H
 have A4 := Aside0.mk A40
 clear A40
 by_cases c5 : t614 = true
 ·subst c5
  rw [if_pos rfl] at H
  obtain rfl := Option.some.inj H
  go_enter Try.func10, Try.ntmps10
  go_wp2_with (first | ((with_reducible refine gate_dst (N := 2) rfl ?_); refine box_event ?hg (N := 2) ?hd (cs := #[.bool a0_0, .slice A0_1 l0_1.length c0_1, .slice A0_2 l0_2.length c0_2]) (t := 27) ?hr ?_; (case hd => rfl); (case hg => rfl); (case hr => first | (go_simp; done) | (go_simp; rfl)); intro gb612 hg w6 hbox hb; have BK612 := Aside0.mk (hbox); have GW612 := Aside0.mk (bxLe HB.out hg); have GE612 := GW612; replace HB := Aside0.mk (below_step HB.out hb); clear hb hbox hg) | ((with_reducible refine gate_dst (N := 3) rfl ?_); refine box_event ?hg (N := 3) ?hd (cs := #[.bool a1_0, .slice A1_1 l1_1.length c1_1, .slice A1_2 l1_2.length c1_2]) (t := 27) ?hr ?_; (case hd => rfl); (case hg => rfl); (case hr => first | (go_simp; done) | (go_simp; rfl)); intro gb613 hg w7 hbox hb; have BK613 := Aside0.mk (hbox); have GW613 := Aside0.mk (bxLe HB.out hg); have GE613 := GW613; replace HB := Aside0.mk (below_step HB.out hb); have NB612_613 := Aside0.mk (neL BK612.out hg); have NB613_612 := Aside0.mk (neR BK612.out hg); replace BK612 := Aside0.mk (blk_below BK612.out hb); clear hb hbox hg; have hnb8 := NB612_613.out; have hnc8 := NB613_612.out; have hcz9_0 : w7.cell? ⟨gb612, 0, none⟩ = some (.bool a0_0) := bc0 BK612.out; have hcz9_1 : w7.cell? ⟨gb612, 1, none⟩ = some (.slice A0_1 l0_1.length c0_1) := bc1 BK612.out; have hcz9_2 : w7.cell? ⟨gb612, 2, none⟩ = some (.slice A0_2 l0_2.length c0_2) := bc2 BK612.out; have hfz9_0 := blk_frozen BK612.out 0; have hfz9_1 := blk_frozen BK612.out 1; have hfz9_2 := blk_frozen BK612.out 2) | ((with_reducible refine gate_callee (f := 40) rfl ?_); refine goL (some 8) Try.func40 [.agg #[.bool a0_0, .slice A0_1 l0_1.length c0_1, .slice A0_2 l0_2.length c0_2], .int .i64 20, .int .i64 8] ?_; (with_reducible refine (gudgeonref13_Light.calls k a0_0 _ _ l0_1 _ _ l0_2 20 8 true _ ?side1 ?side2 ?side3 ?side4 A3.out).mono ?_); (case side1 => exact (Kd.C_below HR0_1.out HB.out)); (case side2 => exact HC0_1.out); (case side3 => exact (Kd.C_below HR0_2.out HB.out)); (case side4 => exact HC0_2.out); rintro e w10 ⟨rfl, hb⟩; refine ⟨_, rfl, ?_⟩; replace BK613 := Aside0.mk (blk_below BK613.out hb); replace HB := Aside0.mk (below_step HB.out hb); (try clear hb); (try clear hb2); (try clear hk); (try clear hi); have hcz11_0 : w10.cell? ⟨gb613, 0, none⟩ = some (.bool a1_0) := bc0 BK613.out; have hcz11_1 : w10.cell? ⟨gb613, 1, none⟩ = some (.slice A1_1 l1_1.length c1_1) := bc1 BK613.out; have hcz11_2 : w10.cell? ⟨gb613, 2, none⟩ = some (.slice A1_2 l1_2.length c1_2) := bc2 BK613.out; have hfz11_0 := blk_frozen BK613.out 0; have hfz11_1 := blk_frozen BK613.out 1; have hfz11_2 := blk_frozen BK613.out 2) | ((with_reducible refine gate_callee (f := 40) rfl ?_); refine goL (some 10) Try.func40 [.agg #[.bool a1_0, .slice A1_1 l1_1.length c1_1, .slice A1_2 l1_2.length c1_2], .int .i64 20, .int .i64 8] ?_; (with_reducible refine (gudgeonref13_Light.calls k a1_0 _ _ l1_1 _ _ l1_2 20 8 t615 _ ?side1 ?side2 ?side3 ?side4 A4.out).mono ?_); (case side1 => exact (Kd.C_below HR1_1.out HB.out)); (case side2 => exact HC1_1.out); (case side3 => exact (Kd.C_below HR1_2.out HB.out)); (case side4 => exact HC1_2.out); rintro e w12 ⟨rfl, hb⟩; refine ⟨_, rfl, ?_⟩; replace HB := Aside0.mk (below_step HB.out hb); (try clear hb); (try clear hb2); (try clear hk); (try clear hi)))
  go_ret
  exact ⟨by first | rfl | (simp [errW_none, errW_some] <;> rfl) | (refine congrArg (fun z_ => Ending.returned (Value.bool z_)) (decide_eq_decide.mpr ?_); unfold wrap64; omega) | (simp [*, errW_none, errW_some] <;> rfl), HB.out⟩
 ·replace c5 := Bool.eq_false_iff.mpr c5
  subst c5
  rw [if_neg (show ¬ (false = true) by decide)] at H
  obtain rfl := Option.some.inj H
  go_enter Try.func10, Try.ntmps10
  go_wp2_with (first | ((with_reducible refine gate_dst (N := 2) rfl ?_); refine box_event ?hg (N := 2) ?hd (cs := #[.bool a0_0, .slice A0_1 l0_1.length c0_1, .slice A0_2 l0_2.length c0_2]) (t := 27) ?hr ?_; (case hd => rfl); (case hg => rfl); (case hr => first | (go_simp; done) | (go_simp; rfl)); intro gb612 hg w13 hbox hb; have BK612 := Aside0.mk (hbox); have GW612 := Aside0.mk (bxLe HB.out hg); have GE612 := GW612; replace HB := Aside0.mk (below_step HB.out hb); clear hb hbox hg) | ((with_reducible refine gate_dst (N := 3) rfl ?_); refine box_event ?hg (N := 3) ?hd (cs := #[.bool a1_0, .slice A1_1 l1_1.length c1_1, .slice A1_2 l1_2.length c1_2]) (t := 27) ?hr ?_; (case hd => rfl); (case hg => rfl); (case hr => first | (go_simp; done) | (go_simp; rfl)); intro gb613 hg w14 hbox hb; have BK613 := Aside0.mk (hbox); have GW613 := Aside0.mk (bxLe HB.out hg); have GE613 := GW613; replace HB := Aside0.mk (below_step HB.out hb); have NB612_613 := Aside0.mk (neL BK612.out hg); have NB613_612 := Aside0.mk (neR BK612.out hg); replace BK612 := Aside0.mk (blk_below BK612.out hb); clear hb hbox hg; have hnb15 := NB612_613.out; have hnc15 := NB613_612.out; have hcz16_0 : w14.cell? ⟨gb612, 0, none⟩ = some (.bool a0_0) := bc0 BK612.out; have hcz16_1 : w14.cell? ⟨gb612, 1, none⟩ = some (.slice A0_1 l0_1.length c0_1) := bc1 BK612.out; have hcz16_2 : w14.cell? ⟨gb612, 2, none⟩ = some (.slice A0_2 l0_2.length c0_2) := bc2 BK612.out; have hfz16_0 := blk_frozen BK612.out 0; have hfz16_1 := blk_frozen BK612.out 1; have hfz16_2 := blk_frozen BK612.out 2) | ((with_reducible refine gate_callee (f := 40) rfl ?_); refine goL (some 8) Try.func40 [.agg #[.bool a0_0, .slice A0_1 l0_1.length c0_1, .slice A0_2 l0_2.length c0_2], .int .i64 20, .int .i64 8] ?_; (with_reducible refine (gudgeonref13_Light.calls k a0_0 _ _ l0_1 _ _ l0_2 20 8 false _ ?side1 ?side2 ?side3 ?side4 A3.out).mono ?_); (case side1 => exact (Kd.C_below HR0_1.out HB.out)); (case side2 => exact HC0_1.out); (case side3 => exact (Kd.C_below HR0_2.out HB.out)); (case side4 => exact HC0_2.out); rintro e w17 ⟨rfl, hb⟩; refine ⟨_, rfl, ?_⟩; replace BK613 := Aside0.mk (blk_below BK613.out hb); replace HB := Aside0.mk (below_step HB.out hb); (try clear hb); (try clear hb2); (try clear hk); (try clear hi); have hcz18_0 : w17.cell? ⟨gb613, 0, none⟩ = some (.bool a1_0) := bc0 BK613.out; have hcz18_1 : w17.cell? ⟨gb613, 1, none⟩ = some (.slice A1_1 l1_1.length c1_1) := bc1 BK613.out; have hcz18_2 : w17.cell? ⟨gb613, 2, none⟩ = some (.slice A1_2 l1_2.length c1_2) := bc2 BK613.out; have hfz18_0 := blk_frozen BK613.out 0; have hfz18_1 := blk_frozen BK613.out 1; have hfz18_2 := blk_frozen BK613.out 2) | ((with_reducible refine gate_callee (f := 40) rfl ?_); refine goL (some 10) Try.func40 [.agg #[.bool a1_0, .slice A1_1 l1_1.length c1_1, .slice A1_2 l1_2.length c1_2], .int .i64 20, .int .i64 8] ?_; (with_reducible refine (gudgeonref13_Light.calls k a1_0 _ _ l1_1 _ _ l1_2 20 8 t615 _ ?side1 ?side2 ?side3 ?side4 A4.out).mono ?_); (case side1 => exact (Kd.C_below HR1_1.out HB.out)); (case side2 => exact HC1_1.out); (case side3 => exact (Kd.C_below HR1_2.out HB.out)); (case side4 => exact HC1_2.out); rintro e w19 ⟨rfl, hb⟩; refine ⟨_, rfl, ?_⟩; replace HB := Aside0.mk (below_step HB.out hb); (try clear hb); (try clear hb2); (try clear hk); (try clear hi)))
  go_ret
  exact ⟨by first | rfl | (simp [errW_none, errW_some] <;> rfl) | (refine congrArg (fun z_ => Ending.returned (Value.bool z_)) (decide_eq_decide.mpr ?_); unfold wrap64; omega) | (simp [*, errW_none, errW_some] <;> rfl), HB.out⟩

end Go.Proofs.Ytdicjemjmlbmlaa.PA
/- Written by a program of this session, wip/tools/patch_print.py, over the kit's print of the loaded functions. -/
namespace Go.Proofs.Ytdicjemjmlbmlaa.H
end Go.Proofs.Ytdicjemjmlbmlaa.H
namespace Go.Proofs.Ytdicjemjmlbmlaa.PA
open Go.RowKit Go.Proofs.YtdicjemjmlbmlaaW.PrintWords Go.Proofs.YtdicjemjmlbmlaaW.PrintLast Go.Proofs.YtdicjemjmlbmlaaW.PrintMore Go.Proofs.Ytdicjemjmlbmlaa.H
attribute [local go_sem] max2_int min2_int max_two min_two max_three min_three max_four min_four   -- for this text's walks alone
attribute [local go_sem] box_twice
set_option linter.unusedVariables false
set_option linter.unusedSimpArgs false

/-! ### gudgeonref01_trim: function 108 -/
def gudgeonref01_trim.l0 : Nat → List Bool → Int → Option (List Bool)
 | 0, _, _ => none
 | k + 1, x0, x3 => if x3 > 0 then (if 0 ≤ (wrap64 (x3 - 1)) then (if (wrap64 (x3 - 1)) < (x0.length : Int) then (if (rdOf false x0 (wrap64 (x3 - 1)) = true) then (if 0 ≤ x3 then (if x3 ≤ (x0.length : Int) then (if ([] : List Bool).length + (x0.take (x3 : Int).toNat).length < 140737488355328 then (some (([] : List Bool) ++ (x0.take (x3 : Int).toNat))) else (none)) else (none)) else (none)) else (gudgeonref01_trim.l0 k x0 (wrap64 (x3 - 1)))) else (none)) else (none)) else (if 0 ≤ x3 then (if x3 ≤ (x0.length : Int) then (if ([] : List Bool).length + (x0.take (x3 : Int).toNat).length < 140737488355328 then (some (([] : List Bool) ++ (x0.take (x3 : Int).toNat))) else (none)) else (none)) else (none))
def gudgeonref01_trim.f (k : Nat) (l0 : List Bool) : Option (List Bool) := gudgeonref01_trim.l0 k l0 (l0.length : Int)
theorem gudgeonref01_trim.mono_l : ∀ k, (∀ y0 y1, LeO (gudgeonref01_trim.l0 k y0 y1) (gudgeonref01_trim.l0 (k + 1) y0 y1))
 | 0 => fun _ _ r h => by simp [gudgeonref01_trim.l0] at h
 | k + 1 => by
  have ih0 := gudgeonref01_trim.mono_l k
  ·intro y0 y1
   unfold gudgeonref01_trim.l0
   repeat' first
   | (with_reducible exact ih0 _ _)
   | (with_reducible exact LeO.refl _)
   | (with_reducible exact LeO.none _)
   | (with_reducible refine LeO.ite ?_ ?_)
   | (with_reducible refine LeO.bind ?_ (fun _ => ?_))
   | exact ih0 _ _
   | exact LeO.none _
   | refine LeO.ite ?_ ?_
   | refine LeO.bind ?_ (fun _ => ?_)
theorem gudgeonref01_trim.mono : ∀ a0 k, LeO (gudgeonref01_trim.f k a0) (gudgeonref01_trim.f (k + 1) a0) := by
 intro a0 k
 have ih0 := gudgeonref01_trim.mono_l k
 unfold gudgeonref01_trim.f
 repeat' first
   | (with_reducible exact ih0 _ _)
   | (with_reducible exact LeO.refl _)
   | (with_reducible exact LeO.none _)
   | (with_reducible refine LeO.ite ?_ ?_)
   | (with_reducible refine LeO.bind ?_ (fun _ => ?_))
   | exact ih0 _ _
   | exact LeO.none _
   | refine LeO.ite ?_ ?_
   | refine LeO.bind ?_ (fun _ => ?_)
set_option maxHeartbeats 8000000 in
set_option maxRecDepth 100000 in
theorem gudgeonref01_trim.calls (k : Nat) (A0 : Option Addr) (c0 : Nat) (l0 : List Bool) (r : List Bool) (w : World) (hr0 : Kd.C Kd.bool w A0 l0.length l0) (hc0 : l0.length ≤ c0) (h : gudgeonref01_trim.f k l0 = some r) :
  Calls Try.prog 108 #[.slice A0 l0.length c0] w fun e w' => ∃ v0_ : Value, e = .returned (v0_) ∧ Kd.R Kd.bool 4 w' w.heap.size (fun _ => True) v0_ r ∧ Below w.heap.size w w' := by
 have HR0 := Aside0.mk hr0
 have HC0 := Aside0.mk hc0
 clear hr0 hc0
 have HB := Aside0.mk (Below.refl w.heap.size w)
 have H : (gudgeonref01_trim.l0 k l0 (l0.length : Int)) = some r := h
 clear h
 have H' := Aside0.mk H
 clear H
 go_enter Try.func108, Try.ntmps108
 go_wp2
 go_loopg [3] k (fun kq v3 w' => ∃ (x3_1 : Int), v3 = .int .i64 x3_1 ∧ Aside0 (gudgeonref01_trim.l0 kq l0 x3_1 = some r) ∧ Aside0 (kq ≤ k) ∧ Aside0 (Below w.heap.size w w'))
 case atStart => exact ⟨((l0.length : Int)), (by first | rfl | (simp; done)), H', ⟨Nat.le_refl _⟩, ⟨HB.out⟩⟩
 case round =>
  clear H'
  try clear c1
  obtain ⟨x3_1, rfl, HA, HK1, HB⟩ := hrel
  cases gk with
  | zero => exact absurd HA.out (by simp [gudgeonref01_trim.l0])
  | succ k1 =>
   have H := HA.out
   clear HA
   simp only [gudgeonref01_trim.l0] at H
   by_cases c2 : x3_1 > 0
   ·rw [if_pos c2] at H
    have c2b0 : decide (0 < x3_1) = true := decide_eq_true c2
    clear c2
    obtain ⟨ji3, hji3⟩ : ∃ j_ : Int, (wrap64 (x3_1 - 1)) = j_ := ⟨_, rfl⟩
    replace H : (if 0 ≤ (ji3) then (if (ji3) < (l0.length : Int) then (if (rdOf false l0 (ji3) = true) then (if 0 ≤ x3_1 then (if x3_1 ≤ (l0.length : Int) then (if ([] : List Bool).length + (l0.take (x3_1 : Int).toNat).length < 140737488355328 then (some (([] : List Bool) ++ (l0.take (x3_1 : Int).toNat))) else (none)) else (none)) else (none)) else (gudgeonref01_trim.l0 k1 l0 ji3)) else (none)) else (none)) = some r := by first | (rw [hji3] at H; exact H) | (simp only [hji3] at H ⊢; exact H)
    have hji3w : (IntKind.i64.wrap (x3_1 - 1)) = ji3 := (i64_w _).trans hji3
    by_cases c4 : 0 ≤ (ji3)
    ·rw [if_pos c4] at H
     have c4b0 : decide (0 ≤ (ji3)) = true := decide_eq_true c4
     clear c4
     by_cases c5 : (ji3) < (l0.length : Int)
     ·rw [if_pos c5] at H
      have c5b0 : decide ((ji3) < (l0.length : Int)) = true := decide_eq_true c5
      clear c5
      obtain ⟨bq6, hbq6⟩ : ∃ b_ : Bool, b_ = (rdOf false l0 (ji3)) := ⟨_, rfl⟩
      replace H : (if (bq6 = true) then (if 0 ≤ x3_1 then (if x3_1 ≤ (l0.length : Int) then (if ([] : List Bool).length + (l0.take (x3_1 : Int).toNat).length < 140737488355328 then (some (([] : List Bool) ++ (l0.take (x3_1 : Int).toNat))) else (none)) else (none)) else (none)) else (gudgeonref01_trim.l0 k1 l0 ji3)) = some r := by rw [← hbq6] at H; exact H
      have Nbq6 := Aside0.mk hbq6
      clear hbq6
      by_cases c7 : (bq6 = true)
      ·subst c7
       rw [if_pos rfl] at H
       by_cases c8 : 0 ≤ x3_1
       ·rw [if_pos c8] at H
        have c8b0 := eq_true c8
        have c8b1 : decide (0 ≤ x3_1) = true := decide_eq_true c8
        clear c8
        by_cases c9 : x3_1 ≤ (l0.length : Int)
        ·rw [if_pos c9] at H
         have c9b0 := eq_true c9
         have c9b1 : decide (x3_1 ≤ (l0.length : Int)) = true := decide_eq_true c9
         clear c9
         by_cases c10 : ([] : List Bool).length + (l0.take (x3_1 : Int).toNat).length < 140737488355328
         ·rw [if_pos c10] at H
          have LMc10 := Aside0.mk c10
          clear c10
          obtain ⟨y473, hy473⟩ : ∃ y_ : List Bool, y_ = (([] : List Bool) ++ (l0.take (x3_1 : Int).toNat)) := ⟨_, rfl⟩
          replace H : (some y473) = some r := by first | (rw [hy473]; with_reducible exact H) | (have H2_ := (Option.bind_some _ _).symm.trans H; rw [hy473]; with_reducible exact H2_) | (have H2_ := (Option.bind_some _ _).symm.trans H; with_reducible exact H2_) | with_reducible exact H | (rw [hy473]; exact H) | exact H
          have Ny473 := Aside0.mk hy473
          clear hy473
          obtain rfl := Option.some.inj H
          have p471 : 0 ≤ ((ji3) : Int) := of_decide_eq_true (by first | (with_reducible assumption) | assumption)
          have q471 : (ji3) < (l0.length : Int) := of_decide_eq_true (by first | (with_reducible assumption) | assumption)
          obtain ⟨ad471, e471, hx471_0⟩ := Kd.at_bool HR0.out (ji3) p471 q471
          (try rw [← Nbq6.out] at hx471_0)
          cases e471
          replace hx471_0 := (HB.out.cell (World.block_lt_of_cell? w _ hx471_0)).trans hx471_0
          replace p471 := eq_true p471
          replace q471 := eq_true q471
          obtain ⟨i011, hi011, _, hsz11, _⟩ := info_parts info4
          obtain ⟨hcut11, hA11, hC11⟩ := print_take_of (P := Try.prog) Value.bool false 90 4 .i64 Try.underlying90 hi011 hsz11 (some ad471) c0 l0 x3_1 (of_decide_eq_true (by first | (with_reducible assumption) | assumption)) (of_decide_eq_true (by first | (with_reducible assumption) | assumption)) HC0.out
          have HR472 := Aside0.mk (Kd.C_of_reads (h1 := fun _ => rfl) (hA11 _ (Kd.reads_of_C HR0.out)))
          have HC472 := Aside0.mk hC11
          clear hA11 hC11 hi011 hsz11
          go_wp2_with (first | ((with_reducible refine gate_builtin (b := .append) (xs := #[.const (.slice none 0 0), .tmp 20]) rfl ?_); at_builtin; refine Kd.R_append_rows Kd.bool (w0 := w) w.heap.size rfl (.const (.slice none 0 0)) (.tmp 20) 90 4 (.bool false) 1 rfl Try.underlying90 info4 rfl (by decide) (by omega) (.slice none 0 0) ([] : List Bool) (l0.take (x3_1 : Int).toNat) _ _ _ (fun _ => True) (fun _ => False) rfl rfl ?aO ?aR (fun _ _ h => h) (fun _ h => h.elim) ?aF ?aB ?aS ?aL ?_; (case aR => first | (have X_ := (Kd.C_below HR472.out HB.out); rw [show (l0.take (x3_1 : Int).toNat).length = x3_1.toNat from (by rw [List.length_take]; have h_ : (x3_1 : Int) ≤ (l0.length : Int) := of_decide_eq_true (by first | (with_reducible assumption) | assumption); omega)] at X_; exact X_) | (rw [← show (l0.take (x3_1 : Int).toNat).length = x3_1.toNat from (by rw [List.length_take]; have h_ : (x3_1 : Int) ≤ (l0.length : Int) := of_decide_eq_true (by first | (with_reducible assumption) | assumption); omega)]; repeat (first | exact (Kd.C_below HR472.out HB.out) | (with_reducible refine Kd.C_alloc ?_ _) | (with_reducible refine Kd.C_drewN ?_ _) | (with_reducible refine Kd.C_drew ?_))) | (repeat (first | exact (Kd.C_below HR472.out HB.out) | (with_reducible refine Kd.C_alloc ?_ _) | (with_reducible refine Kd.C_drewN ?_ _) | (with_reducible refine Kd.C_drew ?_)))); (case aB => exact HB.out); (case aF => exact (fun _ _ => trivial)); (case aO => exact ((Kd.R_nil _ _ _ _ (fun _ => True)))); (case aS => exact (below_size HB.out)); (case aL => have := LMc10.out; have hlx_ := (show (l0.take (x3_1 : Int).toNat).length = x3_1.toNat from (by rw [List.length_take]; have h_ : (x3_1 : Int) ≤ (l0.length : Int) := of_decide_eq_true (by first | (with_reducible assumption) | assumption); omega)); omega); intro v474 w12 ho hb hg hat; rw [← Ny473.out] at ho; replace HB := Aside0.mk (hb); have HO475 := Aside0.mk (ho); clear ho hb hg hat))
          go_ret
          exact ⟨_, by first | rfl | (simp [errW_none, errW_some] <;> rfl) | (simp only [← hji3]; first | rfl | (simp [errW_none, errW_some] <;> rfl)) | (simp [*, errW_none, errW_some] <;> rfl), HO475.out, HB.out⟩
         ·rw [if_neg c10] at H
          exact absurd H (by simp)
        ·rw [if_neg c9] at H
         exact absurd H (by simp)
       ·rw [if_neg c8] at H
        exact absurd H (by simp)
      ·replace c7 := Bool.eq_false_iff.mpr c7
       subst c7
       rw [if_neg (show ¬ (false = true) by decide)] at H
       have H' := Aside0.mk H
       clear H
       have p471 : 0 ≤ ((ji3) : Int) := of_decide_eq_true (by first | (with_reducible assumption) | assumption)
       have q471 : (ji3) < (l0.length : Int) := of_decide_eq_true (by first | (with_reducible assumption) | assumption)
       obtain ⟨ad471, e471, hx471_0⟩ := Kd.at_bool HR0.out (ji3) p471 q471
       (try rw [← Nbq6.out] at hx471_0)
       cases e471
       replace hx471_0 := (HB.out.cell (World.block_lt_of_cell? w _ hx471_0)).trans hx471_0
       replace p471 := eq_true p471
       replace q471 := eq_true q471
       go_wp2
       go_roundg k1
       case measure => have := HK1.out; omega
       case rel => exact ⟨(ji3), (by first | rfl | (simp; done) | (simp only [← hji3] <;> (first | rfl | simp)) | (simp [*]; done)), H', ⟨by have := HK1.out; omega⟩, ⟨HB.out⟩⟩
     ·rw [if_neg c5] at H
      exact absurd H (by simp)
    ·rw [if_neg c4] at H
     exact absurd H (by simp)
   ·rw [if_neg c2] at H
    have c2b0 : decide (0 < x3_1) = false := decide_eq_false c2
    clear c2
    by_cases c13 : 0 ≤ x3_1
    ·rw [if_pos c13] at H
     have c13b0 := eq_true c13
     have c13b1 : decide (0 ≤ x3_1) = true := decide_eq_true c13
     clear c13
     by_cases c14 : x3_1 ≤ (l0.length : Int)
     ·rw [if_pos c14] at H
      have c14b0 := eq_true c14
      have c14b1 : decide (x3_1 ≤ (l0.length : Int)) = true := decide_eq_true c14
      clear c14
      by_cases c15 : ([] : List Bool).length + (l0.take (x3_1 : Int).toNat).length < 140737488355328
      ·rw [if_pos c15] at H
       have LMc15 := Aside0.mk c15
       clear c15
       obtain ⟨y477, hy477⟩ : ∃ y_ : List Bool, y_ = (([] : List Bool) ++ (l0.take (x3_1 : Int).toNat)) := ⟨_, rfl⟩
       replace H : (some y477) = some r := by first | (rw [hy477]; with_reducible exact H) | (have H2_ := (Option.bind_some _ _).symm.trans H; rw [hy477]; with_reducible exact H2_) | (have H2_ := (Option.bind_some _ _).symm.trans H; with_reducible exact H2_) | with_reducible exact H | (rw [hy477]; exact H) | exact H
       have Ny477 := Aside0.mk hy477
       clear hy477
       obtain rfl := Option.some.inj H
       obtain ⟨i016, hi016, _, hsz16, _⟩ := info_parts info4
       obtain ⟨hcut16, hA16, hC16⟩ := print_take_of (P := Try.prog) Value.bool false 90 4 .i64 Try.underlying90 hi016 hsz16 A0 c0 l0 x3_1 (of_decide_eq_true (by first | (with_reducible assumption) | assumption)) (of_decide_eq_true (by first | (with_reducible assumption) | assumption)) HC0.out
       have HR476 := Aside0.mk (Kd.C_of_reads (h1 := fun _ => rfl) (hA16 _ (Kd.reads_of_C HR0.out)))
       have HC476 := Aside0.mk hC16
       clear hA16 hC16 hi016 hsz16
       go_wp2_with (first | ((with_reducible refine gate_builtin (b := .append) (xs := #[.const (.slice none 0 0), .tmp 20]) rfl ?_); at_builtin; refine Kd.R_append_rows Kd.bool (w0 := w) w.heap.size rfl (.const (.slice none 0 0)) (.tmp 20) 90 4 (.bool false) 1 rfl Try.underlying90 info4 rfl (by decide) (by omega) (.slice none 0 0) ([] : List Bool) (l0.take (x3_1 : Int).toNat) _ _ _ (fun _ => True) (fun _ => False) rfl rfl ?aO ?aR (fun _ _ h => h) (fun _ h => h.elim) ?aF ?aB ?aS ?aL ?_; (case aR => first | (have X_ := (Kd.C_below HR476.out HB.out); rw [show (l0.take (x3_1 : Int).toNat).length = x3_1.toNat from (by rw [List.length_take]; have h_ : (x3_1 : Int) ≤ (l0.length : Int) := of_decide_eq_true (by first | (with_reducible assumption) | assumption); omega)] at X_; exact X_) | (rw [← show (l0.take (x3_1 : Int).toNat).length = x3_1.toNat from (by rw [List.length_take]; have h_ : (x3_1 : Int) ≤ (l0.length : Int) := of_decide_eq_true (by first | (with_reducible assumption) | assumption); omega)]; repeat (first | exact (Kd.C_below HR476.out HB.out) | (with_reducible refine Kd.C_alloc ?_ _) | (with_reducible refine Kd.C_drewN ?_ _) | (with_reducible refine Kd.C_drew ?_))) | (repeat (first | exact (Kd.C_below HR476.out HB.out) | (with_reducible refine Kd.C_alloc ?_ _) | (with_reducible refine Kd.C_drewN ?_ _) | (with_reducible refine Kd.C_drew ?_)))); (case aB => exact HB.out); (case aF => exact (fun _ _ => trivial)); (case aO => exact ((Kd.R_nil _ _ _ _ (fun _ => True)))); (case aS => exact (below_size HB.out)); (case aL => have := LMc15.out; have hlx_ := (show (l0.take (x3_1 : Int).toNat).length = x3_1.toNat from (by rw [List.length_take]; have h_ : (x3_1 : Int) ≤ (l0.length : Int) := of_decide_eq_true (by first | (with_reducible assumption) | assumption); omega)); omega); intro v478 w17 ho hb hg hat; rw [← Ny477.out] at ho; replace HB := Aside0.mk (hb); have HO479 := Aside0.mk (ho); clear ho hb hg hat))
       go_ret
       exact ⟨_, rfl, HO479.out, HB.out⟩
      ·rw [if_neg c15] at H
       exact absurd H (by simp)
     ·rw [if_neg c14] at H
      exact absurd H (by simp)
    ·rw [if_neg c13] at H
     exact absurd H (by simp)

/-! ### gudgeonref01_Bits: function 86 -/
mutual
def gudgeonref01_Bits.l0 : Nat → List Int → List Bool → Int → Option (List Bool)
 | 0, _, _, _ => none
 | k + 1, x0, x3, x4 => if x4 < (x0.length : Int) then (if 0 ≤ x4 then (gudgeonref01_Bits.l1 k x0 x3 x4 (rd x0 x4) 0) else (none)) else ((gudgeonref01_trim.f k x3).bind fun t480 => (some t480))
def gudgeonref01_Bits.l1 : Nat → List Int → List Bool → Int → Int → Int → Option (List Bool)
 | 0, _, _, _, _, _ => none
 | k + 1, x0, x3, x4, x5, x6 => if x6 < 32 then (if x3.length < 140737488355328 then (gudgeonref01_Bits.l1 k x0 (x3 ++ [((Int.tmod x5 2) == 1)]) x4 ((Int.tdiv x5 2) % 4294967296) (wrap64 (x6 + 1))) else (none)) else (gudgeonref01_Bits.l0 k x0 x3 (wrap64 (x4 + 1)))
end
def gudgeonref01_Bits.f (k : Nat) (l0 : List Int) : Option (List Bool) := gudgeonref01_Bits.l0 k l0 ([] : List Bool) 0
theorem gudgeonref01_Bits.mono_l : ∀ k, (∀ y0 y1 y2, LeO (gudgeonref01_Bits.l0 k y0 y1 y2) (gudgeonref01_Bits.l0 (k + 1) y0 y1 y2)) ∧ (∀ y0 y1 y2 y3 y4, LeO (gudgeonref01_Bits.l1 k y0 y1 y2 y3 y4) (gudgeonref01_Bits.l1 (k + 1) y0 y1 y2 y3 y4))
 | 0 => ⟨fun _ _ _ r h => by simp [gudgeonref01_Bits.l0] at h, fun _ _ _ _ _ r h => by simp [gudgeonref01_Bits.l1] at h⟩
 | k + 1 => by
  obtain ⟨ih0, ih1⟩ := gudgeonref01_Bits.mono_l k
  refine ⟨?_, ?_⟩
  ·intro y0 y1 y2
   unfold gudgeonref01_Bits.l0
   repeat' first
   | (with_reducible exact ih0 _ _ _)
   | (with_reducible exact ih1 _ _ _ _ _)
   | (with_reducible exact gudgeonref01_trim.mono _ _)
   | (with_reducible exact LeO.refl _)
   | (with_reducible exact LeO.none _)
   | (with_reducible refine LeO.ite ?_ ?_)
   | (with_reducible refine LeO.bind ?_ (fun _ => ?_))
   | exact ih0 _ _ _
   | exact ih1 _ _ _ _ _
   | exact gudgeonref01_trim.mono _ _
   | exact LeO.none _
   | refine LeO.ite ?_ ?_
   | refine LeO.bind ?_ (fun _ => ?_)
  ·intro y0 y1 y2 y3 y4
   unfold gudgeonref01_Bits.l1
   repeat' first
   | (with_reducible exact ih0 _ _ _)
   | (with_reducible exact ih1 _ _ _ _ _)
   | (with_reducible exact gudgeonref01_trim.mono _ _)
   | (with_reducible exact LeO.refl _)
   | (with_reducible exact LeO.none _)
   | (with_reducible refine LeO.ite ?_ ?_)
   | (with_reducible refine LeO.bind ?_ (fun _ => ?_))
   | exact ih0 _ _ _
   | exact ih1 _ _ _ _ _
   | exact gudgeonref01_trim.mono _ _
   | exact LeO.none _
   | refine LeO.ite ?_ ?_
   | refine LeO.bind ?_ (fun _ => ?_)
theorem gudgeonref01_Bits.mono : ∀ a0 k, LeO (gudgeonref01_Bits.f k a0) (gudgeonref01_Bits.f (k + 1) a0) := by
 intro a0 k
 obtain ⟨ih0, ih1⟩ := gudgeonref01_Bits.mono_l k
 unfold gudgeonref01_Bits.f
 repeat' first
   | (with_reducible exact ih0 _ _ _)
   | (with_reducible exact ih1 _ _ _ _ _)
   | (with_reducible exact gudgeonref01_trim.mono _ _)
   | (with_reducible exact LeO.refl _)
   | (with_reducible exact LeO.none _)
   | (with_reducible refine LeO.ite ?_ ?_)
   | (with_reducible refine LeO.bind ?_ (fun _ => ?_))
   | exact ih0 _ _ _
   | exact ih1 _ _ _ _ _
   | exact gudgeonref01_trim.mono _ _
   | exact LeO.none _
   | refine LeO.ite ?_ ?_
   | refine LeO.bind ?_ (fun _ => ?_)
set_option maxHeartbeats 8000000 in
set_option maxRecDepth 100000 in
theorem gudgeonref01_Bits.calls (k : Nat) (A0 : Option Addr) (c0 : Nat) (l0 : List Int) (r : List Bool) (w : World) (hr0 : Kd.C (Kd.int .u32) w A0 l0.length l0) (hc0 : l0.length ≤ c0) (h : gudgeonref01_Bits.f k l0 = some r) :
  Calls Try.prog 86 #[.slice A0 l0.length c0] w fun e w' => ∃ v0_ : Value, e = .returned (v0_) ∧ Kd.R Kd.bool 4 w' w.heap.size (fun _ => True) v0_ r ∧ Below w.heap.size w w' := by
 have HR0 := Aside0.mk hr0
 have HC0 := Aside0.mk hc0
 clear hr0 hc0
 have HB := Aside0.mk (Below.refl w.heap.size w)
 have H : (gudgeonref01_Bits.l0 k l0 ([] : List Bool) 0) = some r := h
 clear h
 have H' := Aside0.mk H
 clear H
 go_enter Try.func86, Try.ntmps86
 go_wp2
 go_loopg [3, 4] k (fun kq v3 v4 w' => ∃ (x3_1 : List Bool) (x4_1 : Int), v4 = .int .i64 x4_1 ∧ Aside0 (gudgeonref01_Bits.l0 kq l0 x3_1 x4_1 = some r) ∧ Aside0 (kq ≤ k) ∧ Aside0 (Kd.R Kd.bool 4 w' w.heap.size (fun _ => True) v3 x3_1) ∧ Aside0 (Below w.heap.size w w'))
 case atStart => exact ⟨(([] : List Bool)), (0), (by first | rfl | (simp; done)), H', ⟨Nat.le_refl _⟩, ⟨by first | exact Kd.R_nil _ _ _ _ _ | exact Kd.N_nil _ _ _ _ _ | exact Kd.V_nil _ _ _ _ _ | exact Kd.Q_nil _ _ _ _ _ | exact Kd.S_nil _ _ _ _ _⟩, ⟨HB.out⟩⟩
 case round =>
  clear H'
  obtain ⟨x3_1, x4_1, rfl, HA, HK1, HO_3, HB⟩ := hrel
  cases gk with
  | zero => exact absurd HA.out (by simp [gudgeonref01_Bits.l0])
  | succ k1 =>
   have H := HA.out
   clear HA
   simp only [gudgeonref01_Bits.l0] at H
   by_cases c2 : x4_1 < (l0.length : Int)
   ·rw [if_pos c2] at H
    have c2b0 : decide (x4_1 < (l0.length : Int)) = true := decide_eq_true c2
    clear c2
    by_cases c3 : 0 ≤ x4_1
    ·rw [if_pos c3] at H
     have c3b0 : decide (0 ≤ x4_1) = true := decide_eq_true c3
     clear c3
     have H' := Aside0.mk H
     clear H
     have p483 : 0 ≤ (x4_1 : Int) := of_decide_eq_true (by first | (with_reducible assumption) | assumption)
     have q483 : x4_1 < (l0.length : Int) := of_decide_eq_true (by first | (with_reducible assumption) | assumption)
     obtain ⟨ad483, e483, hx483_0⟩ := Kd.at_int HR0.out x4_1 p483 q483
     cases e483
     replace hx483_0 := (HB.out.cell (World.block_lt_of_cell? w _ hx483_0)).trans hx483_0
     replace p483 := eq_true p483
     replace q483 := eq_true q483
     go_wp2
     go_loopg [3, 5, 6] k1 (fun kq v3 v5 v6 w' => ∃ (x3_2 : List Bool) (x5_2 : Int) (x6_2 : Int), v5 = .int .u32 x5_2 ∧ v6 = .int .i64 x6_2 ∧ Aside0 (gudgeonref01_Bits.l1 kq l0 x3_2 x4_1 x5_2 x6_2 = some r) ∧ Aside0 (kq ≤ k1) ∧ Aside0 (Kd.R Kd.bool 4 w' w.heap.size (fun _ => True) v3 x3_2) ∧ Aside0 (Below w.heap.size w w'))
     case atStart => exact ⟨(x3_1), (rd l0 x4_1), (0), (by first | rfl | (simp; done)), (by first | rfl | (simp; done)), H', ⟨Nat.le_refl _⟩, ⟨HO_3.out⟩, ⟨HB.out⟩⟩
     case round =>
      clear H'
      try clear c2
      try clear c2b0
      try clear p2
      try clear c3
      try clear c3b0
      try clear hx483_0
      try clear p483
      try clear q483
      obtain ⟨x3_2, x5_2, x6_2, rfl, rfl, HA, HK2, HO_3, HB⟩ := hrel
      cases gk with
      | zero => exact absurd HA.out (by simp [gudgeonref01_Bits.l1])
      | succ k2 =>
       have H := HA.out
       clear HA
       simp only [gudgeonref01_Bits.l1] at H
       by_cases c4 : x6_2 < 32
       ·rw [if_pos c4] at H
        have c4b0 : decide (x6_2 < 32) = true := decide_eq_true c4
        clear c4
        by_cases c5 : x3_2.length < 140737488355328
        ·rw [if_pos c5] at H
         have LMc5 := Aside0.mk c5
         clear c5
         obtain ⟨y484, hy484⟩ : ∃ y_ : List Bool, y_ = (x3_2 ++ [((Int.tmod x5_2 2) == 1)]) := ⟨_, rfl⟩
         replace H : (gudgeonref01_Bits.l1 k2 l0 y484 x4_1 ((Int.tdiv x5_2 2) % 4294967296) (wrap64 (x6_2 + 1))) = some r := by first | (rw [hy484]; with_reducible exact H) | (have H2_ := (Option.bind_some _ _).symm.trans H; rw [hy484]; with_reducible exact H2_) | (have H2_ := (Option.bind_some _ _).symm.trans H; with_reducible exact H2_) | with_reducible exact H | (rw [hy484]; exact H) | exact H
         have Ny484 := Aside0.mk hy484
         clear hy484
         have H' := Aside0.mk H
         clear H
         go_wp2_with (first | ((with_reducible refine gate_builtin (b := .append) (xs := #[.tmp 21, .tmp 25]) rfl ?_); at_builtin; refine Kd.R_append Kd.bool (w0 := w) w.heap.size rfl (.tmp 21) (.tmp 25) 90 4 (.bool false) 1 rfl Try.underlying90 info4 rfl (by decide) (by omega) u3 x3_2 ((Int.tmod x5_2 2) == 1) [.bool ((Int.tmod x5_2 2) == 1)] (fun _ => True) (fun _ => False) rfl rfl ?aP (fun _ hk => hk.elim) ?aF ?aO ?aB ?aS ?aL ?_; (case aP => exact rfl); (case aB => exact HB.out); (case aF => exact (fun _ _ => trivial)); (case aO => exact HO_3.out); (case aS => exact (below_size HB.out)); (case aL => have := LMc5.out; omega); intro v485 w6 ho hb hg hat; rw [← Ny484.out] at ho; have n0_ := Aside0.mk (hb); have n1_ := Aside0.mk (ho); clear HB; clear HO_3; have HB := n0_; have HO486 := n1_; clear n0_ n1_; clear ho hb hg hat))
         go_roundg k2
         case measure => have := HK1.out; have := HK2.out; omega
         case rel => exact ⟨(y484), ((Int.tdiv x5_2 2) % 4294967296), (wrap64 (x6_2 + 1)), (by first | rfl | (simp; done)), (by first | rfl | (simp; done)), H', ⟨by have := HK1.out; have := HK2.out; omega⟩, ⟨HO486.out⟩, ⟨HB.out⟩⟩
        ·rw [if_neg c5] at H
         exact absurd H (by simp)
       ·rw [if_neg c4] at H
        have c4b0 : decide (x6_2 < 32) = false := decide_eq_false c4
        clear c4
        have H' := Aside0.mk H
        clear H
        go_wp2
        go_roundg k2
        case measure => have := HK1.out; have := HK2.out; omega
        case rel => exact ⟨(x3_2), (wrap64 (x4_1 + 1)), (by first | rfl | (simp; done)), H', ⟨by have := HK1.out; have := HK2.out; omega⟩, ⟨HO_3.out⟩, ⟨HB.out⟩⟩
    ·rw [if_neg c3] at H
     exact absurd H (by simp)
   ·rw [if_neg c2] at H
    have c2b0 : decide (x4_1 < (l0.length : Int)) = false := decide_eq_false c2
    clear c2
    obtain ⟨t480, A70, H⟩ := Option.bind_eq_some_iff.mp H
    try dsimp only at H
    have A7 := Aside0.mk A70
    clear A70
    obtain rfl := Option.some.inj H
    obtain ⟨Ao8, co8, eo8⟩ := Kd.R_slice HO_3.out
    subst eo8
    go_wp2_with (first | ((with_reducible refine gate_callee (f := 108) rfl ?_); refine goL (some 30) Try.func108 [.slice Ao8 x3_1.length co8] ?_; (with_reducible refine (gudgeonref01_trim.calls k1 _ _ x3_1 t480 _ ?side1 ?side2 A7.out).mono ?_); (case side1 => exact (Kd.R_reads' HO_3.out).2.2); (case side2 => exact (Kd.R_reads' HO_3.out).2.1); rintro e w9 ⟨v481, rfl, ho0, hb⟩; refine ⟨_, rfl, ?_⟩; have HO482 := Aside0.mk (Kd.R_lower (Kd.R_new' ho0 (Kd.R_lt HO_3.out)) (below_size HB.out)); replace HB := Aside0.mk (below_step HB.out hb)))
    go_ret
    exact ⟨_, rfl, Kd.R_mono HO482.out (fun _ hk => trivial), HB.out⟩

/-! ### gudgeonref01_Limbs: function 88 -/
mutual
def gudgeonref01_Limbs.l0 : Nat → List Bool → List Int → Int → Option (List Int)
 | 0, _, _, _ => none
 | k + 1, x0, x3, x4 => if x4 < (x0.length : Int) then (gudgeonref01_Limbs.l1 k x0 x3 x4 0 (wrap64 (x4 + 31))) else (some x3)
def gudgeonref01_Limbs.l1 : Nat → List Bool → List Int → Int → Int → Int → Option (List Int)
 | 0, _, _, _, _, _ => none
 | k + 1, x0, x3, x4, x5, x6 => if x6 ≥ x4 then (if x6 < (x0.length : Int) then (if 0 ≤ x6 then (if rdOf false x0 x6 = true then (gudgeonref01_Limbs.l1 k x0 x3 x4 ((((x5 * 2) % 4294967296) + 1) % 4294967296) (wrap64 (x6 - 1))) else (gudgeonref01_Limbs.l1 k x0 x3 x4 ((x5 * 2) % 4294967296) (wrap64 (x6 - 1)))) else (none)) else (gudgeonref01_Limbs.l1 k x0 x3 x4 ((x5 * 2) % 4294967296) (wrap64 (x6 - 1)))) else (if x3.length < 35184372088832 then (gudgeonref01_Limbs.l0 k x0 (x3 ++ [x5]) (wrap64 (x4 + 32))) else (none))
end
def gudgeonref01_Limbs.f (k : Nat) (l0 : List Bool) : Option (List Int) := (gudgeonref01_trim.f k l0).bind fun t487 => (gudgeonref01_Limbs.l0 k t487 ([] : List Int) 0)
theorem gudgeonref01_Limbs.mono_l : ∀ k, (∀ y0 y1 y2, LeO (gudgeonref01_Limbs.l0 k y0 y1 y2) (gudgeonref01_Limbs.l0 (k + 1) y0 y1 y2)) ∧ (∀ y0 y1 y2 y3 y4, LeO (gudgeonref01_Limbs.l1 k y0 y1 y2 y3 y4) (gudgeonref01_Limbs.l1 (k + 1) y0 y1 y2 y3 y4))
 | 0 => ⟨fun _ _ _ r h => by simp [gudgeonref01_Limbs.l0] at h, fun _ _ _ _ _ r h => by simp [gudgeonref01_Limbs.l1] at h⟩
 | k + 1 => by
  obtain ⟨ih0, ih1⟩ := gudgeonref01_Limbs.mono_l k
  refine ⟨?_, ?_⟩
  ·intro y0 y1 y2
   unfold gudgeonref01_Limbs.l0
   repeat' first
   | (with_reducible exact ih0 _ _ _)
   | (with_reducible exact ih1 _ _ _ _ _)
   | (with_reducible exact gudgeonref01_trim.mono _ _)
   | (with_reducible exact LeO.refl _)
   | (with_reducible exact LeO.none _)
   | (with_reducible refine LeO.ite ?_ ?_)
   | (with_reducible refine LeO.bind ?_ (fun _ => ?_))
   | exact ih0 _ _ _
   | exact ih1 _ _ _ _ _
   | exact gudgeonref01_trim.mono _ _
   | exact LeO.none _
   | refine LeO.ite ?_ ?_
   | refine LeO.bind ?_ (fun _ => ?_)
  ·intro y0 y1 y2 y3 y4
   unfold gudgeonref01_Limbs.l1
   repeat' first
   | (with_reducible exact ih0 _ _ _)
   | (with_reducible exact ih1 _ _ _ _ _)
   | (with_reducible exact gudgeonref01_trim.mono _ _)
   | (with_reducible exact LeO.refl _)
   | (with_reducible exact LeO.none _)
   | (with_reducible refine LeO.ite ?_ ?_)
   | (with_reducible refine LeO.bind ?_ (fun _ => ?_))
   | exact ih0 _ _ _
   | exact ih1 _ _ _ _ _
   | exact gudgeonref01_trim.mono _ _
   | exact LeO.none _
   | refine LeO.ite ?_ ?_
   | refine LeO.bind ?_ (fun _ => ?_)
theorem gudgeonref01_Limbs.mono : ∀ a0 k, LeO (gudgeonref01_Limbs.f k a0) (gudgeonref01_Limbs.f (k + 1) a0) := by
 intro a0 k
 obtain ⟨ih0, ih1⟩ := gudgeonref01_Limbs.mono_l k
 unfold gudgeonref01_Limbs.f
 repeat' first
   | (with_reducible exact ih0 _ _ _)
   | (with_reducible exact ih1 _ _ _ _ _)
   | (with_reducible exact gudgeonref01_trim.mono _ _)
   | (with_reducible exact LeO.refl _)
   | (with_reducible exact LeO.none _)
   | (with_reducible refine LeO.ite ?_ ?_)
   | (with_reducible refine LeO.bind ?_ (fun _ => ?_))
   | exact ih0 _ _ _
   | exact ih1 _ _ _ _ _
   | exact gudgeonref01_trim.mono _ _
   | exact LeO.none _
   | refine LeO.ite ?_ ?_
   | refine LeO.bind ?_ (fun _ => ?_)
set_option maxHeartbeats 8000000 in
set_option maxRecDepth 100000 in
theorem gudgeonref01_Limbs.calls (k : Nat) (A0 : Option Addr) (c0 : Nat) (l0 : List Bool) (r : List Int) (w : World) (hr0 : Kd.C Kd.bool w A0 l0.length l0) (hc0 : l0.length ≤ c0) (h : gudgeonref01_Limbs.f k l0 = some r) :
  Calls Try.prog 88 #[.slice A0 l0.length c0] w fun e w' => ∃ v0_ : Value, e = .returned (v0_) ∧ Kd.R (Kd.int .u32) 81 w' w.heap.size (fun _ => True) v0_ r ∧ Below w.heap.size w w' := by
 have HR0 := Aside0.mk hr0
 have HC0 := Aside0.mk hc0
 clear hr0 hc0
 have HB := Aside0.mk (Below.refl w.heap.size w)
 have H : ((gudgeonref01_trim.f k l0).bind fun t487 => (gudgeonref01_Limbs.l0 k t487 ([] : List Int) 0)) = some r := h
 clear h
 obtain ⟨t487, A20, H⟩ := Option.bind_eq_some_iff.mp H
 try dsimp only at H
 have A2 := Aside0.mk A20
 clear A20
 have H' := Aside0.mk H
 clear H
 go_enter Try.func88, Try.ntmps88
 go_wp2_with (first | ((with_reducible refine gate_callee (f := 108) rfl ?_); refine goL (some 8) Try.func108 [.slice A0 l0.length c0] ?_; (with_reducible refine (gudgeonref01_trim.calls k _ _ l0 t487 _ ?side1 ?side2 A2.out).mono ?_); (case side1 => exact HR0.out); (case side2 => exact HC0.out); rintro e w3 ⟨v488, rfl, ho0, hb⟩; refine ⟨_, rfl, ?_⟩; have HO489 := Aside0.mk (Kd.R_lower ho0 (below_size HB.out)); replace HB := Aside0.mk (below_step HB.out hb)))
 go_loopg [3, 4] k (fun kq v3 v4 w' => ∃ (x3_1 : List Int) (x4_1 : Int), v4 = .int .i64 x4_1 ∧ Aside0 (gudgeonref01_Limbs.l0 kq t487 x3_1 x4_1 = some r) ∧ Aside0 (kq ≤ k) ∧ Aside0 (Kd.R Kd.bool 4 w' w.heap.size (fun _ => True) v488 t487) ∧ Aside0 (Kd.R (Kd.int .u32) 81 w' w.heap.size (fun _ => True) v3 x3_1) ∧ Aside0 (Below w.heap.size w w'))
 case atStart => exact ⟨(([] : List Int)), (0), (by first | rfl | (simp; done)), H', ⟨Nat.le_refl _⟩, ⟨HO489.out⟩, ⟨by first | exact Kd.R_nil _ _ _ _ _ | exact Kd.N_nil _ _ _ _ _ | exact Kd.V_nil _ _ _ _ _ | exact Kd.Q_nil _ _ _ _ _ | exact Kd.S_nil _ _ _ _ _⟩, ⟨HB.out⟩⟩
 case round =>
  clear H'
  try clear c1
  try clear p2
  obtain ⟨x3_1, x4_1, rfl, HA, HK1, HO_0, HO_3, HB⟩ := hrel
  cases gk with
  | zero => exact absurd HA.out (by simp [gudgeonref01_Limbs.l0])
  | succ k1 =>
   have H := HA.out
   clear HA
   simp only [gudgeonref01_Limbs.l0] at H
   by_cases c4 : x4_1 < (t487.length : Int)
   ·rw [if_pos c4] at H
    have c4b0 : decide (x4_1 < (t487.length : Int)) = true := decide_eq_true c4
    clear c4
    have H' := Aside0.mk H
    clear H
    obtain ⟨Ao5, co5, eo5⟩ := Kd.R_slice HO_0.out
    subst eo5
    go_wp2
    go_loopg [5, 6] k1 (fun kq v5 v6 w' => ∃ (x5_2 : Int) (x6_2 : Int), v5 = .int .u32 x5_2 ∧ v6 = .int .i64 x6_2 ∧ Aside0 (gudgeonref01_Limbs.l1 kq t487 x3_1 x4_1 x5_2 x6_2 = some r) ∧ Aside0 (kq ≤ k1) ∧ Aside0 (Kd.R Kd.bool 4 w' w.heap.size (fun _ => True) (.slice Ao5 t487.length co5) t487) ∧ Aside0 (Kd.R (Kd.int .u32) 81 w' w.heap.size (fun _ => True) u3 x3_1) ∧ Aside0 (Below w.heap.size w w'))
    case atStart => exact ⟨(0), (wrap64 (x4_1 + 31)), (by first | rfl | (simp; done)), (by first | rfl | (simp; done)), H', ⟨Nat.le_refl _⟩, ⟨HO_0.out⟩, ⟨HO_3.out⟩, ⟨HB.out⟩⟩
    case round =>
     clear H'
     try clear c1
     try clear p2
     try clear c4
     try clear c4b0
     try clear p2
     obtain ⟨x5_2, x6_2, rfl, rfl, HA, HK2, HO_0, HO_3, HB⟩ := hrel
     cases gk with
     | zero => exact absurd HA.out (by simp [gudgeonref01_Limbs.l1])
     | succ k2 =>
      have H := HA.out
      clear HA
      simp only [gudgeonref01_Limbs.l1] at H
      by_cases c6 : x6_2 ≥ x4_1
      ·rw [if_pos c6] at H
       have c6b0 : decide (x4_1 ≤ x6_2) = true := decide_eq_true c6
       clear c6
       by_cases c7 : x6_2 < (t487.length : Int)
       ·rw [if_pos c7] at H
        have c7b0 : decide (x6_2 < (t487.length : Int)) = true := decide_eq_true c7
        clear c7
        by_cases c8 : 0 ≤ x6_2
        ·rw [if_pos c8] at H
         have c8b0 : decide (0 ≤ x6_2) = true := decide_eq_true c8
         clear c8
         obtain ⟨bq9, hbq9⟩ : ∃ b_ : Bool, b_ = (rdOf false t487 x6_2) := ⟨_, rfl⟩
         replace H : (if bq9 = true then (gudgeonref01_Limbs.l1 k2 t487 x3_1 x4_1 ((((x5_2 * 2) % 4294967296) + 1) % 4294967296) (wrap64 (x6_2 - 1))) else (gudgeonref01_Limbs.l1 k2 t487 x3_1 x4_1 ((x5_2 * 2) % 4294967296) (wrap64 (x6_2 - 1)))) = some r := by rw [← hbq9] at H; exact H
         have Nbq9 := Aside0.mk hbq9
         clear hbq9
         by_cases c10 : bq9 = true
         ·subst c10
          rw [if_pos rfl] at H
          have H' := Aside0.mk H
          clear H
          have p490 : 0 ≤ (x6_2 : Int) := of_decide_eq_true (by first | (with_reducible assumption) | assumption)
          have q490 : x6_2 < (t487.length : Int) := of_decide_eq_true (by first | (with_reducible assumption) | assumption)
          obtain ⟨ad490, e490, hx490_0⟩ := Kd.at_bool (Kd.R_reads' HO_0.out).2.2 x6_2 p490 q490
          (try rw [← Nbq9.out] at hx490_0)
          cases e490
          replace p490 := eq_true p490
          replace q490 := eq_true q490
          go_wp2
          go_roundg k2
          case measure => have := HK1.out; have := HK2.out; omega
          case rel => exact ⟨((((x5_2 * 2) % 4294967296) + 1) % 4294967296), (wrap64 (x6_2 - 1)), (by first | rfl | (simp; done) | (simp [*]; done) | (refine congrArg (Value.int _) ?_; omega) | (refine congrArg Value.bool ?_; generalize ByteArray.toList _ = z_; cases z_ <;> rfl)), (by first | rfl | (simp; done) | (simp [*]; done) | (refine congrArg (Value.int _) ?_; omega) | (refine congrArg Value.bool ?_; generalize ByteArray.toList _ = z_; cases z_ <;> rfl)), H', ⟨by have := HK1.out; have := HK2.out; omega⟩, ⟨by (with_reducible repeat (first | apply Kd.R_alloc | apply Kd.R_drewN | apply Kd.R_drew)); exact HO_0.out⟩, ⟨by (with_reducible repeat (first | apply Kd.R_alloc | apply Kd.R_drewN | apply Kd.R_drew)); exact HO_3.out⟩, ⟨by repeat first | exact HB.out | refine bxSet ?_ (by assumption) | apply below_alloc | apply pw_below_drewN⟩⟩
         ·replace c10 := Bool.eq_false_iff.mpr c10
          subst c10
          rw [if_neg (show ¬ (false = true) by decide)] at H
          have H' := Aside0.mk H
          clear H
          have p490 : 0 ≤ (x6_2 : Int) := of_decide_eq_true (by first | (with_reducible assumption) | assumption)
          have q490 : x6_2 < (t487.length : Int) := of_decide_eq_true (by first | (with_reducible assumption) | assumption)
          obtain ⟨ad490, e490, hx490_0⟩ := Kd.at_bool (Kd.R_reads' HO_0.out).2.2 x6_2 p490 q490
          (try rw [← Nbq9.out] at hx490_0)
          cases e490
          replace p490 := eq_true p490
          replace q490 := eq_true q490
          go_wp2
          go_roundg k2
          case measure => have := HK1.out; have := HK2.out; omega
          case rel => exact ⟨((x5_2 * 2) % 4294967296), (wrap64 (x6_2 - 1)), (by first | rfl | (simp; done)), (by first | rfl | (simp; done)), H', ⟨by have := HK1.out; have := HK2.out; omega⟩, ⟨HO_0.out⟩, ⟨HO_3.out⟩, ⟨HB.out⟩⟩
        ·rw [if_neg c8] at H
         exact absurd H (by simp)
       ·rw [if_neg c7] at H
        have c7b0 : decide (x6_2 < (t487.length : Int)) = false := decide_eq_false c7
        clear c7
        have H' := Aside0.mk H
        clear H
        go_wp2
        go_roundg k2
        case measure => have := HK1.out; have := HK2.out; omega
        case rel => exact ⟨((x5_2 * 2) % 4294967296), (wrap64 (x6_2 - 1)), (by first | rfl | (simp; done)), (by first | rfl | (simp; done)), H', ⟨by have := HK1.out; have := HK2.out; omega⟩, ⟨HO_0.out⟩, ⟨HO_3.out⟩, ⟨HB.out⟩⟩
      ·rw [if_neg c6] at H
       have c6b0 : decide (x4_1 ≤ x6_2) = false := decide_eq_false c6
       clear c6
       by_cases c11 : x3_1.length < 35184372088832
       ·rw [if_pos c11] at H
        have LMc11 := Aside0.mk c11
        clear c11
        obtain ⟨y491, hy491⟩ : ∃ y_ : List Int, y_ = (x3_1 ++ [x5_2]) := ⟨_, rfl⟩
        replace H : (gudgeonref01_Limbs.l0 k2 t487 y491 (wrap64 (x4_1 + 32))) = some r := by first | (rw [hy491]; with_reducible exact H) | (have H2_ := (Option.bind_some _ _).symm.trans H; rw [hy491]; with_reducible exact H2_) | (have H2_ := (Option.bind_some _ _).symm.trans H; with_reducible exact H2_) | with_reducible exact H | (rw [hy491]; exact H) | exact H
        have Ny491 := Aside0.mk hy491
        clear hy491
        have H' := Aside0.mk H
        clear H
        go_wp2_with (first | ((with_reducible refine gate_builtin (b := .append) (xs := #[.tmp 36, .tmp 38]) rfl ?_); at_builtin; refine Kd.R_append (Kd.int .u32) (w0 := w) w.heap.size rfl (.tmp 36) (.tmp 38) 22 81 (.int .u32 0) 4 rfl Try.underlying22 info81 rfl (by decide) (by omega) u3 x3_1 x5_2 [.int .u32 x5_2] (fun _ => True) (fun _ => False) rfl rfl ?aP (fun _ hk => hk.elim) ?aF ?aO ?aB ?aS ?aL ?_; (case aP => exact rfl); (case aB => exact HB.out); (case aF => exact (fun _ _ => trivial)); (case aO => exact HO_3.out); (case aS => exact (below_size HB.out)); (case aL => have := LMc11.out; omega); intro v492 w12 ho hb hg hat; rw [← Ny491.out] at ho; have n0_ := Aside0.mk (Kd.R_over' HO_0.out (Kd.R_typed HO_3.out) (by decide) hg); have n1_ := Aside0.mk (hb); have n2_ := Aside0.mk (ho); clear HO_0; clear HB; clear HO_3; have HO_0 := n0_; have HB := n1_; have HO493 := n2_; clear n0_ n1_ n2_; clear ho hb hg hat))
        go_roundg k2
        case measure => have := HK1.out; have := HK2.out; omega
        case rel => exact ⟨(y491), (wrap64 (x4_1 + 32)), (by first | rfl | (simp; done)), H', ⟨by have := HK1.out; have := HK2.out; omega⟩, ⟨HO_0.out⟩, ⟨HO493.out⟩, ⟨HB.out⟩⟩
       ·rw [if_neg c11] at H
        exact absurd H (by simp)
   ·rw [if_neg c4] at H
    have c4b0 : decide (x4_1 < (t487.length : Int)) = false := decide_eq_false c4
    clear c4
    obtain rfl := Option.some.inj H
    obtain ⟨Ao13, co13, eo13⟩ := Kd.R_slice HO_0.out
    subst eo13
    go_wp2
    go_ret
    exact ⟨_, rfl, HO_3.out, HB.out⟩

/-! ### gudgeonref01_Norm: function 77 -/
def gudgeonref01_Norm.f (k : Nat) (l0 : List Int) : Option (List Int) := (gudgeonref01_Bits.f k l0).bind fun t494 => ((gudgeonref01_Limbs.f k t494).bind fun t497 => (some t497))
theorem gudgeonref01_Norm.mono : ∀ a0 k, LeO (gudgeonref01_Norm.f k a0) (gudgeonref01_Norm.f (k + 1) a0) := by
 intro a0 k
 unfold gudgeonref01_Norm.f
 repeat' first
   | (with_reducible exact gudgeonref01_Bits.mono _ _)
   | (with_reducible exact gudgeonref01_Limbs.mono _ _)
   | (with_reducible exact LeO.refl _)
   | (with_reducible exact LeO.none _)
   | (with_reducible refine LeO.ite ?_ ?_)
   | (with_reducible refine LeO.bind ?_ (fun _ => ?_))
   | exact gudgeonref01_Bits.mono _ _
   | exact gudgeonref01_Limbs.mono _ _
   | exact LeO.none _
   | refine LeO.ite ?_ ?_
   | refine LeO.bind ?_ (fun _ => ?_)
set_option maxHeartbeats 8000000 in
set_option maxRecDepth 100000 in
theorem gudgeonref01_Norm.calls (k : Nat) (A0 : Option Addr) (c0 : Nat) (l0 : List Int) (r : List Int) (w : World) (hr0 : Kd.C (Kd.int .u32) w A0 l0.length l0) (hc0 : l0.length ≤ c0) (h : gudgeonref01_Norm.f k l0 = some r) :
  Calls Try.prog 77 #[.slice A0 l0.length c0] w fun e w' => ∃ v0_ : Value, e = .returned (v0_) ∧ Kd.R (Kd.int .u32) 81 w' w.heap.size (fun _ => True) v0_ r ∧ Below w.heap.size w w' := by
 have HR0 := Aside0.mk hr0
 have HC0 := Aside0.mk hc0
 clear hr0 hc0
 have HB := Aside0.mk (Below.refl w.heap.size w)
 have H : ((gudgeonref01_Bits.f k l0).bind fun t494 => ((gudgeonref01_Limbs.f k t494).bind fun t497 => (some t497))) = some r := h
 clear h
 obtain ⟨t494, A20, H⟩ := Option.bind_eq_some_iff.mp H
 try dsimp only at H
 have A2 := Aside0.mk A20
 clear A20
 obtain ⟨t497, A30, H⟩ := Option.bind_eq_some_iff.mp H
 try dsimp only at H
 have A3 := Aside0.mk A30
 clear A30
 obtain rfl := Option.some.inj H
 go_enter Try.func77, Try.ntmps77
 go_wp2_with (first | ((with_reducible refine gate_callee (f := 86) rfl ?_); refine goL (some 4) Try.func86 [.slice A0 l0.length c0] ?_; (with_reducible refine (gudgeonref01_Bits.calls k _ _ l0 t494 _ ?side1 ?side2 A2.out).mono ?_); (case side1 => exact HR0.out); (case side2 => exact HC0.out); rintro e w4 ⟨v495, rfl, ho0, hb⟩; refine ⟨_, rfl, ?_⟩; have HO496 := Aside0.mk (Kd.R_lower ho0 (below_size HB.out)); replace HB := Aside0.mk (below_step HB.out hb); obtain ⟨Ao5, co5, eo5⟩ := Kd.R_slice HO496.out; subst eo5) | ((with_reducible refine gate_callee (f := 88) rfl ?_); refine goL (some 5) Try.func88 [.slice Ao5 t494.length co5] ?_; (with_reducible refine (gudgeonref01_Limbs.calls k _ _ t494 t497 _ ?side1 ?side2 A3.out).mono ?_); (case side1 => exact (Kd.R_reads' HO496.out).2.2); (case side2 => exact (Kd.R_reads' HO496.out).2.1); rintro e w6 ⟨v498, rfl, ho0, hb⟩; refine ⟨_, rfl, ?_⟩; have HO499 := Aside0.mk (Kd.R_lower ho0 (below_size HB.out)); replace HB := Aside0.mk (below_step HB.out hb)))
 go_ret
 exact ⟨_, rfl, HO499.out, HB.out⟩

/-! ### gudgeonref02_Norm: function 54 -/
def gudgeonref02_Norm.f (k : Nat) (a0_0 : Bool) (l0_1 : List Int) : Option (Bool × List Int) := (gudgeonref01_Norm.f k l0_1).bind fun t502 => (if a0_0 = true then (some (decide ((t502.length : Int) > 0), t502)) else (some (false, t502)))
theorem gudgeonref02_Norm.mono : ∀ a0 a1 k, LeO (gudgeonref02_Norm.f k a0 a1) (gudgeonref02_Norm.f (k + 1) a0 a1) := by
 intro a0 a1 k
 unfold gudgeonref02_Norm.f
 repeat' first
   | (with_reducible exact gudgeonref01_Norm.mono _ _)
   | (with_reducible exact LeO.refl _)
   | (with_reducible exact LeO.none _)
   | (with_reducible refine LeO.ite ?_ ?_)
   | (with_reducible refine LeO.bind ?_ (fun _ => ?_))
   | exact gudgeonref01_Norm.mono _ _
   | exact LeO.none _
   | refine LeO.ite ?_ ?_
   | refine LeO.bind ?_ (fun _ => ?_)
set_option maxHeartbeats 8000000 in
set_option maxRecDepth 100000 in
theorem gudgeonref02_Norm.calls (k : Nat) (a0_0 : Bool) (A0_1 : Option Addr) (c0_1 : Nat) (l0_1 : List Int) (r1 : Bool) (r2 : List Int) (w : World) (hr0_1 : Kd.C (Kd.int .u32) w A0_1 l0_1.length l0_1) (hc0_1 : l0_1.length ≤ c0_1) (h : gudgeonref02_Norm.f k a0_0 l0_1 = some (r1, r2)) :
  Calls Try.prog 54 #[.agg #[.bool a0_0, .slice A0_1 l0_1.length c0_1]] w fun e w' => ∃ v1_ : Value, e = .returned (.agg #[.bool r1, v1_]) ∧ Kd.R (Kd.int .u32) 81 w' w.heap.size (fun _ => True) v1_ r2 ∧ Below w.heap.size w w' := by
 have hu24 := Try.underlying24
 have HR0_1 := Aside0.mk hr0_1
 have HC0_1 := Aside0.mk hc0_1
 clear hr0_1 hc0_1
 have HB := Aside0.mk (Below.refl w.heap.size w)
 have H : ((gudgeonref01_Norm.f k l0_1).bind fun t502 => (if a0_0 = true then (some (decide ((t502.length : Int) > 0), t502)) else (some (false, t502)))) = some (r1, r2) := h
 clear h
 obtain ⟨t502, A20, H⟩ := Option.bind_eq_some_iff.mp H
 try dsimp only at H
 have A2 := Aside0.mk A20
 clear A20
 by_cases c3 : a0_0 = true
 ·subst c3
  rw [if_pos rfl] at H
  rw [show decide ((t502.length : Int) > 0) = decide (0 < t502.length) from decide_eq_decide.mpr (by omega)] at H
  simp only [Option.some.injEq, Prod.mk.injEq] at H
  obtain ⟨rfl, rfl⟩ := H
  go_enter Try.func54, Try.ntmps54
  go_wp2_with (first | ((with_reducible refine gate_dst (N := 1) rfl ?_); (try (refine gate_guard (by rfl) ?_; dsimp only)); refine box_event ?hg (N := 1) ?hd (cs := #[.bool true, .slice A0_1 l0_1.length c0_1]) (t := 24) ?hr ?_; (case hd => rfl); (case hg => rfl); (case hr => first | (go_simp; done) | (go_simp; rfl)); intro gb500 hg w4 hbox hb; have BK500 := Aside0.mk (hbox); have GW500 := Aside0.mk (bxLe HB.out hg); have GE500 := GW500; replace HB := Aside0.mk (below_step HB.out hb); clear hb hbox hg) | ((with_reducible refine gate_dst (N := 2) rfl ?_); (try (refine gate_guard (by rfl) ?_; dsimp only)); refine box_event ?hg (N := 2) ?hd (cs := #[.bool false, .slice none 0 0]) (t := 24) ?hr ?_; (case hd => rfl); (case hg => rfl); (case hr => first | (go_simp; done) | (go_simp; rfl)); intro gb501 hg w5 hbox hb; have BK501 := Aside0.mk (hbox); have GW501 := Aside0.mk (bxLe HB.out hg); have GE501 := GW501; replace HB := Aside0.mk (below_step HB.out hb); have NB500_501 := Aside0.mk (neL BK500.out hg); have NB501_500 := Aside0.mk (neR BK500.out hg); replace BK500 := Aside0.mk (blk_below BK500.out hb); clear hb hbox hg; have hnb6 := NB500_501.out; have hnc6 := NB501_500.out; have hcz7_0 : w5.cell? ⟨gb500, 0, none⟩ = some (.bool true) := bc0 BK500.out; have hcz7_1 : w5.cell? ⟨gb500, 1, none⟩ = some (.slice A0_1 l0_1.length c0_1) := bc1 BK500.out; have hfz7_0 := blk_frozen BK500.out 0; have hfz7_1 := blk_frozen BK500.out 1) | ((with_reducible refine gate_callee (f := 77) rfl ?_); refine goL (some 6) Try.func77 [.slice A0_1 l0_1.length c0_1] ?_; (with_reducible refine (gudgeonref01_Norm.calls k _ _ l0_1 t502 _ ?side1 ?side2 A2.out).mono ?_); (case side1 => exact (Kd.C_below HR0_1.out HB.out)); (case side2 => exact HC0_1.out); rintro e w8 ⟨v503, rfl, ho0, hb⟩; refine ⟨_, rfl, ?_⟩; have HO504 := Aside0.mk (Kd.R_lower ho0 (below_size HB.out)); replace BK500 := Aside0.mk (blk_below BK500.out hb); replace BK501 := Aside0.mk (blk_below BK501.out hb); replace HB := Aside0.mk (below_step HB.out hb); have hcz9_0 : w8.cell? ⟨gb500, 0, none⟩ = some (.bool true) := bc0 BK500.out; have hcz9_1 : w8.cell? ⟨gb500, 1, none⟩ = some (.slice A0_1 l0_1.length c0_1) := bc1 BK500.out; have hfz9_0 := blk_frozen BK500.out 0; have hfz9_1 := blk_frozen BK500.out 1; obtain ⟨Ao10, co10, eo10⟩ := Kd.R_slice HO504.out; subst eo10; have hcz11_0 : w8.cell? ⟨gb501, 0, none⟩ = some (.bool false) := bc0 BK501.out; have hcz11_1 : w8.cell? ⟨gb501, 1, none⟩ = some (.slice none 0 0) := bc1 BK501.out; have hfz11_0 := blk_frozen BK501.out 0; have hfz11_1 := blk_frozen BK501.out 1))
  refine bodyPost_ret (results_cell_row rfl _ _ gb501 24 #[.bool (decide (0 < t502.length)), .slice Ao10 t502.length co10] (0, 0) _ rfl (by refine blk_put (cs := #[.bool (decide (0 < t502.length)), .slice none 0 0]) ?_ 1 _ rfl; refine blk_put (cs := #[.bool false, .slice none 0 0]) ?_ 0 _ rfl; exact BK501.out) Try.underlying24 rfl (by kernel_rfl)) rfl ?_
  exact ⟨_, rfl, Kd.R_mono (Kd.R_far (p := ⟨gb501, 1, none⟩) (Kd.R_far (p := ⟨gb501, 0, none⟩) (Kd.R_types HO504.out BK501.out (by decide)) (fun _ hk => hk.2) (.bool (decide (0 < t502.length)))) (fun _ hk => hk.2) (.slice Ao10 t502.length co10)) (fun _ hk => trivial), by repeat first | exact HB.out | refine bxSet ?_ (by assumption) | apply below_alloc | apply pw_below_drewN⟩
 ·replace c3 := Bool.eq_false_iff.mpr c3
  subst c3
  rw [if_neg (show ¬ (false = true) by decide)] at H
  simp only [Option.some.injEq, Prod.mk.injEq] at H
  obtain ⟨rfl, rfl⟩ := H
  go_enter Try.func54, Try.ntmps54
  go_wp2_with (first | ((with_reducible refine gate_dst (N := 1) rfl ?_); (try (refine gate_guard (by rfl) ?_; dsimp only)); refine box_event ?hg (N := 1) ?hd (cs := #[.bool false, .slice A0_1 l0_1.length c0_1]) (t := 24) ?hr ?_; (case hd => rfl); (case hg => rfl); (case hr => first | (go_simp; done) | (go_simp; rfl)); intro gb500 hg w12 hbox hb; have BK500 := Aside0.mk (hbox); have GW500 := Aside0.mk (bxLe HB.out hg); have GE500 := GW500; replace HB := Aside0.mk (below_step HB.out hb); clear hb hbox hg) | ((with_reducible refine gate_dst (N := 2) rfl ?_); (try (refine gate_guard (by rfl) ?_; dsimp only)); refine box_event ?hg (N := 2) ?hd (cs := #[.bool false, .slice none 0 0]) (t := 24) ?hr ?_; (case hd => rfl); (case hg => rfl); (case hr => first | (go_simp; done) | (go_simp; rfl)); intro gb501 hg w13 hbox hb; have BK501 := Aside0.mk (hbox); have GW501 := Aside0.mk (bxLe HB.out hg); have GE501 := GW501; replace HB := Aside0.mk (below_step HB.out hb); have NB500_501 := Aside0.mk (neL BK500.out hg); have NB501_500 := Aside0.mk (neR BK500.out hg); replace BK500 := Aside0.mk (blk_below BK500.out hb); clear hb hbox hg; have hnb14 := NB500_501.out; have hnc14 := NB501_500.out; have hcz15_0 : w13.cell? ⟨gb500, 0, none⟩ = some (.bool false) := bc0 BK500.out; have hcz15_1 : w13.cell? ⟨gb500, 1, none⟩ = some (.slice A0_1 l0_1.length c0_1) := bc1 BK500.out; have hfz15_0 := blk_frozen BK500.out 0; have hfz15_1 := blk_frozen BK500.out 1) | ((with_reducible refine gate_callee (f := 77) rfl ?_); refine goL (some 6) Try.func77 [.slice A0_1 l0_1.length c0_1] ?_; (with_reducible refine (gudgeonref01_Norm.calls k _ _ l0_1 t502 _ ?side1 ?side2 A2.out).mono ?_); (case side1 => exact (Kd.C_below HR0_1.out HB.out)); (case side2 => exact HC0_1.out); rintro e w16 ⟨v503, rfl, ho0, hb⟩; refine ⟨_, rfl, ?_⟩; have HO504 := Aside0.mk (Kd.R_lower ho0 (below_size HB.out)); replace BK500 := Aside0.mk (blk_below BK500.out hb); replace BK501 := Aside0.mk (blk_below BK501.out hb); replace HB := Aside0.mk (below_step HB.out hb); have hcz17_0 : w16.cell? ⟨gb500, 0, none⟩ = some (.bool false) := bc0 BK500.out; have hcz17_1 : w16.cell? ⟨gb500, 1, none⟩ = some (.slice A0_1 l0_1.length c0_1) := bc1 BK500.out; have hfz17_0 := blk_frozen BK500.out 0; have hfz17_1 := blk_frozen BK500.out 1; obtain ⟨Ao18, co18, eo18⟩ := Kd.R_slice HO504.out; subst eo18; have hcz19_0 : w16.cell? ⟨gb501, 0, none⟩ = some (.bool false) := bc0 BK501.out; have hcz19_1 : w16.cell? ⟨gb501, 1, none⟩ = some (.slice none 0 0) := bc1 BK501.out; have hfz19_0 := blk_frozen BK501.out 0; have hfz19_1 := blk_frozen BK501.out 1))
  refine bodyPost_ret (results_cell_row rfl _ _ gb501 24 #[.bool false, .slice Ao18 t502.length co18] (0, 0) _ rfl (by refine blk_put (cs := #[.bool false, .slice none 0 0]) ?_ 1 _ rfl; refine blk_put (cs := #[.bool false, .slice none 0 0]) ?_ 0 _ rfl; exact BK501.out) Try.underlying24 rfl (by kernel_rfl)) rfl ?_
  exact ⟨_, rfl, Kd.R_mono (Kd.R_far (p := ⟨gb501, 1, none⟩) (Kd.R_far (p := ⟨gb501, 0, none⟩) (Kd.R_types HO504.out BK501.out (by decide)) (fun _ hk => hk.2) (.bool false)) (fun _ hk => hk.2) (.slice Ao18 t502.length co18)) (fun _ hk => trivial), by repeat first | exact HB.out | refine bxSet ?_ (by assumption) | apply below_alloc | apply pw_below_drewN⟩

/-! ### gudgeonref01_Of: function 62 -/
def gudgeonref01_Of.f (k : Nat) (a0 : Int) : Option (List Int) := (gudgeonref01_Norm.f k (([(Int.tmod a0 4294967296) % 4294967296, (IntKind.u64.wrap (Int.tdiv a0 4294967296)) % 4294967296] : List Int))).bind fun t508 => (some t508)
theorem gudgeonref01_Of.mono : ∀ a0 k, LeO (gudgeonref01_Of.f k a0) (gudgeonref01_Of.f (k + 1) a0) := by
 intro a0 k
 unfold gudgeonref01_Of.f
 repeat' first
   | (with_reducible exact gudgeonref01_Norm.mono _ _)
   | (with_reducible exact LeO.refl _)
   | (with_reducible exact LeO.none _)
   | (with_reducible refine LeO.ite ?_ ?_)
   | (with_reducible refine LeO.bind ?_ (fun _ => ?_))
   | exact gudgeonref01_Norm.mono _ _
   | exact LeO.none _
   | refine LeO.ite ?_ ?_
   | refine LeO.bind ?_ (fun _ => ?_)
set_option maxHeartbeats 8000000 in
set_option maxRecDepth 100000 in
theorem gudgeonref01_Of.calls (k : Nat) (a0 : Int) (r : List Int) (w : World) (h : gudgeonref01_Of.f k a0 = some r) :
  Calls Try.prog 62 #[.int .u64 a0] w fun e w' => ∃ v0_ : Value, e = .returned (v0_) ∧ Kd.R (Kd.int .u32) 81 w' w.heap.size (fun _ => True) v0_ r ∧ Below w.heap.size w w' := by
 have HB := Aside0.mk (Below.refl w.heap.size w)
 have H : ((gudgeonref01_Norm.f k (([(Int.tmod a0 4294967296) % 4294967296, (IntKind.u64.wrap (Int.tdiv a0 4294967296)) % 4294967296] : List Int))).bind fun t508 => (some t508)) = some r := h
 clear h
 obtain ⟨y505, hy505⟩ : ∃ y_ : List Int, y_ = (([(Int.tmod a0 4294967296) % 4294967296, (IntKind.u64.wrap (Int.tdiv a0 4294967296)) % 4294967296] : List Int)) := ⟨_, rfl⟩
 replace H : ((gudgeonref01_Norm.f k y505).bind fun t508 => (some t508)) = some r := by first | (rw [hy505]; with_reducible exact H) | (have H2_ := (Option.bind_some _ _).symm.trans H; rw [hy505]; with_reducible exact H2_) | (have H2_ := (Option.bind_some _ _).symm.trans H; with_reducible exact H2_) | with_reducible exact H | (rw [hy505]; exact H) | exact H
 have Ny505 := Aside0.mk hy505
 clear hy505
 obtain ⟨t508, A20, H⟩ := Option.bind_eq_some_iff.mp H
 try dsimp only at H
 have A2 := Aside0.mk A20
 clear A20
 obtain rfl := Option.some.inj H
 go_enter Try.func62, Try.ntmps62
 go_wp2_with (first | ((with_reducible refine gate_dst (N := 9) rfl ?_); refine Kd.R_lit (Kd.int .u32) _ 81 ?hg (N := 9) ?hd (xs := ([(Int.tmod a0 4294967296) % 4294967296, (IntKind.u64.wrap (Int.tdiv a0 4294967296)) % 4294967296] : List Int)) (inner := [.int .u32 ((Int.tmod a0 4294967296) % 4294967296), .int .u32 ((IntKind.u64.wrap (Int.tdiv a0 4294967296)) % 4294967296)]) (ok := fun _ => True) (okp := fun _ => True) ?hr ?hp (fun _ hk => hk) trivial (Below.refl _ _) (Nat.le_refl _) (by simp) ?_; (case hd => rfl); (case hg => rfl); (case hr => first | (go_simp; done) | (go_simp; rfl)); (case hp => exact (Reps.one (show Kd.M (Kd.int .u32) _ _ _ ((Int.tmod a0 4294967296) % 4294967296) [.int .u32 ((Int.tmod a0 4294967296) % 4294967296)] from rfl) (Reps.one (show Kd.M (Kd.int .u32) _ _ _ ((IntKind.u64.wrap (Int.tdiv a0 4294967296)) % 4294967296) [.int .u32 ((IntKind.u64.wrap (Int.tdiv a0 4294967296)) % 4294967296)] from rfl) (Reps.none _ _)))); intro v506 w3 ho4 hb hg_ hnew_; clear hg_ hnew_; (first | rw [← Ny505.out] at ho4 | (simp only [Int.reduceToNat] at ho4; rw [← Ny505.out] at ho4)); have HO507 := Aside0.mk (Kd.R_lower ho4 (below_size HB.out)); replace HB := Aside0.mk (below_step HB.out hb); clear hb ho4; obtain ⟨Ao5, co5, eo5⟩ := Kd.R_slice HO507.out; subst eo5) | ((with_reducible refine gate_callee (f := 77) rfl ?_); refine goL (some 10) Try.func77 [.slice Ao5 y505.length co5] ?_; (with_reducible refine (gudgeonref01_Norm.calls k _ _ y505 t508 _ ?side1 ?side2 A2.out).mono ?_); (case side1 => exact (Kd.R_reads' HO507.out).2.2); (case side2 => exact (Kd.R_reads' HO507.out).2.1); rintro e w6 ⟨v509, rfl, ho0, hb⟩; refine ⟨_, rfl, ?_⟩; have HO510 := Aside0.mk (Kd.R_lower (Kd.R_new' ho0 (Kd.R_lt HO507.out)) (below_size HB.out)); replace HB := Aside0.mk (below_step HB.out hb)))
 go_ret
 exact ⟨_, rfl, Kd.R_mono HO510.out (fun _ hk => trivial), HB.out⟩

/-! ### gudgeonref02_Of: function 32 -/
def gudgeonref02_Of.f (k : Nat) (a0 : Int) : Option (Bool × List Int) := if a0 < 0 then ((gudgeonref01_Of.f k (IntKind.u64.wrap ((IntKind.u64.wrap (wrap64 (-(wrap64 (a0 + 1))))) + 1))).bind fun t512 => ((gudgeonref02_Norm.f k true t512).bind fun bt515 => (some (bt515.1, bt515.2)))) else ((gudgeonref01_Of.f k (IntKind.u64.wrap (a0))).bind fun t519 => ((gudgeonref02_Norm.f k false t519).bind fun bt522 => (some (bt522.1, bt522.2))))
theorem gudgeonref02_Of.mono : ∀ a0 k, LeO (gudgeonref02_Of.f k a0) (gudgeonref02_Of.f (k + 1) a0) := by
 intro a0 k
 unfold gudgeonref02_Of.f
 repeat' first
   | (with_reducible exact gudgeonref01_Of.mono _ _)
   | (with_reducible exact gudgeonref02_Norm.mono _ _ _)
   | (with_reducible exact LeO.refl _)
   | (with_reducible exact LeO.none _)
   | (with_reducible refine LeO.ite ?_ ?_)
   | (with_reducible refine LeO.bind ?_ (fun _ => ?_))
   | exact gudgeonref01_Of.mono _ _
   | exact gudgeonref02_Norm.mono _ _ _
   | exact LeO.none _
   | refine LeO.ite ?_ ?_
   | refine LeO.bind ?_ (fun _ => ?_)
set_option maxHeartbeats 8000000 in
set_option maxRecDepth 100000 in
theorem gudgeonref02_Of.calls (k : Nat) (a0 : Int) (r1 : Bool) (r2 : List Int) (w : World) (h : gudgeonref02_Of.f k a0 = some (r1, r2)) :
  Calls Try.prog 32 #[.int .i64 a0] w fun e w' => ∃ v1_ : Value, e = .returned (.agg #[.bool r1, v1_]) ∧ Kd.R (Kd.int .u32) 81 w' w.heap.size (fun _ => True) v1_ r2 ∧ Below w.heap.size w w' := by
 have hu24 := Try.underlying24
 have HB := Aside0.mk (Below.refl w.heap.size w)
 have H : (if a0 < 0 then ((gudgeonref01_Of.f k (IntKind.u64.wrap ((IntKind.u64.wrap (wrap64 (-(wrap64 (a0 + 1))))) + 1))).bind fun t512 => ((gudgeonref02_Norm.f k true t512).bind fun bt515 => (some (bt515.1, bt515.2)))) else ((gudgeonref01_Of.f k (IntKind.u64.wrap (a0))).bind fun t519 => ((gudgeonref02_Norm.f k false t519).bind fun bt522 => (some (bt522.1, bt522.2))))) = some (r1, r2) := h
 clear h
 by_cases c2 : a0 < 0
 ·rw [if_pos c2] at H
  have c2b0 : decide (a0 < 0) = true := decide_eq_true c2
  clear c2
  obtain ⟨t512, A30, H⟩ := Option.bind_eq_some_iff.mp H
  try dsimp only at H
  have A3 := Aside0.mk A30
  clear A30
  obtain ⟨⟨t515, t516⟩, A40, H⟩ := Option.bind_eq_some_iff.mp H
  try dsimp only at H
  have A4 := Aside0.mk A40
  clear A40
  simp only [Option.some.injEq, Prod.mk.injEq] at H
  obtain ⟨rfl, rfl⟩ := H
  go_enter Try.func32, Try.ntmps32
  go_wp2_with (first | ((with_reducible refine gate_dst (N := 2) rfl ?_); refine box_event ?hg (N := 2) ?hd (cs := #[.bool false, .slice none 0 0]) (t := 24) ?hr ?_; (case hd => rfl); (case hg => rfl); (case hr => first | (go_simp; done) | (go_simp; rfl)); intro gb511 hg w5 hbox hb; have BK511 := Aside0.mk (hbox); have GW511 := Aside0.mk (bxLe HB.out hg); have GE511 := GW511; replace HB := Aside0.mk (below_step HB.out hb); clear hb hbox hg) | ((with_reducible refine gate_callee (f := 62) rfl ?_); refine goL (some 10) Try.func62 [.int .u64 (IntKind.u64.wrap ((IntKind.u64.wrap (wrap64 (-(wrap64 (a0 + 1))))) + 1))] ?_; (with_reducible refine (gudgeonref01_Of.calls k (IntKind.u64.wrap ((IntKind.u64.wrap (wrap64 (-(wrap64 (a0 + 1))))) + 1)) t512 _ A3.out).mono ?_); rintro e w6 ⟨v513, rfl, ho0, hb⟩; refine ⟨_, rfl, ?_⟩; have HO514 := Aside0.mk (Kd.R_lower ho0 (below_size HB.out)); replace BK511 := Aside0.mk (blk_below BK511.out hb); replace HB := Aside0.mk (below_step HB.out hb); obtain ⟨Ao7, co7, eo7⟩ := Kd.R_slice HO514.out; subst eo7) | ((with_reducible refine gate_callee (f := 54) rfl ?_); refine goL (some 12) Try.func54 [.agg #[.bool true, .slice Ao7 t512.length co7]] ?_; (with_reducible refine (gudgeonref02_Norm.calls k true _ _ t512 t515 t516 _ ?side1 ?side2 A4.out).mono ?_); (case side1 => exact (Kd.R_reads' HO514.out).2.2); (case side2 => exact (Kd.R_reads' HO514.out).2.1); rintro e w8 ⟨v517, rfl, ho0, hb⟩; refine ⟨_, rfl, ?_⟩; have HO518 := Aside0.mk (Kd.R_lower (Kd.R_new' ho0 (Kd.R_lt HO514.out)) (below_size HB.out)); replace BK511 := Aside0.mk (blk_below BK511.out hb); replace HB := Aside0.mk (below_step HB.out hb); have hcz9_0 : w8.cell? ⟨gb511, 0, none⟩ = some (.bool false) := bc0 BK511.out; have hcz9_1 : w8.cell? ⟨gb511, 1, none⟩ = some (.slice none 0 0) := bc1 BK511.out; have hfz9_0 := blk_frozen BK511.out 0; have hfz9_1 := blk_frozen BK511.out 1; obtain ⟨Ao10, co10, eo10⟩ := Kd.R_slice HO518.out; subst eo10))
  refine bodyPost_ret (results_cell_row rfl _ _ gb511 24 #[.bool t515, .slice Ao10 t516.length co10] (0, 0) _ rfl (by refine blk_put (cs := #[.bool t515, .slice none 0 0]) ?_ 1 _ rfl; refine blk_put (cs := #[.bool false, .slice none 0 0]) ?_ 0 _ rfl; exact BK511.out) Try.underlying24 rfl (by kernel_rfl)) rfl ?_
  exact ⟨_, rfl, Kd.R_mono (Kd.R_far (p := ⟨gb511, 1, none⟩) (Kd.R_far (p := ⟨gb511, 0, none⟩) (Kd.R_types HO518.out BK511.out (by decide)) (fun _ hk => hk.2) (.bool t515)) (fun _ hk => hk.2) (.slice Ao10 t516.length co10)) (fun _ hk => trivial), by repeat first | exact HB.out | refine bxSet ?_ (by assumption) | apply below_alloc | apply pw_below_drewN⟩
 ·rw [if_neg c2] at H
  have c2b0 : decide (a0 < 0) = false := decide_eq_false c2
  clear c2
  obtain ⟨t519, A110, H⟩ := Option.bind_eq_some_iff.mp H
  try dsimp only at H
  have A11 := Aside0.mk A110
  clear A110
  obtain ⟨⟨t522, t523⟩, A120, H⟩ := Option.bind_eq_some_iff.mp H
  try dsimp only at H
  have A12 := Aside0.mk A120
  clear A120
  simp only [Option.some.injEq, Prod.mk.injEq] at H
  obtain ⟨rfl, rfl⟩ := H
  go_enter Try.func32, Try.ntmps32
  go_wp2_with (first | ((with_reducible refine gate_dst (N := 2) rfl ?_); refine box_event ?hg (N := 2) ?hd (cs := #[.bool false, .slice none 0 0]) (t := 24) ?hr ?_; (case hd => rfl); (case hg => rfl); (case hr => first | (go_simp; done) | (go_simp; rfl)); intro gb511 hg w13 hbox hb; have BK511 := Aside0.mk (hbox); have GW511 := Aside0.mk (bxLe HB.out hg); have GE511 := GW511; replace HB := Aside0.mk (below_step HB.out hb); clear hb hbox hg) | ((with_reducible refine gate_callee (f := 62) rfl ?_); refine goL (some 15) Try.func62 [.int .u64 (IntKind.u64.wrap (a0))] ?_; (with_reducible refine (gudgeonref01_Of.calls k (IntKind.u64.wrap (a0)) t519 _ A11.out).mono ?_); rintro e w14 ⟨v520, rfl, ho0, hb⟩; refine ⟨_, rfl, ?_⟩; have HO521 := Aside0.mk (Kd.R_lower ho0 (below_size HB.out)); replace BK511 := Aside0.mk (blk_below BK511.out hb); replace HB := Aside0.mk (below_step HB.out hb); obtain ⟨Ao15, co15, eo15⟩ := Kd.R_slice HO521.out; subst eo15) | ((with_reducible refine gate_callee (f := 54) rfl ?_); refine goL (some 17) Try.func54 [.agg #[.bool false, .slice Ao15 t519.length co15]] ?_; (with_reducible refine (gudgeonref02_Norm.calls k false _ _ t519 t522 t523 _ ?side1 ?side2 A12.out).mono ?_); (case side1 => exact (Kd.R_reads' HO521.out).2.2); (case side2 => exact (Kd.R_reads' HO521.out).2.1); rintro e w16 ⟨v524, rfl, ho0, hb⟩; refine ⟨_, rfl, ?_⟩; have HO525 := Aside0.mk (Kd.R_lower (Kd.R_new' ho0 (Kd.R_lt HO521.out)) (below_size HB.out)); replace BK511 := Aside0.mk (blk_below BK511.out hb); replace HB := Aside0.mk (below_step HB.out hb); have hcz17_0 : w16.cell? ⟨gb511, 0, none⟩ = some (.bool false) := bc0 BK511.out; have hcz17_1 : w16.cell? ⟨gb511, 1, none⟩ = some (.slice none 0 0) := bc1 BK511.out; have hfz17_0 := blk_frozen BK511.out 0; have hfz17_1 := blk_frozen BK511.out 1; obtain ⟨Ao18, co18, eo18⟩ := Kd.R_slice HO525.out; subst eo18))
  refine bodyPost_ret (results_cell_row rfl _ _ gb511 24 #[.bool t522, .slice Ao18 t523.length co18] (0, 0) _ rfl (by refine blk_put (cs := #[.bool t522, .slice none 0 0]) ?_ 1 _ rfl; refine blk_put (cs := #[.bool false, .slice none 0 0]) ?_ 0 _ rfl; exact BK511.out) Try.underlying24 rfl (by kernel_rfl)) rfl ?_
  exact ⟨_, rfl, Kd.R_mono (Kd.R_far (p := ⟨gb511, 1, none⟩) (Kd.R_far (p := ⟨gb511, 0, none⟩) (Kd.R_types HO525.out BK511.out (by decide)) (fun _ hk => hk.2) (.bool t522)) (fun _ hk => hk.2) (.slice Ao18 t523.length co18)) (fun _ hk => trivial), by repeat first | exact HB.out | refine bxSet ?_ (by assumption) | apply below_alloc | apply pw_below_drewN⟩

/-! ### gudgeonlaw13_sum: function 39 -/
def gudgeonlaw13_sum.f (k : Nat) (a0 : Int) (a1 : Int) (a2 : Int) : Option (Bool × List Int × (List (S46))) := (gudgeonref02_Of.f k a0).bind fun bt527 => ((gudgeonref02_Of.f k a1).bind fun bt531 => ((gudgeonref02_Of.f k a2).bind fun bt535 => (some (bt527.1, bt527.2, (([(⟨0, (⟨bt531.1, bt531.2⟩ : S24)⟩ : S46), (⟨1, (⟨bt535.1, bt535.2⟩ : S24)⟩ : S46)] : List (S46)))))))
theorem gudgeonlaw13_sum.mono : ∀ a0 a1 a2 k, LeO (gudgeonlaw13_sum.f k a0 a1 a2) (gudgeonlaw13_sum.f (k + 1) a0 a1 a2) := by
 intro a0 a1 a2 k
 unfold gudgeonlaw13_sum.f
 repeat' first
   | (with_reducible exact gudgeonref02_Of.mono _ _)
   | (with_reducible exact LeO.refl _)
   | (with_reducible exact LeO.none _)
   | (with_reducible refine LeO.ite ?_ ?_)
   | (with_reducible refine LeO.bind ?_ (fun _ => ?_))
   | exact gudgeonref02_Of.mono _ _
   | exact LeO.none _
   | refine LeO.ite ?_ ?_
   | refine LeO.bind ?_ (fun _ => ?_)
set_option maxHeartbeats 8000000 in
set_option maxRecDepth 100000 in
theorem gudgeonlaw13_sum.calls (k : Nat) (a0 : Int) (a1 : Int) (a2 : Int) (r1 : Bool) (r2 : List Int) (r3 : List (S46)) (w : World) (h : gudgeonlaw13_sum.f k a0 a1 a2 = some (r1, r2, r3)) :
  Calls Try.prog 39 #[.int .i64 a0, .int .i64 a1, .int .i64 a2] w fun e w' => ∃ v1_ v2_ : Value, e = .returned (.agg #[.bool r1, v1_, v2_]) ∧ Kd.R (Kd.int .u32) 81 w' w.heap.size (fun k_ => (w.heap.size ≤ k_)) v1_ r2 ∧ Kd.N k46 46 w' w.heap.size (fun k_ => (w.heap.size ≤ k_) ∧ some k_ ≠ (v1_ : Value).ownBlock) v2_ r3 ∧ Below w.heap.size w w' := by
 have hu27 := Try.underlying27
 have hu46 := Try.underlying46
 have HB := Aside0.mk (Below.refl w.heap.size w)
 have H : ((gudgeonref02_Of.f k a0).bind fun bt527 => ((gudgeonref02_Of.f k a1).bind fun bt531 => ((gudgeonref02_Of.f k a2).bind fun bt535 => (some (bt527.1, bt527.2, (([(⟨0, (⟨bt531.1, bt531.2⟩ : S24)⟩ : S46), (⟨1, (⟨bt535.1, bt535.2⟩ : S24)⟩ : S46)] : List (S46)))))))) = some (r1, r2, r3) := h
 clear h
 obtain ⟨⟨t527, t528⟩, A40, H⟩ := Option.bind_eq_some_iff.mp H
 try dsimp only at H
 have A4 := Aside0.mk A40
 clear A40
 obtain ⟨⟨t531, t532⟩, A50, H⟩ := Option.bind_eq_some_iff.mp H
 try dsimp only at H
 have A5 := Aside0.mk A50
 clear A50
 obtain ⟨⟨t535, t536⟩, A60, H⟩ := Option.bind_eq_some_iff.mp H
 try dsimp only at H
 have A6 := Aside0.mk A60
 clear A60
 obtain ⟨y539, hy539⟩ : ∃ y_ : List (S46), y_ = (([(⟨0, (⟨t531, t532⟩ : S24)⟩ : S46), (⟨1, (⟨t535, t536⟩ : S24)⟩ : S46)] : List (S46))) := ⟨_, rfl⟩
 replace H : (some (t527, t528, y539)) = some (r1, r2, r3) := by first | (rw [hy539]; with_reducible exact H) | (have H2_ := (Option.bind_some _ _).symm.trans H; rw [hy539]; with_reducible exact H2_) | (have H2_ := (Option.bind_some _ _).symm.trans H; with_reducible exact H2_) | with_reducible exact H | (rw [hy539]; exact H) | exact H
 have Ny539 := Aside0.mk hy539
 clear hy539
 simp only [Option.some.injEq, Prod.mk.injEq] at H
 obtain ⟨rfl, rfl, rfl⟩ := H
 go_enter Try.func39, Try.ntmps39
 go_wp2_with (first | ((with_reducible refine gate_dst (N := 6) rfl ?_); refine box_event ?hg (N := 6) ?hd (cs := #[.bool false, .slice none 0 0, .slice none 0 0]) (t := 27) ?hr ?_; (case hd => rfl); (case hg => rfl); (case hr => first | (go_simp; done) | (go_simp; rfl)); intro gb526 hg w7 hbox hb; have BK526 := Aside0.mk (hbox); have GW526 := Aside0.mk (bxLe HB.out hg); have GE526 := GW526; replace HB := Aside0.mk (below_step HB.out hb); clear hb hbox hg) | ((with_reducible refine gate_callee (f := 32) rfl ?_); refine goL (some 8) Try.func32 [.int .i64 a0] ?_; (with_reducible refine (gudgeonref02_Of.calls k a0 t527 t528 _ A4.out).mono ?_); rintro e w8 ⟨v529, rfl, ho0, hb⟩; refine ⟨_, rfl, ?_⟩; have HO530 := Aside0.mk (Kd.R_lower (Kd.R_newM (M := fun k_ => (w.heap.size ≤ k_)) ho0 (below_size HB.out) (fun k_ h_ => h_)) (below_size HB.out)); replace BK526 := Aside0.mk (blk_below BK526.out hb); replace HB := Aside0.mk (below_step HB.out hb)) | ((with_reducible refine gate_callee (f := 32) rfl ?_); refine goL (some 10) Try.func32 [.int .i64 a1] ?_; (with_reducible refine (gudgeonref02_Of.calls k a1 t531 t532 _ A5.out).mono ?_); rintro e w9 ⟨v533, rfl, ho0, hb⟩; refine ⟨_, rfl, ?_⟩; have HO534 := Aside0.mk (Kd.R_lower (Kd.R_new' (Kd.R_newM (M := fun k_ => (w.heap.size ≤ k_)) ho0 (below_size HB.out) (fun k_ h_ => h_)) (Kd.R_lt HO530.out)) (below_size HB.out)); replace HO530 := Aside0.mk (Kd.R_elder' HO530.out (Kd.R_base ho0) hb); replace BK526 := Aside0.mk (blk_below BK526.out hb); replace HB := Aside0.mk (below_step HB.out hb); obtain ⟨Ao10, co10, eo10⟩ := Kd.R_slice HO534.out; subst eo10) | ((with_reducible refine gate_callee (f := 32) rfl ?_); refine goL (some 13) Try.func32 [.int .i64 a2] ?_; (with_reducible refine (gudgeonref02_Of.calls k a2 t535 t536 _ A6.out).mono ?_); rintro e w11 ⟨v537, rfl, ho0, hb⟩; refine ⟨_, rfl, ?_⟩; have HO538 := Aside0.mk (Kd.R_lower (Kd.R_new' (Kd.R_new' (Kd.R_newM (M := fun k_ => (w.heap.size ≤ k_)) ho0 (below_size HB.out) (fun k_ h_ => h_)) (Kd.R_lt HO530.out)) (Kd.R_lt HO534.out)) (below_size HB.out)); replace HO530 := Aside0.mk (Kd.R_elder' HO530.out (Kd.R_base ho0) hb); replace HO534 := Aside0.mk (Kd.R_elder' HO534.out (Kd.R_base ho0) hb); replace BK526 := Aside0.mk (blk_below BK526.out hb); replace HB := Aside0.mk (below_step HB.out hb); obtain ⟨Ao12, co12, eo12⟩ := Kd.R_slice HO538.out; subst eo12) | ((with_reducible refine gate_dst (N := 15) rfl ?_); refine Kd.N_lit k46 _ 46 ?hg (N' := 15) ?hd (xs := ([(⟨0, (⟨t531, t532⟩ : S24)⟩ : S46), (⟨1, (⟨t535, t536⟩ : S24)⟩ : S46)] : List (S46))) (inner := [.int .i64 0, .bool t531, .slice Ao10 t532.length co10, .int .i64 1, .bool t535, .slice Ao12 t536.length co12]) (ok := (fun k_ => (w.heap.size ≤ k_) ∧ some k_ ≠ (v529 : Value).ownBlock ∧ k_ ≠ gb526)) (okp := (fun k_ => (w.heap.size ≤ k_) ∧ some k_ ≠ (v529 : Value).ownBlock ∧ k_ ≠ gb526)) ?hr ?hp (fun _ hk => hk) ((show ∀ k_, w11.heap.size ≤ k_ → (fun k_ => (w.heap.size ≤ k_) ∧ some k_ ≠ (v529 : Value).ownBlock ∧ k_ ≠ gb526) k_ from fun k_ hk => ⟨(Nat.le_trans (below_size HB.out) hk), Kd.fresh' (Kd.R_lt HO530.out) k_ hk, Kd.freshB BK526.out k_ hk⟩) _ (Nat.le_refl _)) (Below.refl _ _) (Nat.le_refl _) (by simp) ?_; (case hd => rfl); (case hg => rfl); (case hr => first | (go_simp; done) | (go_simp; rfl)); (case hp => exact (Reps.c3 (show Kd.FK k46 _ _ (⟨0, (⟨t531, t532⟩ : S24)⟩ : S46) [.int .i64 0, .bool t531, .slice Ao10 t532.length co10] from (k46_mkF _ _ (⟨0, (⟨t531, t532⟩ : S24)⟩ : S46) (Kd.R_reads' (Kd.R_mono (ok' := (fun k_ => (w.heap.size ≤ k_) ∧ some k_ ≠ (v529 : Value).ownBlock ∧ k_ ≠ gb526)) (Kd.R_types (HO534.out) BK526.out (by decide)) (fun k_ hk => ⟨hk.1.1.1.1, ⟨hk.1.1.2, hk.2⟩⟩))).2.1 (Kd.R_F (Kd.R_mono (ok' := (fun k_ => (w.heap.size ≤ k_) ∧ some k_ ≠ (v529 : Value).ownBlock ∧ k_ ≠ gb526)) (Kd.R_types (HO534.out) BK526.out (by decide)) (fun k_ hk => ⟨hk.1.1.1.1, ⟨hk.1.1.2, hk.2⟩⟩))))) (Reps.c3 (show Kd.FK k46 _ _ (⟨1, (⟨t535, t536⟩ : S24)⟩ : S46) [.int .i64 1, .bool t535, .slice Ao12 t536.length co12] from (k46_mkF _ _ (⟨1, (⟨t535, t536⟩ : S24)⟩ : S46) (Kd.R_reads' (Kd.R_mono (ok' := (fun k_ => (w.heap.size ≤ k_) ∧ some k_ ≠ (v529 : Value).ownBlock ∧ k_ ≠ gb526)) (Kd.R_types (HO538.out) BK526.out (by decide)) (fun k_ hk => ⟨hk.1.1.1.1, ⟨hk.1.1.2, hk.2⟩⟩))).2.1 (Kd.R_F (Kd.R_mono (ok' := (fun k_ => (w.heap.size ≤ k_) ∧ some k_ ≠ (v529 : Value).ownBlock ∧ k_ ≠ gb526)) (Kd.R_types (HO538.out) BK526.out (by decide)) (fun k_ hk => ⟨hk.1.1.1.1, ⟨hk.1.1.2, hk.2⟩⟩))))) (Reps.none _ _)))); intro v540 w13 ho14 hb hg_ hnew_; clear hg_ hnew_; (first | rw [← Ny539.out] at ho14 | (simp only [Int.reduceToNat] at ho14; rw [← Ny539.out] at ho14)); have n0_ := Aside0.mk (Kd.R_below HO530.out hb); have n1_ := Aside0.mk (Kd.N_lower ho14 (below_size HB.out)); have n2_ := Aside0.mk (blk_below BK526.out hb); have n3_ := Aside0.mk (below_step HB.out hb); clear HO530; clear BK526; clear HB; clear HO534; clear HO538; have HO530 := n0_; have HO541 := n1_; have BK526 := n2_; have HB := n3_; clear n0_ n1_ n2_ n3_; clear hb ho14; obtain ⟨Ao15, co15, eo15⟩ := Kd.N_slice HO541.out; subst eo15; obtain ⟨Ao16, co16, eo16⟩ := Kd.R_slice HO530.out; subst eo16; have hcz17_0 : w13.cell? ⟨gb526, 0, none⟩ = some (.bool false) := bc0 BK526.out; have hcz17_1 : w13.cell? ⟨gb526, 1, none⟩ = some (.slice none 0 0) := bc1 BK526.out; have hcz17_2 : w13.cell? ⟨gb526, 2, none⟩ = some (.slice none 0 0) := bc2 BK526.out; have hfz17_0 := blk_frozen BK526.out 0; have hfz17_1 := blk_frozen BK526.out 1; have hfz17_2 := blk_frozen BK526.out 2))
 refine bodyPost_ret (results_cell_row rfl _ _ gb526 27 #[.bool t527, .slice Ao16 t528.length co16, .slice Ao15 y539.length co15] (0, 0) _ rfl (by refine blk_put (cs := #[.bool t527, .slice Ao16 t528.length co16, .slice none 0 0]) ?_ 2 _ rfl; refine blk_put (cs := #[.bool t527, .slice none 0 0, .slice none 0 0]) ?_ 1 _ rfl; refine blk_put (cs := #[.bool false, .slice none 0 0, .slice none 0 0]) ?_ 0 _ rfl; exact BK526.out) Try.underlying27 rfl (by kernel_rfl)) rfl ?_
 exact ⟨_, _, rfl, Kd.R_mono (Kd.R_far (p := ⟨gb526, 2, none⟩) (Kd.R_far (p := ⟨gb526, 1, none⟩) (Kd.R_far (p := ⟨gb526, 0, none⟩) (Kd.R_types HO530.out BK526.out (by decide)) (fun _ hk => hk.2) (.bool t527)) (fun _ hk => hk.2) (.slice Ao16 t528.length co16)) (fun _ hk => hk.2) (.slice Ao15 y539.length co15)) (fun _ hk => hk.1.1.1.1), by (with_reducible repeat (first | apply Kd.N_alloc | apply Kd.N_drewN | apply Kd.N_drew)); exact Kd.N_mono (Kd.N_far (p := ⟨gb526, 2, none⟩) (Kd.N_far (p := ⟨gb526, 1, none⟩) (Kd.N_far (p := ⟨gb526, 0, none⟩) (Kd.N_mono HO541.out (fun k_ hk => (⟨hk, hk.2.2⟩ : _ ∧ k_ ≠ gb526))) (fun _ hk => hk.2) (.bool t527)) (fun _ hk => hk.2) (.slice Ao16 t528.length co16)) (fun _ hk => hk.2) (.slice Ao15 y539.length co15)) (fun _ hk => ⟨hk.1.1, hk.1.2.1⟩), by repeat first | exact HB.out | refine bxSet ?_ (by assumption) | apply below_alloc | apply pw_below_drewN⟩

end Go.Proofs.Ytdicjemjmlbmlaa.PA
/- The reference's numbers by bits, the lowest one first: what its functions compute, as numbers. -/
namespace Go.Proofs.Ytdicjemjmlbmlaa.V
set_option linter.unusedVariables false
set_option linter.unusedSimpArgs false
open Go.RowKit Go.Proofs.Ytdicjemjmlbmlaa.PA Go.Proofs.Ytdicjemjmlbmlaa.H Go.Proofs.YtdicjemjmlbmlaaW.PrintWords Go.Proofs.YtdicjemjmlbmlaaW.PrintLast Go.Proofs.YtdicjemjmlbmlaaW.PrintMore

def p2 (n : Nat) : Int := 2 ^ n
/-- A number's bits, without noughts behind. -/
def bitN (n : Nat) : List Bool := if h : n = 0 then [] else decide (n % 2 = 1) :: bitN (n / 2)
termination_by n
decreasing_by omega
def bits (n : Int) : List Bool := bitN n.toNat
/-! ### order -/
/-! ### sums -/
end Go.Proofs.Ytdicjemjmlbmlaa.V
/- Two sums that are one are the same. -/
namespace Go.Proofs.Ytdicjemjmlbmlaa.H
set_option linter.unusedSimpArgs false
set_option linter.unusedVariables false
open Go.RowKit Go.Proofs.YtdicjemjmlbmlaaW.PrintWords Go.Proofs.YtdicjemjmlbmlaaW.PrintLast Go.Proofs.YtdicjemjmlbmlaaW.PrintMore Go.Proofs.Ytdicjemjmlbmlaa.PA Go.Proofs.Ytdicjemjmlbmlaa.V Go.Proofs.Ytdicjemjmlbmlaa.S
theorem blk_all {w : World} {g : Nat} {t : TypeId} {cs : Array Value} (h : w.heap[g]? = some (.cells cs t (0, 0))) : ∀ i, w.cell? ⟨g, i, none⟩ = cs[i]? := fun i => blk_cell h i
theorem rSame_self (b : Bool) (l : List Int) (hl : l.length ≤ 1000000) : Ev (fun k => gudgeonref02_Same.f k b l b l) true := by
  refine Ev.congr (fun k => rfl) (Ev.bind (same_self _ _ rfl (by omega)) (evP rfl (evR ?_)))
  simp
theorem q_rSame {w : World} {b : Bool} {A A' : Option Addr} {c c' : Nat} {l : List Int} (h1 : Kd.C (Kd.int .u32) w A l.length l) (s1 : l.length ≤ c) (h2 : Kd.C (Kd.int .u32) w A' l.length l) (s2 : l.length ≤ c') (hl : l.length ≤ 1000000) :
    Calls Try.prog 16 #[.agg #[.bool b, .slice A l.length c], .agg #[.bool b, .slice A' l.length c']] w fun e w' => e = .returned (.bool true) ∧ Below w.heap.size w w' := by
  obtain ⟨k, hk⟩ := (rSame_self b l hl).rounds
  exact gudgeonref02_Same.calls k b A c l b A' c' l true w h1 s1 h2 s2 hk
set_option maxHeartbeats 8000000 in
set_option maxRecDepth 100000 in
theorem q_SameE {w : World} {b : Bool} {A B A' B' : Option Addr} {c d c' d' : Nat} {l : List Int} {p : List S46} (h1 : Kd.C (Kd.int .u32) w A l.length l) (s1 : l.length ≤ c) (h2 : Kd.C k46 w B p.length p) (s2 : p.length ≤ d)
    (h3 : Kd.C (Kd.int .u32) w A' l.length l) (s3 : l.length ≤ c') (h4 : Kd.C k46 w B' p.length p) (s4 : p.length ≤ d') (hl : l.length ≤ 1000000) (hp : p.length ≤ 1000000) (hx : ∀ x ∈ p, x.f1.f1.length ≤ 1000000) :
    Calls Try.prog 15 #[.agg #[.bool b, .slice A l.length c, .slice B p.length d], .agg #[.bool b, .slice A' l.length c', .slice B' p.length d']] w fun e w' => e = .returned (.bool true) ∧ Below w.heap.size w w' := by
  have mixed : Try.prog.follows Departure.mixedOrders = true := by kernel_rfl
  have hu27 := Try.underlying27
  obtain ⟨rs, hp1, hr1, hd1⟩ := raws h2
  obtain ⟨ts, hp2, hr2, hd2⟩ := raws h4
  have H1 := Aside0.mk h1
  have H3 := Aside0.mk h3
  have HR := Aside0.mk hr1
  have HT := Aside0.mk hr2
  have HD := Aside0.mk (And.intro hd1 hd2)
  have HP := Aside0.mk (And.intro hp1 hp2)
  have HX := Aside0.mk hx
  have HL := Aside0.mk hl
  have HS := Aside0.mk (And.intro s1 s3)
  clear h1 h2 h3 h4 hr1 hr2 hd1 hd2 hp1 hp2 hx hl s1 s2 s3 s4
  generalize hn : p.length = n at *
  have HN := Aside0.mk hn
  have HM := Aside0.mk hp
  clear hn hp
  go_enter Try.func15, Try.ntmps15
  go_wp2_with (first
    | ((with_reducible refine gate_dst (N := 2) rfl ?_); refine box_event ?hg (N := 2) ?hd (cs := #[.bool b, .slice A l.length c, .slice B n d]) (t := 27) ?hr ?_; (case hd => rfl); (case hg => rfl); (case hr => first | (go_simp; done) | (go_simp; rfl)); intro gA hg w1 hbox hb; have KA := Aside0.mk hbox; have HB := Aside0.mk hb; clear hg hbox hb)
    | ((with_reducible refine gate_dst (N := 3) rfl ?_); refine box_event ?hg (N := 3) ?hd (cs := #[.bool b, .slice A' l.length c', .slice B' n d']) (t := 27) ?hr ?_; (case hd => rfl); (case hg => rfl); (case hr => first | (go_simp; done) | (go_simp; rfl)); intro gB hg w2 hbox hb; have KB := Aside0.mk hbox; have KA := Aside0.mk (blk_below KA.out hb); have HB := Aside0.mk (below_step HB.out hb); clear hg hbox hb; have cA := blk_all KA.out; have cB := blk_all KB.out)
    | (go_at_call 16; (with_reducible refine (q_rSame (Kd.C_below H1.out HB.out) HS.out.1 (Kd.C_below H3.out HB.out) HS.out.2 HL.out).mono ?_); rintro e w3 ⟨rfl, hb⟩; have KA := Aside0.mk (blk_below KA.out hb); have KB := Aside0.mk (blk_below KB.out hb); have HB := Aside0.mk (below_step HB.out hb); clear hb cA cB; have cA := blk_all KA.out; have cB := blk_all KB.out))
  go_loopg [6] (n + 1) (fun kq v6 wr => ∃ i : Int, v6 = .int .i64 i ∧ Aside0 (0 ≤ i ∧ i ≤ (n : Int)) ∧ Aside0 ((n : Int) - i < (kq : Int)) ∧ Aside0 (Below w3.heap.size w3 wr))
  case atStart => exact ⟨0, rfl, ⟨Int.le_refl 0, by omega⟩, ⟨by omega⟩, ⟨Below.refl _ _⟩⟩
  case round =>
    clear cA cB
    obtain ⟨i, rfl, HI, HQ, HBr⟩ := hrel
    have KA := Aside0.mk (blk_below KA.out HBr.out)
    have KB := Aside0.mk (blk_below KB.out HBr.out)
    have cA := blk_all KA.out
    have cB := blk_all KB.out
    cases gk with
    | zero => exact absurd HQ.out (by have := HI.out; omega)
    | succ k1 =>
    by_cases hc : i < (n : Int)
    · obtain ⟨ad, x, eA, hx, hx0, hx1, hx2⟩ := cM_at HR.out i HI.out.1 hc
      obtain ⟨ad', y, eB, hy, hy0, hy1, hy2⟩ := cM_at HT.out i HI.out.1 hc
      cases eA
      cases eB
      have hw := below_step HB.out HBr.out
      have X0 := pw_cell_below hw hx0
      have X1 := pw_cell_below hw hx1
      have X2 := pw_cell_below hw hx2
      have Y0 := pw_cell_below hw hy0
      have Y1 := pw_cell_below hw hy1
      have Y2 := pw_cell_below hw hy2
      obtain ⟨xv, xb, XA, xc, xl⟩ := x
      obtain ⟨yv, yb, YA, yc, yl⟩ := y
      have hxy : toM ⟨xv, xb, XA, xc, xl⟩ = toM ⟨yv, yb, YA, yc, yl⟩ := by
        have e1 := congrArg (fun z => z[i.toNat]?) (HP.out.1.trans HP.out.2.symm)
        simp only [List.getElem?_map, hx, hy, Option.map_some, Option.some.injEq] at e1
        exact e1
      unfold toM at hxy
      simp only [S46.mk.injEq, S24.mk.injEq] at hxy
      obtain ⟨rfl, rfl, rfl⟩ := hxy
      have LX := Aside0.mk (show xl.length ≤ xc ∧ Kd.C (Kd.int .u32) wr XA xl.length xl from (HD.out.1 _ (List.mem_of_getElem? hx)).below hw)
      have LY := Aside0.mk (show xl.length ≤ yc ∧ Kd.C (Kd.int .u32) wr YA xl.length xl from (HD.out.2 _ (List.mem_of_getElem? hy)).below hw)
      have HXL := Aside0.mk (show xl.length ≤ 1000000 from HX.out (toM ⟨xv, xb, XA, xc, xl⟩) (by rw [← HP.out.1]; exact List.mem_map_of_mem (List.mem_of_getElem? hx)))
      have d1 : decide (i < (n : Int)) = true := decide_eq_true hc
      have d2 : decide (0 ≤ i) = true := decide_eq_true HI.out.1
      have p1 : (0 ≤ i) = True := eq_true HI.out.1
      have p2 : (i < (n : Int)) = True := eq_true hc
      have HC := Aside0.mk hc
      clear hx0 hx1 hx2 hy0 hy1 hy2 hw hx hy hc
      dsimp only at X0 X1 X2 Y0 Y1 Y2
      go_wp2_with fail
      go_still_tail 12, (by kernel_rfl)
      change wpList _ _ _ _ _ wr.drew
      have hd := below_drew1 (Below.refl wr.heap.size wr)
      generalize wr.drew = wd at hd ⊢
      go_wp2_with (first
        | (go_at_call 16; (with_reducible refine (q_rSame (Kd.C_below LX.out.2 hd) LX.out.1 (Kd.C_below LY.out.2 hd) LY.out.1 HXL.out).mono ?_); rintro e w4 ⟨rfl, hb⟩; have hy := below_step hd hb; have KA := Aside0.mk (blk_below KA.out hy); have KB := Aside0.mk (blk_below KB.out hy); have HBr := Aside0.mk (below_step HBr.out hy); have X0 := pw_cell_below hy X0; have Y0 := pw_cell_below hy Y0; clear hb hd hy cA cB X1 X2 Y1 Y2; have cA := blk_all KA.out; have cB := blk_all KB.out))
      go_quiet (fail)
      go_wp2
      have hwi : wrap64 (i + 1) = i + 1 := by
        have h1 := HI.out
        have h2 := HM.out
        unfold wrap64; omega
      rw [hwi]
      have hi1 : 0 ≤ i + 1 ∧ i + 1 ≤ (n : Int) := by have h1 := HI.out; have h2 := HC.out; omega
      have hq1 : (n : Int) - (i + 1) < (k1 : Int) := by have h1 := HQ.out; omega
      go_roundg k1
      case measure => omega
      case rel => exact ⟨i + 1, rfl, ⟨hi1⟩, ⟨hq1⟩, ⟨pw_below_drewN HBr.out _⟩⟩
    · have d1 : decide (i < (n : Int)) = false := decide_eq_false hc
      go_wp2
      go_ret
      exact ⟨rfl, below_step HB.out HBr.out⟩
end Go.Proofs.Ytdicjemjmlbmlaa.H
/- Calls whose answers are only read. -/
namespace Go.Proofs.Ytdicjemjmlbmlaa.H
set_option linter.unusedSimpArgs false
set_option linter.unusedVariables false
open Go.RowKit Go.Proofs.YtdicjemjmlbmlaaW.PrintWords Go.Proofs.YtdicjemjmlbmlaaW.PrintLast Go.Proofs.YtdicjemjmlbmlaaW.PrintMore Go.Proofs.Ytdicjemjmlbmlaa.PA

theorem frz_all {w : World} {g : Nat} {t : TypeId} {cs : Array Value} (h : w.heap[g]? = some (.cells cs t (0, 0))) : ∀ i, w.frozen? ⟨g, i, none⟩ = false := fun i => blk_frozen h i
/-- A row of limbs, a row of parts, that can be read. -/
structure RI (w : World) (A : Option Addr) (c : Nat) (l : List Int) : Prop where
  r : Kd.C (Kd.int .u32) w A l.length l
  s : l.length ≤ c
structure RP (w : World) (A : Option Addr) (c : Nat) (l : List S46) : Prop where
  r : Kd.C k46 w A l.length l
  s : l.length ≤ c
theorem RI.b {w w1 : World} {A : Option Addr} {c : Nat} {l : List Int} (h : RI w A c l) (hb : Below w.heap.size w w1) : RI w1 A c l := ⟨Kd.C_below h.r hb, h.s⟩
theorem RP.b {w w1 : World} {A : Option Addr} {c : Nat} {l : List S46} (h : RP w A c l) (hb : Below w.heap.size w w1) : RP w1 A c l := ⟨Kd.C_below h.r hb, h.s⟩
theorem RI.of {w : World} {base : Nat} {ok : Nat → Prop} {v : Value} {l : List Int} (h : Kd.R (Kd.int .u32) 81 w base ok v l) : ∃ A c, v = .slice A l.length c ∧ RI w A c l := by
  obtain ⟨A, c, e, h1, h2⟩ := Kd.R_reads h
  exact ⟨A, c, e, h2, h1⟩
theorem RI.ofV {w : World} {base : Nat} {ok : Nat → Prop} {v : Value} {l : List Int} (h : Kd.V (Kd.int .u32) 81 w base ok v l) : ∃ A c, v = .slice A l.length c ∧ RI w A c l := by
  obtain ⟨A, c, rfl⟩ := Kd.V_slice h
  exact ⟨A, c, rfl, (Kd.V_reads' h).2.2, (Kd.V_reads' h).2.1⟩
theorem RP.of {w : World} {base : Nat} {ok : Nat → Prop} {v : Value} {l : List S46} (h : Kd.S k46 46 w base ok v l) : ∃ A c, v = .slice A l.length c ∧ RP w A c l := by
  obtain ⟨A, c, rfl⟩ := Kd.S_slice h
  exact ⟨A, c, rfl, (Kd.S_reads' h).2.2, (Kd.S_reads' h).2.1⟩
theorem RI.nil (w : World) : RI w Option.none 0 [] := ⟨⟨rfl, Nat.zero_le _, fun h => absurd h (Nat.lt_irrefl 0)⟩, Nat.le_refl _⟩
theorem RP.nil (w : World) : RP w Option.none 0 [] := ⟨⟨rfl, Nat.zero_le _, fun h => absurd h (Nat.lt_irrefl 0)⟩, Nat.le_refl _⟩
/-- What is answered: a number; a sum. -/
def AW (w : World) (b : Bool) (l : List Int) (e : Ending) (w' : World) : Prop := ∃ A c, e = .returned (.agg #[.bool b, .slice A l.length c]) ∧ RI w' A c l ∧ Below w.heap.size w w'
def AL (w : World) (b : Bool) (l : List Int) (p : List S46) (e : Ending) (w' : World) : Prop := ∃ A c B d, e = .returned (.agg #[.bool b, .slice A l.length c, .slice B p.length d]) ∧ RI w' A c l ∧ RP w' B d p ∧ Below w.heap.size w w'
def AT (w : World) (b : Bool) (l : List Int) (p : List S46) (n : Int) (e : Ending) (w' : World) : Prop := ∃ A c B d, e = .returned (.tuple #[.agg #[.bool b, .slice A l.length c, .slice B p.length d], .int .i64 n]) ∧ RI w' A c l ∧ RP w' B d p ∧ Below w.heap.size w w'
theorem q_Sign {w : World} {b : Bool} {A : Option Addr} {c : Nat} {l : List Int} {n : Int} (h1 : RI w A c l) (h : whole_Sign.f b l = some n) :
    Calls Try.prog 19 #[.agg #[.bool b, .slice A l.length c]] w fun e w' => e = .returned (.int .i64 n) ∧ Below w.heap.size w w' := whole_Sign.calls b A c l n w h1.r h1.s h
theorem q_Tight {w : World} {b : Bool} {A B : Option Addr} {c d : Nat} {l : List Int} {p : List S46} {rb : Bool} {rl : List Int} {rp : List S46} {n : Int} (h1 : RI w A c l) (h2 : RP w B d p) (h : lin_Tight.f b l p = some (rb, rl, rp, n)) :
    Calls Try.prog 11 #[.agg #[.bool b, .slice A l.length c, .slice B p.length d]] w (AT w rb rl rp n) := by
  refine (lin_Tight.calls b _ _ l _ _ p rb rl rp n w h1.r h1.s h2.r h2.s h).mono ?_
  rintro e w' ⟨v1, v2, rfl, ho, hs, hb⟩
  obtain ⟨A, c, rfl, hr⟩ := RI.ofV ho
  obtain ⟨B, d, rfl, hr2⟩ := RP.of hs
  exact ⟨A, c, B, d, rfl, hr, hr2, hb⟩
theorem q_Even {w : World} {b : Bool} {A B : Option Addr} {c d : Nat} {l : List Int} {p : List S46} {rb : Bool} {rl : List Int} {rp : List S46} {n : Int} (h1 : RI w A c l) (h2 : RP w B d p) (h : lin_Even.f b l p = some (rb, rl, rp, n)) :
    Calls Try.prog 13 #[.agg #[.bool b, .slice A l.length c, .slice B p.length d]] w (AT w rb rl rp n) := by
  refine (lin_Even.calls b _ _ l _ _ p rb rl rp n w h1.r h1.s h2.r h2.s h).mono ?_
  rintro e w' ⟨v1, v2, rfl, ho, hs, hb⟩
  obtain ⟨A, c, rfl, hr⟩ := RI.ofV ho
  obtain ⟨B, d, rfl, hr2⟩ := RP.of hs
  exact ⟨A, c, B, d, rfl, hr, hr2, hb⟩
theorem q_light {w : World} {b b' : Bool} {A B A' B' : Option Addr} {c d c' d' : Nat} {l l' : List Int} {p p' : List S46} {k : Nat} {r : Bool} (h1 : RI w A c l) (h2 : RP w B d p) (h3 : RI w A' c' l') (h4 : RP w B' d' p') (h : gudgeonlaw13_light.f k b l p b' l' p' = some r) :
    Calls Try.prog 10 #[.agg #[.bool b, .slice A l.length c, .slice B p.length d], .agg #[.bool b', .slice A' l'.length c', .slice B' p'.length d']] w fun e w' => e = .returned (.bool r) ∧ Below w.heap.size w w' := gudgeonlaw13_light.calls k b A c l B d p b' A' c' l' B' d' p' r w h1.r h1.s h2.r h2.s h3.r h3.s h4.r h4.s h

theorem RP.ofN {w : World} {base : Nat} {ok : Nat → Prop} {v : Value} {l : List S46} (h : Kd.N k46 46 w base ok v l) : ∃ A c, v = .slice A l.length c ∧ RP w A c l := by
  obtain ⟨A, c, rfl⟩ := Kd.N_slice h
  exact ⟨A, c, rfl, (Kd.N_reads' h).2.2, (Kd.N_reads' h).2.1⟩
/-- A row of one part. -/
theorem RP.one {w : World} {A : Option Addr} {c : Nat} {l : List Int} (v : Int) (b : Bool) (h : RI w A c l) : RP (w.alloc (.cells #[.int .i64 v, .bool b, .slice A l.length c] 46 (0, 0))) (some ⟨w.heap.size, 0, none⟩) 1 [⟨v, ⟨b, l⟩⟩] := by
  have hb := blk_new w (.cells #[.int .i64 v, .bool b, .slice A l.length c] 46 (0, 0))
  refine ⟨⟨rfl, by show 1 ≤ _; decide, fun _ => ⟨_, rfl, fun j p hj => ?_⟩⟩, Nat.le_refl _⟩
  match j, hj with
  | 0, hj =>
    obtain rfl := Option.some.inj hj
    refine ⟨[.int .i64 v, .bool b, .slice A l.length c], rfl, k46_mk _ ⟨v, ⟨b, l⟩⟩ h.s (Kd.C_below h.r (below_alloc (Below.refl _ _) _)), fun i u hu => ?_⟩
    rw [show (0 * k46.sz + i) = i by omega, add_plain]
    rw [blk_cell hb]
    match i, hu with
    | 0, hu => exact hu
    | 1, hu => exact hu
    | 2, hu => exact hu
theorem q_sum {w : World} {k : Nat} {x y z : Int} {rb : Bool} {rl : List Int} {rp : List S46} (h : gudgeonlaw13_sum.f k x y z = some (rb, rl, rp)) : Calls Try.prog 39 #[.int .i64 x, .int .i64 y, .int .i64 z] w (AL w rb rl rp) := by
  refine (gudgeonlaw13_sum.calls k x y z rb rl rp w h).mono ?_
  rintro e w' ⟨v1, v2, rfl, ho, hs, hb⟩
  obtain ⟨A, c, rfl, hr⟩ := RI.of ho
  obtain ⟨B, d, rfl, hr2⟩ := RP.ofN hs
  exact ⟨A, c, B, d, rfl, hr, hr2, hb⟩
theorem q_rOf {w : World} {k : Nat} {x : Int} {rb : Bool} {rl : List Int} (h : gudgeonref02_Of.f k x = some (rb, rl)) : Calls Try.prog 32 #[.int .i64 x] w (AW w rb rl) := by
  refine (gudgeonref02_Of.calls k x rb rl w h).mono ?_
  rintro e w' ⟨v, rfl, ho, hb⟩
  obtain ⟨A, c, rfl, hr⟩ := RI.of ho
  exact ⟨A, c, rfl, hr, hb⟩
/-- A sum whose rows are not too long. -/
structure OkS (l : List Int) (p : List S46) : Prop where
  hl : l.length ≤ 1000000
  hp : p.length ≤ 1000000
  hx : ∀ x ∈ p, x.f1.f1.length ≤ 1000000
theorem q_Same {w : World} {b : Bool} {A B A' B' : Option Addr} {c d c' d' : Nat} {l : List Int} {p : List S46} (h1 : RI w A c l) (h2 : RP w B d p) (h3 : RI w A' c' l) (h4 : RP w B' d' p) (h : OkS l p) :
    Calls Try.prog 15 #[.agg #[.bool b, .slice A l.length c, .slice B p.length d], .agg #[.bool b, .slice A' l.length c', .slice B' p.length d']] w fun e w' => e = .returned (.bool true) ∧ Below w.heap.size w w' := q_SameE h1.r h1.s h2.r h2.s h3.r h3.s h4.r h4.s h.hl h.hp h.hx
/-- A sum stored into a block of its own. -/
theorem blk_put3 {w : World} {g : Nat} {t : TypeId} {x y z : Value} (h : w.heap[g]? = some (.cells #[x, y, z] t (0, 0))) (a b c : Value) : (((w.setCell ⟨g, 0, none⟩ a).setCell ⟨g, 1, none⟩ b).setCell ⟨g, 2, none⟩ c).heap[g]? = some (.cells #[a, b, c] t (0, 0)) :=
  blk_put (cs := #[a, b, z]) (blk_put (cs := #[a, y, z]) (blk_put (cs := #[x, y, z]) h 0 a rfl) 1 b rfl) 2 c rfl
theorem blk_far3 {w : World} {g k : Nat} {o : Obj} (h : w.heap[k]? = some o) (hne : k ≠ g) (a b c : Value) : (((w.setCell ⟨g, 0, none⟩ a).setCell ⟨g, 1, none⟩ b).setCell ⟨g, 2, none⟩ c).heap[k]? = some o := (set3_other w g 0 1 2 a b c k hne).trans h
theorem below_set3 {w w1 : World} {g : Nat} (h : Below w.heap.size w w1) (hg : w.heap.size ≤ g) (a b c : Value) : Below w.heap.size w (((w1.setCell ⟨g, 0, none⟩ a).setCell ⟨g, 1, none⟩ b).setCell ⟨g, 2, none⟩ c) := below_set (below_set (below_set h hg) hg) hg
end Go.Proofs.Ytdicjemjmlbmlaa.H
/- lin.At: how often a sum has a variable. -/
namespace Go.Proofs.Ytdicjemjmlbmlaa.H
set_option linter.unusedSimpArgs false
set_option linter.unusedVariables false
open Go.RowKit Go.Proofs.YtdicjemjmlbmlaaW.PrintWords Go.Proofs.YtdicjemjmlbmlaaW.PrintLast Go.Proofs.YtdicjemjmlbmlaaW.PrintMore Go.Proofs.Ytdicjemjmlbmlaa.PA Go.Proofs.Ytdicjemjmlbmlaa.V Go.Proofs.Ytdicjemjmlbmlaa.S
theorem coef_snoc (p : List (Int × Int)) (q : Int × Int) (v : Int) : coef (p ++ [q]) v = coef p v + if q.1 = v then q.2 else 0 := by
  rw [coef_append]; simp [coef]
/-- A number stored into a block of its own. -/
theorem blk_put2 {w : World} {g : Nat} {t : TypeId} {x y : Value} (h : w.heap[g]? = some (.cells #[x, y] t (0, 0))) (a b : Value) : ((w.setCell ⟨g, 0, none⟩ a).setCell ⟨g, 1, none⟩ b).heap[g]? = some (.cells #[a, b] t (0, 0)) :=
  blk_put (cs := #[a, y]) (blk_put (cs := #[x, y]) h 0 a rfl) 1 b rfl
theorem below_set2 {w w1 : World} {g : Nat} (h : Below w.heap.size w w1) (hg : w.heap.size ≤ g) (a b : Value) : Below w.heap.size w ((w1.setCell ⟨g, 0, none⟩ a).setCell ⟨g, 1, none⟩ b) := below_set (below_set h hg) hg
/-- A row of limbs of the call's own: it lies in no block of another type. -/
structure OI (w : World) (base : Nat) (A : Option Addr) (c : Nat) (l : List Int) : Prop where
  o : OwnK w base ⟨0, false, A, c, l⟩
theorem OI.of {w : World} {base base' : Nat} {ok : Nat → Prop} {v : Value} {l : List Int} (h : Kd.R (Kd.int .u32) 81 w base ok v l) (hb : base' ≤ base) : ∃ A c, v = .slice A l.length c ∧ OI w base' A c l := by
  obtain ⟨A, c, rfl⟩ := Kd.R_slice h
  exact ⟨A, c, rfl, ⟨Kd.R_lower (Kd.R_mono h (fun _ _ => trivial)) hb⟩⟩
theorem OI.b {w w1 : World} {base : Nat} {A : Option Addr} {c : Nat} {l : List Int} (h : OI w base A c l) (hb : Below w.heap.size w w1) : OI w1 base A c l := ⟨h.o.below hb⟩
theorem OI.set2 {w : World} {base : Nat} {A : Option Addr} {c : Nat} {l : List Int} (h : OI w base A c l) {g t : Nat} {cs : Array Value} (hg : w.heap[g]? = some (.cells cs t (0, 0))) (ht : t ≠ 81) (a b : Value) : OI ((w.setCell ⟨g, 0, none⟩ a).setCell ⟨g, 1, none⟩ b) base A c l :=
  ⟨h.o.move (fun k cells hk => set2_other w g 0 1 a b k (box_ne hg hk ht))⟩
theorem OI.r {w : World} {base : Nat} {A : Option Addr} {c : Nat} {l : List Int} (h : OI w base A c l) : RI w A c l := ⟨h.o.leads.2, h.o.leads.1⟩
/-- What is answered: a number in a row of its own. -/
def AO (w : World) (b : Bool) (l : List Int) (e : Ending) (w' : World) : Prop := ∃ A c, e = .returned (.agg #[.bool b, .slice A l.length c]) ∧ OI w' w.heap.size A c l ∧ Below w.heap.size w w'
theorem q_Add {w : World} {k : Nat} {b b' : Bool} {A A' : Option Addr} {c c' : Nat} {l l' : List Int} {rb : Bool} {rl : List Int} (h1 : RI w A c l) (h2 : RI w A' c' l') (h : whole_Add.f k b l b' l' = some (rb, rl)) :
    Calls Try.prog 36 #[.agg #[.bool b, .slice A l.length c], .agg #[.bool b', .slice A' l'.length c']] w (AO w rb rl) := by
  refine (whole_Add.calls k b A c l b' A' c' l' rb rl w h1.r h1.s h2.r h2.s h).mono ?_
  rintro e w' ⟨v, rfl, ho, hb⟩
  obtain ⟨A, c, rfl, hr⟩ := OI.of ho (Nat.le_refl _)
  exact ⟨A, c, rfl, hr, hb⟩
theorem q_Of {w : World} {x : Int} {rb : Bool} {rl : List Int} (h : whole_Of.f x = some (rb, rl)) : Calls Try.prog 33 #[.int .i64 x] w (AO w rb rl) := by
  refine (whole_Of.calls x rb rl w h).mono ?_
  rintro e w' ⟨v, rfl, ho, hb⟩
  obtain ⟨A, c, rfl, hr⟩ := OI.of ho (Nat.le_refl _)
  exact ⟨A, c, rfl, hr, hb⟩
set_option maxHeartbeats 8000000 in
set_option maxRecDepth 100000 in
theorem q_At {w : World} {b : Bool} {A B0 : Option Addr} {c d : Nat} {l : List Int} {p : List S46} (v : Int) {m n : Nat} (h1 : RI w A c l) (h2 : RP w B0 d p) (hs : Small m n l p) (hm : m ≤ 100000) (hn : n ≤ 100000) :
    Calls Try.prog 28 #[.agg #[.bool b, .slice A l.length c, .slice B0 p.length d], .int .i64 v] w (AW w (W (coef (p.map prM) v)).1 (W (coef (p.map prM) v)).2) := by
  have mixed : Try.prog.follows Departure.mixedOrders = true := by kernel_rfl
  have hu27 := Try.underlying27
  have hu24 := Try.underlying24
  have hu46 := Try.underlying46
  obtain ⟨rs, hp, hr, hd⟩ := raws h2.r
  have hnum := hs.num
  have hlm : ∀ x ∈ rs, Lim x.xs ∧ x.xs.length ≤ n := fun x hx => hs.each (toM x) (by rw [← hp]; exact List.mem_map_of_mem hx)
  have hpr : p.map prM = rs.map prR := by rw [← hp, pr_toM]
  have hln : rs.length = p.length := by rw [← hp, List.length_map]
  have hbq : BQ n (rs.map prR) := hpr ▸ hs.bq
  have HOF := Aside0.mk (show whole_Of.f 0 = some ((W 0).1, (W 0).2) from wOf_ev 0 (by decide) (by decide))
  rw [hpr]
  generalize hN : p.length = N at *
  have HR := Aside0.mk hr
  have HD := Aside0.mk hd
  have HM := Aside0.mk hlm
  have HLN := Aside0.mk (And.intro hln hnum)
  have HBQ := Aside0.mk hbq
  have HBD := Aside0.mk (And.intro hm hn)
  clear h1 h2 hr hd hlm hln hnum hpr hs hbq hp hN hm hn
  go_enter Try.func28, Try.ntmps28
  go_wp2_with (first
    | ((with_reducible refine gate_dst (N := 2) rfl ?_); refine box_event ?hg (N := 2) ?hd (cs := #[.bool b, .slice A l.length c, .slice B0 N d]) (t := 27) ?hr ?_; (case hd => rfl); (case hg => rfl); (case hr => first | (go_simp; done) | (go_simp; rfl)); intro gA hg w1 hbox hb; have KA := Aside0.mk hbox; have HB := Aside0.mk hb; clear hg hbox hb)
    | ((with_reducible refine gate_dst (N := 4) rfl ?_); refine box_event ?hg (N := 4) ?hd (cs := #[.bool false, .slice none 0 0]) (t := 24) ?hr ?_; (case hd => rfl); (case hg => rfl); (case hr => first | (go_simp; done) | (go_simp; rfl)); intro gR hg w2 hbox hb; have KA := Aside0.mk (blk_below KA.out hb); have GR := Aside0.mk (show w.heap.size ≤ gR by rw [hg]; exact HB.out.size); have HB := Aside0.mk (below_step HB.out hb); have KR := Aside0.mk hbox; clear hg hbox hb)
    | (go_at_call 33; (with_reducible refine (q_Of HOF.out).mono ?_); rintro e w3 ⟨A3, c3, rfl, o3, hb⟩; have KA := Aside0.mk (blk_below KA.out hb); have KR := Aside0.mk (blk_below KR.out hb); have O3 := Aside0.mk (OI.mk (Kd.R_lower o3.o HB.out.size) : OI w3 w.heap.size A3 c3 _); have HB := Aside0.mk (below_step HB.out hb); clear o3 hb)
    | ((with_reducible refine gate_dst (N := 5) rfl ?_); refine box_event ?hg (N := 5) ?hd (cs := #[.bool false, .slice none 0 0]) (t := 24) ?hr ?_; (case hd => rfl); (case hg => rfl); (case hr => first | (go_simp; done) | (go_simp; rfl)); intro gN hg w4 hbox hb; have KN := Aside0.mk hbox; have HN := Aside0.mk hb; have cN := blk_all hbox; have fN := frz_all hbox; have cA := blk_all (blk_below KA.out hb); have nAN : gA ≠ gN := (by rw [hg]; exact Nat.ne_of_lt (blk_lt KA.out)); have nNA : gN ≠ gA := (fun e => nAN e.symm); have GN := Aside0.mk (show w3.heap.size ≤ gN by rw [hg]; exact Nat.le_refl _); clear hg hbox hb))
  go_loopg [12] (N + 1) (fun kq v12 wr => ∃ (i : Int) (nb : Bool) (An : Option Addr) (cn : Nat) (nl : List Int), v12 = .int .i64 i ∧ Aside0 (0 ≤ i ∧ i ≤ (N : Int)) ∧ Aside0 ((N : Int) - i < (kq : Int)) ∧ Aside0 (W (coef ((rs.take i.toNat).map prR) v) = (nb, nl)) ∧ Aside0 (wr.heap[gN]? = some (.cells #[.bool nb, .slice An nl.length cn] 24 (0, 0))) ∧ Aside0 (OI wr w.heap.size An cn nl) ∧ Aside0 (Below w3.heap.size w3 wr))
  case atStart =>
    exact ⟨0, _, A3, c3, _, rfl, ⟨Int.le_refl 0, by omega⟩, ⟨by omega⟩, ⟨rfl⟩, ⟨blk_put2 KN.out _ _⟩, ⟨(O3.out.b HN.out).set2 KN.out (by decide) _ _⟩, ⟨below_set2 HN.out GN.out _ _⟩⟩
  case round =>
    clear cN fN cA nAN nNA
    obtain ⟨i, nb, An, cn, nl, rfl, HI, HQ, HW, BN, ON, HBr⟩ := hrel
    have cN := blk_all BN.out
    have fN := frz_all BN.out
    cases gk with
    | zero => exact absurd HQ.out (by have := HI.out; omega)
    | succ k1 =>
    by_cases hc : i < (N : Int)
    · obtain ⟨ad, x, eA, hx, hx0, hx1, hx2⟩ := cM_at HR.out i HI.out.1 hc
      cases eA
      have hw := below_step HB.out HBr.out
      have X0 := pw_cell_below hw hx0
      have X1 := pw_cell_below hw hx1
      have X2 := pw_cell_below hw hx2
      have hmem := List.mem_of_getElem? hx
      obtain ⟨xv, xb, XA, xc, xl⟩ := x
      dsimp only at X0 X1 X2
      have LX := Aside0.mk (show RI wr XA xc xl from ⟨((HD.out _ hmem).below hw).2, ((HD.out _ hmem).below hw).1⟩)
      have hlx : Lim xl ∧ xl.length ≤ n := HM.out _ hmem
      have hcB : B 300000 (coef ((rs.take i.toNat).map prR) v) := (coef_B _ v (fun y hy => HBQ.out y (by rw [← List.take_append_drop i.toNat rs, List.map_append]; exact List.mem_append_left _ hy))).mono (by have h1 := HLN.out; have h2 := HBD.out; rw [List.length_map, List.length_take]; omega)
      have e1 := wAdd_ev (W (coef ((rs.take i.toNat).map prR) v)).1 xb (W (coef ((rs.take i.toNat).map prR) v)).2 xl (W_lim _) hlx.1 (by have := hcB.len; omega) (by have := hlx.2; have := HBD.out; omega)
      rw [wv_W, HW.out] at e1
      obtain ⟨ka, hka⟩ := e1.rounds
      have hsn : coef ((rs.take (i + 1).toNat).map prR) v = coef ((rs.take i.toNat).map prR) v + if xv = v then wv xb xl else 0 := by
        rw [drop_at prR rs i HI.out.1 _ hx, coef_snoc]; rfl
      have hwi : wrap64 (i + 1) = i + 1 := by
        have h1 := HI.out
        have h2 := HLN.out
        have h3 := HBD.out
        unfold wrap64; omega
      have HWI := Aside0.mk hwi
      have HSN := Aside0.mk hsn
      have hi1 : 0 ≤ i + 1 ∧ i + 1 ≤ (N : Int) := by have h1 := HI.out; omega
      have hq1 : (N : Int) - (i + 1) < (k1 : Int) := by have h1 := HQ.out; omega
      have HI1 := Aside0.mk hi1
      have HQ1 := Aside0.mk hq1
      have d1 : decide (i < (N : Int)) = true := decide_eq_true hc
      have d2 : decide (0 ≤ i) = true := decide_eq_true HI.out.1
      have p1 : (0 ≤ i) = True := eq_true HI.out.1
      have p2 : (i < (N : Int)) = True := eq_true hc
      generalize hS : W (coef ((rs.take i.toNat).map prR) v + wv xb xl) = Ws at hka
      obtain ⟨sb, sl⟩ := Ws
      have HKA := Aside0.mk hka
      have HS := Aside0.mk hS
      clear hx0 hx1 hx2 hw hmem hx hc hlx hcB e1 hka hsn hwi hi1 hq1 hS
      by_cases hv : xv = v
      · have d3 : (xv == v) = true := beq_iff_eq.2 hv
        have HV := Aside0.mk hv
        clear hv
        go_wp2_with (first
          | ((with_reducible refine gate_dst (N := 7) rfl ?_); refine box_event ?hg (N := 7) ?hd (cs := #[.int .i64 0, .bool false, .slice none 0 0]) (t := 46) ?hr ?_; (case hd => rfl); (case hg => rfl); (case hr => first | (go_simp; done) | (go_simp; rfl)); intro gX hg w5 hbox hb; have KX := Aside0.mk hbox; have HX := Aside0.mk hb; have GX := Aside0.mk (show wr.heap.size ≤ gX by rw [hg]; exact Nat.le_refl _); have cX := blk_all hbox; have fX := frz_all hbox; have nXN : gN ≠ gX := (by rw [hg]; exact Nat.ne_of_lt (blk_lt BN.out)); have nNX : gX ≠ gN := (fun e => nXN e.symm); have cN := blk_all (blk_below BN.out hb); clear hg hbox hb)
          | (go_at_call 36; (with_reducible refine (q_Add (ON.out.r.b (below_set3 HX.out GX.out _ _ _)) (LX.out.b (below_set3 HX.out GX.out _ _ _)) HKA.out).mono ?_); rintro e w6 ⟨A6, c6, rfl, o6, hb⟩; have hx := below_step (below_set3 HX.out GX.out _ _ _) hb; have BN6 := Aside0.mk (blk_below BN.out hx); have O6 := Aside0.mk (OI.mk (Kd.R_lower o6.o (Nat.le_trans (Nat.le_trans HB.out.size HBr.out.size) (below_set3 HX.out GX.out _ _ _).size)) : OI w6 w.heap.size A6 c6 sl); have HB6 := Aside0.mk (below_step HBr.out hx); clear o6 hb hx cX fX cN; have cN := blk_all BN6.out; have fN := frz_all BN6.out))
        rw [HWI.out]
        go_roundg k1
        case measure => omega
        case rel => exact ⟨i + 1, sb, A6, c6, sl, rfl, HI1, HQ1, ⟨by rw [HSN.out, if_pos HV.out, HS.out]⟩, ⟨blk_put2 BN6.out _ _⟩, ⟨O6.out.set2 BN6.out (by decide) _ _⟩, ⟨below_set (below_set HB6.out GN.out) GN.out⟩⟩
      · have d3 : (xv == v) = false := beq_eq_false_iff_ne.2 hv
        have HV := Aside0.mk hv
        clear hv
        go_wp2_with (first
          | ((with_reducible refine gate_dst (N := 7) rfl ?_); refine box_event ?hg (N := 7) ?hd (cs := #[.int .i64 0, .bool false, .slice none 0 0]) (t := 46) ?hr ?_; (case hd => rfl); (case hg => rfl); (case hr => first | (go_simp; done) | (go_simp; rfl)); intro gX hg w5 hbox hb; have HX := Aside0.mk hb; have GX := Aside0.mk (show wr.heap.size ≤ gX by rw [hg]; exact Nat.le_refl _); have cX := blk_all hbox; have fX := frz_all hbox; clear hg hbox hb))
        rw [HWI.out]
        go_roundg k1
        case measure => omega
        case rel => exact ⟨i + 1, nb, An, cn, nl, rfl, HI1, HQ1, ⟨by rw [HSN.out, if_neg HV.out, Int.add_zero, HW.out]⟩, ⟨blk_below BN.out (below_set3 HX.out GX.out _ _ _)⟩, ⟨ON.out.b (below_set3 HX.out GX.out _ _ _)⟩, ⟨below_step HBr.out (below_set3 HX.out GX.out _ _ _)⟩⟩
    · have hi : i.toNat = rs.length := by have h1 := HI.out; have h2 := HLN.out.1; omega
      have d1 : decide (i < (N : Int)) = false := decide_eq_false hc
      have BR := Aside0.mk (blk_below KR.out HBr.out)
      have cR := blk_all BR.out
      have fR := frz_all BR.out
      have HF := Aside0.mk hi
      clear hc hi
      go_wp2
      refine bodyPost_ret (results_cell_row rfl _ _ gR 24 #[.bool nb, .slice An nl.length cn] (0, 0) _ rfl (blk_put2 BR.out _ _) Try.underlying24 rfl (by kernel_rfl)) rfl ?_
      have hw := HW.out
      rw [HF.out, List.take_length] at hw
      rw [hw]
      exact ⟨An, cn, rfl, (ON.out.set2 BR.out (by decide) _ _).r, below_set2 (below_step HB.out HBr.out) GR.out _ _⟩
end Go.Proofs.Ytdicjemjmlbmlaa.H
/- slices.Grow of nothing, and slices.Concat of two rows of parts. -/
namespace Go.Proofs.Ytdicjemjmlbmlaa.H
set_option linter.unusedSimpArgs false
set_option linter.unusedVariables false
open Go.RowKit Go.Proofs.YtdicjemjmlbmlaaW.PrintWords Go.Proofs.YtdicjemjmlbmlaaW.PrintLast Go.Proofs.YtdicjemjmlbmlaaW.PrintMore Go.Proofs.Ytdicjemjmlbmlaa.PA
set_option maxHeartbeats 1000000 in
set_option maxRecDepth 100000 in
theorem grow_nilM (n : Nat) (hn : n ≤ 1000000000000) (w : World) : Calls Try.prog 82 #[.slice none 0 0, .int .i64 (n : Int)] w fun e w' => ∃ v, e = .returned v ∧ Kd.R kM 46 w' w.heap.size (fun _ => True) v [] ∧ Below w.heap.size w w' := by
  have hw : wrap64 ((n : Int) - wrap64 (0 - 0)) = (n : Int) := by unfold wrap64; omega
  have c1 : decide ((n : Int) < 0) = false := decide_eq_false (by omega)
  have HW := Aside0.mk hw
  go_enter Try.func82, Try.ntmps82
  by_cases h0 : n = 0
  · subst h0
    go_wp2
    go_ret
    exact ⟨_, rfl, Kd.R_nil _ _ _ _ _, by repeat first | exact Below.refl _ _ | apply below_drew1⟩
  · have c2 : decide (0 < (n : Int)) = true := decide_eq_true (by omega)
    have c3 : decide (0 < n) = true := decide_eq_true (by omega)
    go_wp2_with ((with_reducible refine gate_builtin (b := .append) (xs := #[.tmp 20, .tmp 21]) rfl ?_); at_builtin; refine Kd.R_append_zeros kM (w0 := w) w.heap.size rfl (.tmp 20) (.tmp 21) 25 3 46 (.agg #[.int .i64 0, .bool false, .slice none 0 0]) 40 rfl Try.underlying25 Try.underlying3 infoM rfl (by decide) (by omega) (.slice none 0 0) [] (⟨0, false, none, 0, []⟩ : RM) (n : Int) (fun _ => True) rfl rfl rfl (fun _ _ => trivial) (Kd.R_nil _ _ _ _ _) (by omega) (by repeat first | exact Below.refl _ _ | apply below_drew1) (Nat.le_refl _) (by simp only [List.length_nil, Int.toNat_natCast]; omega) ?_; intro v22 w22 ho hb hg hat; obtain ⟨Ao, co, eo⟩ := Kd.R_slice ho; subst eo; have HO := Aside0.mk (Kd.R_take (m := 0) ho (Nat.zero_le _)); have HB := Aside0.mk hb; have HL := Aside0.mk (Kd.R_reads' ho); clear ho hb hg hat)
    go_ret
    exact ⟨_, rfl, by simpa using HO.out, HB.out⟩
set_option maxHeartbeats 4000000 in
set_option maxRecDepth 100000 in
theorem concat_twoM (g : Nat) (A0 : Option Addr) (c0 : Nat) (l0 : List RM) (A1 : Option Addr) (c1 : Nat) (l1 : List RM) (w : World) (hr0 : Kd.C kM w A0 l0.length l0) (hr1 : Kd.C kM w A1 l1.length l1)
    (hlen : l0.length + l1.length ≤ 1000000000) (h0 : w.cell? ⟨g, 0, none⟩ = some (.slice A0 l0.length c0)) (h1 : w.cell? ⟨g, 1, none⟩ = some (.slice A1 l1.length c1)) :
    Calls Try.prog 60 #[.slice (some ⟨g, 0, none⟩) 2 2] w fun e w' => ∃ v, e = .returned v ∧ Kd.R kM 46 w' w.heap.size (fun _ => True) v (l0 ++ l1) ∧ Below w.heap.size w w' := by
  have HR0 := Aside0.mk hr0
  have HR1 := Aside0.mk hr1
  have HLEN := Aside0.mk hlen
  have HB0 := Aside0.mk (World.block_lt_of_cell? w _ h0)
  clear hr0 hr1 hlen
  have q1 : wrap64 ((l0.length : Nat) : Int) = (l0.length : Int) := by have := HLEN.out; unfold wrap64; omega
  have q2 : wrap64 ((l0.length : Int) + (l1.length : Int)) = (l0.length : Int) + (l1.length : Int) := by have := HLEN.out; unfold wrap64; omega
  have p1 : decide ((l0.length : Int) < 0) = false := decide_eq_false (by omega)
  have p2 : decide ((l0.length : Int) + (l1.length : Int) < 0) = false := decide_eq_false (by omega)
  have HG := Aside0.mk (fun W => grow_nilM (l0.length + l1.length) (by have := HLEN.out; omega) W)
  rw [Int.natCast_add] at HG
  go_enter Try.func60, Try.ntmps60
  go_wp2
  refine wp_loop_rounds 3 ?_
  rw [rounds_succ]
  go_wp2
  rw [rounds_succ]
  go_wp2
  rw [rounds_succ]
  go_wp2_with (go_at_call 82; refine (HG.out _).mono ?_; rintro e w1 ⟨v1, rfl, ho, hb⟩; have HO1 := Aside0.mk ho; have HB1 := Aside0.mk hb; clear ho hb)
  have h01 := (HB1.out.cell (p := ⟨g, 0, none⟩) HB0.out).trans h0
  refine wp_loop_rounds 3 ?_
  rw [rounds_succ]
  go_wp2_with ((with_reducible refine gate_builtin (b := .append) (xs := #[.tmp 31, .tmp 32]) rfl ?_); at_builtin; refine Kd.R_append_rows kM (w0 := w) w.heap.size rfl (.tmp 31) (.tmp 32) 25 46 (.agg #[.int .i64 0, .bool false, .slice none 0 0]) 40 rfl Try.underlying25 infoM rfl (by decide) (by omega) v1 [] l0 _ _ _ (fun _ => True) (fun _ => False) rfl rfl ?aO ?aR (fun _ _ h => h) (fun _ h => h.elim) (fun _ _ => trivial) ?aB ?aS ?aL ?_; (case aO => exact HO1.out); (case aR => exact Kd.C_below HR0.out HB1.out); (case aB => exact HB1.out); (case aS => exact below_size HB1.out); (case aL => have := HLEN.out; simp only [List.length_nil, List.nil_append]; omega); intro v2 w2 ho hb hg hat; have HO2 := Aside0.mk ho; have HB2 := Aside0.mk hb; clear ho hb hg hat)
  have h12 := (HB2.out.cell (p := ⟨g, 1, none⟩) HB0.out).trans h1
  rw [rounds_succ]
  go_wp2_with ((with_reducible refine gate_builtin (b := .append) (xs := #[.tmp 31, .tmp 32]) rfl ?_); at_builtin; refine Kd.R_append_rows kM (w0 := w) w.heap.size rfl (.tmp 31) (.tmp 32) 25 46 (.agg #[.int .i64 0, .bool false, .slice none 0 0]) 40 rfl Try.underlying25 infoM rfl (by decide) (by omega) v2 ([] ++ l0) l1 _ _ _ (fun _ => True) (fun _ => False) rfl rfl ?aO ?aR (fun _ _ h => h) (fun _ h => h.elim) (fun _ _ => trivial) ?aB ?aS ?aL ?_; (case aO => exact HO2.out); (case aR => exact Kd.C_below HR1.out HB2.out); (case aB => exact HB2.out); (case aS => exact below_size HB2.out); (case aL => have := HLEN.out; simp only [List.length_nil, List.nil_append]; omega); intro v3 w3 ho hb hg hat; have HO3 := Aside0.mk ho; have HB3 := Aside0.mk hb; clear ho hb hg hat)
  rw [rounds_succ]
  go_wp2
  go_ret
  exact ⟨_, rfl, HO3.out, HB3.out⟩
end Go.Proofs.Ytdicjemjmlbmlaa.H
/- lin.Add: two sums together. -/
namespace Go.Proofs.Ytdicjemjmlbmlaa.H
set_option linter.unusedSimpArgs false
set_option linter.unusedVariables false
open Go.RowKit Go.Proofs.YtdicjemjmlbmlaaW.PrintWords Go.Proofs.YtdicjemjmlbmlaaW.PrintLast Go.Proofs.YtdicjemjmlbmlaaW.PrintMore Go.Proofs.Ytdicjemjmlbmlaa.PA Go.Proofs.Ytdicjemjmlbmlaa.V Go.Proofs.Ytdicjemjmlbmlaa.S
theorem RP.ofraw {w : World} {A : Option Addr} {c : Nat} {rs : List RM} (h : Kd.C kM w A rs.length rs) (hc : rs.length ≤ c) (hl : ∀ x ∈ rs, Leads w x) : RP w A c (rs.map toM) := by
  obtain ⟨e, hn, hcs⟩ := h
  refine ⟨?_, by rw [List.length_map]; exact hc⟩
  rw [List.length_map]
  refine ⟨by rw [List.length_map], hn, fun h0 => ?_⟩
  obtain ⟨ad, rfl, hq⟩ := hcs h0
  refine ⟨ad, rfl, fun j p hj => ?_⟩
  rw [List.getElem?_map] at hj
  obtain ⟨x, hx, rfl⟩ := Option.map_eq_some_iff.1 hj
  obtain ⟨cs, hl2, hk, hcc⟩ := hq j x hx
  have hk : cs = encM x := hk
  subst hk
  have hlx := hl x (List.mem_of_getElem? hx)
  exact ⟨_, hl2, k46_mk w (toM x) hlx.1 hlx.2, hcc⟩
theorem q_Norm {w : World} {b : Bool} {A B : Option Addr} {c d : Nat} {l : List Int} {p : List S46} {rb : Bool} {rl : List Int} {rp : List S46} (h1 : RI w A c l) (h2 : RP w B d p) (h : lin_Norm.f b l p = some (rb, rl, rp)) :
    Calls Try.prog 20 #[.agg #[.bool b, .slice A l.length c, .slice B p.length d]] w (AL w rb rl rp) := by
  refine (lin_Norm.calls b _ _ l _ _ p rb rl rp w h1.r h1.s h2.r h2.s h).mono ?_
  rintro e w' ⟨v1, v2, rfl, ho, hs, hb⟩
  obtain ⟨A, c, rfl, hr⟩ := RI.of ho
  obtain ⟨B, d, rfl, hr2⟩ := RP.of hs
  exact ⟨A, c, B, d, rfl, hr, hr2, hb⟩
/-- A sum in rows of its own, and the same behind a store into a box. -/
structure OL (w : World) (A : Option Addr) (c : Nat) (l : List Int) (B : Option Addr) (d : Nat) (p : List S46) : Prop where
  o : ∃ base, Kd.R (Kd.int .u32) 81 w base (fun _ => True) (.slice A l.length c) l ∧ Kd.S k46 46 w base (fun _ => True) (.slice B p.length d) p
theorem OL.keep {w w1 : World} {A B : Option Addr} {c d : Nat} {l : List Int} {p : List S46} (h : OL w A c l B d p) (hm : ∀ (k : Nat) (cells : Array Value) (t : Nat), t = 81 ∨ t = 46 → w.heap[k]? = some (Obj.cells cells t (0, 0)) → w1.heap[k]? = w.heap[k]?) : OL w1 A c l B d p := by
  obtain ⟨base, hr, hs⟩ := h.o
  refine ⟨base, ?_, ?_⟩
  · refine Kd.R_mono (Kd.R_move (Kd.R_bound hr) (fun k hk => ?_)) (fun _ _ => trivial)
    obtain ⟨_, _, _, q, hq, cells, hc⟩ := hk
    rcases List.mem_cons.1 hq with rfl | hq
    · exact hm k cells _ (.inl rfl) hc
    · cases hq
  · refine Kd.S_mono (Kd.S_move (Kd.S_bound hs) (fun k hk => ?_)) (fun _ _ => trivial)
    obtain ⟨_, _, _, q, hq, cells, hc⟩ := hk
    have hq : q ∈ [46, 81] := hq
    rcases List.mem_cons.1 hq with rfl | hq
    · exact hm k cells _ (.inr rfl) hc
    · rw [List.mem_singleton.1 hq] at hc
      exact hm k cells _ (.inl rfl) hc
theorem OL.set3 {w : World} {A B : Option Addr} {c d : Nat} {l : List Int} {p : List S46} (h : OL w A c l B d p) {g : Nat} {cs : Array Value} (hg : w.heap[g]? = some (.cells cs 27 (0, 0))) (x y z : Value) : OL (((w.setCell ⟨g, 0, none⟩ x).setCell ⟨g, 1, none⟩ y).setCell ⟨g, 2, none⟩ z) A c l B d p :=
  h.keep (fun k cells t ht hk => set3_other w g 0 1 2 x y z k (box_ne hg hk (fun e => by rcases ht with rfl | rfl <;> exact absurd e (by decide))))
theorem OL.b {w w1 : World} {A B : Option Addr} {c d : Nat} {l : List Int} {p : List S46} (h : OL w A c l B d p) (hb : Below w.heap.size w w1) : OL w1 A c l B d p := h.keep (fun k cells t ht hk => hb.block k (Array.getElem?_eq_some_iff.1 hk).1)
theorem OL.i {w : World} {A B : Option Addr} {c d : Nat} {l : List Int} {p : List S46} (h : OL w A c l B d p) : RI w A c l := by
  obtain ⟨base, hr, hs⟩ := h.o
  exact ⟨(Kd.R_reads' hr).2.2, (Kd.R_reads' hr).2.1⟩
theorem OL.p {w : World} {A B : Option Addr} {c d : Nat} {l : List Int} {p : List S46} (h : OL w A c l B d p) : RP w B d p := by
  obtain ⟨base, hr, hs⟩ := h.o
  exact ⟨(Kd.S_reads' hs).2.2, (Kd.S_reads' hs).2.1⟩
def ALo (w : World) (b : Bool) (l : List Int) (p : List S46) (e : Ending) (w' : World) : Prop := ∃ A c B d, e = .returned (.agg #[.bool b, .slice A l.length c, .slice B p.length d]) ∧ OL w' A c l B d p ∧ Below w.heap.size w w'
theorem q_NormO {w : World} {b : Bool} {A B : Option Addr} {c d : Nat} {l : List Int} {p : List S46} {rb : Bool} {rl : List Int} {rp : List S46} (h1 : RI w A c l) (h2 : RP w B d p) (h : lin_Norm.f b l p = some (rb, rl, rp)) :
    Calls Try.prog 20 #[.agg #[.bool b, .slice A l.length c, .slice B p.length d]] w (ALo w rb rl rp) := by
  refine (lin_Norm.calls b _ _ l _ _ p rb rl rp w h1.r h1.s h2.r h2.s h).mono ?_
  rintro e w' ⟨v1, v2, rfl, ho, hs, hb⟩
  obtain ⟨A, c, rfl⟩ := Kd.R_slice ho
  obtain ⟨B, d, rfl⟩ := Kd.S_slice hs
  exact ⟨A, c, B, d, rfl, ⟨_, ho, Kd.S_mono hs (fun _ _ => trivial)⟩, hb⟩
theorem ALo.al {w : World} {b : Bool} {l : List Int} {p : List S46} {e : Ending} {w' : World} (h : ALo w b l p e w') : AL w b l p e w' := by
  obtain ⟨A, c, B, d, rfl, ho, hb⟩ := h
  exact ⟨A, c, B, d, rfl, ho.i, ho.p, hb⟩
/-- The sum of two sums. -/
def addU (b b' : Bool) (l l' : List Int) (p p' : List S46) : Bool × List Int × List S46 := SU (wv b l + wv b' l') (normP (p.map prM ++ p'.map prM))
set_option maxHeartbeats 8000000 in
set_option maxRecDepth 100000 in
theorem q_LAdd {w : World} {b b' : Bool} {A E A' E' : Option Addr} {c d c' d' : Nat} {l l' : List Int} {p p' : List S46} {m n : Nat} (h1 : RI w A c l) (h2 : RP w E d p) (h3 : RI w A' c' l') (h4 : RP w E' d' p') (hs : Small m n l p) (hs' : Small m n l' p') (hm : m ≤ 100000) (hn : n ≤ 100000) :
    Calls Try.prog 22 #[.agg #[.bool b, .slice A l.length c, .slice E p.length d], .agg #[.bool b', .slice A' l'.length c', .slice E' p'.length d']] w (ALo w (addU b b' l l' p p').1 (addU b b' l l' p p').2.1 (addU b b' l l' p p').2.2) := by
  have mixed : Try.prog.follows Departure.mixedOrders = true := by kernel_rfl
  have hu27 := Try.underlying27
  have hu24 := Try.underlying24
  have hu46 := Try.underlying46
  obtain ⟨rs, hp, hr, hd⟩ := raws h2.r
  obtain ⟨ts, hp', hr', hd'⟩ := raws h4.r
  have hl := hs.len
  have hl' := hs'.len
  have hnu := hs.num
  have hnu' := hs'.num
  obtain ⟨ka, hka⟩ := (wAdd_ev b b' l l' hs.lim hs'.lim (by omega) (by omega)).rounds
  have hB : B (n + 1) (wv b l + wv b' l') := ((hs.b b).add (hs'.b b')).mono (by omega)
  have hsm : Small 200000 100001 (W (wv b l + wv b' l')).2 (p ++ p') := ⟨W_lim _, by have := hB.len; omega, by rw [List.length_append]; omega, fun x hx => (List.mem_append.1 hx).elim (fun h => ⟨(hs.each x h).1, by have := (hs.each x h).2; omega⟩) (fun h => ⟨(hs'.each x h).1, by have := (hs'.each x h).2; omega⟩)⟩
  have hnr := lnorm_ev hsm (by omega) (by omega) (W (wv b l + wv b' l')).1
  rw [wv_W, List.map_append] at hnr
  have hnr : lin_Norm.f (W (wv b l + wv b' l')).1 (W (wv b l + wv b' l')).2 (p ++ p') = some ((addU b b' l l' p p').1, (addU b b' l l' p p').2.1, (addU b b' l l' p p').2.2) := hnr
  generalize (addU b b' l l' p p').1 = rb at *
  generalize (addU b b' l l' p p').2.1 = rl at *
  generalize (addU b b' l l' p p').2.2 = rp at *
  generalize hW : W (wv b l + wv b' l') = Ws at *
  obtain ⟨sb, sl⟩ := Ws
  have hln : rs.length = p.length := by rw [← hp, List.length_map]
  have hln' : ts.length = p'.length := by rw [← hp', List.length_map]
  rw [← hp, ← hp', ← List.map_append] at hnr
  obtain ⟨qs, hqs⟩ : ∃ qs, qs = rs ++ ts := ⟨_, rfl⟩
  rw [← hqs] at hnr
  have HQ := Aside0.mk hqs
  have HNR := Aside0.mk hnr
  have HS := Aside0.mk hka
  have HR := Aside0.mk hr
  have HT := Aside0.mk hr'
  have HD := Aside0.mk (And.intro hd hd')
  generalize hN : p.length = N at *
  generalize hN' : p'.length = N' at *
  have HN := Aside0.mk (And.intro hln hln')
  have HNM := Aside0.mk (show N ≤ 100000 ∧ N' ≤ 100000 by omega)
  have R1 := Aside0.mk h1
  have R2 := Aside0.mk h3
  have HB := Aside0.mk (Below.refl w.heap.size w)
  clear h1 h2 h3 h4 hr hr' hd hd' hp hp' hl hl' hnu hnu' hka hB hsm hnr hW hln hln' hN hN' hs hs' hm hn hqs
  go_enter Try.func22, Try.ntmps22
  go_wp2_with (first
    | ((with_reducible refine gate_dst (N := 2) rfl ?_); refine box_event ?hg (N := 2) ?hd (cs := #[.bool b, .slice A l.length c, .slice E N d]) (t := 27) ?hr ?_; (case hd => rfl); (case hg => rfl); (case hr => first | (go_simp; done) | (go_simp; rfl)); intro gA hg w1 hbox hb; have R1 := Aside0.mk (R1.out.b hb); have R2 := Aside0.mk (R2.out.b hb); have HB := Aside0.mk (below_step HB.out hb); have KA := Aside0.mk hbox; clear hg hbox hb)
    | ((with_reducible refine gate_dst (N := 3) rfl ?_); refine box_event ?hg (N := 3) ?hd (cs := #[.bool b', .slice A' l'.length c', .slice E' N' d']) (t := 27) ?hr ?_; (case hd => rfl); (case hg => rfl); (case hr => first | (go_simp; done) | (go_simp; rfl)); intro gB hg w2 hbox hb; have KA := Aside0.mk (blk_below KA.out hb); have R1 := Aside0.mk (R1.out.b hb); have R2 := Aside0.mk (R2.out.b hb); have HB := Aside0.mk (below_step HB.out hb); have KB := Aside0.mk hbox; clear hg hbox hb; have HB2 := HB)
    | ((with_reducible refine gate_dst (N := 4) rfl ?_); refine box_event ?hg (N := 4) ?hd (cs := #[.bool false, .slice none 0 0, .slice none 0 0]) (t := 27) ?hr ?_; (case hd => rfl); (case hg => rfl); (case hr => first | (go_simp; done) | (go_simp; rfl)); intro gR hg w3 hbox hb; have KA := Aside0.mk (blk_below KA.out hb); have KB := Aside0.mk (blk_below KB.out hb); have R1 := Aside0.mk (R1.out.b hb); have R2 := Aside0.mk (R2.out.b hb); have HB := Aside0.mk (below_step HB.out hb); have KR := Aside0.mk hbox; have GR := Aside0.mk (show w.heap.size ≤ gR by rw [hg]; exact (below_size HB2.out)); clear hg hbox hb; have cA := blk_all KA.out; have cB := blk_all KB.out))
  have HC := HB
  refine start_ (n := 14) (S := fun w' => (∀ i : Nat, w'.cell? ⟨gA, i, none⟩ = (#[.bool b, .slice A l.length c, .slice E N d] : Array Value)[i]?) ∧ (∀ i : Nat, w'.cell? ⟨gB, i, none⟩ = (#[.bool b', .slice A' l'.length c', .slice E' N' d'] : Array Value)[i]?)) (ds := [13]) #[false, false, false, false, false, false, false, false, false, false, false, false, false, false] (by kernel_rfl) rfl rfl ⟨cA, cB⟩ (fun hHeld => ?_)
  refine pure_ (i := 0) (N := some 5) (v := ?_) (a' := ?_) #[true, false, false, false, false, false, false, false, false, false, false, false, false, false] rfl rfl (by kernel_rfl) (fun _ _ _ h => h) (Or.inl ⟨by rfl, ?_⟩) ?_ ?_
  rotate_left
  · intro w'
    go_simp
    with_reducible rfl
  rotate_left
  · simp only [Act.put, List.setIfInBounds_toArray, List.set_cons_zero, List.set_cons_succ, i64_w, i32_w]
    rfl
  refine pure_ (i := 2) (N := some 7) (v := ?_) (a' := ?_) #[true, false, true, false, false, false, false, false, false, false, false, false, false, false] rfl rfl (by kernel_rfl) (fun _ _ _ h => h) (Or.inl ⟨by rfl, ?_⟩) ?_ ?_
  rotate_left
  · intro w'
    go_simp
    with_reducible rfl
  rotate_left
  · simp only [Act.put, List.setIfInBounds_toArray, List.set_cons_zero, List.set_cons_succ, i64_w, i32_w]
    rfl
  refine pure_ (i := 5) (N := some 10) (v := ?_) (a' := ?_) #[true, false, true, false, false, true, false, false, false, false, false, false, false, false] rfl rfl (by kernel_rfl) (fun _ _ _ h => h) (Or.inl ⟨by rfl, ?_⟩) ?_ ?_
  rotate_left
  · intro w'
    go_simp
    with_reducible rfl
  rotate_left
  · simp only [Act.put, List.setIfInBounds_toArray, List.set_cons_zero, List.set_cons_succ, i64_w, i32_w]
    rfl
  refine pure_ (i := 7) (N := some 12) (v := ?_) (a' := ?_) #[true, false, true, false, false, true, false, true, false, false, false, false, false, false] rfl rfl (by kernel_rfl) (fun _ _ _ h => h) (Or.inl ⟨by rfl, ?_⟩) ?_ ?_
  rotate_left
  · intro w'
    go_simp
    with_reducible rfl
  rotate_left
  · simp only [Act.put, List.setIfInBounds_toArray, List.set_cons_zero, List.set_cons_succ, i64_w, i32_w]
    rfl
  refine take_ (i := 1) (N := some 6) (v := ?_) (a' := ?_) #[true, true, true, false, false, true, false, true, false, false, false, false, false, false] rfl rfl (by kernel_rfl) (fun _ _ _ h => h) (Or.inl ⟨by rfl, ?_⟩) hHeld ?_ ?_
  rotate_left
  · rintro w' ⟨s0, s1⟩
    go_simp
    with_reducible rfl
  rotate_left
  · simp only [Act.put, List.setIfInBounds_toArray, List.set_cons_zero, List.set_cons_succ, i64_w, i32_w]
    rfl
  refine take_ (i := 3) (N := some 8) (v := ?_) (a' := ?_) #[true, true, true, true, false, true, false, true, false, false, false, false, false, false] rfl rfl (by kernel_rfl) (fun _ _ _ h => h) (Or.inl ⟨by rfl, ?_⟩) hHeld ?_ ?_
  rotate_left
  · rintro w' ⟨s0, s1⟩
    go_simp
    with_reducible rfl
  rotate_left
  · simp only [Act.put, List.setIfInBounds_toArray, List.set_cons_zero, List.set_cons_succ, i64_w, i32_w]
    rfl
  refine take_ (i := 6) (N := some 11) (v := ?_) (a' := ?_) #[true, true, true, true, false, true, true, true, false, false, false, false, false, false] rfl rfl (by kernel_rfl) (fun _ _ _ h => h) (Or.inl ⟨by rfl, ?_⟩) hHeld ?_ ?_
  rotate_left
  · rintro w' ⟨s0, s1⟩
    go_simp
    with_reducible rfl
  rotate_left
  · simp only [Act.put, List.setIfInBounds_toArray, List.set_cons_zero, List.set_cons_succ, i64_w, i32_w]
    rfl
  refine take_ (i := 8) (N := some 13) (v := ?_) (a' := ?_) #[true, true, true, true, false, true, true, true, true, false, false, false, false, false] rfl rfl (by kernel_rfl) (fun _ _ _ h => h) (Or.inl ⟨by rfl, ?_⟩) hHeld ?_ ?_
  rotate_left
  · rintro w' ⟨s0, s1⟩
    go_simp
    with_reducible rfl
  rotate_left
  · simp only [Act.put, List.setIfInBounds_toArray, List.set_cons_zero, List.set_cons_succ, i64_w, i32_w]
    rfl
  refine join_ (σ := (Option Addr × Nat) × Nat) 4 #[true, true, true, true, true, true, true, true, true, true, false, false, false, false] (fun s => [(9, .agg #[.bool sb, .slice s.1.1 sl.length s.1.2]), (14, .slice (some ⟨s.2, 0, none⟩) 2 2)]) (fun s w' => Aside0 (RI w' s.1.1 s.1.2 sl) ∧ Aside0 (w'.heap[s.2]? = some (.cells #[.slice E N d, .slice E' N' d'] 25 (0, 0))) ∧ Aside0 (Below w3.heap.size w3 w')) ?_ ?_
  rotate_left
  · intro hCont
    refine two_ (i := 4) (j := 9) (Ni := some 9) (Nj := some 14) #[true, true, true, true, true, true, true, true, true, false, false, false, false, false] #[true, true, true, true, false, true, true, true, true, true, false, false, false, false] rfl rfl rfl rfl (by kernel_rfl) (by decide) (by decide) (fun K hK => ?_) (fun K hK => ?_)
    · skip
      refine goes_ Try.func36 (by kernel_rfl) rfl #[.agg #[.bool b, .slice A l.length c], .agg #[.bool b', .slice A' l'.length c']] (by rfl) rfl rfl (by simp only [List.map_toArray, List.map_cons, List.map_nil]; rfl) ?_
      with_reducible refine (q_Add (R1.out.b (below_drew1 (Below.refl w3.heap.size w3))) (R2.out.b (below_drew1 (Below.refl w3.heap.size w3))) HS.out).mono ?_
      rintro e wa ⟨A9, c9, rfl, o9, hb⟩
      have HU := Aside0.mk (below_step (below_drew1 (Below.refl w3.heap.size w3)) hb)
      have R9 := Aside0.mk o9.r
      clear o9 hb
      refine ⟨_, rfl, ?_⟩
      refine hK.out _ _ ⟨blk_all (blk_below KA.out HU.out), blk_all (blk_below KB.out HU.out)⟩ (fun hHeld => ?_)
      clear hK K
      refine norm_ (a' := ?_) ?_ ?_
      rotate_left
      · show Act.put _ (some 9) _ = _
        simp only [Act.put, List.setIfInBounds_toArray, List.set_cons_zero, List.set_cons_succ, i64_w, i32_w]
        rfl
      refine one_ (i := 9) (N := some 14) #[true, true, true, true, true, true, true, true, true, true, false, false, false, false] rfl rfl (by kernel_rfl) (by decide) (fun K hK => ?_)
      have KG := Aside0.mk (blk_new wa (.cells #[.slice E N d, .slice E' N' d'] 25 (0, 0)))
      have HV := Aside0.mk (below_alloc HU.out (.cells #[.slice E N d, .slice E' N' d'] 25 (0, 0)))
      have R9 := Aside0.mk (R9.out.b (below_alloc (Below.refl wa.heap.size wa) (.cells #[.slice E N d, .slice E' N' d'] 25 (0, 0))))
      refine value_ (w1 := ?_) (v := ?_) (by rfl) rfl ?_ ?_
      rotate_left 2
      · go_simp
        constructor
        · rfl
        · rfl
      refine hK.out _ _ ⟨blk_all (blk_below KA.out HV.out), blk_all (blk_below KB.out HV.out)⟩ (fun hHeld => ?_)
      clear hK K
      refine norm_ (a' := ?_) ?_ ?_
      rotate_left
      · show Act.put _ (some 14) _ = _
        simp only [Act.put, List.setIfInBounds_toArray, List.set_cons_zero, List.set_cons_succ, i64_w, i32_w]
        rfl
      exact norm_ (by simp only [putAll, Act.put, List.setIfInBounds_toArray, List.set_cons_zero, List.set_cons_succ]) (hCont ((A9, c9), wa.heap.size) _ ⟨R9, KG, HV⟩)
    · skip
      have KG := Aside0.mk (blk_drew (blk_new w3 (.cells #[.slice E N d, .slice E' N' d'] 25 (0, 0))))
      have HV := Aside0.mk (below_drew1 (below_alloc (Below.refl w3.heap.size w3) (.cells #[.slice E N d, .slice E' N' d'] 25 (0, 0))))
      refine value_ (w1 := ?_) (v := ?_) (by rfl) rfl ?_ ?_
      rotate_left 2
      · go_simp
        constructor
        · rfl
        · rfl
      refine hK.out _ _ ⟨blk_all (blk_below KA.out HV.out), blk_all (blk_below KB.out HV.out)⟩ (fun hHeld => ?_)
      clear hK K
      refine norm_ (a' := ?_) ?_ ?_
      rotate_left
      · show Act.put _ (some 14) _ = _
        simp only [Act.put, List.setIfInBounds_toArray, List.set_cons_zero, List.set_cons_succ, i64_w, i32_w]
        rfl
      refine one_ (i := 4) (N := some 9) #[true, true, true, true, true, true, true, true, true, true, false, false, false, false] rfl rfl (by kernel_rfl) (by decide) (fun K hK => ?_)
      refine goes_ Try.func36 (by kernel_rfl) rfl #[.agg #[.bool b, .slice A l.length c], .agg #[.bool b', .slice A' l'.length c']] (by rfl) rfl rfl (by simp only [List.map_toArray, List.map_cons, List.map_nil]; rfl) ?_
      with_reducible refine (q_Add (R1.out.b HV.out) (R2.out.b HV.out) HS.out).mono ?_
      rintro e wa ⟨A9, c9, rfl, o9, hb⟩
      have HU := Aside0.mk (below_step HV.out hb)
      have R9 := Aside0.mk o9.r
      have KG := Aside0.mk (blk_below KG.out hb)
      clear o9 hb
      refine ⟨_, rfl, ?_⟩
      refine hK.out _ _ ⟨blk_all (blk_below KA.out HU.out), blk_all (blk_below KB.out HU.out)⟩ (fun hHeld => ?_)
      clear hK K
      refine norm_ (a' := ?_) ?_ ?_
      rotate_left
      · show Act.put _ (some 9) _ = _
        simp only [Act.put, List.setIfInBounds_toArray, List.set_cons_zero, List.set_cons_succ, i64_w, i32_w]
        rfl
      exact norm_ (by simp only [putAll, Act.put, List.setIfInBounds_toArray, List.set_cons_zero, List.set_cons_succ]) (hCont ((A9, c9), w3.heap.size) _ ⟨R9, KG, HU⟩)
  rintro ⟨⟨A9, c9⟩, g⟩ wb ⟨R9, KG, HV⟩
  have hHeld : (∀ i : Nat, wb.cell? ⟨gA, i, none⟩ = (#[.bool b, .slice A l.length c, .slice E N d] : Array Value)[i]?) ∧ (∀ i : Nat, wb.cell? ⟨gB, i, none⟩ = (#[.bool b', .slice A' l'.length c', .slice E' N' d'] : Array Value)[i]?) := ⟨blk_all (blk_below KA.out HV.out), blk_all (blk_below KB.out HV.out)⟩
  dsimp only at R9 KG
  have HC := Aside0.mk (below_step HC.out HV.out)
  refine norm_ (a' := ?_) ?_ ?_
  rotate_left
  · simp only [putAll, Act.put, List.setIfInBounds_toArray, List.set_cons_zero, List.set_cons_succ]
    rfl
  refine one_ (i := 10) (N := some 15) #[true, true, true, true, true, true, true, true, true, true, true, false, false, false] rfl rfl (by kernel_rfl) (by decide) (fun K hK => ?_)
  refine goes_ Try.func60 (by kernel_rfl) rfl #[.slice (some ⟨g, 0, none⟩) 2 2] (by rfl) rfl rfl (by simp only [List.map_toArray, List.map_cons, List.map_nil]; rfl) ?_
  with_reducible refine (concat_twoM g E d rs E' d' ts wb ?c1 ?c2 ?c3 ?c4 ?c5).mono ?_
  case c1 => rw [HN.out.1]; exact Kd.C_below HR.out HC.out
  case c2 => rw [HN.out.2]; exact Kd.C_below HT.out HC.out
  case c3 => have := HN.out; have := HNM.out; omega
  case c4 => rw [HN.out.1]; exact blk_cell KG.out 0
  case c5 => rw [HN.out.2]; exact blk_cell KG.out 1
  rintro e wc ⟨v, rfl, ho, hb⟩
  rw [← HQ.out] at ho
  obtain ⟨AC, cC, rfl, hsC, hrC⟩ := Kd.R_reads ho
  have HV := Aside0.mk (below_step HV.out hb)
  have HC := Aside0.mk (below_step HC.out hb)
  have R9 := Aside0.mk (R9.out.b hb)
  have RC := Aside0.mk (RP.ofraw hrC hsC (fun x hx => (List.mem_append.1 (show x ∈ rs ++ ts by rw [← HQ.out]; exact hx)).elim (fun h => (HD.out.1 x h).below HC.out) (fun h => (HD.out.2 x h).below HC.out)))
  clear ho hb hsC hrC
  refine ⟨_, rfl, ?_⟩
  refine hK.out _ _ ⟨blk_all (blk_below KA.out HV.out), blk_all (blk_below KB.out HV.out)⟩ (fun hHeld => ?_)
  clear hK K
  refine norm_ (a' := ?_) ?_ ?_
  rotate_left
  · show Act.put _ (some 15) _ = _
    simp only [Act.put, List.setIfInBounds_toArray, List.set_cons_zero, List.set_cons_succ, i64_w, i32_w]
    rfl
  refine pure_ (i := 11) (N := some 16) (v := ?_) (a' := ?_) #[true, true, true, true, true, true, true, true, true, true, true, true, false, false] rfl rfl (by kernel_rfl) (fun _ _ _ h => h) (Or.inl ⟨by rfl, ?_⟩) ?_ ?_
  rotate_left
  · intro w'
    go_simp
    with_reducible rfl
  rotate_left
  · simp only [Act.put, List.setIfInBounds_toArray, List.set_cons_zero, List.set_cons_succ, i64_w, i32_w]
    rfl
  refine one_ (i := 12) (N := some 17) #[true, true, true, true, true, true, true, true, true, true, true, true, true, false] rfl rfl (by kernel_rfl) (by decide) (fun K hK => ?_)
  refine goes_ Try.func20 (by kernel_rfl) rfl #[.agg #[.bool sb, .slice A9 sl.length c9, .slice AC qs.length cC]] (by rfl) rfl rfl (by simp only [List.map_toArray, List.map_cons, List.map_nil]; rfl) ?_
  have hN := q_NormO R9.out RC.out HNR.out
  rw [List.length_map] at hN
  refine hN.mono ?_
  clear hN
  rintro e wd ⟨AD, cD, BD, dD, rfl, oD, hb⟩
  have HV := Aside0.mk (below_step HV.out hb)
  have HC := Aside0.mk (below_step HC.out hb)
  have OD := Aside0.mk oD
  clear oD hb
  have KR := Aside0.mk (blk_below KR.out HV.out)
  have cR := blk_all KR.out
  have fR := frz_all KR.out
  refine ⟨_, rfl, ?_⟩
  refine hK.out _ _ ⟨blk_all (blk_below KA.out HV.out), blk_all (blk_below KB.out HV.out)⟩ (fun hHeld => ?_)
  clear hK K
  refine norm_ (a' := ?_) ?_ ?_
  rotate_left
  · show Act.put _ (some 17) _ = _
    simp only [Act.put, List.setIfInBounds_toArray, List.set_cons_zero, List.set_cons_succ, i64_w, i32_w]
    rfl
  refine last_ (i := 13) (N := none) #[true, true, true, true, true, true, true, true, true, true, true, true, true, true] rfl rfl (by kernel_rfl) (by decide) (fun K hK => ?_)
  refine skip_ (w1 := ?_) (by rfl) rfl ?_ ?_
  rotate_left
  · go_simp
    rfl
  refine hK.out _ _ ?_
  clear hK K
  refine done_ (by kernel_rfl) ?_

  go_wp2_with fail
  refine bodyPost_ret (results_cell_row rfl _ _ gR 27 #[.bool rb, .slice AD rl.length cD, .slice BD rp.length dD] (0, 0) _ rfl (blk_put3 KR.out _ _ _) Try.underlying27 rfl (by kernel_rfl)) rfl ?_
  exact ⟨AD, cD, BD, dD, rfl, OD.out.set3 KR.out _ _ _, below_set3 HC.out GR.out _ _ _⟩
end Go.Proofs.Ytdicjemjmlbmlaa.H
/- lin.Put: a sum with another one in a variable's place. -/
namespace Go.Proofs.Ytdicjemjmlbmlaa.H
set_option linter.unusedSimpArgs false
set_option linter.unusedVariables false
open Go.RowKit Go.Proofs.YtdicjemjmlbmlaaW.PrintWords Go.Proofs.YtdicjemjmlbmlaaW.PrintLast Go.Proofs.YtdicjemjmlbmlaaW.PrintMore Go.Proofs.Ytdicjemjmlbmlaa.PA Go.Proofs.Ytdicjemjmlbmlaa.V Go.Proofs.Ytdicjemjmlbmlaa.S
theorem q_ScaleO {w : World} {k : Nat} {b b' : Bool} {A B A' : Option Addr} {c d c' : Nat} {l l' : List Int} {p : List S46} {rb : Bool} {rl : List Int} {rp : List S46} (h1 : RI w A c l) (h2 : RP w B d p) (h3 : RI w A' c' l') (h : lin_Scale.f k b l p b' l' = some (rb, rl, rp)) :
    Calls Try.prog 24 #[.agg #[.bool b, .slice A l.length c, .slice B p.length d], .agg #[.bool b', .slice A' l'.length c']] w (ALo w rb rl rp) := by
  refine (lin_Scale.calls k b _ _ l _ _ p b' _ _ l' rb rl rp w h1.r h1.s h2.r h2.s h3.r h3.s h).mono ?_
  rintro e w' ⟨v1, v2, rfl, ho, hs, hb⟩
  obtain ⟨A, c, rfl⟩ := Kd.R_slice ho
  obtain ⟨B, d, rfl⟩ := Kd.S_slice hs
  exact ⟨A, c, B, d, rfl, ⟨_, Kd.R_mono ho (fun _ _ => trivial), Kd.S_mono hs (fun _ _ => trivial)⟩, hb⟩
theorem q_LAddO {w : World} {b b' : Bool} {A E A' E' : Option Addr} {c d c' d' : Nat} {l l' : List Int} {p p' : List S46} {m n : Nat} {rb : Bool} {rl : List Int} {rp : List S46} (h1 : RI w A c l) (h2 : RP w E d p) (h3 : RI w A' c' l') (h4 : RP w E' d' p') (hs : Small m n l p) (hs' : Small m n l' p') (hr : addU b b' l l' p p' = (rb, rl, rp)) (hm : m ≤ 100000) (hn : n ≤ 100000) :
    Calls Try.prog 22 #[.agg #[.bool b, .slice A l.length c, .slice E p.length d], .agg #[.bool b', .slice A' l'.length c', .slice E' p'.length d']] w (ALo w rb rl rp) := by
  have h := q_LAdd (b := b) (b' := b') h1 h2 h3 h4 hs hs' hm hn
  rw [hr] at h
  exact h
def dropV (v : Int) (p : List S46) : List S46 := p.filter (fun x => x.f0 != v)
/-- What is put together: the sum without the variable, and the other one, so many times as it has it. -/
def putU (b b' : Bool) (l l' : List Int) (p p' : List S46) (v : Int) : Bool × List Int × List S46 :=
  SU (wv b l + wv b' l' * coef (p.map prM) v) (normP ((dropV v p).map prM ++ normP (scP (coef (p.map prM) v) (p'.map prM))))
theorem filter_snoc (v : Int) (rs : List RM) (i : Int) (h0 : 0 ≤ i) (x : RM) (hx : rs[i.toNat]? = some x) : (rs.take (i + 1).toNat).filter (fun x => x.v != v) = (rs.take i.toNat).filter (fun x => x.v != v) ++ (if x.v != v then [x] else []) := by
  have := drop_at (fun x : RM => x) rs i h0 x hx
  rw [List.map_id', List.map_id'] at this
  rw [this, List.filter_append, List.filter_cons, List.filter_nil]
theorem filter_toM (v : Int) (rs : List RM) : (rs.filter (fun x => x.v != v)).map toM = dropV v (rs.map toM) := by
  unfold dropV
  rw [List.filter_map]; rfl
set_option maxHeartbeats 8000000 in
set_option maxRecDepth 100000 in
theorem q_Put {w : World} {b b' : Bool} {A E A' E' : Option Addr} {c d c' d' : Nat} {l l' : List Int} {p p' : List S46} (v : Int) {m n : Nat} (h1 : RI w A c l) (h2 : RP w E d p) (h3 : RI w A' c' l') (h4 : RP w E' d' p') (hs : Small m n l p) (hs' : Small m n l' p') (hm : m ≤ 10000) (hn : n ≤ 10000) :
    Calls Try.prog 26 #[.agg #[.bool b, .slice A l.length c, .slice E p.length d], .int .i64 v, .agg #[.bool b', .slice A' l'.length c', .slice E' p'.length d']] w (ALo w (putU b b' l l' p p' v).1 (putU b b' l l' p p' v).2.1 (putU b b' l l' p p' v).2.2) := by
  have mixed : Try.prog.follows Departure.mixedOrders = true := by kernel_rfl
  have hu27 := Try.underlying27
  have hu24 := Try.underlying24
  have hu46 := Try.underlying46
  obtain ⟨rs, hp, hr, hd⟩ := raws h2.r
  have hnu := hs.num
  have hcB : B (n + m) (coef (p.map prM) v) := (coef_B _ v hs.bq).mono (by rw [List.length_map]; omega)
  obtain ⟨ks, hks⟩ := (scale_ev (hs'.mono hm hn) (by omega) (by omega) b' (W (coef (p.map prM) v)).1 (W (coef (p.map prM) v)).2 (W_lim _) (by have := hcB.len; omega)).rounds
  rw [wv_W] at hks
  have hsB : B (n + (n + m)) (wv b' l' * coef (p.map prM) v) := (hs'.b b').mul hcB
  have hnm : BQ (n + (n + m) + m) (normP (scP (coef (p.map prM) v) (p'.map prM))) := (norm_B (scP_B hs'.bq hcB)).mono (by unfold scP; rw [List.length_map, List.length_map]; have := hs'.num; omega)
  have hs3 : Small 100000 100000 (W (wv b' l' * coef (p.map prM) v)).2 ((normP (scP (coef (p.map prM) v) (p'.map prM))).map enP) := small_SU (hsB.mono (by omega)) (Nat.le_trans (norm_len _) (by unfold scP; rw [List.length_map, List.length_map]; have := hs'.num; omega)) (hnm.mono (by omega))
  have hs2 : Small 100000 100000 l (dropV v p) := ⟨hs.lim, by have := hs.len; omega, Nat.le_trans (List.length_filter_le _ _) (by omega), fun x hx => ⟨(hs.each x (List.mem_filter.1 hx).1).1, by have := (hs.each x (List.mem_filter.1 hx).1).2; omega⟩⟩
  have had : addU b (W (wv b' l' * coef (p.map prM) v)).1 l (W (wv b' l' * coef (p.map prM) v)).2 (dropV v p) ((normP (scP (coef (p.map prM) v) (p'.map prM))).map enP) = ((putU b b' l l' p p' v).1, (putU b b' l l' p p' v).2.1, (putU b b' l l' p p' v).2.2) := by
    unfold addU putU
    rw [wv_W, map_enP]
  have hks : lin_Scale.f ks b' l' p' (W (coef (p.map prM) v)).1 (W (coef (p.map prM) v)).2 = some ((W (wv b' l' * coef (p.map prM) v)).1, (W (wv b' l' * coef (p.map prM) v)).2, (normP (scP (coef (p.map prM) v) (p'.map prM))).map enP) := hks
  generalize (putU b b' l l' p p' v).1 = rb at *
  generalize (putU b b' l l' p p' v).2.1 = rl at *
  generalize (putU b b' l l' p p' v).2.2 = rp at *
  generalize hKW : W (coef (p.map prM) v) = Kw at *
  obtain ⟨kb, kl⟩ := Kw
  generalize (normP (scP (coef (p.map prM) v) (p'.map prM))).map enP = sp at *
  generalize W (wv b' l' * coef (p.map prM) v) = Ws at *
  obtain ⟨sb, sl⟩ := Ws
  dsimp only at hks had hs3
  have hln : rs.length = p.length := by rw [← hp, List.length_map]
  have HP := Aside0.mk hp
  have HK := Aside0.mk hKW
  have HSC := Aside0.mk hks
  have HAD := Aside0.mk had
  have HS1 := Aside0.mk (hs.mono (Nat.le_refl m) (Nat.le_refl n))
  have HS2 := Aside0.mk hs2
  have HS3 := Aside0.mk hs3
  have HMN := Aside0.mk (show m ≤ 100000 ∧ n ≤ 100000 by omega)
  have HR := Aside0.mk hr
  have HD := Aside0.mk hd
  have R1 := Aside0.mk h1
  have R2 := Aside0.mk h2
  have R3 := Aside0.mk h3
  have R4 := Aside0.mk h4
  generalize hN : p.length = N at *
  have HLN := Aside0.mk (And.intro hln hnu)
  have HPN := Aside0.mk hN
  have HB := Aside0.mk (Below.refl w.heap.size w)
  clear h1 h2 h3 h4 hr hd hp hnu hcB hks hsB hnm hs3 hs2 had hKW hln hN hs hs' hm hn
  go_enter Try.func26, Try.ntmps26
  go_wp2_with (first
    | ((with_reducible refine gate_dst (N := 3) rfl ?_); refine box_event ?hg (N := 3) ?hd (cs := #[.bool b, .slice A l.length c, .slice E N d]) (t := 27) ?hr ?_; (case hd => rfl); (case hg => rfl); (case hr => first | (go_simp; done) | (go_simp; rfl)); intro gA hg w1 hbox hb; have HB := Aside0.mk (below_step HB.out hb); have KA := Aside0.mk hbox; clear hg hbox hb)
    | ((with_reducible refine gate_dst (N := 5) rfl ?_); refine box_event ?hg (N := 5) ?hd (cs := #[.bool b', .slice A' l'.length c', .slice E' p'.length d']) (t := 27) ?hr ?_; (case hd => rfl); (case hg => rfl); (case hr => first | (go_simp; done) | (go_simp; rfl)); intro gB hg w2 hbox hb; have KA := Aside0.mk (blk_below KA.out hb); have HB := Aside0.mk (below_step HB.out hb); have KB := Aside0.mk hbox; clear hg hbox hb; have HB2 := HB)
    | ((with_reducible refine gate_dst (N := 6) rfl ?_); refine box_event ?hg (N := 6) ?hd (cs := #[.bool false, .slice none 0 0, .slice none 0 0]) (t := 27) ?hr ?_; (case hd => rfl); (case hg => rfl); (case hr => first | (go_simp; done) | (go_simp; rfl)); intro gR hg w3 hbox hb; have KA := Aside0.mk (blk_below KA.out hb); have KB := Aside0.mk (blk_below KB.out hb); have HB := Aside0.mk (below_step HB.out hb); have KR := Aside0.mk hbox; have GR := Aside0.mk (show w.heap.size ≤ gR by rw [hg]; exact (below_size HB2.out)); clear hg hbox hb; have cA := blk_all KA.out)
    | ((with_reducible refine gate_dst (N := 7) rfl ?_); refine box_event ?hg (N := 7) ?hd (cs := #[.bool false, .slice none 0 0, .slice none 0 0]) (t := 27) ?hr ?_; (case hd => rfl); (case hg => rfl); (case hr => first | (go_simp; done) | (go_simp; rfl)); intro gO hg w4 hbox hb; have KO := Aside0.mk hbox; have HN := Aside0.mk hb; have GN := Aside0.mk (show w3.heap.size ≤ gO by rw [hg]; exact Nat.le_refl _); have cKA := blk_all (blk_below KA.out hb); have ngAgO : gA ≠ gO := Nat.ne_of_lt (hg ▸ blk_lt KA.out); have ngOgA : gO ≠ gA := fun e => ngAgO e.symm; have cggO := blk_all hbox; have fggO := frz_all hbox; clear hg hbox hb))
  go_loopg [16] (N + 1) (fun kq v16 wr => ∃ (i : Int) (u : Value) (os : List RM), v16 = .int .i64 i ∧ Aside0 (0 ≤ i ∧ i ≤ (N : Int)) ∧ Aside0 ((N : Int) - i < (kq : Int)) ∧ Aside0 (os = (rs.take i.toNat).filter (fun x => x.v != v)) ∧ Aside0 (wr.heap[gO]? = some (.cells #[.bool b, .slice A l.length c, u] 27 (0, 0))) ∧ Aside0 (Kd.R kM 46 wr w3.heap.size (fun _ => True) u os) ∧ Aside0 (Below w3.heap.size w3 wr))
  case atStart => exact ⟨0, _, [], rfl, ⟨Int.le_refl 0, by omega⟩, ⟨by omega⟩, ⟨rfl⟩, ⟨blk_put3 KO.out _ _ _⟩, ⟨Kd.R_nil _ _ _ _ _⟩, ⟨below_set3 HN.out GN.out _ _ _⟩⟩
  case round =>
    clear cA cKA cggO fggO ngAgO ngOgA
    obtain ⟨i, u, os, rfl, HI, HQ, HO, BO, HU, HBr⟩ := hrel
    obtain ⟨Ao, co, eu⟩ := Kd.R_slice HU.out
    subst eu
    have cO := blk_all BO.out
    cases gk with
    | zero => exact absurd HQ.out (by have := HI.out; omega)
    | succ k1 =>
    by_cases hc : i < (N : Int)
    · obtain ⟨ad, x, eA, hx, hx0, hx1, hx2⟩ := cM_at HR.out i HI.out.1 hc
      cases eA
      have hw := below_step HB.out HBr.out
      have X0 := pw_cell_below hw hx0
      have X1 := pw_cell_below hw hx1
      have X2 := pw_cell_below hw hx2
      obtain ⟨xv, xb, XA, xc, xl⟩ := x
      dsimp only at X0 X1 X2
      have hsn := filter_snoc v rs i HI.out.1 _ hx
      dsimp only at hsn
      have hwi : wrap64 (i + 1) = i + 1 := by
        have h1 := HI.out
        have h2 := HLN.out
        have h3 := HMN.out
        unfold wrap64; omega
      have HWI := Aside0.mk hwi
      have HSN := Aside0.mk hsn
      have HI1 := Aside0.mk (show 0 ≤ i + 1 ∧ i + 1 ≤ (N : Int) by have h1 := HI.out; omega)
      have HQ1 := Aside0.mk (show (N : Int) - (i + 1) < (k1 : Int) by have h1 := HQ.out; omega)
      have HOL := Aside0.mk (show os.length ≤ 1000000 by
        have h1 := List.length_filter_le (fun x : RM => x.v != v) (rs.take i.toNat)
        rw [← HO.out, List.length_take] at h1
        have h2 := HLN.out
        have h3 := HMN.out
        omega)
      have d1 : decide (i < (N : Int)) = true := decide_eq_true hc
      have d2 : decide (0 ≤ i) = true := decide_eq_true HI.out.1
      have p1 : (0 ≤ i) = True := eq_true HI.out.1
      have p2 : (i < (N : Int)) = True := eq_true hc
      clear hx0 hx1 hx2 hw hx hc hsn hwi
      by_cases hv : xv = v
      · have d3 : (xv != v) = false := bne_eq_false_iff_eq.2 hv
        have HV := Aside0.mk d3
        clear hv
        go_wp2_with (first
          | ((with_reducible refine gate_dst (N := 9) rfl ?_); refine box_event ?hg (N := 9) ?hd (cs := #[.int .i64 0, .bool false, .slice none 0 0]) (t := 46) ?hr ?_; (case hd => rfl); (case hg => rfl); (case hr => first | (go_simp; done) | (go_simp; rfl)); intro gX hg w5 hbox hb; have KX := Aside0.mk hbox; have HX := Aside0.mk hb; have GX := Aside0.mk (show wr.heap.size ≤ gX by rw [hg]; exact Nat.le_refl _); have cX := blk_all hbox; have fX := frz_all hbox; have nOX : gO ≠ gX := (by rw [hg]; exact Nat.ne_of_lt (blk_lt BO.out)); have nXO : gX ≠ gO := (fun e => nOX e.symm); have cO := blk_all (blk_below BO.out hb); clear hg hbox hb))
        rw [HWI.out]
        go_roundg k1
        case measure => omega
        case rel => exact ⟨i + 1, _, os, rfl, HI1, HQ1, ⟨by rw [HSN.out, if_neg (by rw [HV.out]; decide), List.append_nil, HO.out]⟩, ⟨blk_below BO.out (below_set3 HX.out GX.out _ _ _)⟩, ⟨Kd.R_below HU.out (below_set3 HX.out GX.out _ _ _)⟩, ⟨below_step HBr.out (below_set3 HX.out GX.out _ _ _)⟩⟩
      · have d3 : (xv != v) = true := bne_iff_ne.2 hv
        have HV := Aside0.mk d3
        clear hv
        go_wp2_with (first
          | ((with_reducible refine gate_dst (N := 9) rfl ?_); refine box_event ?hg (N := 9) ?hd (cs := #[.int .i64 0, .bool false, .slice none 0 0]) (t := 46) ?hr ?_; (case hd => rfl); (case hg => rfl); (case hr => first | (go_simp; done) | (go_simp; rfl)); intro gX hg w5 hbox hb; have KX := Aside0.mk hbox; have HX := Aside0.mk hb; have GX := Aside0.mk (show wr.heap.size ≤ gX by rw [hg]; exact Nat.le_refl _); have cX := blk_all hbox; have fX := frz_all hbox; have nOX : gO ≠ gX := (by rw [hg]; exact Nat.ne_of_lt (blk_lt BO.out)); have nXO : gX ≠ gO := (fun e => nOX e.symm); have cO := blk_all (blk_below BO.out hb); clear hg hbox hb)
          | ((with_reducible refine gate_builtin (b := .append) (xs := #[.tmp 25, .tmp 27]) rfl ?_); at_builtin; refine Kd.R_append kM (w0 := w3) w3.heap.size rfl (.tmp 25) (.tmp 27) 25 46 (.agg #[.int .i64 0, .bool false, .slice none 0 0]) 40 rfl Try.underlying25 infoM rfl (by decide) (by decide) (.slice Ao os.length co) os ⟨xv, xb, XA, xc, xl⟩ (encM ⟨xv, xb, XA, xc, xl⟩) (fun _ => True) (fun _ => False) rfl ?aX rfl (fun _ h => h.elim) (fun _ _ => trivial) ?aO ?aB ?aS ?aL ?_; (case aX => simp only [World.alloc, Array.size_push, World.size_setCell]; rfl); (case aO => exact Kd.R_below HU.out (by repeat first | exact HX.out | apply below_alloc | refine below_set ?_ GX.out)); (case aB => exact below_step HBr.out (by repeat first | exact HX.out | apply below_alloc | refine below_set ?_ GX.out)); (case aS => exact (below_step HBr.out (by repeat first | exact HX.out | apply below_alloc | refine below_set ?_ GX.out)).size); (case aL => have := HOL.out; omega); intro v10 w10 ho hb hg hat; obtain ⟨A10, c10, e10⟩ := Kd.R_slice ho; subst e10; rw [List.length_append, List.length_singleton] at ho; have HO10 := Aside0.mk ho; have HB10 := Aside0.mk hb; have BO10 := Aside0.mk ((hg.block gO (Array.getElem?_eq_some_iff.1 (blk_below BO.out (by repeat first | exact HX.out | apply below_alloc | refine below_set ?_ GX.out))).1 (fun e => by obtain ⟨cs, hc⟩ := Kd.R_typed (Kd.R_below HU.out (by repeat first | exact HX.out | apply below_alloc | refine below_set ?_ GX.out)) gO e.symm; exact absurd rfl (box_ne (blk_below BO.out (by repeat first | exact HX.out | apply below_alloc | refine below_set ?_ GX.out)) hc (by decide)))).trans (blk_below BO.out (by repeat first | exact HX.out | apply below_alloc | refine below_set ?_ GX.out))); clear ho hb hg hat cO; have cO := blk_all BO10.out; have fO := frz_all BO10.out))
        rw [HWI.out]
        go_roundg k1
        case measure => omega
        case rel => exact ⟨i + 1, _, os ++ [⟨xv, xb, XA, xc, xl⟩], rfl, HI1, HQ1, ⟨by rw [HSN.out, if_pos HV.out, HO.out]⟩, ⟨blk_put (cs := #[.bool b, .slice A l.length c, .slice Ao os.length co]) BO10.out 2 _ rfl⟩, ⟨kM_move HO10.out (fun k cells hk => Below.heap_setCell w10 ⟨gO, 2, none⟩ _ k (box_ne BO10.out hk (by decide)))⟩, ⟨below_set HB10.out GN.out⟩⟩
    · have hi : i.toNat = rs.length := by have h1 := HI.out; have h2 := HLN.out.1; omega
      have d1 : decide (i < (N : Int)) = false := decide_eq_false hc
      have hos : os = rs.filter (fun x => x.v != v) := by rw [HO.out, hi, List.take_length]
      have HOS := Aside0.mk hos
      have HW := Aside0.mk (below_step HB.out HBr.out)
      have HWR := Aside0.mk (Below.refl wr.heap.size wr)
      have KB := Aside0.mk (blk_below KB.out HBr.out)
      have KA := Aside0.mk (blk_below KA.out HBr.out)
      have KR := Aside0.mk (blk_below KR.out HBr.out)
      have cB := blk_all KB.out
      have cA := blk_all KA.out
      clear hc hi hos
      go_wp2_with fail
      refine start_ (n := 8) (S := fun w' => (∀ i : Nat, w'.cell? ⟨gO, i, none⟩ = (#[.bool b, .slice A l.length c, .slice Ao os.length co] : Array Value)[i]?) ∧ (∀ i : Nat, w'.cell? ⟨gB, i, none⟩ = (#[.bool b', .slice A' l'.length c', .slice E' p'.length d'] : Array Value)[i]?) ∧ (∀ i : Nat, w'.cell? ⟨gA, i, none⟩ = (#[.bool b, .slice A l.length c, .slice E N d] : Array Value)[i]?)) (ds := [7]) #[false, false, false, false, false, false, false, false] (by kernel_rfl) rfl rfl ⟨blk_all BO.out, blk_all KB.out, blk_all KA.out⟩ (fun hHeld => ?_)
      refine pure_ (i := 3) (N := some 34) (v := ?_) (a' := ?_) #[false, false, false, true, false, false, false, false] rfl rfl (by kernel_rfl) (fun _ _ _ h => h) (Or.inl ⟨by rfl, ?_⟩) ?_ ?_
      rotate_left
      · intro w'
        go_simp
        with_reducible rfl
      rotate_left
      · simp only [Act.put, List.setIfInBounds_toArray, List.set_cons_zero, List.set_cons_succ, i64_w, i32_w]
        rfl
      refine take_ (i := 0) (N := some 31) (v := ?_) (a' := ?_) #[true, false, false, true, false, false, false, false] rfl rfl (by kernel_rfl) (fun _ _ _ h => h) (Or.inl ⟨by rfl, ?_⟩) hHeld ?_ ?_
      rotate_left
      · rintro w' ⟨s0, s1, s2⟩
        go_simp
        with_reducible rfl
      rotate_left
      · simp only [Act.put, List.setIfInBounds_toArray, List.set_cons_zero, List.set_cons_succ, i64_w, i32_w]
        rfl
      refine take_ (i := 1) (N := some 32) (v := ?_) (a' := ?_) #[true, true, false, true, false, false, false, false] rfl rfl (by kernel_rfl) (fun _ _ _ h => h) (Or.inl ⟨by rfl, ?_⟩) hHeld ?_ ?_
      rotate_left
      · rintro w' ⟨s0, s1, s2⟩
        go_simp
        with_reducible rfl
      rotate_left
      · simp only [Act.put, List.setIfInBounds_toArray, List.set_cons_zero, List.set_cons_succ, i64_w, i32_w]
        rfl
      refine take_ (i := 2) (N := some 33) (v := ?_) (a' := ?_) #[true, true, true, true, false, false, false, false] rfl rfl (by kernel_rfl) (fun _ _ _ h => h) (Or.inl ⟨by rfl, ?_⟩) hHeld ?_ ?_
      rotate_left
      · rintro w' ⟨s0, s1, s2⟩
        go_simp
        with_reducible rfl
      rotate_left
      · simp only [Act.put, List.setIfInBounds_toArray, List.set_cons_zero, List.set_cons_succ, i64_w, i32_w]
        rfl
      refine one_ (i := 4) (N := some 35) #[true, true, true, true, true, false, false, false] rfl rfl (by kernel_rfl) (by decide) (fun K hK => ?_)
      refine goes_ Try.func28 (by kernel_rfl) rfl #[.agg #[.bool b, .slice A l.length c, .slice E N d], .int .i64 v] (by rfl) rfl rfl (by simp only [List.map_toArray, List.map_cons, List.map_nil]; rfl) ?_
      have hN := q_At (b := b) v (R1.out.b (below_drew1 HW.out)) (R2.out.b (below_drew1 HW.out)) HS1.out HMN.out.1 HMN.out.2
      rw [HK.out, HPN.out] at hN
      dsimp only at hN
      refine hN.mono ?_
      clear hN
      rintro e wa ⟨Ak, ck, rfl, rk, hb⟩
      have hy := below_step (below_drew1 (Below.refl wr.heap.size wr)) hb
      have BO := Aside0.mk (blk_below BO.out hy); have KB := Aside0.mk (blk_below KB.out hy); have KA := Aside0.mk (blk_below KA.out hy); have KR := Aside0.mk (blk_below KR.out hy); have HW := Aside0.mk (below_step HW.out hy); have HWR := Aside0.mk (below_step HWR.out hy)
      have RK := Aside0.mk rk
      clear rk hb hy
      refine ⟨_, rfl, ?_⟩
      refine hK.out _ _ ⟨blk_all BO.out, blk_all KB.out, blk_all KA.out⟩ (fun hHeld => ?_)
      clear hK K
      refine norm_ (a' := ?_) ?_ ?_
      rotate_left
      · show Act.put _ (some 35) _ = _
        simp only [Act.put, List.setIfInBounds_toArray, List.set_cons_zero, List.set_cons_succ, i64_w, i32_w]
        rfl
      refine one_ (i := 5) (N := some 36) #[true, true, true, true, true, true, false, false] rfl rfl (by kernel_rfl) (by decide) (fun K hK => ?_)
      refine goes_ Try.func24 (by kernel_rfl) rfl #[.agg #[.bool b', .slice A' l'.length c', .slice E' p'.length d'], .agg #[.bool kb, .slice Ak kl.length ck]] (by rfl) rfl rfl (by simp only [List.map_toArray, List.map_cons, List.map_nil]; rfl) ?_
      with_reducible refine (q_ScaleO (R3.out.b HW.out) (R4.out.b HW.out) RK.out HSC.out).mono ?_
      rintro e wb ⟨As, cs, Bs, ds, rfl, os_, hb⟩
      have BO := Aside0.mk (blk_below BO.out hb); have KB := Aside0.mk (blk_below KB.out hb); have KA := Aside0.mk (blk_below KA.out hb); have KR := Aside0.mk (blk_below KR.out hb); have HW := Aside0.mk (below_step HW.out hb); have HWR := Aside0.mk (below_step HWR.out hb)
      have RS := Aside0.mk os_.i
      have PS := Aside0.mk os_.p
      clear os_ hb RK
      refine ⟨_, rfl, ?_⟩
      refine hK.out _ _ ⟨blk_all BO.out, blk_all KB.out, blk_all KA.out⟩ (fun hHeld => ?_)
      clear hK K
      refine norm_ (a' := ?_) ?_ ?_
      rotate_left
      · show Act.put _ (some 36) _ = _
        simp only [Act.put, List.setIfInBounds_toArray, List.set_cons_zero, List.set_cons_succ, i64_w, i32_w]
        rfl
      refine one_ (i := 6) (N := some 37) #[true, true, true, true, true, true, true, false] rfl rfl (by kernel_rfl) (by decide) (fun K hK => ?_)
      refine goes_ Try.func22 (by kernel_rfl) rfl #[.agg #[.bool b, .slice A l.length c, .slice Ao os.length co], .agg #[.bool sb, .slice As sl.length cs, .slice Bs sp.length ds]] (by rfl) rfl rfl (by simp only [List.map_toArray, List.map_cons, List.map_nil]; rfl) ?_
      have he : os.map toM = dropV v p := by rw [HOS.out, filter_toM, HP.out]
      have hP := RP.ofraw (Kd.C_below (Kd.R_reads' HU.out).2.2 HWR.out) (Kd.R_reads' HU.out).2.1 (fun x hx => (HD.out x ((List.mem_filter.1 (show x ∈ rs.filter (fun x => x.v != v) from HOS.out ▸ hx)).1)).below HW.out)
      rw [he] at hP
      have hN := q_LAddO (R1.out.b HW.out) hP RS.out PS.out HS2.out HS3.out HAD.out (by decide) (by decide)
      rw [← he, List.length_map] at hN
      refine hN.mono ?_
      clear hN he hP
      rintro e wc ⟨AD, cD, BD, dD, rfl, oD, hb⟩
      have BO := Aside0.mk (blk_below BO.out hb); have KB := Aside0.mk (blk_below KB.out hb); have KA := Aside0.mk (blk_below KA.out hb); have KR := Aside0.mk (blk_below KR.out hb); have HW := Aside0.mk (below_step HW.out hb); have HWR := Aside0.mk (below_step HWR.out hb)
      have OD := Aside0.mk oD
      clear oD hb
      have cR := blk_all KR.out
      have fR := frz_all KR.out
      refine ⟨_, rfl, ?_⟩
      refine hK.out _ _ ⟨blk_all BO.out, blk_all KB.out, blk_all KA.out⟩ (fun hHeld => ?_)
      clear hK K
      refine norm_ (a' := ?_) ?_ ?_
      rotate_left
      · show Act.put _ (some 37) _ = _
        simp only [Act.put, List.setIfInBounds_toArray, List.set_cons_zero, List.set_cons_succ, i64_w, i32_w]
        rfl
      refine last_ (i := 7) (N := none) #[true, true, true, true, true, true, true, true] rfl rfl (by kernel_rfl) (by decide) (fun K hK => ?_)
      refine skip_ (w1 := ?_) (by rfl) rfl ?_ ?_
      rotate_left
      · go_simp
        rfl
      refine hK.out _ _ ?_
      clear hK K
      refine done_ (by kernel_rfl) ?_

      go_wp2_with fail
      refine bodyPost_ret (results_cell_row rfl _ _ gR 27 #[.bool rb, .slice AD rl.length cD, .slice BD rp.length dD] (0, 0) _ rfl (blk_put3 KR.out _ _ _) Try.underlying27 rfl (by kernel_rfl)) rfl ?_
      exact ⟨AD, cD, BD, dD, rfl, OD.out.set3 KR.out _ _ _, below_set3 HW.out GR.out _ _ _⟩
end Go.Proofs.Ytdicjemjmlbmlaa.H
/- lin.Of, lin.Var: a number, a variable as a sum. -/
namespace Go.Proofs.Ytdicjemjmlbmlaa.H
set_option linter.unusedSimpArgs false
set_option linter.unusedVariables false
open Go.RowKit Go.Proofs.YtdicjemjmlbmlaaW.PrintWords Go.Proofs.YtdicjemjmlbmlaaW.PrintLast Go.Proofs.YtdicjemjmlbmlaaW.PrintMore Go.Proofs.Ytdicjemjmlbmlaa.PA Go.Proofs.Ytdicjemjmlbmlaa.V Go.Proofs.Ytdicjemjmlbmlaa.S
theorem OI.set3 {w : World} {base : Nat} {A : Option Addr} {c : Nat} {l : List Int} (h : OI w base A c l) {g t : Nat} {cs : Array Value} (hg : w.heap[g]? = some (.cells cs t (0, 0))) (ht : t ≠ 81) (x y z : Value) : OI (((w.setCell ⟨g, 0, none⟩ x).setCell ⟨g, 1, none⟩ y).setCell ⟨g, 2, none⟩ z) base A c l :=
  ⟨h.o.move (fun k cells hk => set3_other w g 0 1 2 x y z k (box_ne hg hk ht))⟩
/-- A row of one part, where it lies. -/
theorem RP.ones {w : World} {g : Nat} {A : Option Addr} {c : Nat} {l : List Int} {v : Int} {b : Bool} (hb : w.heap[g]? = some (.cells #[.int .i64 v, .bool b, .slice A l.length c] 46 (0, 0))) (h : RI w A c l) : RP w (some ⟨g, 0, Option.none⟩) 1 [⟨v, ⟨b, l⟩⟩] := by
  refine ⟨⟨rfl, by show 1 ≤ _; decide, fun _ => ⟨_, rfl, fun j p hj => ?_⟩⟩, Nat.le_refl _⟩
  match j, hj with
  | 0, hj =>
    obtain rfl := Option.some.inj hj
    refine ⟨[.int .i64 v, .bool b, .slice A l.length c], rfl, k46_mk _ ⟨v, ⟨b, l⟩⟩ h.s h.r, fun i u hu => ?_⟩
    rw [show (0 * k46.sz + i) = i by omega, add_plain, blk_cell hb]
    match i, hu with
    | 0, hu => exact hu
    | 1, hu => exact hu
    | 2, hu => exact hu
theorem q_WNorm {w : World} {b : Bool} {A : Option Addr} {c : Nat} {l : List Int} {rb : Bool} {rl : List Int} (h1 : RI w A c l) (h : whole_Norm.f b l = some (rb, rl)) : Calls Try.prog 51 #[.agg #[.bool b, .slice A l.length c]] w (AO w rb rl) := by
  refine (whole_Norm.calls b A c l rb rl w h1.r h1.s h).mono ?_
  rintro e w' ⟨v, rfl, ho, hb⟩
  obtain ⟨A, c, rfl, hr⟩ := OI.of ho (Nat.le_refl _)
  exact ⟨A, c, rfl, hr, hb⟩
set_option maxHeartbeats 8000000 in
set_option maxRecDepth 100000 in
theorem q_LOf {w : World} {b : Bool} {A : Option Addr} {c : Nat} {l : List Int} (h1 : RI w A c l) (hl : Lim l) (hn : l.length ≤ 1000000) :
    Calls Try.prog 30 #[.agg #[.bool b, .slice A l.length c]] w (AL w (W (wv b l)).1 (W (wv b l)).2 []) := by
  have mixed : Try.prog.follows Departure.mixedOrders = true := by kernel_rfl
  have hu27 := Try.underlying27
  have hu24 := Try.underlying24
  have HF := Aside0.mk (show whole_Norm.f b l = some ((W (wv b l)).1, (W (wv b l)).2) from wNorm_ev b l hl (by omega))
  generalize (W (wv b l)).1 = rb at *
  generalize (W (wv b l)).2 = rl at *
  have R1 := Aside0.mk h1
  clear h1 hl hn
  go_enter Try.func30, Try.ntmps30
  go_wp2_with (first
    | ((with_reducible refine gate_dst (N := 1) rfl ?_); refine box_event ?hg (N := 1) ?hd (cs := #[.bool b, .slice A l.length c]) (t := 24) ?hr ?_; (case hd => rfl); (case hg => rfl); (case hr => first | (go_simp; done) | (go_simp; rfl)); intro gA hg w1 hbox hb; have KA := Aside0.mk hbox; have HB := Aside0.mk hb; clear hg hbox hb)
    | ((with_reducible refine gate_dst (N := 2) rfl ?_); refine box_event ?hg (N := 2) ?hd (cs := #[.bool false, .slice none 0 0, .slice none 0 0]) (t := 27) ?hr ?_; (case hd => rfl); (case hg => rfl); (case hr => first | (go_simp; done) | (go_simp; rfl)); intro gR hg w2 hbox hb; have KR := Aside0.mk hbox; have cA := blk_all (blk_below KA.out hb); have GR := Aside0.mk (show w.heap.size ≤ gR by rw [hg]; exact HB.out.size); have HB := Aside0.mk (below_step HB.out hb); clear hg hbox hb)
    | (go_at_call 51; (with_reducible refine (q_WNorm (R1.out.b HB.out) HF.out).mono ?_); rintro e w3 ⟨A3, c3, rfl, o3, hb⟩; have KR := Aside0.mk (blk_below KR.out hb); have HB := Aside0.mk (below_step HB.out hb); have O3 := Aside0.mk o3; clear o3 hb cA; have cR := blk_all KR.out; have fR := frz_all KR.out))
  refine bodyPost_ret (results_cell_row rfl _ _ gR 27 #[.bool rb, .slice A3 rl.length c3, .slice none 0 0] (0, 0) _ rfl (blk_put3 KR.out _ _ _) Try.underlying27 rfl (by kernel_rfl)) rfl ?_
  exact ⟨A3, c3, none, 0, rfl, (O3.out.set3 KR.out (by decide) _ _ _).r, RP.nil _, below_set3 HB.out GR.out _ _ _⟩
set_option maxHeartbeats 8000000 in
set_option maxRecDepth 100000 in
theorem q_Var {w : World} (v : Int) : Calls Try.prog 31 #[.int .i64 v] w (AL w (W 0).1 (W 0).2 [⟨v, ⟨(W 1).1, (W 1).2⟩⟩]) := by
  have mixed : Try.prog.follows Departure.mixedOrders = true := by kernel_rfl
  have hu27 := Try.underlying27
  have hu24 := Try.underlying24
  have hu46 := Try.underlying46
  have HF := Aside0.mk (show whole_Of.f 0 = some ((W 0).1, (W 0).2) from wOf_ev 0 (by decide) (by decide))
  have HG := Aside0.mk (show whole_Of.f 1 = some ((W 1).1, (W 1).2) from wOf_ev 1 (by decide) (by decide))
  generalize (W 0).1 = zb at *
  generalize (W 0).2 = zl at *
  generalize (W 1).1 = ob at *
  generalize (W 1).2 = ol at *
  go_enter Try.func31, Try.ntmps31
  go_wp2_with (first
    | ((with_reducible refine gate_dst (N := 2) rfl ?_); refine box_event ?hg (N := 2) ?hd (cs := #[.bool false, .slice none 0 0, .slice none 0 0]) (t := 27) ?hr ?_; (case hd => rfl); (case hg => rfl); (case hr => first | (go_simp; done) | (go_simp; rfl)); intro gR hg w2 hbox hb; have KR := Aside0.mk hbox; have GR := Aside0.mk (show w.heap.size ≤ gR by rw [hg]; exact Nat.le_refl _); have HB := Aside0.mk hb; clear hg hbox hb)
    | (go_at_call 33; (with_reducible refine (q_Of HF.out).mono ?_); rintro e w3 ⟨A3, c3, rfl, o3, hb⟩; have KR := Aside0.mk (blk_below KR.out hb); have HB := Aside0.mk (below_step HB.out hb); have O3 := Aside0.mk o3; clear o3 hb)
    | (go_at_call 33; (with_reducible refine (q_Of HG.out).mono ?_); rintro e w4 ⟨A4, c4, rfl, o4, hb⟩; have O4 := Aside0.mk (o4.b (below_alloc (Below.refl w4.heap.size w4) (.cells #[.int .i64 v, .bool ob, .slice A4 ol.length c4] 46 (0, 0)))); have hx := below_alloc hb (.cells #[.int .i64 v, .bool ob, .slice A4 ol.length c4] 46 (0, 0)); have KR := Aside0.mk (blk_below KR.out hx); have KX := Aside0.mk (blk_new w4 (.cells #[.int .i64 v, .bool ob, .slice A4 ol.length c4] 46 (0, 0))); have NX := Aside0.mk (show w4.heap.size ≠ gR from box_ne KR.out KX.out (by decide)); have HB := Aside0.mk (below_step HB.out hx); have O3 := Aside0.mk (O3.out.b hx); clear o4 hb hx; have cR := blk_all KR.out; have fR := frz_all KR.out))
  refine bodyPost_ret (results_cell_row rfl _ _ gR 27 #[.bool zb, .slice A3 zl.length c3, .slice (some ⟨w4.heap.size, 0, none⟩) 1 1] (0, 0) _ rfl (blk_put3 KR.out _ _ _) Try.underlying27 rfl (by kernel_rfl)) rfl ?_
  exact ⟨A3, c3, some ⟨w4.heap.size, 0, none⟩, 1, rfl, (O3.out.set3 KR.out (by decide) _ _ _).r, RP.ones (blk_far3 KX.out NX.out _ _ _) (O4.out.set3 KR.out (by decide) _ _ _).r, below_set3 HB.out GR.out _ _ _⟩
end Go.Proofs.Ytdicjemjmlbmlaa.H
/- What comes in: small enough. -/
namespace Go.Proofs.Ytdicjemjmlbmlaa.S
set_option linter.unusedVariables false
set_option linter.unusedSimpArgs false
open Go.RowKit Go.Proofs.Ytdicjemjmlbmlaa.V Go.Proofs.Ytdicjemjmlbmlaa.PA Go.Proofs.Ytdicjemjmlbmlaa.H Go.Proofs.YtdicjemjmlbmlaaW.PrintWords Go.Proofs.YtdicjemjmlbmlaaW.PrintLast Go.Proofs.YtdicjemjmlbmlaaW.PrintMore

theorem limT_mk {n : Nat} {l : List Int} (h : Lim l) (hl : l.length ≤ n) (hn : n ≤ 10000) : limT l = true := by
  unfold limT
  rw [limB_mk h (by omega), decide_eq_true (show l.length ≤ 10000 by omega)]; rfl
theorem Small.guardT {m n : Nat} {l1 : List Int} {l2 : List S46} (h : Small m n l1 l2) (hm : m ≤ 10000) (hn : n ≤ 10000) : guardT l1 l2 = true := by
  have h2 := h.num
  unfold H.guardT
  rw [limT_mk h.lim h.len hn, decide_eq_true (show l2.length ≤ 10000 by omega), Bool.true_and, Bool.true_and, List.all_eq_true]
  exact fun x hx => limT_mk (h.each x hx).1 (h.each x hx).2 hn
theorem tight_ev {m n : Nat} {l1 : List Int} {l2 : List S46} (h : Small m n l1 l2) (hm : m ≤ 10000) (hn : n ≤ 10000) (b : Bool) : lin_Tight.f b l1 l2 = some (OU (tightP (wv b l1) (normP (l2.map prM)))) := if_pos (h.guardT hm hn)
theorem even_ev {m n : Nat} {l1 : List Int} {l2 : List S46} (h : Small m n l1 l2) (hm : m ≤ 10000) (hn : n ≤ 10000) (b : Bool) : lin_Even.f b l1 l2 = some (OU (evenP (wv b l1) (normP (l2.map prM)))) := if_pos (h.guardT hm hn)
/-! ### small enough -/
def lightB (l1 : List Int) (l2 : List S46) : Bool := decide (l2.length ≤ 20) && decide (l1.length ≤ 8) && l2.all (fun x => decide (x.f1.f1.length ≤ 8))
theorem light_l0 (b : Bool) (l1 : List Int) (l2 : List S46) (hl : l2.length ≤ 20) : ∀ d i, i + d = l2.length → Ev (fun k => gudgeonref13_Light.l0 k 8 (i : Int) b l1 l2) ((l2.drop i).all (fun x => decide (x.f1.f1.length ≤ 8))) := by
  intro d
  induction d with
  | zero =>
    intro i hi
    refine Ev.step (fun k => by rw [gudgeonref13_Light.l0]) (evN (by omega) (evR ?_))
    rw [List.drop_eq_nil_of_le (by omega)]; rfl
  | succ d ih =>
    intro i hi
    have hi' : i < l2.length := by omega
    refine Ev.step (fun k => by rw [gudgeonref13_Light.l0]) (evP (by omega) (evP (by omega) ?_))
    rw [rdM l2 i hi', List.drop_eq_getElem_cons hi', List.all_cons]
    by_cases h : (l2[i].f1.f1.length : Int) > 8
    · refine evP h (evR ?_)
      rw [decide_eq_false (by omega), Bool.false_and]
    · refine evN h ?_
      rw [wnext (by omega), decide_eq_true (by omega), Bool.true_and]
      exact ih (i + 1) (by omega)
theorem rlight_ev (b : Bool) (l1 : List Int) (l2 : List S46) : Ev (fun k => gudgeonref13_Light.f k b l1 l2 20 8) (lightB l1 l2) := by
  unfold lightB
  refine Ev.congr (fun k => rfl) ?_
  by_cases h1 : (l2.length : Int) > 20
  · refine evP h1 (Ev.step (fun k => by rw [gudgeonref13_Light.j0]) (evP rfl (evR ?_)))
    rw [decide_eq_false (show ¬l2.length ≤ 20 by omega), Bool.false_and, Bool.false_and]
  · refine evN h1 ?_
    rw [decide_eq_true (show l2.length ≤ 20 by omega), Bool.true_and]
    by_cases h2 : (l1.length : Int) > 8
    · rw [decide_eq_true h2, decide_eq_false (show ¬l1.length ≤ 8 by omega), Bool.false_and]
      exact Ev.step (fun k => by rw [gudgeonref13_Light.j0]) (evP rfl (evR rfl))
    · rw [decide_eq_false h2, decide_eq_true (show l1.length ≤ 8 by omega), Bool.true_and]
      refine Ev.step (fun k => by rw [gudgeonref13_Light.j0]) (evN Bool.false_ne_true ?_)
      exact light_l0 b l1 l2 (by omega) l2.length 0 (by omega)
theorem light_ev (b b2 : Bool) (l1 l3 : List Int) (l2 l4 : List S46) : Ev (fun k => gudgeonlaw13_light.f k b l1 l2 b2 l3 l4) (lightB l1 l2 && lightB l3 l4) := by
  refine Ev.congr (fun k => rfl) (Ev.bind (rlight_ev b l1 l2) (Ev.bind (rlight_ev b2 l3 l4) ?_))
  cases lightB l1 l2 with
  | true => exact evP rfl (evR rfl)
  | false => exact evN Bool.false_ne_true (evR rfl)
theorem small_of {l1 : List Int} {l2 : List S46} (h : lightB l1 l2 = true) (h1 : Lim l1) (h2 : ∀ x ∈ l2, Lim x.f1.f1) : Small 20 8 l1 l2 := by
  unfold lightB at h
  rw [Bool.and_eq_true, Bool.and_eq_true, decide_eq_true_eq, decide_eq_true_eq, List.all_eq_true] at h
  obtain ⟨⟨h3, h4⟩, h5⟩ := h
  exact ⟨h1, h4, h3, fun x hx => ⟨h2 x hx, of_decide_eq_true (h5 x hx)⟩⟩
end Go.Proofs.Ytdicjemjmlbmlaa.S
/- The examples. -/
namespace Go.Proofs.Ytdicjemjmlbmlaa.S
set_option linter.unusedVariables false
set_option linter.unusedSimpArgs false
open Go.RowKit Go.Proofs.Ytdicjemjmlbmlaa.V Go.Proofs.Ytdicjemjmlbmlaa.PA Go.Proofs.Ytdicjemjmlbmlaa.H Go.Proofs.YtdicjemjmlbmlaaW.PrintWords Go.Proofs.YtdicjemjmlbmlaaW.PrintLast Go.Proofs.YtdicjemjmlbmlaaW.PrintMore

theorem small_dec {l1 : List Int} {l2 : List S46} (h : (lightB l1 l2 && limB l1 && l2.all (fun x => limB x.f1.f1)) = true) : Small 20 8 l1 l2 := by
  rw [Bool.and_eq_true, Bool.and_eq_true, List.all_eq_true] at h
  exact small_of h.1.1 (limB_of h.1.2).2 (fun x hx => (limB_of (h.2 x hx)).2)
theorem dig_lit {x : Int} (h0 : 0 < x) (h1 : x < 4294967296) : dig x = [x] := by
  have h : Lim [x] := fun y hy => by rw [List.mem_singleton.1 hy]; omega
  have := dig_val_of_last h (by intro _; simp; omega)
  rwa [show val [x] = x by simp [val]] at this
theorem W_pos {x : Int} (h0 : 0 < x) (h1 : x < 4294967296) : W x = (false, [x]) := by
  unfold W az
  rw [if_neg (by omega), decide_eq_false (by omega), dig_lit h0 h1]
theorem W_neg {x : Int} (h0 : 0 < x) (h1 : x < 4294967296) : W (-x) = (true, [x]) := by
  unfold W az
  rw [if_pos (by omega), decide_eq_true (by omega), Int.neg_neg, dig_lit h0 h1]
theorem sum1 : Ev (fun k => gudgeonlaw13_sum.f k 7 4 6) (false, [7], [⟨0, ⟨false, [4]⟩⟩, ⟨1, ⟨false, [6]⟩⟩]) := Ev.of (fun k => gudgeonlaw13_sum.mono _ _ _ k) (k := 300) (by kernel_rfl)
theorem sum2 : Ev (fun k => gudgeonlaw13_sum.f k 6 (-2) 4) (false, [6], [⟨0, ⟨true, [2]⟩⟩, ⟨1, ⟨false, [4]⟩⟩]) := Ev.of (fun k => gudgeonlaw13_sum.mono _ _ _ k) (k := 300) (by kernel_rfl)
theorem sum3 : Ev (fun k => gudgeonlaw13_sum.f k 3 2 3) (false, [3], [⟨0, ⟨false, [2]⟩⟩, ⟨1, ⟨false, [3]⟩⟩]) := Ev.of (fun k => gudgeonlaw13_sum.mono _ _ _ k) (k := 300) (by kernel_rfl)
theorem sum4 : Ev (fun k => gudgeonlaw13_sum.f k (-3) 1 (-2)) (true, [3], [⟨0, ⟨false, [1]⟩⟩, ⟨1, ⟨true, [2]⟩⟩]) := Ev.of (fun k => gudgeonlaw13_sum.mono _ _ _ k) (k := 300) (by kernel_rfl)
theorem of1 : Ev (fun k => gudgeonref02_Of.f k 1) (false, [1]) := Ev.of (fun k => gudgeonref02_Of.mono _ k) (k := 300) (by kernel_rfl)
theorem of2 : Ev (fun k => gudgeonref02_Of.f k 2) (false, [2]) := Ev.of (fun k => gudgeonref02_Of.mono _ k) (k := 300) (by kernel_rfl)
theorem tight1 : lin_Tight.f false [7] [⟨0, ⟨false, [4]⟩⟩, ⟨1, ⟨false, [6]⟩⟩] = some (false, [3], [⟨0, ⟨false, [2]⟩⟩, ⟨1, ⟨false, [3]⟩⟩], 0) := by
  have h := tight_ev (m := 20) (n := 8) (l1 := [7]) (l2 := [⟨0, ⟨false, [4]⟩⟩, ⟨1, ⟨false, [6]⟩⟩]) (small_dec (by decide +kernel)) (by omega) (by omega) false
  have e : tightP (wv false [7]) (normP ([(⟨0, ⟨false, [4]⟩⟩ : S46), ⟨1, ⟨false, [6]⟩⟩].map prM)) = (3, [(0, 2), (1, 3)], 0) := by decide +kernel
  rw [e] at h
  have e2 : OU (3, [(0, 2), (1, 3)], 0) = (false, [3], [⟨0, ⟨false, [2]⟩⟩, ⟨1, ⟨false, [3]⟩⟩], 0) := by
    simp only [OU, enP, List.map_cons, List.map_nil, W_pos (x := 3) (by omega) (by omega), W_pos (x := 2) (by omega) (by omega)]
  rw [e2] at h
  exact h
theorem even1 : lin_Even.f false [6] [⟨0, ⟨true, [2]⟩⟩, ⟨1, ⟨false, [4]⟩⟩] = some (true, [3], [⟨0, ⟨false, [1]⟩⟩, ⟨1, ⟨true, [2]⟩⟩], 0) := by
  have h := even_ev (m := 20) (n := 8) (l1 := [6]) (l2 := [⟨0, ⟨true, [2]⟩⟩, ⟨1, ⟨false, [4]⟩⟩]) (small_dec (by decide +kernel)) (by omega) (by omega) false
  have e : evenP (wv false [6]) (normP ([(⟨0, ⟨true, [2]⟩⟩ : S46), ⟨1, ⟨false, [4]⟩⟩].map prM)) = (-3, [(0, 1), (1, -2)], 0) := by decide +kernel
  rw [e] at h
  have e2 : OU (-3, [(0, 1), (1, -2)], 0) = (true, [3], [⟨0, ⟨false, [1]⟩⟩, ⟨1, ⟨true, [2]⟩⟩], 0) := by
    simp only [OU, enP, List.map_cons, List.map_nil, W_neg (x := 3) (by omega) (by omega), W_pos (x := 1) (by omega) (by omega), W_neg (x := 2) (by omega) (by omega)]
  rw [e2] at h
  exact h
theorem even2 : lin_Even.f false [1] [⟨0, ⟨false, [2]⟩⟩] = some (OU (1, [(0, 2)], -1)) := by
  have h := even_ev (m := 20) (n := 8) (l1 := [1]) (l2 := [⟨0, ⟨false, [2]⟩⟩]) (small_dec (by decide +kernel)) (by omega) (by omega) false
  have e : evenP (wv false [1]) (normP ([(⟨0, ⟨false, [2]⟩⟩ : S46)].map prM)) = (1, [(0, 2)], -1) := by decide +kernel
  rw [e] at h
  exact h
/-- What the examples' calls answer. -/
theorem awake_facts : ∃ k1 k2 k3 k4 k5 k6 b1 l1 p1 b2 l2 p2 b3 l3 b4 l4 b5 l5 p5 b6 l6 p6 zb zl zp,
    gudgeonlaw13_sum.f k1 7 4 6 = some (b1, l1, p1) ∧ gudgeonlaw13_sum.f k2 6 (-2) 4 = some (b2, l2, p2) ∧ gudgeonref02_Of.f k3 1 = some (b3, l3) ∧ gudgeonref02_Of.f k4 2 = some (b4, l4) ∧
    gudgeonlaw13_sum.f k5 3 2 3 = some (b5, l5, p5) ∧ gudgeonlaw13_sum.f k6 (-3) 1 (-2) = some (b6, l6, p6) ∧
    lin_Tight.f b1 l1 p1 = some (b5, l5, p5, 0) ∧ lin_Even.f b2 l2 p2 = some (b6, l6, p6, 0) ∧ lin_Even.f b3 l3 [⟨0, ⟨b4, l4⟩⟩] = some (zb, zl, zp, -1) ∧ OkS l5 p5 ∧ OkS l6 p6 := by
  obtain ⟨k1, h1⟩ := sum1.rounds
  obtain ⟨k2, h2⟩ := sum2.rounds
  obtain ⟨k3, h3⟩ := of1.rounds
  obtain ⟨k4, h4⟩ := of2.rounds
  obtain ⟨k5, h5⟩ := sum3.rounds
  obtain ⟨k6, h6⟩ := sum4.rounds
  exact ⟨k1, k2, k3, k4, k5, k6, _, _, _, _, _, _, _, _, _, _, _, _, _, _, _, _, _, _, _, h1, h2, h3, h4, h5, h6, tight1, even1, even2, ⟨by decide, by decide, by decide⟩, ⟨by decide, by decide, by decide⟩⟩
end Go.Proofs.Ytdicjemjmlbmlaa.S
/- LinForms, by values: what is answered is in its own form. -/
namespace Go.Proofs.Ytdicjemjmlbmlaa.S
set_option linter.unusedVariables false
set_option linter.unusedSimpArgs false
open Go.RowKit Go.Proofs.Ytdicjemjmlbmlaa.V Go.Proofs.Ytdicjemjmlbmlaa.PA Go.Proofs.Ytdicjemjmlbmlaa.H Go.Proofs.YtdicjemjmlbmlaaW.PrintWords Go.Proofs.YtdicjemjmlbmlaaW.PrintLast Go.Proofs.YtdicjemjmlbmlaaW.PrintMore

/-- A sum in its own form. -/
def Fm (b : Bool) (l : List Int) (p : List S46) : Prop := ∃ (c : Int) (q : List (Int × Int)), b = (W c).1 ∧ l = (W c).2 ∧ p = q.map enP ∧ Form q ∧ B 1000000 c ∧ q.length ≤ 1000000 ∧ BQ 1000000 q
theorem Fm.norm {b : Bool} {l : List Int} {p : List S46} (h : Fm b l p) : lin_Norm.f b l p = some (b, l, p) := by
  obtain ⟨c, q, rfl, rfl, rfl, hf, hc, hl, hb⟩ := h
  have := lnorm_ev (small_SU hc hl hb) (Nat.le_refl _) (Nat.le_refl _) (W c).1
  rw [wv_W, map_enP, norm_form hf] at this
  exact this
theorem Fm.ok {b : Bool} {l : List Int} {p : List S46} (h : Fm b l p) : OkS l p := by
  obtain ⟨c, q, rfl, rfl, rfl, hf, hc, hl, hb⟩ := h
  exact ⟨hc.len, by rw [List.length_map]; exact hl, fun x hx => by
    obtain ⟨y, hy, rfl⟩ := List.mem_map.1 hx
    exact (hb y hy).len⟩
theorem Fm.sign {b : Bool} {l : List Int} {p : List S46} (h : Fm b l p) {x : S46} (hx : x ∈ p) : ∃ s, whole_Sign.f x.f1.f0 x.f1.f1 = some s ∧ (s == 0) = false := by
  obtain ⟨c, q, rfl, rfl, rfl, hf, hc, hl, hb⟩ := h
  obtain ⟨y, hy, rfl⟩ := List.mem_map.1 hx
  have e1 := wSign_ev (W y.2).1 (W y.2).2 (W_lim _) (by have := (hb y hy).len; omega)
  rw [wv_W] at e1
  refine ⟨_, e1, ?_⟩
  have := form_ne hf y hy
  rw [beq_eq_false_iff_ne]
  unfold sg
  split
  · omega
  · split <;> omega
theorem form_at : ∀ {q : List (Int × Int)}, Form q → ∀ (i : Nat) (x y : Int × Int), q[i]? = some x → q[i + 1]? = some y → x.1 < y.1
  | [], _, i, x, y, h, _ => by simp at h
  | z :: r, hf, 0, x, y, h, h' => by
    rw [List.getElem?_cons_zero] at h
    rw [List.getElem?_cons_succ] at h'
    cases h
    exact hf.2.1 y (List.mem_of_getElem? h')
  | z :: r, hf, i + 1, x, y, h, h' => by
    rw [List.getElem?_cons_succ] at h h'
    exact form_at hf.2.2 i x y h h'
theorem Fm.lt {b : Bool} {l : List Int} {p : List S46} (h : Fm b l p) {i : Nat} {x y : S46} (hx : p[i]? = some x) (hy : p[i + 1]? = some y) : x.f0 < y.f0 := by
  obtain ⟨c, q, rfl, rfl, rfl, hf, hc, hl, hb⟩ := h
  rw [List.getElem?_map] at hx hy
  obtain ⟨x', hx', rfl⟩ := Option.map_eq_some_iff.1 hx
  obtain ⟨y', hy', rfl⟩ := Option.map_eq_some_iff.1 hy
  exact form_at hf i x' y' hx' hy'
theorem Fm.len {b : Bool} {l : List Int} {p : List S46} (h : Fm b l p) : p.length ≤ 1000000 := h.ok.hp
theorem fm_SU {c : Int} {q : List (Int × Int)} (hf : Form q) (hc : B 1000000 c) (hl : q.length ≤ 1000000) (hb : BQ 1000000 q) : Fm (W c).1 (W c).2 (q.map enP) := ⟨c, q, rfl, rfl, rfl, hf, hc, hl, hb⟩
theorem div_ne {x g : Int} (hx : x ≠ 0) (hd : g ∣ x) : x / g ≠ 0 := by
  obtain ⟨k, rfl⟩ := hd
  intro h
  by_cases hg : g = 0
  · subst hg; simp at hx
  · rw [Int.mul_ediv_cancel_left _ hg] at h
    rw [h] at hx; simp at hx
theorem form_part (g : Int) : ∀ {q : List (Int × Int)}, Form q → (∀ x ∈ q, g ∣ x.2) → Form (partP g q)
  | [], _, _ => trivial
  | y :: r, hf, hd => by
    refine ⟨div_ne hf.1 (hd y List.mem_cons_self), fun x hx => ?_, form_part g hf.2.2 (fun x hx => hd x (List.mem_cons_of_mem _ hx))⟩
    obtain ⟨z, hz, rfl⟩ := List.mem_map.1 hx
    exact hf.2.1 z hz
theorem fm_tight {c : Int} {q : List (Int × Int)} (hf : Form q) (hc : B 1000 c) (hl : q.length ≤ 1000) (hb : BQ 1000 q) : Fm (OU (tightP c q)).1 (OU (tightP c q)).2.1 (OU (tightP c q)).2.2.1 := by
  unfold tightP
  by_cases hq : q = []
  · subst hq
    rw [if_pos rfl]
    exact fm_SU (q := []) trivial (hc.mono (by decide)) (by simp) (fun x hx => by cases hx)
  · rw [if_neg hq]
    have hg := gP_pos hq (form_ne hf)
    exact fm_SU (form_part _ hf (gP_dvd q 0 (Int.le_refl 0)).2.2) ((B_div hc hg).mono (by decide)) (Nat.le_trans (show (partP (gP 0 q) q).length ≤ 1000 by unfold partP; rw [List.length_map]; exact hl) (by decide)) ((partP_B hb hg).mono (by decide))
theorem fm_even {c : Int} {q : List (Int × Int)} (hf : Form q) (hc : B 1000 c) (hl : q.length ≤ 1000) (hb : BQ 1000 q) : Fm (OU (evenP c q)).1 (OU (evenP c q)).2.1 (OU (evenP c q)).2.2.1 := by
  cases q with
  | nil => exact fm_SU (q := []) trivial (hc.mono (by decide)) (by simp) (fun x hx => by cases hx)
  | cons y r =>
    have hq : y :: r ≠ [] := by simp
    have hg := gP_pos hq (form_ne hf)
    have hp := form_part (gP 0 (y :: r)) hf (gP_dvd (y :: r) 0 (Int.le_refl 0)).2.2
    have hpl : (partP (gP 0 (y :: r)) (y :: r)).length ≤ 1000 := by unfold partP; rw [List.length_map]; exact hl
    have hpb := partP_B hb hg
    have hcd := B_div hc hg
    rw [evenP]
    split
    · split
      · have h1 : B 1 (-1) := by unfold B az; decide +kernel
        have h2 : (normP (scP (-1) (partP (gP 0 (y :: r)) (y :: r)))).length ≤ 1000 := Nat.le_trans (norm_len _) (by unfold scP; rw [List.length_map]; exact hpl)
        have h3 := norm_B (scP_B hpb h1)
        refine fm_SU (form_norm _) ((hcd.mul h1).mono (by decide)) (Nat.le_trans h2 (by decide)) (h3.mono ?_)
        have : (scP (-1) (partP (gP 0 (y :: r)) (y :: r))).length ≤ 1000 := by unfold scP; rw [List.length_map]; exact hpl
        omega
      · exact fm_SU hp (hcd.mono (by decide)) (Nat.le_trans hpl (by decide)) (hpb.mono (by decide))
    · exact fm_SU hf (hc.mono (by decide)) (Nat.le_trans hl (by decide)) (hb.mono (by decide))
theorem fm_var (v : Int) : Fm false [] [⟨v, ⟨(W 1).1, (W 1).2⟩⟩] := by
  refine ⟨0, [(v, 1)], by unfold W az; simp [dig, digN], by unfold W az; simp [dig, digN], rfl, ⟨Int.one_ne_zero, by simp, trivial⟩, by unfold B az; simp [dig, digN], by simp, fun x hx => ?_⟩
  rw [List.mem_singleton.1 hx]
  show B 1000000 1
  unfold B az; decide +kernel
theorem forms {b b' : Bool} {l1 l2 : List Int} {p1 p2 : List S46} {v : Int} (hs : Small 20 8 l1 p1) (hs' : Small 20 8 l2 p2) :
    ∃ tb tl tp tn eb el ep en nb nl np kb kl ks cb cl cp, lin_Tight.f b l1 p1 = some (tb, tl, tp, tn) ∧ Fm tb tl tp ∧ lin_Even.f b l1 p1 = some (eb, el, ep, en) ∧ Fm eb el ep ∧ lin_Norm.f b l1 p1 = some (nb, nl, np) ∧ Fm nb nl np ∧
      whole_Of.f (-3) = some (kb, kl) ∧ lin_Scale.f ks b l1 p1 kb kl = some (cb, cl, cp) ∧ Fm cb cl cp ∧ Fm (addU b b' l1 l2 p1 p2).1 (addU b b' l1 l2 p1 p2).2.1 (addU b b' l1 l2 p1 p2).2.2 ∧ Fm (putU b b' l1 l2 p1 p2 v).1 (putU b b' l1 l2 p1 p2 v).2.1 (putU b b' l1 l2 p1 p2 v).2.2 ∧ Fm (W (wv b l1)).1 (W (wv b l1)).2 [] := by
  have h1 := hs.num
  have h2 := hs'.num
  obtain ⟨hq1, hq2⟩ := norm_small hs
  have hf := form_norm (p1.map prM)
  have hc := hs.b b
  have hT := tight_ev hs (by decide) (by decide) b
  have hE := even_ev hs (by decide) (by decide) b
  have fT := fm_tight hf (hc.mono (show 8 ≤ 1000 by decide)) (by omega) (hq2.mono (by decide))
  have fE := fm_even hf (hc.mono (show 8 ≤ 1000 by decide)) (by omega) (hq2.mono (by decide))
  have hN := lnorm_ev hs (by decide) (by decide) b
  have fN := fm_SU hf (hc.mono (by decide)) (by omega) (hq2.mono (by decide))
  have hk := wOf_ev (-3) (by decide) (by decide)
  have h3 : B 1 (-3) := by unfold B az; decide +kernel
  obtain ⟨ks, hks⟩ := (scale_ev hs (by decide) (by decide) b (W (-3)).1 (W (-3)).2 (W_lim _) (by have := h3.len; omega)).rounds
  rw [wv_W] at hks
  have hks : lin_Scale.f ks b l1 p1 (W (-3)).1 (W (-3)).2 = some ((W (wv b l1 * -3)).1, (W (wv b l1 * -3)).2, (normP (scP (-3) (p1.map prM))).map enP) := hks
  have fS : Fm (W (wv b l1 * -3)).1 (W (wv b l1 * -3)).2 ((normP (scP (-3) (p1.map prM))).map enP) := by
    have hl : (scP (-3) (p1.map prM)).length ≤ 20 := by unfold scP; rw [List.length_map, List.length_map]; exact h1
    exact fm_SU (form_norm _) ((hc.mul h3).mono (by decide)) (Nat.le_trans (norm_len _) (by omega)) ((norm_B (scP_B hs.bq h3)).mono (by omega))
  have fA : Fm (addU b b' l1 l2 p1 p2).1 (addU b b' l1 l2 p1 p2).2.1 (addU b b' l1 l2 p1 p2).2.2 := by
    have hl : (p1.map prM ++ p2.map prM).length ≤ 40 := by rw [List.length_append, List.length_map, List.length_map]; omega
    have hq : BQ 48 (normP (p1.map prM ++ p2.map prM)) := (norm_B (n := 8) (fun x hx => (List.mem_append.1 hx).elim (fun h => hs.bq x h) (fun h => hs'.bq x h))).mono (by omega)
    exact fm_SU (form_norm _) ((hc.add (hs'.b b')).mono (by decide)) (Nat.le_trans (norm_len _) (by omega)) (hq.mono (by decide))
  have fP : Fm (putU b b' l1 l2 p1 p2 v).1 (putU b b' l1 l2 p1 p2 v).2.1 (putU b b' l1 l2 p1 p2 v).2.2 := by
    have hz : B 28 (coef (p1.map prM) v) := (coef_B _ v hs.bq).mono (by rw [List.length_map]; omega)
    have hc2 : B 100 (wv b l1 + wv b' l2 * coef (p1.map prM) v) := ((hc.mono (show 8 ≤ 99 by decide)).add (((hs'.b b').mul hz).mono (show 36 ≤ 99 by decide))).mono (by decide)
    have hsl : (normP (scP (coef (p1.map prM) v) (p2.map prM))).length ≤ 20 := Nat.le_trans (norm_len _) (by unfold scP; rw [List.length_map, List.length_map]; omega)
    have hdl : (dropV v p1).length ≤ 20 := Nat.le_trans (List.length_filter_le _ _) (by omega)
    have hsB : BQ 56 (normP (scP (coef (p1.map prM) v) (p2.map prM))) := (norm_B (scP_B hs'.bq hz)).mono (by unfold scP; rw [List.length_map, List.length_map]; omega)
    have hdB : BQ 56 ((dropV v p1).map prM) := fun x hx => by
      obtain ⟨y, hy, rfl⟩ := List.mem_map.1 hx
      exact (hs.bq _ (List.mem_map_of_mem (List.mem_filter.1 hy).1)).mono (by decide)
    have hl : ((dropV v p1).map prM ++ normP (scP (coef (p1.map prM) v) (p2.map prM))).length ≤ 40 := by rw [List.length_append, List.length_map]; omega
    have hq : BQ 100 (normP ((dropV v p1).map prM ++ normP (scP (coef (p1.map prM) v) (p2.map prM)))) := (norm_B (n := 56) (fun x hx => (List.mem_append.1 hx).elim (fun h => hdB x h) (fun h => hsB x h))).mono (by omega)
    exact fm_SU (form_norm _) (hc2.mono (by decide)) (Nat.le_trans (norm_len _) (by omega)) (hq.mono (by decide))
  exact ⟨_, _, _, _, _, _, _, _, _, _, _, _, _, ks, _, _, _, hT, fT, hE, fE, hN, fN, hk, hks, fS, fA, fP, fm_SU (q := []) trivial (hc.mono (by decide)) (by simp) (fun x hx => by cases hx)⟩
end Go.Proofs.Ytdicjemjmlbmlaa.S
/- The chapter's examples: the walk. -/
namespace Go.Proofs.Ytdicjemjmlbmlaa.H
set_option linter.unusedSimpArgs false
set_option linter.unusedVariables false
open Go.RowKit Go.Proofs.YtdicjemjmlbmlaaW.PrintWords Go.Proofs.YtdicjemjmlbmlaaW.PrintLast Go.Proofs.YtdicjemjmlbmlaaW.PrintMore Go.Proofs.Ytdicjemjmlbmlaa.PA Go.Proofs.Ytdicjemjmlbmlaa.V Go.Proofs.Ytdicjemjmlbmlaa.S
set_option maxHeartbeats 8000000 in
set_option maxRecDepth 100000 in
theorem q_awake (w : World) : Calls Try.prog 9 #[] w fun e w' => e = .returned (.bool true) ∧ Below w.heap.size w w' := by
  have mixed : Try.prog.follows Departure.mixedOrders = true := by kernel_rfl
  have hu27 := Try.underlying27
  have hu24 := Try.underlying24
  have hu46 := Try.underlying46
  obtain ⟨k1, k2, k3, k4, k5, k6, b1, l1, p1, b2, l2, p2, b3, l3, b4, l4, b5, l5, p5, b6, l6, p6, zb, zl, zp, h1, h2, h3, h4, h5, h6, hT, hE, hF, h7, h8⟩ := awake_facts
  have H1 := Aside0.mk h1; have H2 := Aside0.mk h2; have H3 := Aside0.mk h3; have H4 := Aside0.mk h4; have H5 := Aside0.mk h5; have H6 := Aside0.mk h6; have H7 := Aside0.mk h7; have H8 := Aside0.mk h8; have HT := Aside0.mk hT; have HE := Aside0.mk hE; have HF := Aside0.mk hF
  clear h1 h2 h3 h4 h5 h6 h7 h8 hT hE hF
  go_enter Try.func9, Try.ntmps9
  go_upto_region 4 with (first
    | (go_at_call 39; (with_reducible refine (q_sum H1.out).mono ?_); rintro e w1 ⟨A1, c1, B1, d1, rfl, r1, s1, hb⟩; have R1 := Aside0.mk r1; have S1 := Aside0.mk s1; have HB := Aside0.mk hb; clear r1 s1 hb)
    | (go_at_call 11; (with_reducible refine (q_Tight R1.out S1.out HT.out).mono ?_); rintro e w2 ⟨AX, cX, BX, dX, rfl, rX, sX, hb⟩; have RX := Aside0.mk rX; have SX := Aside0.mk sX; have HB := Aside0.mk (below_step HB.out hb); clear rX sX hb R1 S1)
    | ((with_reducible refine gate_dst (N := 1) rfl ?_); refine box_event ?hg (N := 1) ?hd (cs := #[.bool false, .slice none 0 0, .slice none 0 0]) (t := 27) ?hr ?_; (case hd => rfl); (case hg => rfl); (case hr => first | (go_simp; done) | (go_simp; rfl)); intro gX hg w3 hbox hb; have KX := Aside0.mk hbox; have HN := Aside0.mk hb; have GN := Aside0.mk (show w2.heap.size ≤ gX by rw [hg]; exact Nat.le_refl _); have cgX := blk_all hbox; have fgX := frz_all hbox; clear hg hbox hb)
    | (go_at_call 39; (with_reducible refine (q_sum H2.out).mono ?_); rintro e w4 ⟨A3, c3, B3, d3, rfl, r3, s3, hb⟩; have hx := below_step (below_set3 HN.out GN.out _ _ _) hb; have KX := Aside0.mk (blk_below (blk_put3 KX.out _ _ _) hb); have R3 := Aside0.mk r3; have S3 := Aside0.mk s3; have RX := Aside0.mk (RX.out.b hx); have SX := Aside0.mk (SX.out.b hx); have HB := Aside0.mk (below_step HB.out hx); clear r3 s3 hb hx HN GN cgX fgX)
    | (go_at_call 13; (with_reducible refine (q_Even R3.out S3.out HE.out).mono ?_); rintro e w5 ⟨AY, cY, BY, dY, rfl, rY, sY, hb⟩; have RY := Aside0.mk rY; have SY := Aside0.mk sY; have KX := Aside0.mk (blk_below KX.out hb); have RX := Aside0.mk (RX.out.b hb); have SX := Aside0.mk (SX.out.b hb); have HB := Aside0.mk (below_step HB.out hb); clear rY sY hb R3 S3)
    | ((with_reducible refine gate_dst (N := 3) rfl ?_); refine box_event ?hg (N := 3) ?hd (cs := #[.bool false, .slice none 0 0, .slice none 0 0]) (t := 27) ?hr ?_; (case hd => rfl); (case hg => rfl); (case hr => first | (go_simp; done) | (go_simp; rfl)); intro gY hg w6 hbox hb; have KY := Aside0.mk hbox; have HN := Aside0.mk hb; have GN := Aside0.mk (show w5.heap.size ≤ gY by rw [hg]; exact Nat.le_refl _); have cgY := blk_all hbox; have fgY := frz_all hbox; clear hg hbox hb)
    | (go_at_call 32; (with_reducible refine (q_rOf H3.out).mono ?_); rintro e w7 ⟨A7, c7, rfl, r7, hb⟩; have hx := below_step (below_set3 HN.out GN.out _ _ _) hb; have KY := Aside0.mk (blk_below (blk_put3 KY.out _ _ _) hb); have R7 := Aside0.mk r7; have KX := Aside0.mk (blk_below KX.out hx); have RX := Aside0.mk (RX.out.b hx); have SX := Aside0.mk (SX.out.b hx); have RY := Aside0.mk (RY.out.b hx); have SY := Aside0.mk (SY.out.b hx); have HB := Aside0.mk (below_step HB.out hx); clear r7 hb hx HN GN cgY fgY)
    | (go_at_call 32; (with_reducible refine (q_rOf H4.out).mono ?_); rintro e w8 ⟨A8, c8, rfl, r8, hb⟩; have R8 := Aside0.mk r8; have KX := Aside0.mk (blk_below KX.out hb); have KY := Aside0.mk (blk_below KY.out hb); have RX := Aside0.mk (RX.out.b hb); have SX := Aside0.mk (SX.out.b hb); have RY := Aside0.mk (RY.out.b hb); have SY := Aside0.mk (SY.out.b hb); have R7 := Aside0.mk (R7.out.b hb); have HB := Aside0.mk (below_step HB.out hb); clear r8 hb)
    | (go_at_call 13; (refine (q_Even (R7.out.b (below_alloc (Below.refl _ _) _)) (RP.one 0 b4 R8.out) HF.out).mono ?_); rintro e w9 ⟨AZ, cZ, BZ, dZ, rfl, rZ, sZ, hb⟩; have hx := below_step (below_alloc (Below.refl _ _) _) hb; have KX := Aside0.mk (blk_below KX.out hx); have KY := Aside0.mk (blk_below KY.out hx); have RX := Aside0.mk (RX.out.b hx); have SX := Aside0.mk (SX.out.b hx); have RY := Aside0.mk (RY.out.b hx); have SY := Aside0.mk (SY.out.b hx); have HB := Aside0.mk (below_step HB.out hx); clear rZ sZ hb hx R7 R8)
    | ((with_reducible refine gate_dst (N := 5) rfl ?_); refine box_event ?hg (N := 5) ?hd (cs := #[.bool false, .slice none 0 0, .slice none 0 0]) (t := 27) ?hr ?_; (case hd => rfl); (case hg => rfl); (case hr => first | (go_simp; done) | (go_simp; rfl)); intro gZ hg w10 hbox hb; have KZ := Aside0.mk hbox; have HN := Aside0.mk hb; have GN := Aside0.mk (show w9.heap.size ≤ gZ by rw [hg]; exact Nat.le_refl _); have cgZ := blk_all hbox; have fgZ := frz_all hbox; clear hg hbox hb))
  have hx := below_drew1 (below_set3 HN.out GN.out (.bool zb) (.slice AZ zl.length cZ) (.slice BZ zp.length dZ))
  clear cgZ fgZ
  refine start_ (n := 4) (S := fun w' => ∀ i : Nat, w'.cell? ⟨gX, i, none⟩ = (#[.bool b5, .slice AX l5.length cX, .slice BX p5.length dX] : Array Value)[i]?) (ds := []) #[false, false, false, false] (by kernel_rfl) rfl rfl (blk_all (blk_below KX.out hx)) (fun hHeld => ?_)
  refine take_ (i := 0) (N := some 28) (v := ?_) (a' := ?_) #[true, false, false, false] rfl rfl (by kernel_rfl) (fun _ _ _ h => h) (Or.inl ⟨by rfl, ?_⟩) hHeld ?_ ?_
  rotate_left
  · intro w' s0
    go_simp
    with_reducible rfl
  rotate_left
  · simp only [Act.put, List.setIfInBounds_toArray, List.set_cons_zero, List.set_cons_succ, i64_w, i32_w]
    rfl
  refine one_ (i := 1) (N := some 29) #[true, true, false, false] rfl rfl (by kernel_rfl) (by decide) (fun K hK => ?_)
  refine goes_ Try.func39 (by kernel_rfl) rfl #[.int .i64 3, .int .i64 2, .int .i64 3] (by rfl) rfl rfl (by simp only [List.map_toArray, List.map_cons, List.map_nil]; rfl) ?_
  with_reducible refine (q_sum H5.out).mono ?_
  rintro e w11 ⟨A5, c5, B5, d5, rfl, r5, s5, hb⟩
  have hy := below_step hx hb
  have R5 := Aside0.mk r5; have S5 := Aside0.mk s5; have KX := Aside0.mk (blk_below KX.out hy); have KY := Aside0.mk (blk_below KY.out hy); have RX := Aside0.mk (RX.out.b hy); have SX := Aside0.mk (SX.out.b hy); have RY := Aside0.mk (RY.out.b hy); have SY := Aside0.mk (SY.out.b hy); have HB := Aside0.mk (below_step HB.out hy)
  clear r5 s5 hb hy hx
  refine ⟨_, rfl, ?_⟩
  refine hK.out _ _ (blk_all KX.out) (fun hHeld => ?_)
  clear hK K
  refine norm_ (a' := ?_) ?_ ?_
  rotate_left
  · show Act.put _ (some 29) _ = _
    simp only [Act.put, List.setIfInBounds_toArray, List.set_cons_zero, List.set_cons_succ, i64_w, i32_w]
    rfl
  refine one_ (i := 2) (N := some 30) #[true, true, true, false] rfl rfl (by kernel_rfl) (by decide) (fun K hK => ?_)
  refine goes_ Try.func15 (by kernel_rfl) rfl #[.agg #[.bool b5, .slice AX l5.length cX, .slice BX p5.length dX], .agg #[.bool b5, .slice A5 l5.length c5, .slice B5 p5.length d5]] (by rfl) rfl rfl (by simp only [List.map_toArray, List.map_cons, List.map_nil]; rfl) ?_
  with_reducible refine (q_Same RX.out SX.out R5.out S5.out H7.out).mono ?_
  rintro e w12 ⟨rfl, hb⟩
  have KX := Aside0.mk (blk_below KX.out hb); have KY := Aside0.mk (blk_below KY.out hb); have RX := Aside0.mk (RX.out.b hb); have SX := Aside0.mk (SX.out.b hb); have RY := Aside0.mk (RY.out.b hb); have SY := Aside0.mk (SY.out.b hb); have HB := Aside0.mk (below_step HB.out hb)
  clear hb
  refine ⟨_, rfl, ?_⟩
  refine hK.out _ _ (blk_all KX.out) (fun hHeld => ?_)
  clear hK K
  refine norm_ (a' := ?_) ?_ ?_
  rotate_left
  · show Act.put _ (some 30) _ = _
    simp only [Act.put, List.setIfInBounds_toArray, List.set_cons_zero, List.set_cons_succ, i64_w, i32_w]
    rfl
  refine pure_ (i := 3) (N := some 7) (v := ?_) (a' := ?_) #[true, true, true, true] rfl rfl (by kernel_rfl) (fun _ _ _ h => h) (Or.inl ⟨by rfl, ?_⟩) ?_ ?_
  rotate_left
  · intro w'
    go_simp
    with_reducible rfl
  rotate_left
  · simp only [Act.put, List.setIfInBounds_toArray, List.set_cons_zero, List.set_cons_succ, i64_w, i32_w]
    rfl
  refine done_ (by kernel_rfl) ?_

  go_wp2_with fail
  refine start_ (n := 4) (S := fun w' => ∀ i : Nat, w'.cell? ⟨gY, i, none⟩ = (#[.bool b6, .slice AY l6.length cY, .slice BY p6.length dY] : Array Value)[i]?) (ds := []) #[false, false, false, false] (by kernel_rfl) rfl rfl (blk_all KY.out) (fun hHeld => ?_)
  refine take_ (i := 0) (N := some 31) (v := ?_) (a' := ?_) #[true, false, false, false] rfl rfl (by kernel_rfl) (fun _ _ _ h => h) (Or.inl ⟨by rfl, ?_⟩) hHeld ?_ ?_
  rotate_left
  · intro w' s0
    go_simp
    with_reducible rfl
  rotate_left
  · simp only [Act.put, List.setIfInBounds_toArray, List.set_cons_zero, List.set_cons_succ, i64_w, i32_w]
    rfl
  refine one_ (i := 1) (N := some 32) #[true, true, false, false] rfl rfl (by kernel_rfl) (by decide) (fun K hK => ?_)
  refine goes_ Try.func39 (by kernel_rfl) rfl #[.int .i64 (-3), .int .i64 1, .int .i64 (-2)] (by rfl) rfl rfl (by simp only [List.map_toArray, List.map_cons, List.map_nil]; rfl) ?_
  with_reducible refine (q_sum H6.out).mono ?_
  rintro e w13 ⟨A6, c6, B6, d6, rfl, r6, s6, hb⟩
  have hy := below_step (below_drew1 (Below.refl w12.heap.size w12)) hb
  have R6 := Aside0.mk r6; have S6 := Aside0.mk s6; have KY := Aside0.mk (blk_below KY.out hy); have RY := Aside0.mk (RY.out.b hy); have SY := Aside0.mk (SY.out.b hy); have HB := Aside0.mk (below_step HB.out hy)
  clear r6 s6 hb hy
  refine ⟨_, rfl, ?_⟩
  refine hK.out _ _ (blk_all KY.out) (fun hHeld => ?_)
  clear hK K
  refine norm_ (a' := ?_) ?_ ?_
  rotate_left
  · show Act.put _ (some 32) _ = _
    simp only [Act.put, List.setIfInBounds_toArray, List.set_cons_zero, List.set_cons_succ, i64_w, i32_w]
    rfl
  refine one_ (i := 2) (N := some 33) #[true, true, true, false] rfl rfl (by kernel_rfl) (by decide) (fun K hK => ?_)
  refine goes_ Try.func15 (by kernel_rfl) rfl #[.agg #[.bool b6, .slice AY l6.length cY, .slice BY p6.length dY], .agg #[.bool b6, .slice A6 l6.length c6, .slice B6 p6.length d6]] (by rfl) rfl rfl (by simp only [List.map_toArray, List.map_cons, List.map_nil]; rfl) ?_
  with_reducible refine (q_Same RY.out SY.out R6.out S6.out H8.out).mono ?_
  rintro e w14 ⟨rfl, hb⟩
  have KY := Aside0.mk (blk_below KY.out hb); have HB := Aside0.mk (below_step HB.out hb)
  clear hb
  refine ⟨_, rfl, ?_⟩
  refine hK.out _ _ (blk_all KY.out) (fun hHeld => ?_)
  clear hK K
  refine norm_ (a' := ?_) ?_ ?_
  rotate_left
  · show Act.put _ (some 33) _ = _
    simp only [Act.put, List.setIfInBounds_toArray, List.set_cons_zero, List.set_cons_succ, i64_w, i32_w]
    rfl
  refine pure_ (i := 3) (N := some 8) (v := ?_) (a' := ?_) #[true, true, true, true] rfl rfl (by kernel_rfl) (fun _ _ _ h => h) (Or.inl ⟨by rfl, ?_⟩) ?_ ?_
  rotate_left
  · intro w'
    go_simp
    with_reducible rfl
  rotate_left
  · simp only [Act.put, List.setIfInBounds_toArray, List.set_cons_zero, List.set_cons_succ, i64_w, i32_w]
    rfl
  refine done_ (by kernel_rfl) ?_

  go_wp2
  go_ret
  exact ⟨rfl, by repeat first | exact HB.out | apply below_drew1⟩
end Go.Proofs.Ytdicjemjmlbmlaa.H
