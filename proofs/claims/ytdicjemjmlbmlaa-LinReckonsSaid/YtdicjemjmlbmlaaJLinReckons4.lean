/- Joined by wip/tools/shake.py for the claim of LinReckons: PAx8, LinB, LinG, HLTight, HLEven, PAx12, PAx10, NatR, HSameE, HRd, HLAt, HConM. -/
import Derived.Test.YtdicjemjmlbmlaaJLinReckons2
import Derived.Test.YtdicjemjmlbmlaaJLinReckons3
import Derived.StillTailTactics
import Derived.Deep.QuietTactic
import Derived.BigQuiet
import Derived.WalkKit
import Derived.KernelRfl
import Derived.Test.YtdicjemjmlbmlaaJLinReckons1
/- Written by a program of this session, wip/tools/patch_print.py, over the kit's print of the loaded functions. -/
namespace Go.Proofs.Ytdicjemjmlbmlaa.H
end Go.Proofs.Ytdicjemjmlbmlaa.H
namespace Go.Proofs.Ytdicjemjmlbmlaa.PA
open Go.RowKit Go.Proofs.YtdicjemjmlbmlaaW.PrintWords Go.Proofs.YtdicjemjmlbmlaaW.PrintLast Go.Proofs.YtdicjemjmlbmlaaW.PrintMore Go.Proofs.Ytdicjemjmlbmlaa.H
attribute [local go_sem] max2_int min2_int max_two min_two max_three min_three max_four min_four   -- for this text's walks alone
attribute [local go_sem] box_twice
set_option linter.unusedVariables false
set_option linter.unusedSimpArgs false

/-! ### lin_Scale: function 24 -/
def lin_Scale.l0 : Nat → List (S46) → Int → Int → Bool → List Int → Bool → List Int → List (S46) → Option (Bool × List Int × (List (S46)))
 | 0, _, _, _, _, _, _, _, _ => none
 | k + 1, x14, x15, x16, x434000, x434001, x440000, x440001, x440002 => if x16 < x15 then (if 0 ≤ x16 then (if x16 < (x14.length : Int) then ((whole_Mul.f k ((rd_T46 x14 x16).f1.f0) ((rd_T46 x14 x16).f1.f1) x434000 x434001).bind fun bt442 => (if x440002.length < 3518437208883 then (lin_Scale.l0 k x14 x15 (wrap64 (x16 + 1)) x434000 x434001 x440000 x440001 (x440002 ++ [(⟨(rd_T46 x14 x16).f0, (⟨bt442.1, bt442.2⟩ : S24)⟩ : S46)])) else (none))) else (none)) else (none)) else ((lin_Norm.f x440000 x440001 x440002).bind fun bt449 => (some (bt449.1, bt449.2.1, bt449.2.2)))
def lin_Scale.f (k : Nat) (a0_0 : Bool) (l0_1 : List Int) (l0_2 : List (S46)) (a1_0 : Bool) (l1_1 : List Int) : Option (Bool × List Int × (List (S46))) := (whole_Mul.f k a0_0 l0_1 a1_0 l1_1).bind fun bt435 => (lin_Scale.l0 k l0_2 (l0_2.length : Int) 0 a1_0 l1_1 bt435.1 bt435.2 ([] : List (S46)))
def lin_Scale.T5 : Bool × List (List Nat × List Nat) := (true, [([], []), ([0], [0]), ([], []), ([2], [2]), ([], []), ([4], [4]), ([], []), ([5, 6], [5, 6]), ([3, 7], [3, 7]), ([8], [8]), ([1, 9, 7], [1, 9]), ([0, 1, 2, 3, 4, 5, 6, 7, 8, 9, 10], []), ([11, 10, 10, 0, 1, 2, 3, 4, 5, 6, 7, 8, 9, 10], [10, 11])])
def lin_Scale.B5 : List Nat := [0, 1, 0, 4, 0, 16, 0, 112, 252, 508, 1023, 2047, 4095]
theorem lin_Scale.tab5 : rtab .any (opsOf Try.f24 5) = lin_Scale.T5 := by kernel_rfl
theorem lin_Scale.bits5 : waitsOk lin_Scale.T5.2 lin_Scale.B5 = true := by kernel_rfl
set_option maxHeartbeats 8000000 in
set_option maxRecDepth 100000 in
theorem lin_Scale.calls (k : Nat) (a0_0 : Bool) (A0_1 : Option Addr) (c0_1 : Nat) (l0_1 : List Int) (A0_2 : Option Addr) (c0_2 : Nat) (l0_2 : List (S46)) (a1_0 : Bool) (A1_1 : Option Addr) (c1_1 : Nat) (l1_1 : List Int) (r1 : Bool) (r2 : List Int) (r3 : List (S46)) (w : World) (hr0_1 : Kd.C (Kd.int .u32) w A0_1 l0_1.length l0_1) (hc0_1 : l0_1.length ≤ c0_1) (hr0_2 : Kd.C k46 w A0_2 l0_2.length l0_2) (hc0_2 : l0_2.length ≤ c0_2) (hr1_1 : Kd.C (Kd.int .u32) w A1_1 l1_1.length l1_1) (hc1_1 : l1_1.length ≤ c1_1) (h : lin_Scale.f k a0_0 l0_1 l0_2 a1_0 l1_1 = some (r1, r2, r3)) :
  Calls Try.prog 24 #[.agg #[.bool a0_0, .slice A0_1 l0_1.length c0_1, .slice A0_2 l0_2.length c0_2], .agg #[.bool a1_0, .slice A1_1 l1_1.length c1_1]] w fun e w' => ∃ v1_ v2_ : Value, e = .returned (.agg #[.bool r1, v1_, v2_]) ∧ Kd.R (Kd.int .u32) 81 w' w.heap.size (fun _ => True) v1_ r2 ∧ Kd.S k46 46 w' w.heap.size (fun k_ => some k_ ≠ (v1_ : Value).ownBlock) v2_ r3 ∧ Below w.heap.size w w' := by
 have hu27 := Try.underlying27
 have hu24 := Try.underlying24
 have hu46 := Try.underlying46
 have HR0_1 := Aside0.mk hr0_1
 have HC0_1 := Aside0.mk hc0_1
 clear hr0_1 hc0_1
 have HR0_2 := Aside0.mk hr0_2
 have HC0_2 := Aside0.mk hc0_2
 clear hr0_2 hc0_2
 have HR1_1 := Aside0.mk hr1_1
 have HC1_1 := Aside0.mk hc1_1
 clear hr1_1 hc1_1
 have HB := Aside0.mk (Below.refl w.heap.size w)
 have H : ((whole_Mul.f k a0_0 l0_1 a1_0 l1_1).bind fun bt435 => (lin_Scale.l0 k l0_2 (l0_2.length : Int) 0 a1_0 l1_1 bt435.1 bt435.2 ([] : List (S46)))) = some (r1, r2, r3) := h
 clear h
 obtain ⟨⟨t435, t436⟩, A30, H⟩ := Option.bind_eq_some_iff.mp H
 try dsimp only at H
 have A3 := Aside0.mk A30
 clear A30
 have H' := Aside0.mk H
 clear H
 go_enter Try.func24, Try.ntmps24
 go_wp2_with (first | ((with_reducible refine gate_dst (N := 2) rfl ?_); refine box_event ?hg (N := 2) ?hd (cs := #[.bool a0_0, .slice A0_1 l0_1.length c0_1, .slice A0_2 l0_2.length c0_2]) (t := 27) ?hr ?_; (case hd => rfl); (case hg => rfl); (case hr => first | (go_simp; done) | (go_simp; rfl)); intro gb432 hg w4 hbox hb; have BK432 := Aside0.mk (hbox); have GW432 := Aside0.mk (bxLe HB.out hg); have GE432 := GW432; replace HB := Aside0.mk (below_step HB.out hb); clear hb hbox hg) | ((with_reducible refine gate_dst (N := 3) rfl ?_); refine box_event ?hg (N := 3) ?hd (cs := #[.bool a1_0, .slice A1_1 l1_1.length c1_1]) (t := 24) ?hr ?_; (case hd => rfl); (case hg => rfl); (case hr => first | (go_simp; done) | (go_simp; rfl)); intro gb433 hg w5 hbox hb; have BK433 := Aside0.mk (hbox); have GW433 := Aside0.mk (bxLe HB.out hg); have GE433 := GW433; replace HB := Aside0.mk (below_step HB.out hb); have NB432_433 := Aside0.mk (neL BK432.out hg); have NB433_432 := Aside0.mk (neR BK432.out hg); replace BK432 := Aside0.mk (blk_below BK432.out hb); clear hb hbox hg) | ((with_reducible refine gate_dst (N := 4) rfl ?_); refine box_event ?hg (N := 4) ?hd (cs := #[.bool false, .slice none 0 0, .slice none 0 0]) (t := 27) ?hr ?_; (case hd => rfl); (case hg => rfl); (case hr => first | (go_simp; done) | (go_simp; rfl)); intro gb434 hg w6 hbox hb; have BK434 := Aside0.mk (hbox); have GW434 := Aside0.mk (bxLe HB.out hg); have GE434 := GW434; replace HB := Aside0.mk (below_step HB.out hb); have NB432_434 := Aside0.mk (neL BK432.out hg); have NB434_432 := Aside0.mk (neR BK432.out hg); replace BK432 := Aside0.mk (blk_below BK432.out hb); have NB433_434 := Aside0.mk (neL BK433.out hg); have NB434_433 := Aside0.mk (neR BK433.out hg); replace BK433 := Aside0.mk (blk_below BK433.out hb); clear hb hbox hg; have hnb7 := NB432_433.out; have hnc7 := NB433_432.out; have hnb8 := NB432_434.out; have hnc8 := NB434_432.out; have hcz9_0 : w6.cell? ⟨gb432, 0, none⟩ = some (.bool a0_0) := bc0 BK432.out; have hcz9_1 : w6.cell? ⟨gb432, 1, none⟩ = some (.slice A0_1 l0_1.length c0_1) := bc1 BK432.out; have hcz9_2 : w6.cell? ⟨gb432, 2, none⟩ = some (.slice A0_2 l0_2.length c0_2) := bc2 BK432.out; have hfz9_0 := blk_frozen BK432.out 0; have hfz9_1 := blk_frozen BK432.out 1; have hfz9_2 := blk_frozen BK432.out 2; have hnb10 := NB433_434.out; have hnc10 := NB434_433.out; have hcz11_0 : w6.cell? ⟨gb433, 0, none⟩ = some (.bool a1_0) := bc0 BK433.out; have hcz11_1 : w6.cell? ⟨gb433, 1, none⟩ = some (.slice A1_1 l1_1.length c1_1) := bc1 BK433.out; have hfz11_0 := blk_frozen BK433.out 0; have hfz11_1 := blk_frozen BK433.out 1) | ((with_reducible refine gate_callee (f := 35) rfl ?_); refine goL (some 11) Try.func35 [.agg #[.bool a0_0, .slice A0_1 l0_1.length c0_1], .agg #[.bool a1_0, .slice A1_1 l1_1.length c1_1]] ?_; (with_reducible refine (whole_Mul.calls k a0_0 _ _ l0_1 a1_0 _ _ l1_1 t435 t436 _ ?side1 ?side2 ?side3 ?side4 A3.out).mono ?_); (case side1 => exact (Kd.C_below HR0_1.out HB.out)); (case side2 => exact HC0_1.out); (case side3 => exact (Kd.C_below HR1_1.out HB.out)); (case side4 => exact HC1_1.out); rintro e w12 ⟨v437, rfl, ho0, hb⟩; refine ⟨_, rfl, ?_⟩; have HO438 := Aside0.mk (Kd.R_lower ho0 (below_size HB.out)); replace BK432 := Aside0.mk (blk_below BK432.out hb); replace BK433 := Aside0.mk (blk_below BK433.out hb); replace BK434 := Aside0.mk (blk_below BK434.out hb); replace HB := Aside0.mk (below_step HB.out hb); obtain ⟨Ao13, co13, eo13⟩ := Kd.R_slice HO438.out; subst eo13) | ((with_reducible refine gate_dst (N := 5) rfl ?_); refine box_event ?hg (N := 5) ?hd (cs := #[.bool false, .slice none 0 0, .slice none 0 0]) (t := 27) ?hr ?_; (case hd => rfl); (case hg => rfl); (case hr => first | (go_simp; done) | (go_simp; rfl)); intro gb439 hg w14 hbox hb; replace HO438 := Aside0.mk (Kd.R_below HO438.out hb); have BK439 := Aside0.mk (hbox); have GW439 := Aside0.mk (bxLe HB.out hg); have GE439 := GW439; replace HB := Aside0.mk (below_step HB.out hb); have NB432_439 := Aside0.mk (neL BK432.out hg); have NB439_432 := Aside0.mk (neR BK432.out hg); replace BK432 := Aside0.mk (blk_below BK432.out hb); have NB433_439 := Aside0.mk (neL BK433.out hg); have NB439_433 := Aside0.mk (neR BK433.out hg); replace BK433 := Aside0.mk (blk_below BK433.out hb); have NB434_439 := Aside0.mk (neL BK434.out hg); have NB439_434 := Aside0.mk (neR BK434.out hg); replace BK434 := Aside0.mk (blk_below BK434.out hb); clear hb hbox hg; have hnb15 := NB439_432.out; have hnc15 := NB432_439.out; have hnb16 := NB439_433.out; have hnc16 := NB433_439.out; have hnb17 := NB439_434.out; have hnc17 := NB434_439.out; have hcz18_0 : w14.cell? ⟨gb439, 0, none⟩ = some (.bool false) := bc0 BK439.out; have hcz18_1 : w14.cell? ⟨gb439, 1, none⟩ = some (.slice none 0 0) := bc1 BK439.out; have hcz18_2 : w14.cell? ⟨gb439, 2, none⟩ = some (.slice none 0 0) := bc2 BK439.out; have hfz18_0 := blk_frozen BK439.out 0; have hfz18_1 := blk_frozen BK439.out 1; have hfz18_2 := blk_frozen BK439.out 2; have hcz19_0 : w14.cell? ⟨gb432, 0, none⟩ = some (.bool a0_0) := bc0 BK432.out; have hcz19_1 : w14.cell? ⟨gb432, 1, none⟩ = some (.slice A0_1 l0_1.length c0_1) := bc1 BK432.out; have hcz19_2 : w14.cell? ⟨gb432, 2, none⟩ = some (.slice A0_2 l0_2.length c0_2) := bc2 BK432.out; have hfz19_0 := blk_frozen BK432.out 0; have hfz19_1 := blk_frozen BK432.out 1; have hfz19_2 := blk_frozen BK432.out 2))
 go_loopg [16] k (fun kq v16 w' => ∃ (x16_1 : Int) (x440002_1 : List (S46)) (u440002 : Value), v16 = .int .i64 x16_1 ∧ Aside0 (lin_Scale.l0 kq l0_2 (l0_2.length : Int) x16_1 a1_0 l1_1 t435 t436 x440002_1 = some (r1, r2, r3)) ∧ Aside0 (kq ≤ k) ∧ Aside0 (Kd.R (Kd.int .u32) 81 w' w.heap.size (fun _ => True) (.slice Ao13 t436.length co13) t436) ∧ Aside0 (Kd.S k46 46 w' w.heap.size (fun k_ => some k_ ≠ ((.slice Ao13 t436.length co13) : Value).ownBlock) u440002 x440002_1) ∧ Aside0 (w'.heap[gb432]? = some (.cells #[.bool a0_0, (.slice A0_1 l0_1.length c0_1), (.slice A0_2 l0_2.length c0_2)] 27 (0, 0))) ∧ Aside0 (w'.heap[gb433]? = some (.cells #[.bool a1_0, (.slice A1_1 l1_1.length c1_1)] 24 (0, 0))) ∧ Aside0 (w'.heap[gb434]? = some (.cells #[.bool false, (.slice none 0 0), (.slice none 0 0)] 27 (0, 0))) ∧ Aside0 (w'.heap[gb439]? = some (.cells #[.bool t435, (.slice Ao13 t436.length co13), u440002] 27 (0, 0))) ∧ Aside0 (Below w.heap.size w w'))
 case atStart => exact ⟨(0), (([] : List (S46))), (.slice none 0 0), (by first | rfl | (simp; done)), H', ⟨Nat.le_refl _⟩, ⟨Kd.R_mono (Kd.R_far (p := ⟨gb439, 2, none⟩) (Kd.R_far (p := ⟨gb439, 1, none⟩) (Kd.R_far (p := ⟨gb439, 0, none⟩) (Kd.R_types HO438.out BK439.out (by decide)) (fun _ hk => hk.2) (.bool t435)) (fun _ hk => hk.2) (.slice Ao13 t436.length co13)) (fun _ hk => hk.2) (.slice none 0 0)) (fun _ hk => trivial)⟩, ⟨by first | exact Kd.S_nil _ _ _ _ _ | exact Kd.N_nil _ _ _ _ _ | exact Kd.V_nil _ _ _ _ _ | exact Kd.Q_nil _ _ _ _ _ | exact Kd.R_nil _ _ _ _ _⟩, ⟨by refine blk_far ?_ NB432_439.out _; refine blk_far ?_ NB432_439.out _; refine blk_far ?_ NB432_439.out _; exact BK432.out⟩, ⟨by refine blk_far ?_ NB433_439.out _; refine blk_far ?_ NB433_439.out _; refine blk_far ?_ NB433_439.out _; exact BK433.out⟩, ⟨by refine blk_far ?_ NB434_439.out _; refine blk_far ?_ NB434_439.out _; refine blk_far ?_ NB434_439.out _; exact BK434.out⟩, ⟨by refine blk_put (cs := #[.bool t435, .slice Ao13 t436.length co13, .slice none 0 0]) ?_ 2 _ rfl; refine blk_put (cs := #[.bool t435, .slice none 0 0, .slice none 0 0]) ?_ 1 _ rfl; refine blk_put (cs := #[.bool false, .slice none 0 0, .slice none 0 0]) ?_ 0 _ rfl; exact BK439.out⟩, ⟨by repeat first | exact HB.out | refine bxSet ?_ (by assumption) | apply below_alloc | apply pw_below_drewN⟩⟩
 case round =>
  clear H'
  try clear c1
  try clear c2
  try clear p2
  try clear c3
  try clear c7
  try clear c8
  try clear c10
  try clear c15
  try clear c16
  try clear c17
  try clear hcz11_0
  try clear hcz11_1
  try clear hcz18_0
  try clear hcz18_1
  try clear hcz18_2
  try clear hcz19_0
  try clear hcz19_1
  try clear hcz19_2
  try clear hcz9_0
  try clear hcz9_1
  try clear hcz9_2
  try clear hfz11_0
  try clear hfz11_1
  try clear hfz18_0
  try clear hfz18_1
  try clear hfz18_2
  try clear hfz19_0
  try clear hfz19_1
  try clear hfz19_2
  try clear hfz9_0
  try clear hfz9_1
  try clear hfz9_2
  obtain ⟨x16_1, x440002_1, u440002, rfl, HA, HK1, HO_440001, HO_440002, BK432, BK433, BK434, BK439, HB⟩ := hrel
  cases gk with
  | zero => exact absurd HA.out (by simp [lin_Scale.l0])
  | succ k1 =>
   have H := HA.out
   clear HA
   simp only [lin_Scale.l0] at H
   by_cases c20 : x16_1 < (l0_2.length : Int)
   ·rw [if_pos c20] at H
    have c20b0 : decide (x16_1 < (l0_2.length : Int)) = true := decide_eq_true c20
    clear c20
    by_cases c21 : 0 ≤ x16_1
    ·rw [if_pos c21] at H
     have c21b0 : decide (0 ≤ x16_1) = true := decide_eq_true c21
     clear c21
     by_cases c22 : x16_1 < (l0_2.length : Int)
     ·rw [if_pos c22] at H
      have c22b0 : decide (x16_1 < (l0_2.length : Int)) = true := decide_eq_true c22
      clear c22
      obtain ⟨⟨t442, t443⟩, A230, H⟩ := Option.bind_eq_some_iff.mp H
      try dsimp only at H
      have A23 := Aside0.mk A230
      clear A230
      by_cases c24 : x440002_1.length < 3518437208883
      ·rw [if_pos c24] at H
       have LMc24 := Aside0.mk c24
       clear c24
       obtain ⟨y446, hy446⟩ : ∃ y_ : List (S46), y_ = (x440002_1 ++ [(⟨(rd_T46 l0_2 x16_1).f0, (⟨t442, t443⟩ : S24)⟩ : S46)]) := ⟨_, rfl⟩
       replace H : (lin_Scale.l0 k1 l0_2 (l0_2.length : Int) (wrap64 (x16_1 + 1)) a1_0 l1_1 t435 t436 y446) = some (r1, r2, r3) := by first | (rw [hy446]; with_reducible exact H) | (have H2_ := (Option.bind_some _ _).symm.trans H; rw [hy446]; with_reducible exact H2_) | (have H2_ := (Option.bind_some _ _).symm.trans H; with_reducible exact H2_) | with_reducible exact H | (rw [hy446]; exact H) | exact H
       have Ny446 := Aside0.mk hy446
       clear hy446
       have H' := Aside0.mk H
       clear H
       have p440 : 0 ≤ (x16_1 : Int) := of_decide_eq_true (by first | (with_reducible assumption) | assumption)
       have q440 : x16_1 < (l0_2.length : Int) := of_decide_eq_true (by first | (with_reducible assumption) | assumption)
       obtain ⟨ad440, A440_2, c440_2, e440, hx440_0, hx440_1, hx440_2, hl440_2, hi440_2⟩ := at_T46 HR0_2.out x16_1 p440 q440
       cases e440
       replace hx440_0 := (HB.out.cell (World.block_lt_of_cell? w _ hx440_0)).trans hx440_0
       replace hx440_1 := (HB.out.cell (World.block_lt_of_cell? w _ hx440_1)).trans hx440_1
       replace hx440_2 := (HB.out.cell (World.block_lt_of_cell? w _ hx440_2)).trans hx440_2
       have HR440_2 := Aside0.mk hi440_2
       have HC440_2 := Aside0.mk hl440_2
       clear hi440_2 hl440_2
       replace p440 := eq_true p440
       replace q440 := eq_true q440
       try go_wp2_with (first | ((with_reducible refine gate_dst (N := 7) rfl ?_); refine box_event ?hg (N := 7) ?hd (cs := #[.int .i64 0, .bool false, .slice none 0 0]) (t := 46) ?hr ?_; (case hd => rfl); (case hg => rfl); (case hr => first | (go_simp; done) | (go_simp; rfl)); intro gb441 hg w25 hbox hb; replace HO_440001 := Aside0.mk (Kd.R_below HO_440001.out hb); replace HO_440002 := Aside0.mk (Kd.S_below (Kd.S_elderB (by (with_reducible repeat (first | apply Kd.S_alloc | apply Kd.S_drewN | apply Kd.S_drew)); exact HO_440002.out) gb441 (Nat.le_of_eq hg.symm)) hb); have BK441 := Aside0.mk (hbox); have GW441 := Aside0.mk (bxLe HB.out hg); have GE441 := GW441; replace HB := Aside0.mk (below_step HB.out hb); have NB432_441 := Aside0.mk (neL BK432.out hg); have NB441_432 := Aside0.mk (neR BK432.out hg); replace BK432 := Aside0.mk (blk_below BK432.out hb); have NB433_441 := Aside0.mk (neL BK433.out hg); have NB441_433 := Aside0.mk (neR BK433.out hg); replace BK433 := Aside0.mk (blk_below BK433.out hb); have NB434_441 := Aside0.mk (neL BK434.out hg); have NB441_434 := Aside0.mk (neR BK434.out hg); replace BK434 := Aside0.mk (blk_below BK434.out hb); have NB439_441 := Aside0.mk (neL BK439.out hg); have NB441_439 := Aside0.mk (neR BK439.out hg); replace BK439 := Aside0.mk (blk_below BK439.out hb); clear hb hbox hg; have hnb26 := NB441_432.out; have hnc26 := NB432_441.out; have hnb27 := NB441_433.out; have hnc27 := NB433_441.out; have hnb28 := NB441_434.out; have hnc28 := NB434_441.out; have hnb29 := NB441_439.out; have hnc29 := NB439_441.out; have hcz30_0 : w25.cell? ⟨gb441, 0, none⟩ = some (.int .i64 0) := bc0 BK441.out; have hcz30_1 : w25.cell? ⟨gb441, 1, none⟩ = some (.bool false) := bc1 BK441.out; have hcz30_2 : w25.cell? ⟨gb441, 2, none⟩ = some (.slice none 0 0) := bc2 BK441.out; have hfz30_0 := blk_frozen BK441.out 0; have hfz30_1 := blk_frozen BK441.out 1; have hfz30_2 := blk_frozen BK441.out 2))
       have n0_ : Aside0 (Kd.R (Kd.int .u32) 81 (((w25.setCell ⟨gb441, 0, none⟩ (.int .i64 ((rd_T46 l0_2 x16_1).f0))).setCell ⟨gb441, 1, none⟩ (.bool ((rd_T46 l0_2 x16_1).f1.f0))).setCell ⟨gb441, 2, none⟩ (.slice A440_2 ((rd_T46 l0_2 x16_1).f1.f1).length c440_2)) w.heap.size (fun _ => True) (.slice Ao13 t436.length co13) t436) := ⟨Kd.R_mono (Kd.R_far (p := ⟨gb441, 2, none⟩) (Kd.R_far (p := ⟨gb441, 1, none⟩) (Kd.R_far (p := ⟨gb441, 0, none⟩) (Kd.R_types HO_440001.out BK441.out (by decide)) (fun _ hk => hk.2) (.int .i64 ((rd_T46 l0_2 x16_1).f0))) (fun _ hk => hk.2) (.bool ((rd_T46 l0_2 x16_1).f1.f0))) (fun _ hk => hk.2) (.slice A440_2 ((rd_T46 l0_2 x16_1).f1.f1).length c440_2)) (fun _ hk => trivial)⟩
       have n1_ : Aside0 (Kd.S k46 46 (((w25.setCell ⟨gb441, 0, none⟩ (.int .i64 ((rd_T46 l0_2 x16_1).f0))).setCell ⟨gb441, 1, none⟩ (.bool ((rd_T46 l0_2 x16_1).f1.f0))).setCell ⟨gb441, 2, none⟩ (.slice A440_2 ((rd_T46 l0_2 x16_1).f1.f1).length c440_2)) w.heap.size (fun k_ => some k_ ≠ (.slice Ao13 t436.length co13 : Value).ownBlock ∧ k_ ≠ gb441) u440002 x440002_1) := ⟨by (with_reducible repeat (first | apply Kd.S_alloc | apply Kd.S_drewN | apply Kd.S_drew)); exact Kd.S_mono (Kd.S_far (p := ⟨gb441, 2, none⟩) (Kd.S_far (p := ⟨gb441, 1, none⟩) (Kd.S_far (p := ⟨gb441, 0, none⟩) (Kd.S_mono HO_440002.out (fun k_ hk => (⟨hk, hk.2⟩ : _ ∧ k_ ≠ gb441))) (fun _ hk => hk.2) (.int .i64 ((rd_T46 l0_2 x16_1).f0))) (fun _ hk => hk.2) (.bool ((rd_T46 l0_2 x16_1).f1.f0))) (fun _ hk => hk.2) (.slice A440_2 ((rd_T46 l0_2 x16_1).f1.f1).length c440_2)) (fun _ hk => ⟨hk.1.1, hk.1.2⟩)⟩
       have n2_ : Aside0 ((((w25.setCell ⟨gb441, 0, none⟩ (.int .i64 ((rd_T46 l0_2 x16_1).f0))).setCell ⟨gb441, 1, none⟩ (.bool ((rd_T46 l0_2 x16_1).f1.f0))).setCell ⟨gb441, 2, none⟩ (.slice A440_2 ((rd_T46 l0_2 x16_1).f1.f1).length c440_2)).heap[gb432]? = some (.cells #[.bool a0_0, .slice A0_1 l0_1.length c0_1, .slice (some ad440) l0_2.length c0_2] 27 (0, 0))) := ⟨by refine blk_far ?_ NB432_441.out _; refine blk_far ?_ NB432_441.out _; refine blk_far ?_ NB432_441.out _; exact BK432.out⟩
       have n3_ : Aside0 ((((w25.setCell ⟨gb441, 0, none⟩ (.int .i64 ((rd_T46 l0_2 x16_1).f0))).setCell ⟨gb441, 1, none⟩ (.bool ((rd_T46 l0_2 x16_1).f1.f0))).setCell ⟨gb441, 2, none⟩ (.slice A440_2 ((rd_T46 l0_2 x16_1).f1.f1).length c440_2)).heap[gb433]? = some (.cells #[.bool a1_0, .slice A1_1 l1_1.length c1_1] 24 (0, 0))) := ⟨by refine blk_far ?_ NB433_441.out _; refine blk_far ?_ NB433_441.out _; refine blk_far ?_ NB433_441.out _; exact BK433.out⟩
       have n4_ : Aside0 ((((w25.setCell ⟨gb441, 0, none⟩ (.int .i64 ((rd_T46 l0_2 x16_1).f0))).setCell ⟨gb441, 1, none⟩ (.bool ((rd_T46 l0_2 x16_1).f1.f0))).setCell ⟨gb441, 2, none⟩ (.slice A440_2 ((rd_T46 l0_2 x16_1).f1.f1).length c440_2)).heap[gb434]? = some (.cells #[.bool false, .slice none 0 0, .slice none 0 0] 27 (0, 0))) := ⟨by refine blk_far ?_ NB434_441.out _; refine blk_far ?_ NB434_441.out _; refine blk_far ?_ NB434_441.out _; exact BK434.out⟩
       have n5_ : Aside0 ((((w25.setCell ⟨gb441, 0, none⟩ (.int .i64 ((rd_T46 l0_2 x16_1).f0))).setCell ⟨gb441, 1, none⟩ (.bool ((rd_T46 l0_2 x16_1).f1.f0))).setCell ⟨gb441, 2, none⟩ (.slice A440_2 ((rd_T46 l0_2 x16_1).f1.f1).length c440_2)).heap[gb439]? = some (.cells #[.bool t435, .slice Ao13 t436.length co13, u440002] 27 (0, 0))) := ⟨by refine blk_far ?_ NB439_441.out _; refine blk_far ?_ NB439_441.out _; refine blk_far ?_ NB439_441.out _; exact BK439.out⟩
       have n6_ : Aside0 ((((w25.setCell ⟨gb441, 0, none⟩ (.int .i64 ((rd_T46 l0_2 x16_1).f0))).setCell ⟨gb441, 1, none⟩ (.bool ((rd_T46 l0_2 x16_1).f1.f0))).setCell ⟨gb441, 2, none⟩ (.slice A440_2 ((rd_T46 l0_2 x16_1).f1.f1).length c440_2)).heap[gb441]? = some (.cells #[.int .i64 ((rd_T46 l0_2 x16_1).f0), .bool ((rd_T46 l0_2 x16_1).f1.f0), .slice A440_2 ((rd_T46 l0_2 x16_1).f1.f1).length c440_2] 46 (0, 0))) := ⟨by refine blk_put (cs := #[.int .i64 ((rd_T46 l0_2 x16_1).f0), .bool ((rd_T46 l0_2 x16_1).f1.f0), .slice none 0 0]) ?_ 2 _ rfl; refine blk_put (cs := #[.int .i64 ((rd_T46 l0_2 x16_1).f0), .bool false, .slice none 0 0]) ?_ 1 _ rfl; refine blk_put (cs := #[.int .i64 0, .bool false, .slice none 0 0]) ?_ 0 _ rfl; exact BK441.out⟩
       have n7_ : Aside0 (Below w.heap.size w (((w25.setCell ⟨gb441, 0, none⟩ (.int .i64 ((rd_T46 l0_2 x16_1).f0))).setCell ⟨gb441, 1, none⟩ (.bool ((rd_T46 l0_2 x16_1).f1.f0))).setCell ⟨gb441, 2, none⟩ (.slice A440_2 ((rd_T46 l0_2 x16_1).f1.f1).length c440_2))) := ⟨by repeat first | exact HB.out | refine bxSet ?_ (by assumption) | apply below_alloc | apply pw_below_drewN⟩
       (try clear HO_440001)
       (try clear HO_440002)
       (try clear BK432)
       (try clear BK433)
       (try clear BK434)
       (try clear BK439)
       (try clear BK441)
       (try clear HB)
       generalize (((w25.setCell ⟨gb441, 0, none⟩ (.int .i64 ((rd_T46 l0_2 x16_1).f0))).setCell ⟨gb441, 1, none⟩ (.bool ((rd_T46 l0_2 x16_1).f1.f0))).setCell ⟨gb441, 2, none⟩ (.slice A440_2 ((rd_T46 l0_2 x16_1).f1.f1).length c440_2)) = w31 at n0_ n1_ n2_ n3_ n4_ n5_ n6_ n7_ ⊢
       have HO_440001 := n0_
       have HO_440002 := n1_
       have BK432 := n2_
       have BK433 := n3_
       have BK434 := n4_
       have BK439 := n5_
       have BK441 := n6_
       have HB := n7_
       clear n0_ n1_ n2_ n3_ n4_ n5_ n6_ n7_
       replace HO_440001 := Aside0.mk (Kd.R_drew HO_440001.out)
       replace HO_440002 := Aside0.mk (Kd.S_drew HO_440002.out)
       replace BK432 := Aside0.mk (blk_drew BK432.out)
       replace BK433 := Aside0.mk (blk_drew BK433.out)
       replace BK434 := Aside0.mk (blk_drew BK434.out)
       replace BK439 := Aside0.mk (blk_drew BK439.out)
       replace BK441 := Aside0.mk (blk_drew BK441.out)
       replace HB := Aside0.mk (below_drew1 HB.out)
       refine start_ (n := 13) (S := fun w' => w'.cell? ⟨gb439, 0, none⟩ = some (.bool t435) ∧ w'.cell? ⟨gb439, 1, none⟩ = some (.slice Ao13 t436.length co13) ∧ w'.cell? ⟨gb439, 2, none⟩ = some (u440002) ∧ w'.cell? ⟨gb441, 0, none⟩ = some (.int .i64 ((rd_T46 l0_2 x16_1).f0)) ∧ w'.cell? ⟨gb441, 1, none⟩ = some (.bool ((rd_T46 l0_2 x16_1).f1.f0)) ∧ w'.cell? ⟨gb441, 2, none⟩ = some (.slice A440_2 ((rd_T46 l0_2 x16_1).f1.f1).length c440_2) ∧ w'.cell? ⟨gb433, 0, none⟩ = some (.bool a1_0) ∧ w'.cell? ⟨gb433, 1, none⟩ = some (.slice A1_1 l1_1.length c1_1)) (ds := [12]) #[false, false, false, false, false, false, false, false, false, false, false, false, false] (by kernel_rfl) rfl rfl ⟨bc0 BK439.out, bc1 BK439.out, bc2 BK439.out, bc0 BK441.out, bc1 BK441.out, bc2 BK441.out, bc0 BK433.out, bc1 BK433.out⟩ (fun hHeld => ?_); refine with_tabW lin_Scale.tab5 lin_Scale.bits5 (fun HT_ HW_ => ?_)
       generalize w31.drew = w32 at HO_440001 HO_440002 BK432 BK433 BK434 BK439 BK441 HB hHeld ⊢
       refine pure_ (i := 0) (N := some 20) (v := ?_) (a' := ?_) #[true, false, false, false, false, false, false, false, false, false, false, false, false] rfl rfl (any_of HT_.out (by kernel_rfl)) (fun _ _ _ h => h) (Or.inl ⟨by rfl, ?_⟩) ?_ ?_
       rotate_left
       ·intro w'
        go_simp
        with_reducible rfl
       rotate_left
       ·simp only [Act.put, List.setIfInBounds_toArray, List.set_cons_zero, List.set_cons_succ, i64_w, i32_w]
        rfl
       refine pure_ (i := 2) (N := some 22) (v := ?_) (a' := ?_) #[true, false, true, false, false, false, false, false, false, false, false, false, false] rfl rfl (any_of HT_.out (by kernel_rfl)) (fun _ _ _ h => h) (Or.inl ⟨by rfl, ?_⟩) ?_ ?_
       rotate_left
       ·intro w'
        go_simp
        with_reducible rfl
       rotate_left
       ·simp only [Act.put, List.setIfInBounds_toArray, List.set_cons_zero, List.set_cons_succ, i64_w, i32_w]
        rfl
       refine pure_ (i := 4) (N := some 24) (v := ?_) (a' := ?_) #[true, false, true, false, true, false, false, false, false, false, false, false, false] rfl rfl (any_of HT_.out (by kernel_rfl)) (fun _ _ _ h => h) (Or.inl ⟨by rfl, ?_⟩) ?_ ?_
       rotate_left
       ·intro w'
        go_simp
        with_reducible rfl
       rotate_left
       ·simp only [Act.put, List.setIfInBounds_toArray, List.set_cons_zero, List.set_cons_succ, i64_w, i32_w]
        rfl
       refine take_ (i := 1) (N := some 21) (v := ?_) (a' := ?_) #[true, true, true, false, true, false, false, false, false, false, false, false, false] rfl rfl (take_ofW HT_.out HW_.out (by kernel_rfl)) (fun _ _ _ h => h) (Or.inl ⟨by rfl, ?_⟩) hHeld ?_ ?_
       rotate_left
       ·rintro w' ⟨s0, s1, s2, s3, s4, s5, s6, s7⟩
        go_simp
        with_reducible rfl
       rotate_left
       ·simp only [Act.put, List.setIfInBounds_toArray, List.set_cons_zero, List.set_cons_succ, i64_w, i32_w]
        rfl
       refine take_ (i := 3) (N := some 23) (v := ?_) (a' := ?_) #[true, true, true, true, true, false, false, false, false, false, false, false, false] rfl rfl (take_ofW HT_.out HW_.out (by kernel_rfl)) (fun _ _ _ h => h) (Or.inl ⟨by rfl, ?_⟩) hHeld ?_ ?_
       rotate_left
       ·rintro w' ⟨s0, s1, s2, s3, s4, s5, s6, s7⟩
        go_simp
        with_reducible rfl
       rotate_left
       ·simp only [Act.put, List.setIfInBounds_toArray, List.set_cons_zero, List.set_cons_succ, i64_w, i32_w]
        rfl
       refine take_ (i := 5) (N := some 25) (v := ?_) (a' := ?_) #[true, true, true, true, true, true, false, false, false, false, false, false, false] rfl rfl (take_ofW HT_.out HW_.out (by kernel_rfl)) (fun _ _ _ h => h) (Or.inl ⟨by rfl, ?_⟩) hHeld ?_ ?_
       rotate_left
       ·rintro w' ⟨s0, s1, s2, s3, s4, s5, s6, s7⟩
        go_simp
        with_reducible rfl
       rotate_left
       ·simp only [Act.put, List.setIfInBounds_toArray, List.set_cons_zero, List.set_cons_succ, i64_w, i32_w]
        rfl
       refine take_ (i := 6) (N := some 26) (v := ?_) (a' := ?_) #[true, true, true, true, true, true, true, false, false, false, false, false, false] rfl rfl (take_ofW HT_.out HW_.out (by kernel_rfl)) (fun _ _ _ h => h) (Or.inl ⟨by rfl, ?_⟩) hHeld ?_ ?_
       rotate_left
       ·rintro w' ⟨s0, s1, s2, s3, s4, s5, s6, s7⟩
        go_simp
        with_reducible rfl
       rotate_left
       ·simp only [Act.put, List.setIfInBounds_toArray, List.set_cons_zero, List.set_cons_succ, i64_w, i32_w]
        rfl
       refine one_ (i := 7) (N := some 27) #[true, true, true, true, true, true, true, true, false, false, false, false, false] rfl rfl (one_of HT_.out (by kernel_rfl)) (by decide) (fun K hK => ?_)
       refine goR Try.func35 [.agg #[.bool ((rd_T46 l0_2 x16_1).f1.f0), .slice A440_2 ((rd_T46 l0_2 x16_1).f1.f1).length c440_2], .agg #[.bool a1_0, .slice A1_1 l1_1.length c1_1]] ?_
       with_reducible refine (whole_Mul.calls k1 ((rd_T46 l0_2 x16_1).f1.f0) _ _ ((rd_T46 l0_2 x16_1).f1.f1) a1_0 _ _ l1_1 t442 t443 _ ?side1 ?side2 ?side3 ?side4 A23.out).mono ?_
       (case side1 => exact (Kd.C_below HR440_2.out HB.out))
       (case side2 => exact HC440_2.out)
       (case side3 => exact (Kd.C_below HR1_1.out HB.out))
       (case side4 => exact HC1_1.out)
       rintro e w33 ⟨v444, rfl, ho0, hb⟩
       refine ⟨_, rfl, ?_⟩
       replace HO_440002 := Aside0.mk (Kd.S_elder' (by (with_reducible repeat (first | apply Kd.S_alloc | apply Kd.S_drewN | apply Kd.S_drew)); exact HO_440002.out) (Kd.R_base ho0) hb)
       have HO445 := Aside0.mk (Kd.R_lower (Kd.R_new' ho0 (Kd.R_lt HO_440001.out)) (below_size HB.out))
       replace HO_440001 := Aside0.mk (Kd.R_elder' HO_440001.out (Kd.R_base ho0) hb)
       replace BK432 := Aside0.mk (blk_below BK432.out hb)
       replace BK433 := Aside0.mk (blk_below BK433.out hb)
       replace BK434 := Aside0.mk (blk_below BK434.out hb)
       replace BK439 := Aside0.mk (blk_below BK439.out hb)
       replace BK441 := Aside0.mk (blk_below BK441.out hb)
       replace HB := Aside0.mk (below_step HB.out hb)
       (try clear hb)
       (try clear hb2)
       (try clear hk)
       (try clear hi)
       (try clear ho0)
       obtain ⟨Ao34, co34, eo34⟩ := Kd.R_slice HO445.out
       subst eo34
       refine hK.out _ _ ⟨bc0 BK439.out, bc1 BK439.out, bc2 BK439.out, bc0 BK441.out, bc1 BK441.out, bc2 BK441.out, bc0 BK433.out, bc1 BK433.out⟩ (fun hHeld => ?_)
       clear hK K
       refine norm_ (a' := ?_) ?_ ?_
       rotate_left
       ·show Act.put _ (some 27) _ = _
        simp only [Act.put, List.setIfInBounds_toArray, List.set_cons_zero, List.set_cons_succ, i64_w, i32_w]
        rfl
       refine pure_ (i := 8) (N := some 28) (v := ?_) (a' := ?_) #[true, true, true, true, true, true, true, true, true, false, false, false, false] rfl rfl (any_of HT_.out (by kernel_rfl)) (fun _ _ _ h => h) (Or.inl ⟨by rfl, ?_⟩) ?_ ?_
       rotate_left
       ·intro w'
        go_simp
        with_reducible rfl
       rotate_left
       ·simp only [Act.put, List.setIfInBounds_toArray, List.set_cons_zero, List.set_cons_succ, i64_w, i32_w]
        rfl
       refine one_ (i := 9) (N := some 29) #[true, true, true, true, true, true, true, true, true, true, false, false, false] rfl rfl (one_of HT_.out (by kernel_rfl)) (by decide) (fun K hK => ?_)
       refine value_ (w1 := ?_) (v := ?_) (by rfl) rfl ?_ ?_
       rotate_left 2
       ·go_simp
        constructor
        ·rfl
        ·rfl
       refine hK.out _ _ ⟨(blk_cell (blk_alloc BK439.out _) 0).trans rfl, (blk_cell (blk_alloc BK439.out _) 1).trans rfl, (blk_cell (blk_alloc BK439.out _) 2).trans rfl, (blk_cell (blk_alloc BK441.out _) 0).trans rfl, (blk_cell (blk_alloc BK441.out _) 1).trans rfl, (blk_cell (blk_alloc BK441.out _) 2).trans rfl, (blk_cell (blk_alloc BK433.out _) 0).trans rfl, (blk_cell (blk_alloc BK433.out _) 1).trans rfl⟩ (fun hHeld => ?_)
       clear hK K
       refine norm_ (a' := ?_) ?_ ?_
       rotate_left
       ·show Act.put _ (some 29) _ = _
        simp only [Act.put, List.setIfInBounds_toArray, List.set_cons_zero, List.set_cons_succ, i64_w, i32_w]
        rfl
       refine one_ (i := 10) (N := some 30) #[true, true, true, true, true, true, true, true, true, true, true, false, false] rfl rfl (one_of HT_.out (by kernel_rfl)) (by decide) (fun K hK => ?_)
       refine Kd.S_append_step k46 (w0 := w) w.heap.size (by rfl) (.tmp 21) (.tmp 29) 25 46 (.agg #[(.int .i64 0), (.bool false), (.slice none 0 0)]) 40 rfl Try.underlying25 info46 rfl (by decide) (by omega) u440002 x440002_1 (⟨(rd_T46 l0_2 x16_1).f0, (⟨t442, t443⟩ : S24)⟩ : S46) [.int .i64 ((rd_T46 l0_2 x16_1).f0), .bool t442, .slice Ao34 t443.length co34] (fun k_ => some k_ ≠ (.slice Ao13 t436.length co13 : Value).ownBlock ∧ k_ ≠ gb441) (fun k_ => some k_ = (.slice Ao34 t443.length co34 : Value).ownBlock) rfl rfl ?aP (fun k_ hk_ => ((Kd.R_mono (ok' := fun k_ => ((fun k_ => some k_ ≠ (.slice Ao13 t436.length co13 : Value).ownBlock ∧ k_ ≠ gb441)) k_ ∧ some k_ ≠ (u440002 : Value).ownBlock) (Kd.R_types (Kd.R_apart' (HO445.out) (Kd.S_typed HO_440002.out) (by decide)) BK441.out (by decide)) (fun k_ hk => ⟨⟨hk.1.1.2, hk.2⟩, hk.1.2⟩))).1 k_ hk_.symm) ?aF ?aO ?aB ?aS ?aL ?_
       (case aP => exact k46_mkM _ _ _ (⟨(rd_T46 l0_2 x16_1).f0, (⟨t442, t443⟩ : S24)⟩ : S46) (Kd.R_mono (Kd.R_tight rfl (Kd.R_mono (ok' := fun k_ => ((fun k_ => some k_ ≠ (.slice Ao13 t436.length co13 : Value).ownBlock ∧ k_ ≠ gb441)) k_ ∧ some k_ ≠ (u440002 : Value).ownBlock) (Kd.R_types (Kd.R_apart' (HO445.out) (Kd.S_typed HO_440002.out) (by decide)) BK441.out (by decide)) (fun k_ hk => ⟨⟨hk.1.1.2, hk.2⟩, hk.1.2⟩))) (fun _ h_ => h_)))
       (case aB => exact HB.out)
       (case aF => exact (fun k_ hk => ⟨Kd.fresh' (Kd.R_lt HO_440001.out) k_ hk, Kd.freshB BK441.out k_ hk⟩))
       (case aO => exact (by (with_reducible repeat (first | apply Kd.S_alloc | apply Kd.S_drewN | apply Kd.S_drew)); exact Kd.S_mono HO_440002.out (fun k_ hk => ⟨⟨hk.1.1, hk.1.2⟩, fun e_ => hk.2 e_⟩)))
       (case aS => exact (below_size HB.out))
       (case aL => have := LMc24.out; omega)
       intro v447 w35 ho hb hg hat
       rw [← Ny446.out] at ho
       have n0_ := Aside0.mk (Kd.R_over' HO_440001.out (Kd.S_typed (by (with_reducible repeat (first | apply Kd.S_alloc | apply Kd.S_drewN | apply Kd.S_drew)); exact HO_440002.out)) (by decide) hg)
       have n1_ := Aside0.mk (blk_grown BK432.out hg (Kd.S_ne HO_440002.out BK432.out (by decide)))
       have n2_ := Aside0.mk (blk_grown BK433.out hg (Kd.S_ne HO_440002.out BK433.out (by decide)))
       have n3_ := Aside0.mk (blk_grown BK434.out hg (Kd.S_ne HO_440002.out BK434.out (by decide)))
       have n4_ := Aside0.mk (blk_grown BK439.out hg (Kd.S_ne HO_440002.out BK439.out (by decide)))
       have n5_ := Aside0.mk (blk_grown BK441.out hg (Kd.S_away HO_440002.out (fun _ hk => hk.1.2)))
       have n6_ := Aside0.mk (hb)
       have n7_ := Aside0.mk (ho)
       clear HO_440001
       clear BK432
       clear BK433
       clear BK434
       clear BK439
       clear BK441
       clear HB
       clear HO_440002
       clear HO445
       have HO_440001 := n0_
       have BK432 := n1_
       have BK433 := n2_
       have BK434 := n3_
       have BK439 := n4_
       have BK441 := n5_
       have HB := n6_
       have HO448 := n7_
       clear n0_ n1_ n2_ n3_ n4_ n5_ n6_ n7_
       clear ho hb hg hat
       obtain ⟨Ao36, co36, eo36⟩ := Kd.S_slice HO448.out
       subst eo36
       refine hK.out _ _ ⟨bc0 BK439.out, bc1 BK439.out, bc2 BK439.out, bc0 BK441.out, bc1 BK441.out, bc2 BK441.out, bc0 BK433.out, bc1 BK433.out⟩ (fun hHeld => ?_)
       clear hK K
       refine norm_ (a' := ?_) ?_ ?_
       rotate_left
       ·show Act.put _ (some 30) _ = _
        simp only [Act.put, List.setIfInBounds_toArray, List.set_cons_zero, List.set_cons_succ, i64_w, i32_w]
        rfl
       refine pure_ (i := 11) (N := some 31) (v := ?_) (a' := ?_) #[true, true, true, true, true, true, true, true, true, true, true, true, false] rfl rfl (any_of HT_.out (by kernel_rfl)) (fun _ _ _ h => h) (Or.inl ⟨by rfl, ?_⟩) ?_ ?_
       rotate_left
       ·intro w'
        go_simp
        with_reducible rfl
       rotate_left
       ·simp only [Act.put, List.setIfInBounds_toArray, List.set_cons_zero, List.set_cons_succ, i64_w, i32_w]
        rfl
       refine last_ (i := 12) (N := none) #[true, true, true, true, true, true, true, true, true, true, true, true, true] rfl rfl (one_of HT_.out (by kernel_rfl)) (by decide) (fun K hK => ?_)
       have hs37 : w35.cell? ⟨gb439, 2, none⟩ = some (u440002) := bc2 BK439.out
       have hfs37 := blk_frozen BK439.out 2
       have hns37_0 := NB432_439.out
       have hns37_1 := NB433_439.out
       have hns37_2 := NB434_439.out
       have hns37_4 := NB441_439.out
       have hms37_0 := NB439_432.out
       have hms37_1 := NB439_433.out
       have hms37_2 := NB439_434.out
       have hms37_4 := NB439_441.out
       refine skip_ (w1 := ?_) (by rfl) rfl ?_ ?_
       rotate_left
       ·go_simp
        rfl
       refine hK.out _ _ ?_
       clear hK K
       refine done_ (done_of HT_.out (by kernel_rfl)) ?_
       try go_wp2
       go_roundg k1
       case measure => have := HK1.out; omega
       case rel => exact ⟨(wrap64 (x16_1 + 1)), (y446), (.slice Ao36 y446.length co36), (by first | rfl | (simp; done)), H', ⟨by have := HK1.out; omega⟩, ⟨Kd.R_mono (Kd.R_far (p := ⟨gb439, 2, none⟩) (Kd.R_types HO_440001.out BK439.out (by decide)) (fun _ hk => hk.2) (.slice Ao36 y446.length co36)) (fun _ hk => trivial)⟩, ⟨by (with_reducible repeat (first | apply Kd.S_alloc | apply Kd.S_drewN | apply Kd.S_drew)); exact Kd.S_mono (Kd.S_far (p := ⟨gb439, 2, none⟩) (Kd.S_types HO448.out BK439.out (by decide)) (fun _ hk => hk.2) (.slice Ao36 y446.length co36)) (fun _ hk => hk.1.1)⟩, ⟨by refine blk_far ?_ NB432_439.out _; exact BK432.out⟩, ⟨by refine blk_far ?_ NB433_439.out _; exact BK433.out⟩, ⟨by refine blk_far ?_ NB434_439.out _; exact BK434.out⟩, ⟨by refine blk_put (cs := #[.bool t435, .slice Ao13 t436.length co13, u440002]) ?_ 2 _ rfl; exact BK439.out⟩, ⟨by repeat first | exact HB.out | refine bxSet ?_ (by assumption) | apply below_alloc | apply pw_below_drewN⟩⟩
      ·rw [if_neg c24] at H
       exact absurd H (by simp)
     ·rw [if_neg c22] at H
      exact absurd H (by simp)
    ·rw [if_neg c21] at H
     exact absurd H (by simp)
   ·rw [if_neg c20] at H
    have c20b0 : decide (x16_1 < (l0_2.length : Int)) = false := decide_eq_false c20
    clear c20
    obtain ⟨⟨t449, t450, t453⟩, A380, H⟩ := Option.bind_eq_some_iff.mp H
    try dsimp only at H
    have A38 := Aside0.mk A380
    clear A380
    simp only [Option.some.injEq, Prod.mk.injEq] at H
    obtain ⟨rfl, rfl, rfl⟩ := H
    have hnb39 := NB439_432.out
    have hnc39 := NB432_439.out
    have hnb40 := NB439_433.out
    have hnc40 := NB433_439.out
    have hnb41 := NB439_434.out
    have hnc41 := NB434_439.out
    have hcz42_0 : wr.cell? ⟨gb439, 0, none⟩ = some (.bool t435) := bc0 BK439.out
    have hcz42_1 : wr.cell? ⟨gb439, 1, none⟩ = some (.slice Ao13 t436.length co13) := bc1 BK439.out
    have hcz42_2 : wr.cell? ⟨gb439, 2, none⟩ = some (u440002) := bc2 BK439.out
    have hfz42_0 := blk_frozen BK439.out 0
    have hfz42_1 := blk_frozen BK439.out 1
    have hfz42_2 := blk_frozen BK439.out 2
    obtain ⟨Ao43, co43, eo43⟩ := Kd.S_slice HO_440002.out
    subst eo43
    go_wp2_with (first | ((with_reducible refine gate_callee (f := 20) rfl ?_); refine goL (some 34) Try.func20 [.agg #[.bool t435, .slice Ao13 t436.length co13, .slice Ao43 x440002_1.length co43]] ?_; (with_reducible refine (lin_Norm.calls t435 _ _ t436 _ _ x440002_1 t449 t450 t453 _ ?side1 ?side2 ?side3 ?side4 A38.out).mono ?_); (case side1 => exact (Kd.R_reads' HO_440001.out).2.2); (case side2 => exact (Kd.R_reads' HO_440001.out).2.1); (case side3 => exact (Kd.S_reads' HO_440002.out).2.2); (case side4 => exact (Kd.S_reads' HO_440002.out).2.1); rintro e w44 ⟨v451, v454, rfl, ho0, ho1, hb⟩; refine ⟨_, rfl, ?_⟩; have HO452 := Aside0.mk (Kd.R_lower (Kd.R_new' ho0 (Kd.R_lt HO_440001.out)) (below_size HB.out)); have HO455 := Aside0.mk (Kd.S_lower (Kd.S_new' (Kd.S_new' ho1 (Kd.R_lt HO_440001.out)) (Kd.S_lt (by (with_reducible repeat (first | apply Kd.S_alloc | apply Kd.S_drewN | apply Kd.S_drew)); exact HO_440002.out))) (below_size HB.out)); replace BK434 := Aside0.mk (blk_below BK434.out hb); replace HB := Aside0.mk (below_step HB.out hb); (try clear ho1); have hnb45 := NB434_432.out; have hnc45 := NB432_434.out; have hnb46 := NB434_433.out; have hnc46 := NB433_434.out; have hcz47_0 : w44.cell? ⟨gb434, 0, none⟩ = some (.bool false) := bc0 BK434.out; have hcz47_1 : w44.cell? ⟨gb434, 1, none⟩ = some (.slice none 0 0) := bc1 BK434.out; have hcz47_2 : w44.cell? ⟨gb434, 2, none⟩ = some (.slice none 0 0) := bc2 BK434.out; have hfz47_0 := blk_frozen BK434.out 0; have hfz47_1 := blk_frozen BK434.out 1; have hfz47_2 := blk_frozen BK434.out 2; obtain ⟨Ao48, co48, eo48⟩ := Kd.R_slice HO452.out; subst eo48; obtain ⟨Ao49, co49, eo49⟩ := Kd.S_slice HO455.out; subst eo49))
    refine bodyPost_ret (results_cell_row rfl _ _ gb434 27 #[.bool t449, .slice Ao48 t450.length co48, .slice Ao49 t453.length co49] (0, 0) _ rfl (by refine blk_put (cs := #[.bool t449, .slice Ao48 t450.length co48, .slice none 0 0]) ?_ 2 _ rfl; refine blk_put (cs := #[.bool t449, .slice none 0 0, .slice none 0 0]) ?_ 1 _ rfl; refine blk_put (cs := #[.bool false, .slice none 0 0, .slice none 0 0]) ?_ 0 _ rfl; exact BK434.out) Try.underlying27 rfl (by kernel_rfl)) rfl ?_
    exact ⟨_, _, rfl, Kd.R_mono (Kd.R_far (p := ⟨gb434, 2, none⟩) (Kd.R_far (p := ⟨gb434, 1, none⟩) (Kd.R_far (p := ⟨gb434, 0, none⟩) (Kd.R_types HO452.out BK434.out (by decide)) (fun _ hk => hk.2) (.bool t449)) (fun _ hk => hk.2) (.slice Ao48 t450.length co48)) (fun _ hk => hk.2) (.slice Ao49 t453.length co49)) (fun _ hk => trivial), by (with_reducible repeat (first | apply Kd.S_alloc | apply Kd.S_drewN | apply Kd.S_drew)); exact Kd.S_mono (Kd.S_far (p := ⟨gb434, 2, none⟩) (Kd.S_far (p := ⟨gb434, 1, none⟩) (Kd.S_far (p := ⟨gb434, 0, none⟩) (Kd.S_types HO455.out BK434.out (by decide)) (fun _ hk => hk.2) (.bool t449)) (fun _ hk => hk.2) (.slice Ao48 t450.length co48)) (fun _ hk => hk.2) (.slice Ao49 t453.length co49)) (fun _ hk => hk.1.1.1), by repeat first | exact HB.out | refine bxSet ?_ (by assumption) | apply below_alloc | apply pw_below_drewN⟩

/-! ### lin_divisor: function 41 -/
def lin_divisor.l0 : Nat → List Int → List (S46) → Int → Int → Option (Bool × List Int)
 | 0, _, _, _, _ => none
 | k + 1, x3, x7, x8, x9 => if x9 < x8 then (if 0 ≤ x9 then (if x9 < (x7.length : Int) then ((nat_Gcd.f k x3 ((rd_T46 x7 x9).f1.f1)).bind fun t460 => (lin_divisor.l0 k t460 x7 x8 (wrap64 (x9 + 1)))) else (none)) else (none)) else (some (false, x3))
def lin_divisor.f (k : Nat) (a0_0 : Bool) (l0_1 : List Int) (l0_2 : List (S46)) : Option (Bool × List Int) := lin_divisor.l0 k ([] : List Int) l0_2 (l0_2.length : Int) 0
set_option maxHeartbeats 8000000 in
set_option maxRecDepth 100000 in
theorem lin_divisor.calls (k : Nat) (a0_0 : Bool) (A0_1 : Option Addr) (c0_1 : Nat) (l0_1 : List Int) (A0_2 : Option Addr) (c0_2 : Nat) (l0_2 : List (S46)) (r1 : Bool) (r2 : List Int) (w : World) (hr0_1 : Kd.C (Kd.int .u32) w A0_1 l0_1.length l0_1) (hc0_1 : l0_1.length ≤ c0_1) (hr0_2 : Kd.C k46 w A0_2 l0_2.length l0_2) (hc0_2 : l0_2.length ≤ c0_2) (h : lin_divisor.f k a0_0 l0_1 l0_2 = some (r1, r2)) :
  Calls Try.prog 41 #[.agg #[.bool a0_0, .slice A0_1 l0_1.length c0_1, .slice A0_2 l0_2.length c0_2]] w fun e w' => ∃ v1_ : Value, e = .returned (.agg #[.bool r1, v1_]) ∧ Kd.R (Kd.int .u32) 81 w' w.heap.size (fun _ => True) v1_ r2 ∧ Below w.heap.size w w' := by
 have hu27 := Try.underlying27
 have hu24 := Try.underlying24
 have hu46 := Try.underlying46
 have HR0_1 := Aside0.mk hr0_1
 have HC0_1 := Aside0.mk hc0_1
 clear hr0_1 hc0_1
 have HR0_2 := Aside0.mk hr0_2
 have HC0_2 := Aside0.mk hc0_2
 clear hr0_2 hc0_2
 have HB := Aside0.mk (Below.refl w.heap.size w)
 have H : (lin_divisor.l0 k ([] : List Int) l0_2 (l0_2.length : Int) 0) = some (r1, r2) := h
 clear h
 have H' := Aside0.mk H
 clear H
 go_enter Try.func41, Try.ntmps41
 go_wp2_with (first | ((with_reducible refine gate_dst (N := 1) rfl ?_); refine box_event ?hg (N := 1) ?hd (cs := #[.bool a0_0, .slice A0_1 l0_1.length c0_1, .slice A0_2 l0_2.length c0_2]) (t := 27) ?hr ?_; (case hd => rfl); (case hg => rfl); (case hr => first | (go_simp; done) | (go_simp; rfl)); intro gb456 hg w2 hbox hb; have BK456 := Aside0.mk (hbox); have GW456 := Aside0.mk (bxLe HB.out hg); have GE456 := GW456; replace HB := Aside0.mk (below_step HB.out hb); clear hb hbox hg) | ((with_reducible refine gate_dst (N := 2) rfl ?_); refine box_event ?hg (N := 2) ?hd (cs := #[.bool false, .slice none 0 0]) (t := 24) ?hr ?_; (case hd => rfl); (case hg => rfl); (case hr => first | (go_simp; done) | (go_simp; rfl)); intro gb457 hg w3 hbox hb; have BK457 := Aside0.mk (hbox); have GW457 := Aside0.mk (bxLe HB.out hg); have GE457 := GW457; replace HB := Aside0.mk (below_step HB.out hb); have NB456_457 := Aside0.mk (neL BK456.out hg); have NB457_456 := Aside0.mk (neR BK456.out hg); replace BK456 := Aside0.mk (blk_below BK456.out hb); clear hb hbox hg; have hnb4 := NB456_457.out; have hnc4 := NB457_456.out; have hcz5_0 : w3.cell? ⟨gb456, 0, none⟩ = some (.bool a0_0) := bc0 BK456.out; have hcz5_1 : w3.cell? ⟨gb456, 1, none⟩ = some (.slice A0_1 l0_1.length c0_1) := bc1 BK456.out; have hcz5_2 : w3.cell? ⟨gb456, 2, none⟩ = some (.slice A0_2 l0_2.length c0_2) := bc2 BK456.out; have hfz5_0 := blk_frozen BK456.out 0; have hfz5_1 := blk_frozen BK456.out 1; have hfz5_2 := blk_frozen BK456.out 2))
 go_loopg [3, 9] k (fun kq v3 v9 w' => ∃ (x3_1 : List Int) (x9_1 : Int), v9 = .int .i64 x9_1 ∧ Aside0 (lin_divisor.l0 kq x3_1 l0_2 (l0_2.length : Int) x9_1 = some (r1, r2)) ∧ Aside0 (kq ≤ k) ∧ Aside0 (Kd.R (Kd.int .u32) 81 w' w.heap.size (fun _ => True) v3 x3_1) ∧ Aside0 (w'.heap[gb456]? = some (.cells #[.bool a0_0, (.slice A0_1 l0_1.length c0_1), (.slice A0_2 l0_2.length c0_2)] 27 (0, 0))) ∧ Aside0 (w'.heap[gb457]? = some (.cells #[.bool false, (.slice none 0 0)] 24 (0, 0))) ∧ Aside0 (Below w.heap.size w w'))
 case atStart => exact ⟨(([] : List Int)), (0), (by first | rfl | (simp; done)), H', ⟨Nat.le_refl _⟩, ⟨by first | exact Kd.R_nil _ _ _ _ _ | exact Kd.N_nil _ _ _ _ _ | exact Kd.V_nil _ _ _ _ _ | exact Kd.Q_nil _ _ _ _ _ | exact Kd.S_nil _ _ _ _ _⟩, ⟨BK456.out⟩, ⟨BK457.out⟩, ⟨HB.out⟩⟩
 case round =>
  clear H'
  try clear p2
  try clear c4
  try clear hcz5_0
  try clear hcz5_1
  try clear hcz5_2
  try clear hfz5_0
  try clear hfz5_1
  try clear hfz5_2
  obtain ⟨x3_1, x9_1, rfl, HA, HK1, HO_3, BK456, BK457, HB⟩ := hrel
  cases gk with
  | zero => exact absurd HA.out (by simp [lin_divisor.l0])
  | succ k1 =>
   have H := HA.out
   clear HA
   simp only [lin_divisor.l0] at H
   by_cases c6 : x9_1 < (l0_2.length : Int)
   ·rw [if_pos c6] at H
    have c6b0 : decide (x9_1 < (l0_2.length : Int)) = true := decide_eq_true c6
    clear c6
    by_cases c7 : 0 ≤ x9_1
    ·rw [if_pos c7] at H
     have c7b0 : decide (0 ≤ x9_1) = true := decide_eq_true c7
     clear c7
     by_cases c8 : x9_1 < (l0_2.length : Int)
     ·rw [if_pos c8] at H
      have c8b0 : decide (x9_1 < (l0_2.length : Int)) = true := decide_eq_true c8
      clear c8
      obtain ⟨t460, A90, H⟩ := Option.bind_eq_some_iff.mp H
      try dsimp only at H
      have A9 := Aside0.mk A90
      clear A90
      have H' := Aside0.mk H
      clear H
      have p458 : 0 ≤ (x9_1 : Int) := of_decide_eq_true (by first | (with_reducible assumption) | assumption)
      have q458 : x9_1 < (l0_2.length : Int) := of_decide_eq_true (by first | (with_reducible assumption) | assumption)
      obtain ⟨ad458, A458_2, c458_2, e458, hx458_0, hx458_1, hx458_2, hl458_2, hi458_2⟩ := at_T46 HR0_2.out x9_1 p458 q458
      cases e458
      replace hx458_0 := (HB.out.cell (World.block_lt_of_cell? w _ hx458_0)).trans hx458_0
      replace hx458_1 := (HB.out.cell (World.block_lt_of_cell? w _ hx458_1)).trans hx458_1
      replace hx458_2 := (HB.out.cell (World.block_lt_of_cell? w _ hx458_2)).trans hx458_2
      have HR458_2 := Aside0.mk hi458_2
      have HC458_2 := Aside0.mk hl458_2
      clear hi458_2 hl458_2
      replace p458 := eq_true p458
      replace q458 := eq_true q458
      go_wp2_with (first | ((with_reducible refine gate_dst (N := 5) rfl ?_); refine box_event ?hg (N := 5) ?hd (cs := #[.int .i64 0, .bool false, .slice none 0 0]) (t := 46) ?hr ?_; (case hd => rfl); (case hg => rfl); (case hr => first | (go_simp; done) | (go_simp; rfl)); intro gb459 hg w10 hbox hb; replace HO_3 := Aside0.mk (Kd.R_below HO_3.out hb); have BK459 := Aside0.mk (hbox); have GW459 := Aside0.mk (bxLe HB.out hg); have GE459 := GW459; replace HB := Aside0.mk (below_step HB.out hb); have NB456_459 := Aside0.mk (neL BK456.out hg); have NB459_456 := Aside0.mk (neR BK456.out hg); replace BK456 := Aside0.mk (blk_below BK456.out hb); have NB457_459 := Aside0.mk (neL BK457.out hg); have NB459_457 := Aside0.mk (neR BK457.out hg); replace BK457 := Aside0.mk (blk_below BK457.out hb); clear hb hbox hg; have hnb11 := NB459_456.out; have hnc11 := NB456_459.out; have hnb12 := NB459_457.out; have hnc12 := NB457_459.out; have hcz13_0 : w10.cell? ⟨gb459, 0, none⟩ = some (.int .i64 0) := bc0 BK459.out; have hcz13_1 : w10.cell? ⟨gb459, 1, none⟩ = some (.bool false) := bc1 BK459.out; have hcz13_2 : w10.cell? ⟨gb459, 2, none⟩ = some (.slice none 0 0) := bc2 BK459.out; have hfz13_0 := blk_frozen BK459.out 0; have hfz13_1 := blk_frozen BK459.out 1; have hfz13_2 := blk_frozen BK459.out 2; obtain ⟨Ao14, co14, eo14⟩ := Kd.R_slice HO_3.out; subst eo14) | ((with_reducible refine gate_callee (f := 70) rfl ?_); refine goL (some 17) Try.func70 [.slice Ao14 x3_1.length co14, .slice A458_2 ((rd_T46 l0_2 x9_1).f1.f1).length c458_2] ?_; (with_reducible refine (nat_Gcd.calls k1 _ _ x3_1 _ _ ((rd_T46 l0_2 x9_1).f1.f1) t460 _ ?side1 ?side2 ?side3 ?side4 A9.out).mono ?_); (case side1 => refine (Kd.R_reads' (e := 81) (base := w.heap.size) (ok := fun k_ => True) (n := x3_1.length) (c := co14) ?_).2.2; exact (Kd.R_mono (Kd.R_far (p := ⟨gb459, 2, none⟩) (Kd.R_far (p := ⟨gb459, 1, none⟩) (Kd.R_far (p := ⟨gb459, 0, none⟩) (Kd.R_types HO_3.out BK459.out (by decide)) (fun _ hk => hk.2) (.int .i64 ((rd_T46 l0_2 x9_1).f0))) (fun _ hk => hk.2) (.bool ((rd_T46 l0_2 x9_1).f1.f0))) (fun _ hk => hk.2) (.slice A458_2 ((rd_T46 l0_2 x9_1).f1.f1).length c458_2)) (fun _ h_ => h_.1))); (case side2 => exact (Kd.R_reads' HO_3.out).2.1); (case side3 => exact Kd.C_below HR458_2.out (by repeat first | exact HB.out | refine bxSet ?_ (by assumption) | apply below_alloc | apply pw_below_drewN)); (case side4 => exact HC458_2.out); rintro e w15 ⟨v461, rfl, ho0, hb⟩; refine ⟨_, rfl, ?_⟩; have HO462 := Aside0.mk (Kd.R_lower (Kd.R_new' ho0 (Kd.R_lt (Kd.R_mono (Kd.R_far (p := ⟨gb459, 2, none⟩) (Kd.R_far (p := ⟨gb459, 1, none⟩) (Kd.R_far (p := ⟨gb459, 0, none⟩) (Kd.R_types HO_3.out BK459.out (by decide)) (fun _ hk => hk.2) (.int .i64 ((rd_T46 l0_2 x9_1).f0))) (fun _ hk => hk.2) (.bool ((rd_T46 l0_2 x9_1).f1.f0))) (fun _ hk => hk.2) (.slice A458_2 ((rd_T46 l0_2 x9_1).f1.f1).length c458_2)) (fun _ h_ => h_.1)))) (below_size (by repeat first | exact HB.out | refine bxSet ?_ (by assumption) | apply below_alloc | apply pw_below_drewN))); replace BK456 := Aside0.mk (blk_below (g := gb456) (o := .cells #[.bool a0_0, .slice A0_1 l0_1.length c0_1, .slice (some ad458) l0_2.length c0_2] 27 (0, 0)) (by refine blk_far ?_ NB456_459.out _; refine blk_far ?_ NB456_459.out _; refine blk_far ?_ NB456_459.out _; exact BK456.out) hb); replace BK457 := Aside0.mk (blk_below (g := gb457) (o := .cells #[.bool false, .slice none 0 0] 24 (0, 0)) (by refine blk_far ?_ NB457_459.out _; refine blk_far ?_ NB457_459.out _; refine blk_far ?_ NB457_459.out _; exact BK457.out) hb); replace HB := Aside0.mk (below_step (by repeat first | exact HB.out | refine bxSet ?_ (by assumption) | apply below_alloc | apply pw_below_drewN) hb)))
      go_roundg k1
      case measure => have := HK1.out; omega
      case rel => exact ⟨(t460), (wrap64 (x9_1 + 1)), (by first | rfl | (simp; done)), H', ⟨by have := HK1.out; omega⟩, ⟨Kd.R_mono HO462.out (fun _ hk => trivial)⟩, ⟨BK456.out⟩, ⟨BK457.out⟩, ⟨HB.out⟩⟩
     ·rw [if_neg c8] at H
      exact absurd H (by simp)
    ·rw [if_neg c7] at H
     exact absurd H (by simp)
   ·rw [if_neg c6] at H
    have c6b0 : decide (x9_1 < (l0_2.length : Int)) = false := decide_eq_false c6
    clear c6
    simp only [Option.some.injEq, Prod.mk.injEq] at H
    obtain ⟨rfl, rfl⟩ := H
    obtain ⟨Ao16, co16, eo16⟩ := Kd.R_slice HO_3.out
    subst eo16
    have hnb17 := NB457_456.out
    have hnc17 := NB456_457.out
    have hcz18_0 : wr.cell? ⟨gb457, 0, none⟩ = some (.bool false) := bc0 BK457.out
    have hcz18_1 : wr.cell? ⟨gb457, 1, none⟩ = some (.slice none 0 0) := bc1 BK457.out
    have hfz18_0 := blk_frozen BK457.out 0
    have hfz18_1 := blk_frozen BK457.out 1
    go_wp2
    refine bodyPost_ret (results_cell_row rfl _ _ gb457 24 #[.bool false, .slice Ao16 x3_1.length co16] (0, 0) _ rfl (by refine blk_put (cs := #[.bool false, .slice none 0 0]) ?_ 1 _ rfl; refine blk_put (cs := #[.bool false, .slice none 0 0]) ?_ 0 _ rfl; exact BK457.out) Try.underlying24 rfl (by kernel_rfl)) rfl ?_
    exact ⟨_, rfl, Kd.R_mono (Kd.R_far (p := ⟨gb457, 1, none⟩) (Kd.R_far (p := ⟨gb457, 0, none⟩) (Kd.R_types HO_3.out BK457.out (by decide)) (fun _ hk => hk.2) (.bool false)) (fun _ hk => hk.2) (.slice Ao16 x3_1.length co16)) (fun _ hk => trivial), by repeat first | exact HB.out | refine bxSet ?_ (by assumption) | apply below_alloc | apply pw_below_drewN⟩

end Go.Proofs.Ytdicjemjmlbmlaa.PA
/- What the functions of lin are, as sums of numbers. -/
namespace Go.Proofs.Ytdicjemjmlbmlaa.S
set_option linter.unusedVariables false
set_option linter.unusedSimpArgs false
open Go.RowKit Go.Proofs.Ytdicjemjmlbmlaa.V Go.Proofs.Ytdicjemjmlbmlaa.PA Go.Proofs.Ytdicjemjmlbmlaa.H Go.Proofs.YtdicjemjmlbmlaaW.PrintWords Go.Proofs.YtdicjemjmlbmlaaW.PrintLast Go.Proofs.YtdicjemjmlbmlaaW.PrintMore

/-! ### values -/
def dot (L : List (Int × Int)) : List (Int × Int) → Int
  | [] => 0
  | q :: r => q.2 * lookV q.1 L + dot L r
theorem valP_dot (L : List (Int × Int)) : ∀ (p : List (Int × Int)) (c : Int), valP c L p = c + dot L p
  | [], c => by simp [valP, dot]
  | q :: r, c => by rw [valP, valP_dot L r, dot]; omega
theorem dot_ins (L : List (Int × Int)) (v s : Int) : ∀ p : List (Int × Int), dot L (ins v s p) = dot L p + s * lookV v L
  | [] => by
    unfold ins
    split
    · rename_i h; subst h; simp [dot]
    · simp [dot]
  | (u, t) :: r => by
    unfold ins
    split
    · split
      · rename_i h; subst h; simp
      · simp only [dot]; omega
    · split
      · rename_i h; subst h
        split
        · rename_i h2
          have : t * lookV v L + s * lookV v L = 0 := by rw [← Int.add_mul, h2, Int.zero_mul]
          simp only [dot]; omega
        · simp only [dot]; rw [Int.add_mul]; omega
      · simp only [dot]; rw [dot_ins L v s r]; omega
theorem dot_fold (L : List (Int × Int)) : ∀ (p a : List (Int × Int)), dot L (p.foldl (fun a q => ins q.1 q.2 a) a) = dot L a + dot L p
  | [], a => by simp [dot]
  | q :: r, a => by rw [List.foldl_cons, dot_fold L r, dot_ins, dot]; omega
theorem dot_norm (L p : List (Int × Int)) : dot L (normP p) = dot L p := by rw [normP, dot_fold]; simp [dot]
theorem dot_scale (L : List (Int × Int)) (z : Int) : ∀ p : List (Int × Int), dot L (p.map fun x => (x.1, x.2 * z)) = dot L p * z
  | [] => by simp [dot]
  | q :: r => by
    rw [List.map_cons]; simp only [dot]
    rw [dot_scale L z r, Int.add_mul, Int.mul_right_comm]
/-! ### the parts, in their own form -/
theorem rdM (l : List S46) (i : Nat) (h : i < l.length) : rd_T46 l (i : Int) = l[i] := by unfold rd_T46; rw [Int.toNat_natCast]; simp [h]
theorem prM_enP (q : Int × Int) : prM (enP q) = q := by show (q.1, wv (W q.2).1 (W q.2).2) = q; rw [wv_W]
theorem map_enP (p : List (Int × Int)) : (p.map enP).map prM = p := by
  rw [List.map_map]
  exact (List.map_congr_left (fun q _ => prM_enP q)).trans (List.map_id p)
theorem wnext {i : Nat} (h : i ≤ 1000000000000) : wrap64 ((i : Int) + 1) = ((i + 1 : Nat) : Int) := by unfold wrap64; omega
def BQ (n : Nat) (p : List (Int × Int)) : Prop := ∀ x ∈ p, B n x.2
theorem BQ.mono {m n : Nat} {p : List (Int × Int)} (h : BQ m p) (hm : m ≤ n) : BQ n p := fun x hx => (h x hx).mono hm
theorem limB_mk {l : List Int} (h : Lim l) (hn : l.length ≤ 1000000) : limB l = true := by
  unfold limB
  rw [Bool.and_eq_true, decide_eq_true_eq, List.all_eq_true]
  refine ⟨hn, fun x hx => ?_⟩
  have := h x hx
  rw [Bool.and_eq_true, decide_eq_true_eq, decide_eq_true_eq]
  omega
theorem limB_W {z : Int} (h : B 1000000 z) : limB (W z).2 = true := limB_mk (W_lim z) h.len
theorem allB (p : List (Int × Int)) (h : BQ 1000000 p) : (p.map enP).all (fun x => limB x.f1.f1) = true := by
  rw [List.all_eq_true]
  intro x hx
  obtain ⟨q, hq, rfl⟩ := List.mem_map.1 hx
  exact limB_W (h q hq)
/-- A sum of numbers as its own form lies. -/
def SU (c : Int) (p : List (Int × Int)) : Bool × List Int × List S46 := ((W c).1, (W c).2, p.map enP)
/-- What comes in: small enough. -/
structure Small (m n : Nat) (l1 : List Int) (l2 : List S46) : Prop where
  lim : Lim l1
  len : l1.length ≤ n
  num : l2.length ≤ m
  each : ∀ x ∈ l2, Lim x.f1.f1 ∧ x.f1.f1.length ≤ n
theorem Small.guard {m n : Nat} {l1 : List Int} {l2 : List S46} (h : Small m n l1 l2) (hm : m ≤ 1000000) (hn : n ≤ 1000000) : guardL l1 l2 = true := by
  have h1 := h.len
  have h2 := h.num
  unfold guardL
  rw [limB_mk h.lim (by omega), decide_eq_true (show l2.length ≤ 1000000 by omega), Bool.true_and, Bool.true_and, List.all_eq_true]
  exact fun x hx => limB_mk (h.each x hx).1 (by have := (h.each x hx).2; omega)
theorem Small.all {m n : Nat} {l1 : List Int} {l2 : List S46} (h : Small m n l1 l2) (hm : m ≤ 1000000) (hn : n ≤ 1000000) : l2.all (fun x => limB x.f1.f1) = true := by
  rw [List.all_eq_true]
  exact fun x hx => limB_mk (h.each x hx).1 (by have := (h.each x hx).2; omega)
theorem Small.bq {m n : Nat} {l1 : List Int} {l2 : List S46} (h : Small m n l1 l2) : BQ n (l2.map prM) := fun x hx => by
  obtain ⟨y, hy, rfl⟩ := List.mem_map.1 hx
  exact (B_in y.f1.f0 (h.each y hy).1).mono (h.each y hy).2
theorem Small.b {m n : Nat} {l1 : List Int} {l2 : List S46} (h : Small m n l1 l2) (b : Bool) : B n (wv b l1) := (B_in b h.lim).mono h.len
theorem small_SU {m n : Nat} {c : Int} {p : List (Int × Int)} (hc : B n c) (hp : p.length ≤ m) (hq : BQ n p) : Small m n (W c).2 (p.map enP) := by
  refine ⟨W_lim c, hc.len, by rw [List.length_map]; exact hp, fun x hx => ?_⟩
  obtain ⟨q, hq', rfl⟩ := List.mem_map.1 hx
  exact ⟨W_lim _, (hq q hq').len⟩
theorem lnorm_ev {m n : Nat} {l1 : List Int} {l2 : List S46} (h : Small m n l1 l2) (hm : m ≤ 1000000) (hn : n ≤ 1000000) (b : Bool) : lin_Norm.f b l1 l2 = some (SU (wv b l1) (normP (l2.map prM))) := by
  unfold lin_Norm.f
  rw [if_pos (h.guard hm hn)]; rfl
theorem lvalue_ev {m n m' n' : Nat} {l1 : List Int} {l2 l : List S46} {l1' : List Int} (h : Small m n l1 l2) (hm : m ≤ 1000000) (hn : n ≤ 1000000) (h' : Small m' n' l1' l) (hm' : m' ≤ 1000000) (hn' : n' ≤ 1000000) (b : Bool) : lin_Value.f b l1 l2 l = some (W (wv b l1 + dot (l.map prM) (l2.map prM))) := by
  unfold lin_Value.f guardV
  have := h'.num
  rw [h.guard hm hn, decide_eq_true (show l.length ≤ 1000000 by omega), h'.all hm' hn', valP_dot]; rfl
theorem B0 : B 0 0 := by unfold B az; simp [dig, digN]
theorem coef_B {n : Nat} : ∀ (p : List (Int × Int)) (v : Int), BQ n p → B (n + p.length) (coef p v)
  | [], v, _ => B0.mono (by omega)
  | q :: r, v, h => by
    have h1 := coef_B r v (fun x hx => h x (List.mem_cons_of_mem _ hx))
    have h2 : B n (if q.1 = v then q.2 else 0) := by
      split
      · exact h q List.mem_cons_self
      · exact B0.mono (by omega)
    unfold coef
    exact ((h2.mono (by omega)).add h1).mono (by simp only [List.length_cons]; omega)
theorem form_coef : ∀ {p : List (Int × Int)}, Form p → ∀ x ∈ p, coef p x.1 = x.2
  | [], _, x, hx => by cases hx
  | q :: r, h, x, hx => by
    obtain ⟨h1, h2, h3⟩ := h
    unfold coef
    rcases List.mem_cons.1 hx with rfl | hx
    · rw [if_pos rfl, coef_none r x.1 (fun y hy => by have := h2 y hy; omega)]; omega
    · have := h2 x hx
      rw [if_neg (by omega), form_coef h3 x hx]; omega
theorem norm_B {n : Nat} {p : List (Int × Int)} (h : BQ n p) : BQ (n + p.length) (normP p) := fun x hx => by
  have h1 := form_coef (form_norm p) x hx
  rw [coef_norm] at h1
  rw [← h1]
  exact coef_B p x.1 h
theorem form_ne : ∀ {p : List (Int × Int)}, Form p → ∀ x ∈ p, x.2 ≠ 0
  | [], _, x, hx => by cases hx
  | q :: r, h, x, hx => by
    rcases List.mem_cons.1 hx with rfl | hx
    · exact h.1
    · exact form_ne h.2.2 x hx

/-! ### the divisor -/
def gP (g : Int) (p : List (Int × Int)) : Int := p.foldl (fun g x => gcdI g (az x.2)) g
theorem gcdI_nonneg (a b : Int) : 0 ≤ gcdI a b := by unfold gcdI; omega
theorem gcdI_left (a b : Int) (ha : 0 ≤ a) : gcdI a b ∣ a := by
  unfold gcdI
  have h := Nat.gcd_dvd_left a.toNat b.toNat
  have : ((Nat.gcd a.toNat b.toNat : Nat) : Int) ∣ ((a.toNat : Nat) : Int) := Int.ofNat_dvd.2 h
  rwa [Int.toNat_of_nonneg ha] at this
theorem gcdI_right (a b : Int) (hb : 0 ≤ b) : gcdI a b ∣ b := by
  unfold gcdI
  have h := Nat.gcd_dvd_right a.toNat b.toNat
  have : ((Nat.gcd a.toNat b.toNat : Nat) : Int) ∣ ((b.toNat : Nat) : Int) := Int.ofNat_dvd.2 h
  rwa [Int.toNat_of_nonneg hb] at this
theorem az_dvd {g z : Int} (h : g ∣ az z) : g ∣ z := by
  unfold az at h
  split at h
  · exact (Int.dvd_neg).1 h
  · exact h
theorem gP_dvd : ∀ (p : List (Int × Int)) (g : Int), 0 ≤ g → 0 ≤ gP g p ∧ gP g p ∣ g ∧ ∀ x ∈ p, gP g p ∣ x.2
  | [], g, h => ⟨h, Int.dvd_refl g, by simp⟩
  | q :: r, g, h => by
    obtain ⟨h1, h2, h3⟩ := gP_dvd r (gcdI g (az q.2)) (gcdI_nonneg _ _)
    refine ⟨h1, Int.dvd_trans h2 (gcdI_left _ _ h), fun x hx => ?_⟩
    rcases List.mem_cons.1 hx with rfl | hx
    · exact az_dvd (Int.dvd_trans h2 (gcdI_right _ _ (az_nonneg _)))
    · exact h3 x hx
theorem gP_pos {p : List (Int × Int)} (hp : p ≠ []) (h : ∀ x ∈ p, x.2 ≠ 0) : 0 < gP 0 p := by
  obtain ⟨h1, _, h3⟩ := gP_dvd p 0 (Int.le_refl 0)
  obtain ⟨x, hx⟩ := List.exists_mem_of_ne_nil p hp
  have h4 := h3 x hx
  have h5 := h x hx
  rcases Int.lt_or_eq_of_le h1 with h6 | h6
  · exact h6
  · rw [← h6] at h4
    exact absurd (Int.zero_dvd.1 h4) h5
theorem dvd_az {g z : Int} (h : g ∣ z) : g ∣ az z := by
  unfold az
  split
  · exact (Int.dvd_neg).2 h
  · exact h
theorem gP_B {n : Nat} {p : List (Int × Int)} (hp : p ≠ []) (h : ∀ x ∈ p, x.2 ≠ 0) (hb : BQ n p) : B n (gP 0 p) := by
  obtain ⟨h1, _, h3⟩ := gP_dvd p 0 (Int.le_refl 0)
  obtain ⟨x, hx⟩ := List.exists_mem_of_ne_nil p hp
  refine (hb x hx).le ?_
  have h4 : az (gP 0 p) = gP 0 p := by unfold az; rw [if_neg (by omega)]
  rw [h4]
  refine Int.le_of_dvd ?_ (dvd_az (h3 x hx))
  have := h x hx
  unfold az
  split <;> omega
theorem gP_one {p : List (Int × Int)} (hp : p ≠ []) (h : ∀ x ∈ p, x.2 ≠ 0) (h1 : ∀ x ∈ p, az x.2 < 4294967296) : az (gP 0 p) < 4294967296 := by
  obtain ⟨a, _, c⟩ := gP_dvd p 0 (Int.le_refl 0)
  cases p with
  | nil => exact absurd rfl hp
  | cons y r =>
    have h2 := Int.le_of_dvd (by have := az_nonneg y.2; have := h y List.mem_cons_self; unfold az at *; split <;> omega) (dvd_az (c y List.mem_cons_self))
    have h3 := h1 y List.mem_cons_self
    have e : az (gP 0 (y :: r)) = gP 0 (y :: r) := by unfold az; rw [if_neg (by omega)]
    omega
theorem div_l0 (p : List (Int × Int)) (hl : p.length ≤ 1000000) (n : Nat) (hn : n ≤ 1000000) (hb : BQ n p) (h1x : ∀ x ∈ p, az x.2 < 4294967296) : ∀ d i (g : Int), i + d = p.length → 0 ≤ g → B n g → (g = 0 ∨ True) → Ev (fun k => lin_divisor.l0 k (dig g) (p.map enP) ((p.map enP).length : Int) (i : Int)) (false, dig (gP g (p.drop i))) := by
  intro d
  induction d with
  | zero =>
    intro i g hi h0 hg _
    refine Ev.step (fun k => by rw [lin_divisor.l0]) (evN (by rw [List.length_map]; omega) (evR ?_))
    rw [List.drop_eq_nil_of_le (by omega)]; rfl
  | succ d ih =>
    intro i g hi h0 hg _
    have hi' : i < p.length := by omega
    have hi2 : i < (p.map enP).length := by rw [List.length_map]; omega
    refine Ev.step (fun k => by rw [lin_divisor.l0]) (evP (by omega) (evP (by omega) (evP (by omega) ?_)))
    rw [rdM _ i hi2, List.getElem_map]
    have hq := hb p[i] (List.getElem_mem hi')
    have hag : az g = g := by unfold az; rw [if_neg (by omega)]
    have hgl : (dig g).length ≤ n := by have := hg; unfold B at this; rwa [hag] at this
    have e1 := gcd_ev (dig g) (W p[i].2).2 (dig_lim _) (W_lim _) (by omega) (by have := hq.len; omega) (by rw [val_W]; exact h1x _ (List.getElem_mem hi'))
    rw [val_dig h0, val_W] at e1
    refine Ev.bind e1 ?_
    rw [wnext (by omega), List.drop_eq_getElem_cons hi']
    refine ih (i + 1) (gcdI g (az p[i].2)) (by omega) (gcdI_nonneg _ _) ?_ (.inr trivial)
    by_cases hz : az p[i].2 = 0
    · rw [hz, gcdI_zero g h0]; exact hg
    · refine hq.le ?_
      have h5 : az (gcdI g (az p[i].2)) = gcdI g (az p[i].2) := by have := gcdI_nonneg g (az p[i].2); unfold az; rw [if_neg (by unfold az at this; omega)]
      rw [h5]
      exact Int.le_of_dvd (by have := az_nonneg p[i].2; omega) (gcdI_right _ _ (az_nonneg _))
theorem div_ev {n : Nat} (p : List (Int × Int)) (hl : p.length ≤ 1000000) (hn : n ≤ 1000000) (hb : BQ n p) (h1x : ∀ x ∈ p, az x.2 < 4294967296) (b : Bool) (l : List Int) : Ev (fun k => lin_divisor.f k b l (p.map enP)) (false, dig (gP 0 p)) := by
  have := div_l0 p hl n hn hb h1x p.length 0 0 (by omega) (Int.le_refl 0) (B0.mono (by omega)) (.inr trivial)
  rw [show dig 0 = [] by simp [dig, digN]] at this
  exact this
end Go.Proofs.Ytdicjemjmlbmlaa.S
/- Scale; what tight and even claims are. -/
namespace Go.Proofs.Ytdicjemjmlbmlaa.S
set_option linter.unusedVariables false
set_option linter.unusedSimpArgs false
open Go.RowKit Go.Proofs.Ytdicjemjmlbmlaa.V Go.Proofs.Ytdicjemjmlbmlaa.PA Go.Proofs.Ytdicjemjmlbmlaa.H Go.Proofs.YtdicjemjmlbmlaaW.PrintWords Go.Proofs.YtdicjemjmlbmlaaW.PrintLast Go.Proofs.YtdicjemjmlbmlaaW.PrintMore

theorem Small.mono {m n m' n' : Nat} {l1 : List Int} {l2 : List S46} (h : Small m n l1 l2) (hm : m ≤ m') (hn : n ≤ n') : Small m' n' l1 l2 :=
  ⟨h.lim, Nat.le_trans h.len hn, Nat.le_trans h.num hm, fun x hx => ⟨(h.each x hx).1, Nat.le_trans (h.each x hx).2 hn⟩⟩
/-! ### so many times -/
def scP (z : Int) (p : List (Int × Int)) : List (Int × Int) := p.map fun x => (x.1, x.2 * z)
theorem scP_B {m n : Nat} {z : Int} {p : List (Int × Int)} (h : BQ m p) (hz : B n z) : BQ (m + n) (scP z p) := fun x hx => by
  obtain ⟨y, hy, rfl⟩ := List.mem_map.1 hx
  exact (h y hy).mul hz
theorem scale_l0 {m n : Nat} {l1 : List Int} {l2 : List S46} (h : Small m n l1 l2) (hm : m ≤ 100000) (hn : n ≤ 100000) (b2 : Bool) (l3 : List Int) (h3 : Lim l3) (n3 : l3.length ≤ 100000) (c : Int) (hc : B 1000000 c) :
    ∀ d i, i + d = l2.length → Ev (fun k => lin_Scale.l0 k l2 (l2.length : Int) (i : Int) b2 l3 (W c).1 (W c).2 (((scP (wv b2 l3) (l2.map prM)).take i).map enP)) (SU c (normP (scP (wv b2 l3) (l2.map prM)))) := by
  have hlen := h.num
  intro d
  induction d with
  | zero =>
    intro i hi
    refine Ev.step (fun k => by rw [lin_Scale.l0]) (evN (by omega) ?_)
    have e1 : (scP (wv b2 l3) (l2.map prM)).take i = scP (wv b2 l3) (l2.map prM) := List.take_of_length_le (by unfold scP; rw [List.length_map, List.length_map]; omega)
    rw [e1]
    have hs : Small 1000000 1000000 (W c).2 ((scP (wv b2 l3) (l2.map prM)).map enP) := small_SU hc (by unfold scP; rw [List.length_map, List.length_map]; omega) ((scP_B h.bq ((B_in b2 h3).mono n3)).mono (by omega))
    have := lnorm_ev hs (by omega) (by omega) (W c).1
    rw [wv_W, map_enP] at this
    exact evC this (evR rfl)
  | succ d ih =>
    intro i hi
    have hi' : i < l2.length := by omega
    refine Ev.step (fun k => by rw [lin_Scale.l0]) (evP (by omega) (evP (by omega) (evP (by omega) ?_)))
    rw [rdM l2 i hi']
    obtain ⟨h5, h6⟩ := h.each _ (List.getElem_mem hi')
    refine Ev.bind (wMul_ev l2[i].f1.f0 b2 l2[i].f1.f1 l3 h5 h3 (by omega) (by omega)) (evP (by rw [List.length_map, List.length_take]; omega) ?_)
    rw [wnext (by omega)]
    have e2 : (scP (wv b2 l3) (l2.map prM)).take (i + 1) = (scP (wv b2 l3) (l2.map prM)).take i ++ [((prM l2[i]).1, (prM l2[i]).2 * wv b2 l3)] := by
      rw [List.take_add_one]
      congr 1
      unfold scP
      rw [List.getElem?_map, List.getElem?_map, List.getElem?_eq_getElem hi']; rfl
    have := ih (i + 1) (by omega)
    rw [e2, List.map_append] at this
    exact this
theorem scale_ev {m n : Nat} {l1 : List Int} {l2 : List S46} (h : Small m n l1 l2) (hm : m ≤ 100000) (hn : n ≤ 100000) (b b2 : Bool) (l3 : List Int) (h3 : Lim l3) (n3 : l3.length ≤ 100000) :
    Ev (fun k => lin_Scale.f k b l1 l2 b2 l3) (SU (wv b l1 * wv b2 l3) (normP (scP (wv b2 l3) (l2.map prM)))) := by
  have h1 := h.len
  refine Ev.congr (fun k => rfl) (Ev.bind (wMul_ev b b2 l1 l3 h.lim h3 (by omega) (by omega)) ?_)
  exact scale_l0 h hm hn b2 l3 h3 n3 _ (((h.b b).mul (B_in b2 h3)).mono (by omega)) l2.length 0 (by omega)

/-! ### tight and even -/
def partP (g : Int) (p : List (Int × Int)) : List (Int × Int) := p.map fun x => (x.1, x.2 / g)
theorem az_div (x g : Int) (hg : 0 < g) : az (x / g) ≤ az x := by
  have h1 := Int.mul_ediv_add_emod x g
  have h2 := Int.emod_nonneg x (Int.ne_of_gt hg)
  have h3 := Int.emod_lt_of_pos x hg
  unfold az
  by_cases hx : x < 0
  · rw [if_pos hx]
    have h4 : x / g < 0 := Int.ediv_neg_of_neg_of_pos hx hg
    rw [if_pos h4]
    have h5 : x ≤ x / g := by
      refine (Int.le_ediv_iff_mul_le hg).2 ?_
      have : x * g ≤ x * 1 := Int.mul_le_mul_of_nonpos_left (by omega) (by omega)
      omega
    omega
  · rw [if_neg hx]
    have h4 : 0 ≤ x / g := Int.ediv_nonneg (by omega) (by omega)
    rw [if_neg (by omega)]
    exact Int.ediv_le_self g (by omega)
theorem B_div {n : Nat} {x g : Int} (h : B n x) (hg : 0 < g) : B n (x / g) := h.le (az_div x g hg)
theorem partP_B {n : Nat} {g : Int} {p : List (Int × Int)} (h : BQ n p) (hg : 0 < g) : BQ n (partP g p) := fun x hx => by
  obtain ⟨y, hy, rfl⟩ := List.mem_map.1 hx
  exact B_div (h y hy) hg
theorem wv_dig {g : Int} (h : 0 ≤ g) : wv false (dig g) = g := by unfold wv; rw [if_neg Bool.false_ne_true, val_dig h]
theorem B_pos {n : Nat} {g : Int} (h : 0 ≤ g) (hb : B n g) : (dig g).length ≤ n := by
  unfold B az at hb
  rwa [if_neg (by omega)] at hb
theorem by_ev {q : List (Int × Int)} (hl : q.length ≤ 1000000) (hb : BQ 1000000 q) {g : Int} (hg : 0 < g) (hB : B 1000000 g) (h1g : az g < 4294967296) (b b2 : Bool) (l l3 : List Int) : lin_by.f b l (q.map enP) false (dig g) b2 l3 = some (b2, l3, (partP g q).map enP) := by
  unfold lin_by.f guardB
  rw [wv_dig (Int.le_of_lt hg), limB_mk (dig_lim g) (B_pos (Int.le_of_lt hg) hB), decide_eq_true (show g ≠ 0 by omega), decide_eq_true (show (q.map enP).length ≤ 1000000 by rw [List.length_map]; exact hl), allB q hb, decide_eq_true h1g]
  show some (b2, l3, _) = some (b2, l3, _)
  congr 3
  rw [List.map_map]
  unfold partP
  rw [List.map_map]
  refine List.map_congr_left (fun x _ => ?_)
  show quoM g (prM (enP x)) = enP (x.1, x.2 / g)
  rw [prM_enP]; rfl
def tightP (c : Int) (q : List (Int × Int)) : Int × List (Int × Int) × Int := if q = [] then (c, [], if c < 0 then -1 else 1) else (c / gP 0 q, partP (gP 0 q) q, 0)
def evenP (c : Int) : List (Int × Int) → Int × List (Int × Int) × Int
  | [] => (c, [], if c = 0 then 1 else -1)
  | y :: r => if c % gP 0 (y :: r) = 0 then (if y.2 / gP 0 (y :: r) < 0 then (c / gP 0 (y :: r) * (-1), normP (scP (-1) (partP (gP 0 (y :: r)) (y :: r))), 0) else (c / gP 0 (y :: r), partP (gP 0 (y :: r)) (y :: r), 0)) else (c, y :: r, -1)
def OU (t : Int × List (Int × Int) × Int) : Bool × List Int × List S46 × Int := ((W t.1).1, (W t.1).2, t.2.1.map enP, t.2.2)
theorem norm_small {m n : Nat} {l1 : List Int} {l2 : List S46} (h : Small m n l1 l2) : (normP (l2.map prM)).length ≤ m ∧ BQ (n + m) (normP (l2.map prM)) := by
  have h1 := h.num
  have h2 := norm_len (l2.map prM)
  have h3 := norm_B h.bq
  rw [List.length_map] at h2 h3
  exact ⟨by omega, h3.mono (by omega)⟩
end Go.Proofs.Ytdicjemjmlbmlaa.S
/- lin.Tight, by its numbers. -/
namespace Go.Proofs.Ytdicjemjmlbmlaa.H
set_option linter.unusedSimpArgs false
set_option linter.unusedVariables false
open Go.RowKit Go.Proofs.YtdicjemjmlbmlaaW.PrintWords Go.Proofs.YtdicjemjmlbmlaaW.PrintLast Go.Proofs.YtdicjemjmlbmlaaW.PrintMore Go.Proofs.Ytdicjemjmlbmlaa.PA Go.Proofs.Ytdicjemjmlbmlaa.V Go.Proofs.Ytdicjemjmlbmlaa.S
attribute [local go_sem] box_twice
def limT (l : List Int) : Bool := limB l && decide (l.length ≤ 10000)
def guardT (l1 : List Int) (l2 : List S46) : Bool := limT l1 && decide (l2.length ≤ 10000) && l2.all (fun x => limT x.f1.f1) && (normP (l2.map prM)).all (fun x => decide (az x.2 < 4294967296))
theorem guardT_small {l1 : List Int} {l2 : List S46} (h : guardT l1 l2 = true) : Small 10000 10000 l1 l2 := by
  unfold guardT limT at h
  rw [Bool.and_eq_true] at h
  replace h := h.1
  rw [Bool.and_eq_true, Bool.and_eq_true, Bool.and_eq_true, decide_eq_true_eq, decide_eq_true_eq, List.all_eq_true] at h
  obtain ⟨⟨⟨h1, h2⟩, h3⟩, h4⟩ := h
  refine ⟨(limB_of h1).2, h2, h3, fun x hx => ?_⟩
  have := h4 x hx
  rw [Bool.and_eq_true, decide_eq_true_eq] at this
  exact ⟨(limB_of this.1).2, this.2⟩
theorem guardT_one {l1 : List Int} {l2 : List S46} (h : guardT l1 l2 = true) : ∀ x ∈ normP (l2.map prM), az x.2 < 4294967296 := by
  unfold guardT at h
  rw [Bool.and_eq_true, List.all_eq_true] at h
  exact fun x hx => of_decide_eq_true (h.2 x hx)
/-- A sum's two rows through stores into boxes. -/
theorem out_lin {w w1 : World} {base : Nat} {ok ok' : Nat → Prop} {v1 v2 : Value} {l1 : List Int} {l2 : List S46} (hr : Kd.R (Kd.int .u32) 81 w base ok v1 l1) (hs : Kd.S k46 46 w base ok' v2 l2)
    (hm : ∀ (k : Nat) (cells : Array Value) (t : Nat), t = 81 ∨ t = 46 → w.heap[k]? = some (Obj.cells cells t (0, 0)) → w1.heap[k]? = w.heap[k]?) :
    Kd.V (Kd.int .u32) 81 w1 base (fun k_ => base ≤ k_ ∧ some k_ ≠ v2.ownBlock) v1 l1 ∧ Kd.S k46 46 w1 base (fun k_ => base ≤ k_) v2 l2 := by
  have hty := Kd.S_typed hs
  refine ⟨?_, ?_⟩
  · refine Kd.V_mono (Kd.R_V (Kd.R_move (Kd.R_bound hr) (fun k hk => ?_))) (fun k hk => ⟨hk.2.1, fun e => ?_⟩)
    · obtain ⟨_, _, _, q, hq, cells, hc⟩ := hk
      rcases List.mem_cons.1 hq with rfl | hq
      · exact hm k cells _ (.inl rfl) hc
      · cases hq
    · obtain ⟨_, _, _, q, hq, cells, hc⟩ := hk
      obtain ⟨c2, hc2⟩ := hty k e.symm
      rw [hc] at hc2
      injection hc2 with hc2
      injection hc2 with _ hc2
      rcases List.mem_cons.1 hq with rfl | hq
      · exact absurd hc2 (by decide)
      · cases hq
  · refine Kd.S_mono (Kd.S_move (Kd.S_bound hs) (fun k hk => ?_)) (fun k hk => hk.2.1)
    obtain ⟨_, _, _, q, hq, cells, hc⟩ := hk
    have hq : q ∈ [46, 81] := hq
    rcases List.mem_cons.1 hq with rfl | hq
    · exact hm k cells _ (.inr rfl) hc
    · rw [List.mem_singleton.1 hq] at hc
      exact hm k cells _ (.inl rfl) hc
def lin_Tight.f (b : Bool) (l1 : List Int) (l2 : List S46) : Option (Bool × List Int × List S46 × Int) := if guardT l1 l2 = true then some (OU (tightP (wv b l1) (normP (l2.map prM)))) else none
set_option maxHeartbeats 8000000 in
set_option maxRecDepth 100000 in
theorem lin_Tight.calls (a0_0 : Bool) (A0_1 : Option Addr) (c0_1 : Nat) (l0_1 : List Int) (A0_2 : Option Addr) (c0_2 : Nat) (l0_2 : List (S46)) (r1 : Bool) (r2 : List Int) (r3 : List (S46)) (r4 : Int) (w : World) (hr0_1 : Kd.C (Kd.int .u32) w A0_1 l0_1.length l0_1) (hc0_1 : l0_1.length ≤ c0_1) (hr0_2 : Kd.C k46 w A0_2 l0_2.length l0_2) (hc0_2 : l0_2.length ≤ c0_2) (h : lin_Tight.f a0_0 l0_1 l0_2 = some (r1, r2, r3, r4)) :
    Calls Try.prog 11 #[.agg #[.bool a0_0, .slice A0_1 l0_1.length c0_1, .slice A0_2 l0_2.length c0_2]] w fun e w' => ∃ v1_ v2_ : Value, e = .returned (.tuple #[.agg #[.bool r1, v1_, v2_], .int .i64 r4]) ∧ Kd.V (Kd.int .u32) 81 w' w.heap.size (fun k_ => w.heap.size ≤ k_ ∧ some k_ ≠ (v2_ : Value).ownBlock) v1_ r2 ∧ Kd.S k46 46 w' w.heap.size (fun k_ => w.heap.size ≤ k_) v2_ r3 ∧ Below w.heap.size w w' := by
  have mixed : Try.prog.follows Departure.mixedOrders = true := by kernel_rfl
  have hu27 := Try.underlying27
  have hu24 := Try.underlying24
  have hu46 := Try.underlying46
  unfold lin_Tight.f at h
  split at h
  case isFalse => cases h
  case isTrue hg =>
  have hs := guardT_small hg
  have h1x := guardT_one hg
  have hN := lnorm_ev hs (by omega) (by omega) a0_0
  obtain ⟨hq1, hq2⟩ := norm_small hs
  have hcB := hs.b a0_0
  have hf := form_norm (l0_2.map prM)
  have HR1 := Aside0.mk hr0_1
  have HC1 := Aside0.mk hc0_1
  have HR2 := Aside0.mk hr0_2
  have HC2 := Aside0.mk hc0_2
  generalize normP (l0_2.map prM) = q at *
  generalize wv a0_0 l0_1 = c at *
  have hsg := wSign_ev (W c).1 (W c).2 (W_lim c) (by have := hcB.len; omega)
  rw [wv_W] at hsg
  have hOU := Option.some.inj h
  have hN2 : lin_Norm.f a0_0 l0_1 l0_2 = some ((W c).1, (W c).2, q.map enP) := hN
  clear hr0_1 hc0_1 hr0_2 hc0_2 hN h hg
  by_cases hq : q = []
  · subst hq
    rw [show tightP c [] = (c, [], if c < 0 then -1 else 1) from rfl] at hOU
    have hOU2 : ((W c).1, (W c).2, ([] : List S46), if c < 0 then (-1 : Int) else 1) = (r1, r2, r3, r4) := hOU
    have hN3 : lin_Norm.f a0_0 l0_1 l0_2 = some ((W c).1, (W c).2, []) := hN2
    have hcc : (sg c < 0) ↔ (c < 0) := sg_neg c
    generalize (W c).1 = nb at *
    generalize (W c).2 = nl at *
    generalize sg c = s at *
    have HN := Aside0.mk hN3
    have HSG := Aside0.mk hsg
    simp only [Prod.mk.injEq] at hOU2
    obtain ⟨rfl, rfl, rfl, hr4⟩ := hOU2
    have hd : (r4 = -1 ∧ decide (s < 0) = true) ∨ (r4 = 1 ∧ decide (s < 0) = false) := by
      by_cases hc : c < 0
      · rw [if_pos hc] at hr4
        exact .inl ⟨hr4.symm, decide_eq_true (hcc.2 hc)⟩
      · rw [if_neg hc] at hr4
        exact .inr ⟨hr4.symm, decide_eq_false (fun e => hc (hcc.1 e))⟩
    clear hcB hf hq1 hq2 hOU hN2 hN3 hsg hcc hs hr4 h1x
    rcases hd with ⟨rfl, d1⟩ | ⟨rfl, d1⟩
    all_goals go_enter Try.func11, Try.ntmps11
    all_goals go_wp2_with (first
        | ((with_reducible refine gate_dst (N := 1) rfl ?_); refine box_event ?hg (N := 1) ?hd (cs := #[.bool a0_0, .slice A0_1 l0_1.length c0_1, .slice A0_2 l0_2.length c0_2]) (t := 27) ?hr ?_; (case hd => rfl); (case hg => rfl); (case hr => first | (go_simp; done) | (go_simp; rfl)); intro gA hgA w1 hbox hb; have BA1 := Aside0.mk hbox; have GA := Aside0.mk (show w.heap.size ≤ gA by rw [hgA]; exact Nat.le_refl _); have HB1 := Aside0.mk hb; clear hgA hbox hb)
        | ((with_reducible refine gate_dst (N := 2) rfl ?_); refine box_event ?hg (N := 2) ?hd (cs := #[.bool false, .slice none 0 0, .slice none 0 0]) (t := 27) ?hr ?_; (case hd => rfl); (case hg => rfl); (case hr => first | (go_simp; done) | (go_simp; rfl)); intro gR hgR w2 hbox hb; have BR2 := Aside0.mk hbox; have BA2 := Aside0.mk (blk_below BA1.out hb); have GR := Aside0.mk (show w.heap.size ≤ gR by rw [hgR]; exact below_size HB1.out); have NAR := Aside0.mk (show gA ≠ gR by rw [hgR]; exact Nat.ne_of_lt (blk_lt BA1.out)); have HB2 := Aside0.mk (below_step HB1.out hb); clear hgR hbox hb; have hcA0 : w2.cell? ⟨gA, 0, none⟩ = some (.bool a0_0) := (blk_cell BA2.out 0).trans rfl; have hcA1 : w2.cell? ⟨gA, 1, none⟩ = some (.slice A0_1 l0_1.length c0_1) := (blk_cell BA2.out 1).trans rfl; have hcA2 : w2.cell? ⟨gA, 2, none⟩ = some (.slice A0_2 l0_2.length c0_2) := (blk_cell BA2.out 2).trans rfl)
        | (go_at_call 20; (with_reducible refine (lin_Norm.calls a0_0 _ _ l0_1 _ _ l0_2 nb nl [] _ ?s1 HC1.out ?s3 HC2.out HN.out).mono ?_); (case s1 => exact Kd.C_below HR1.out HB2.out); (case s3 => exact Kd.C_below HR2.out HB2.out); rintro e w3 ⟨v1, v2, rfl, ho, hs, hb⟩; obtain ⟨AC, cC, eC⟩ := Kd.R_slice ho; subst eC; obtain ⟨AV, cV, eV⟩ := Kd.S_slice hs; subst eV; have HO3 := Aside0.mk ho; have HS3 := Aside0.mk hs; have HB23 := Aside0.mk hb; have BA3 := Aside0.mk (blk_below BA2.out hb); have BR3 := Aside0.mk (blk_below BR2.out hb); have HB3 := Aside0.mk (below_step HB2.out hb); clear ho hs hb; have hcB0 : w3.cell? ⟨gA, 0, none⟩ = some (.bool a0_0) := (blk_cell BA3.out 0).trans rfl; have hcB1 : w3.cell? ⟨gA, 1, none⟩ = some (.slice A0_1 l0_1.length c0_1) := (blk_cell BA3.out 1).trans rfl; have hcB2 : w3.cell? ⟨gA, 2, none⟩ = some (.slice A0_2 l0_2.length c0_2) := (blk_cell BA3.out 2).trans rfl; have hfB0 := blk_frozen BA3.out 0; have hfB1 := blk_frozen BA3.out 1; have hfB2 := blk_frozen BA3.out 2)
        | (go_at_call 19; (with_reducible refine (whole_Sign.calls nb _ _ nl s _ ?s4 ?s5 HSG.out).mono ?_); (case s4 => exact (Kd.R_reads' (OwnK.move (x := ⟨0, false, AC, cC, nl⟩) HO3.out (fun k cells hk => set3_other _ _ _ _ _ _ _ _ k (box_ne BA3.out hk (by decide))))).2.2); (case s5 => exact (Kd.R_reads' HO3.out).2.1); rintro e w4 ⟨rfl, hb⟩; have BA4 := Aside0.mk (blk_below (g := gA) (o := .cells #[.bool nb, .slice AC nl.length cC, .slice AV 0 cV] 27 (0, 0)) (by refine blk_put (cs := #[.bool nb, .slice AC nl.length cC, .slice A0_2 l0_2.length c0_2]) ?_ 2 _ rfl; refine blk_put (cs := #[.bool nb, .slice A0_1 l0_1.length c0_1, .slice A0_2 l0_2.length c0_2]) ?_ 1 _ rfl; refine blk_put (cs := #[.bool a0_0, .slice A0_1 l0_1.length c0_1, .slice A0_2 l0_2.length c0_2]) ?_ 0 _ rfl; exact BA3.out) hb); have BR4 := Aside0.mk (blk_below (g := gR) (o := .cells #[.bool false, .slice none 0 0, .slice none 0 0] 27 (0, 0)) ((set3_other _ _ _ _ _ _ _ _ gR (fun e => NAR.out e.symm)).trans BR3.out) hb); have KM := Aside0.mk (fun (k : Nat) (cells : Array Value) (t : Nat) (ht : t ≠ 27) (hk : w3.heap[k]? = some (Obj.cells cells t (0, 0))) => (hb.block k (Array.getElem?_eq_some_iff.1 ((set3_other w3 gA 0 1 2 (.bool nb) (.slice AC nl.length cC) (.slice AV 0 cV) k (box_ne BA3.out hk (fun e => ht e.symm))).trans hk)).1).trans (set3_other w3 gA 0 1 2 (.bool nb) (.slice AC nl.length cC) (.slice AV 0 cV) k (box_ne BA3.out hk (fun e => ht e.symm)))); have HB4 := Aside0.mk (below_step (show Below w.heap.size w (((w3.setCell ⟨gA, 0, none⟩ (.bool nb)).setCell ⟨gA, 1, none⟩ (.slice AC nl.length cC)).setCell ⟨gA, 2, none⟩ (.slice AV 0 cV)) by repeat first | exact HB3.out | refine below_set ?_ GA.out) hb); clear hb; have hcD0 : w4.cell? ⟨gA, 0, none⟩ = some (.bool nb) := (blk_cell BA4.out 0).trans rfl; have hcD1 : w4.cell? ⟨gA, 1, none⟩ = some (.slice AC nl.length cC) := (blk_cell BA4.out 1).trans rfl; have hcD2 : w4.cell? ⟨gA, 2, none⟩ = some (.slice AV 0 cV) := (blk_cell BA4.out 2).trans rfl; have hcR0 : w4.cell? ⟨gR, 0, none⟩ = some (.bool false) := (blk_cell BR4.out 0).trans rfl; have hcR1 : w4.cell? ⟨gR, 1, none⟩ = some (.slice none 0 0) := (blk_cell BR4.out 1).trans rfl; have hcR2 : w4.cell? ⟨gR, 2, none⟩ = some (.slice none 0 0) := (blk_cell BR4.out 2).trans rfl; have hfR0 := blk_frozen BR4.out 0; have hfR1 := blk_frozen BR4.out 1; have hfR2 := blk_frozen BR4.out 2))
    all_goals refine bodyPost_ret (results_ct rfl _ _ gR 27 #[.bool nb, .slice AC nl.length cC, .slice AV 0 cV] (0, 0) _ rfl (by refine blk_put (cs := #[.bool nb, .slice AC nl.length cC, .slice none 0 0]) ?_ 2 _ rfl; refine blk_put (cs := #[.bool nb, .slice none 0 0, .slice none 0 0]) ?_ 1 _ rfl; refine blk_put (cs := #[.bool false, .slice none 0 0, .slice none 0 0]) ?_ 0 _ rfl; exact BR4.out) Try.underlying27 rfl (by kernel_rfl)) rfl ?_
    all_goals (obtain ⟨hV, hS⟩ := out_lin (w1 := ((w4.setCell ⟨gR, 0, none⟩ (.bool nb)).setCell ⟨gR, 1, none⟩ (.slice AC nl.length cC)).setCell ⟨gR, 2, none⟩ (.slice AV 0 cV)) (Kd.R_lower HO3.out HB2.out.size) (Kd.S_lower HS3.out HB2.out.size) (fun k cells t ht hk => (set3_other _ _ _ _ _ _ _ _ k (box_ne BR3.out hk (fun e => by rcases ht with rfl | rfl <;> exact absurd e (by decide)))).trans (KM.out k cells t (fun e => by rcases ht with rfl | rfl <;> exact absurd e (by decide)) hk)))
    all_goals exact ⟨_, _, rfl, hV, hS, by repeat first | exact HB4.out | refine below_set ?_ GR.out⟩
  · have hne := form_ne hf
    have hg := gP_pos hq hne
    have hgB := gP_B hq hne hq2
    have hql : 0 < q.length := List.length_pos_iff.2 hq
    rw [show tightP c q = (c / gP 0 q, partP (gP 0 q) q, 0) from if_neg hq] at hOU
    obtain ⟨kd, hkd⟩ := (div_ev q (by omega) (n := 10000 + 10000) (by omega) hq2 h1x (W c).1 (W c).2).rounds
    have e1 := wFloor_ev (W c).1 false (W c).2 (dig (gP 0 q)) (W_lim c) (dig_lim _) (by have := hcB.len; omega) (by have := B_pos (Int.le_of_lt hg) hgB; omega) (by rw [wv_dig (Int.le_of_lt hg)]; exact gP_one hq hne h1x)
    rw [wv_W, wv_dig (Int.le_of_lt hg), if_neg (by omega), show fl c (gP 0 q) = c / gP 0 q from if_neg (by omega)] at e1
    obtain ⟨kf, hkf⟩ := e1.rounds
    have hby := fun b l b2 l3 => by_ev (by omega) (hq2.mono (by omega)) hg (hgB.mono (by omega)) (gP_one hq hne h1x) b b2 l l3
    have hOU2 : ((W (c / gP 0 q)).1, (W (c / gP 0 q)).2, (partP (gP 0 q) q).map enP, (0 : Int)) = (r1, r2, r3, r4) := hOU
    have hnl : (q.map enP).length = q.length := List.length_map ..
    have hqn : 0 < (q.map enP).length := by omega
    generalize (W c).1 = nb at *
    generalize (W c).2 = nl at *
    generalize (W (c / gP 0 q)).1 = cb at *
    generalize (W (c / gP 0 q)).2 = cl at *
    generalize (partP (gP 0 q) q).map enP = np at *
    generalize dig (gP 0 q) = gl at *
    generalize q.map enP = nq at *
    have HN := Aside0.mk hN2
    have HD := Aside0.mk hkd
    have HF := Aside0.mk hkf
    have HY := Aside0.mk hby
    simp only [Prod.mk.injEq] at hOU2
    obtain ⟨rfl, rfl, rfl, rfl⟩ := hOU2
    have d1 : (((nq.length : Nat) : Int) == 0) = false := beq_eq_false_iff_ne.2 (by omega)
    have d2 : (nq.length == 0) = false := beq_eq_false_iff_ne.2 (by omega)
    clear hcB hf hq1 hq2 hOU hN2 hsg hs hne hg hgB hql hkd e1 hkf hby hnl hqn hq h1x
    go_enter Try.func11, Try.ntmps11
    go_wp2_with (first
        | ((with_reducible refine gate_dst (N := 1) rfl ?_); refine box_event ?hg (N := 1) ?hd (cs := #[.bool a0_0, .slice A0_1 l0_1.length c0_1, .slice A0_2 l0_2.length c0_2]) (t := 27) ?hr ?_; (case hd => rfl); (case hg => rfl); (case hr => first | (go_simp; done) | (go_simp; rfl)); intro gA hgA w1 hbox hb; have BA1 := Aside0.mk hbox; have GA := Aside0.mk (show w.heap.size ≤ gA by rw [hgA]; exact Nat.le_refl _); have HB1 := Aside0.mk hb; clear hgA hbox hb)
        | ((with_reducible refine gate_dst (N := 2) rfl ?_); refine box_event ?hg (N := 2) ?hd (cs := #[.bool false, .slice none 0 0, .slice none 0 0]) (t := 27) ?hr ?_; (case hd => rfl); (case hg => rfl); (case hr => first | (go_simp; done) | (go_simp; rfl)); intro gR hgR w2 hbox hb; have BR2 := Aside0.mk hbox; have BA2 := Aside0.mk (blk_below BA1.out hb); have GR := Aside0.mk (show w.heap.size ≤ gR by rw [hgR]; exact below_size HB1.out); have NAR := Aside0.mk (show gA ≠ gR by rw [hgR]; exact Nat.ne_of_lt (blk_lt BA1.out)); have HB2 := Aside0.mk (below_step HB1.out hb); clear hgR hbox hb; have hcA0 : w2.cell? ⟨gA, 0, none⟩ = some (.bool a0_0) := (blk_cell BA2.out 0).trans rfl; have hcA1 : w2.cell? ⟨gA, 1, none⟩ = some (.slice A0_1 l0_1.length c0_1) := (blk_cell BA2.out 1).trans rfl; have hcA2 : w2.cell? ⟨gA, 2, none⟩ = some (.slice A0_2 l0_2.length c0_2) := (blk_cell BA2.out 2).trans rfl)
        | (go_at_call 20; (with_reducible refine (lin_Norm.calls a0_0 _ _ l0_1 _ _ l0_2 nb nl nq _ ?s1 HC1.out ?s3 HC2.out HN.out).mono ?_); (case s1 => exact Kd.C_below HR1.out HB2.out); (case s3 => exact Kd.C_below HR2.out HB2.out); rintro e w3 ⟨v1, v2, rfl, ho, hs, hb⟩; obtain ⟨AC, cC, eC⟩ := Kd.R_slice ho; subst eC; obtain ⟨AV, cV, eV⟩ := Kd.S_slice hs; subst eV; have HO3 := Aside0.mk ho; have HS3 := Aside0.mk hs; have HB23 := Aside0.mk hb; have BA3 := Aside0.mk (blk_below BA2.out hb); have BR3 := Aside0.mk (blk_below BR2.out hb); have HB3 := Aside0.mk (below_step HB2.out hb); clear ho hs hb; have hcB0 : w3.cell? ⟨gA, 0, none⟩ = some (.bool a0_0) := (blk_cell BA3.out 0).trans rfl; have hcB1 : w3.cell? ⟨gA, 1, none⟩ = some (.slice A0_1 l0_1.length c0_1) := (blk_cell BA3.out 1).trans rfl; have hcB2 : w3.cell? ⟨gA, 2, none⟩ = some (.slice A0_2 l0_2.length c0_2) := (blk_cell BA3.out 2).trans rfl; have hfB0 := blk_frozen BA3.out 0; have hfB1 := blk_frozen BA3.out 1; have hfB2 := blk_frozen BA3.out 2)
        | (have n3_ := Aside0.mk (out_lin (w1 := (((w3.setCell ⟨gA, 0, none⟩ (.bool nb)).setCell ⟨gA, 1, none⟩ (.slice AC nl.length cC)).setCell ⟨gA, 2, none⟩ (.slice AV nq.length cV))) HO3.out HS3.out (fun k cells t ht hk => set3_other w3 gA 0 1 2 (.bool nb) (.slice AC nl.length cC) (.slice AV nq.length cV) k (box_ne BA3.out hk (fun e => by rcases ht with rfl | rfl <;> exact absurd e (by decide))))); go_at_call 41; (with_reducible refine (lin_divisor.calls kd nb _ _ nl _ _ nq false gl _ ?d1 ?d2 ?d3 ?d4 HD.out).mono ?_); (case d1 => exact (Kd.V_reads' n3_.out.1).2.2); (case d2 => exact (Kd.V_reads' n3_.out.1).2.1); (case d3 => exact (Kd.S_reads' n3_.out.2).2.2); (case d4 => exact (Kd.S_reads' n3_.out.2).2.1); rintro e w5 ⟨vg, rfl, ho, hb⟩; obtain ⟨Ag, cg, eg⟩ := Kd.R_slice ho; subst eg; have HG5 := Aside0.mk (show OwnK (w5.alloc (.cells #[.bool false, .slice Ag gl.length cg] 24 (0, 0))) w.heap.size ⟨0, false, Ag, cg, gl⟩ from Kd.R_alloc (Kd.R_mono (Kd.R_lower ho (Below.size (show Below w.heap.size w (((w3.setCell ⟨gA, 0, none⟩ (.bool nb)).setCell ⟨gA, 1, none⟩ (.slice AC nl.length cC)).setCell ⟨gA, 2, none⟩ (.slice AV nq.length cV)) by repeat first | exact HB3.out | refine below_set ?_ GA.out))) (fun _ _ => trivial)) _); have HV5 := Aside0.mk (Kd.V_alloc (Kd.V_below n3_.out.1 hb) (.cells #[.bool false, .slice Ag gl.length cg] 24 (0, 0))); have HS5 := Aside0.mk (Kd.S_alloc (Kd.S_below n3_.out.2 hb) (.cells #[.bool false, .slice Ag gl.length cg] 24 (0, 0))); have BA5 := Aside0.mk (show (w5.alloc (.cells #[.bool false, .slice Ag gl.length cg] 24 (0, 0))).heap[gA]? = some (.cells #[.bool nb, .slice AC nl.length cC, .slice AV nq.length cV] 27 (0, 0)) from blk_alloc (blk_below (by refine blk_put (cs := #[.bool nb, .slice AC nl.length cC, .slice A0_2 l0_2.length c0_2]) ?_ 2 _ rfl; refine blk_put (cs := #[.bool nb, .slice A0_1 l0_1.length c0_1, .slice A0_2 l0_2.length c0_2]) ?_ 1 _ rfl; refine blk_put (cs := #[.bool a0_0, .slice A0_1 l0_1.length c0_1, .slice A0_2 l0_2.length c0_2]) ?_ 0 _ rfl; exact BA3.out) hb) _); have BR5 := Aside0.mk (show (w5.alloc (.cells #[.bool false, .slice Ag gl.length cg] 24 (0, 0))).heap[gR]? = some (.cells #[.bool false, .slice none 0 0, .slice none 0 0] 27 (0, 0)) from blk_alloc (blk_below ((set3_other w3 gA 0 1 2 (.bool nb) (.slice AC nl.length cC) (.slice AV nq.length cV) gR (fun e => NAR.out e.symm)).trans BR3.out) hb) _); have HB5 := Aside0.mk (below_alloc (below_step (show Below w.heap.size w (((w3.setCell ⟨gA, 0, none⟩ (.bool nb)).setCell ⟨gA, 1, none⟩ (.slice AC nl.length cC)).setCell ⟨gA, 2, none⟩ (.slice AV nq.length cV)) by repeat first | exact HB3.out | refine below_set ?_ GA.out) hb) (.cells #[.bool false, .slice Ag gl.length cg] 24 (0, 0))); clear ho hb n3_; have hcE0 : (w5.alloc (.cells #[.bool false, .slice Ag gl.length cg] 24 (0, 0))).cell? ⟨gA, 0, none⟩ = some (.bool nb) := (blk_cell BA5.out 0).trans rfl; have hcE1 : (w5.alloc (.cells #[.bool false, .slice Ag gl.length cg] 24 (0, 0))).cell? ⟨gA, 1, none⟩ = some (.slice AC nl.length cC) := (blk_cell BA5.out 1).trans rfl; have hcE2 : (w5.alloc (.cells #[.bool false, .slice Ag gl.length cg] 24 (0, 0))).cell? ⟨gA, 2, none⟩ = some (.slice AV nq.length cV) := (blk_cell BA5.out 2).trans rfl; have hg0 : (w5.alloc (.cells #[.bool false, .slice Ag gl.length cg] 24 (0, 0))).cell? ⟨w5.heap.size, 0, none⟩ = some (.bool false) := (blk_cell (blk_new w5 _) 0).trans rfl; have hg1 : (w5.alloc (.cells #[.bool false, .slice Ag gl.length cg] 24 (0, 0))).cell? ⟨w5.heap.size, 1, none⟩ = some (.slice Ag gl.length cg) := (blk_cell (blk_new w5 _) 1).trans rfl)
        | (go_at_call 42; (with_reducible refine (whole_Floor.calls kf nb _ _ nl false _ _ gl cb cl 0 _ ?f1 ?f2 ?f3 ?f4 HF.out).mono ?_); (case f1 => exact (Kd.V_reads' HV5.out).2.2); (case f2 => exact (Kd.V_reads' HV5.out).2.1); (case f3 => exact (Kd.R_reads' HG5.out).2.2); (case f4 => exact (Kd.R_reads' HG5.out).2.1); rintro e w6 ⟨vc, rfl, ho, hb⟩; obtain ⟨Ac, cc, ec⟩ := Kd.R_slice ho; subst ec; have HC6 := Aside0.mk (show OwnK (w6.alloc (.cells #[.bool cb, .slice Ac cl.length cc] 24 (0, 0))) w.heap.size ⟨0, false, Ac, cc, cl⟩ from Kd.R_alloc (Kd.R_mono (Kd.R_lower ho HB5.out.size) (fun _ _ => trivial)) _); have HV6 := Aside0.mk (Kd.V_alloc (Kd.V_below HV5.out hb) (.cells #[.bool cb, .slice Ac cl.length cc] 24 (0, 0))); have HS6 := Aside0.mk (Kd.S_alloc (Kd.S_below HS5.out hb) (.cells #[.bool cb, .slice Ac cl.length cc] 24 (0, 0))); have HG6 := Aside0.mk (show OwnK (w6.alloc (.cells #[.bool cb, .slice Ac cl.length cc] 24 (0, 0))) w.heap.size ⟨0, false, Ag, cg, gl⟩ from Kd.R_alloc (Kd.R_below HG5.out hb) _); have BA6 := Aside0.mk (show (w6.alloc (.cells #[.bool cb, .slice Ac cl.length cc] 24 (0, 0))).heap[gA]? = some (.cells #[.bool nb, .slice AC nl.length cC, .slice AV nq.length cV] 27 (0, 0)) from blk_alloc (blk_below BA5.out hb) _); have BR6 := Aside0.mk (show (w6.alloc (.cells #[.bool cb, .slice Ac cl.length cc] 24 (0, 0))).heap[gR]? = some (.cells #[.bool false, .slice none 0 0, .slice none 0 0] 27 (0, 0)) from blk_alloc (blk_below BR5.out hb) _); have BG6 := Aside0.mk (show (w6.alloc (.cells #[.bool cb, .slice Ac cl.length cc] 24 (0, 0))).heap[w5.heap.size]? = some (.cells #[.bool false, .slice Ag gl.length cg] 24 (0, 0)) from blk_alloc (blk_below (blk_new w5 _) hb) _); have HB6 := Aside0.mk (below_alloc (below_step HB5.out hb) (.cells #[.bool cb, .slice Ac cl.length cc] 24 (0, 0))); clear ho hb; have hcF0 : (w6.alloc (.cells #[.bool cb, .slice Ac cl.length cc] 24 (0, 0))).cell? ⟨gA, 0, none⟩ = some (.bool nb) := (blk_cell BA6.out 0).trans rfl; have hcF1 : (w6.alloc (.cells #[.bool cb, .slice Ac cl.length cc] 24 (0, 0))).cell? ⟨gA, 1, none⟩ = some (.slice AC nl.length cC) := (blk_cell BA6.out 1).trans rfl; have hcF2 : (w6.alloc (.cells #[.bool cb, .slice Ac cl.length cc] 24 (0, 0))).cell? ⟨gA, 2, none⟩ = some (.slice AV nq.length cV) := (blk_cell BA6.out 2).trans rfl; have hh0 : (w6.alloc (.cells #[.bool cb, .slice Ac cl.length cc] 24 (0, 0))).cell? ⟨w5.heap.size, 0, none⟩ = some (.bool false) := (blk_cell BG6.out 0).trans rfl; have hh1 : (w6.alloc (.cells #[.bool cb, .slice Ac cl.length cc] 24 (0, 0))).cell? ⟨w5.heap.size, 1, none⟩ = some (.slice Ag gl.length cg) := (blk_cell BG6.out 1).trans rfl; have hk0 : (w6.alloc (.cells #[.bool cb, .slice Ac cl.length cc] 24 (0, 0))).cell? ⟨w6.heap.size, 0, none⟩ = some (.bool cb) := (blk_cell (blk_new w6 _) 0).trans rfl; have hk1 : (w6.alloc (.cells #[.bool cb, .slice Ac cl.length cc] 24 (0, 0))).cell? ⟨w6.heap.size, 1, none⟩ = some (.slice Ac cl.length cc) := (blk_cell (blk_new w6 _) 1).trans rfl)
        | (go_at_call 43; (with_reducible refine (lin_by.calls nb _ _ nl _ _ nq false _ _ gl cb (fun k_ => w.heap.size ≤ k_ ∧ k_ ≠ gR) _ _ cl cb cl np _ ?b1 ?b2 ?b3 ?b4 ?b5 ?b6 ?b7 (HY.out nb nl cb cl)).mono ?_); (case b1 => exact (Kd.V_reads' HV6.out).2.2); (case b2 => exact (Kd.V_reads' HV6.out).2.1); (case b3 => exact (Kd.S_reads' HS6.out).2.2); (case b4 => exact (Kd.S_reads' HS6.out).2.1); (case b5 => exact (Kd.R_reads' HG6.out).2.2); (case b6 => exact (Kd.R_reads' HG6.out).2.1); (case b7 => exact Kd.R_V (Kd.R_mono (Kd.R_bound (Kd.R_types HC6.out BR6.out (by decide))) (fun k hk => ⟨hk.2.1, hk.1.2⟩))); rintro e w7 ⟨v1, v2, rfl, ho, hs, hb⟩; obtain ⟨A7, c7, e7⟩ := Kd.V_slice ho; subst e7; obtain ⟨A8, c8, e8⟩ := Kd.S_slice hs; subst e8; have HO7 := Aside0.mk ho; have HS7 := Aside0.mk hs; have BR7 := Aside0.mk (blk_below BR6.out hb); have HB7 := Aside0.mk (below_step HB6.out hb); clear ho hs hb; have hcR0 : w7.cell? ⟨gR, 0, none⟩ = some (.bool false) := (blk_cell BR7.out 0).trans rfl; have hcR1 : w7.cell? ⟨gR, 1, none⟩ = some (.slice none 0 0) := (blk_cell BR7.out 1).trans rfl; have hcR2 : w7.cell? ⟨gR, 2, none⟩ = some (.slice none 0 0) := (blk_cell BR7.out 2).trans rfl; have hfR0 := blk_frozen BR7.out 0; have hfR1 := blk_frozen BR7.out 1; have hfR2 := blk_frozen BR7.out 2))
    refine bodyPost_ret (results_ct rfl _ _ gR 27 #[.bool cb, .slice A7 cl.length c7, .slice A8 np.length c8] (0, 0) _ rfl (by refine blk_put (cs := #[.bool cb, .slice A7 cl.length c7, .slice none 0 0]) ?_ 2 _ rfl; refine blk_put (cs := #[.bool cb, .slice none 0 0, .slice none 0 0]) ?_ 1 _ rfl; refine blk_put (cs := #[.bool false, .slice none 0 0, .slice none 0 0]) ?_ 0 _ rfl; exact BR7.out) Try.underlying27 rfl (by kernel_rfl)) rfl ?_
    have hlt := blk_lt BR6.out
    have hsz := HB6.out.size
    refine ⟨_, _, rfl, Kd.V_mono (Kd.V_far (p := ⟨gR, 2, none⟩) (Kd.V_far (p := ⟨gR, 1, none⟩) (Kd.V_far (p := ⟨gR, 0, none⟩) HO7.out ?n1 _) ?n2 _) ?n3 _) ?n4, Kd.S_mono (Kd.S_lower (Kd.S_far (p := ⟨gR, 2, none⟩) (Kd.S_far (p := ⟨gR, 1, none⟩) (Kd.S_far (p := ⟨gR, 0, none⟩) HS7.out ?m1 _) ?m2 _) ?m3 _) hsz) ?m4, by repeat first | exact HB7.out | refine below_set ?_ GR.out⟩
    case n1 => exact fun k hk => hk.1.elim (fun h => h.2) (fun h e => by subst e; omega)
    case n2 => exact fun k hk => hk.1.elim (fun h => h.2) (fun h e => by subst e; omega)
    case n3 => exact fun k hk => hk.1.elim (fun h => h.2) (fun h e => by subst e; omega)
    case n4 => exact fun k hk => ⟨hk.1.elim (fun h => h.1) (fun h => Nat.le_trans hsz h), hk.2⟩
    case m1 => exact fun k hk e => by subst e; omega
    case m2 => exact fun k hk e => by subst e; omega
    case m3 => exact fun k hk e => by subst e; omega
    case m4 => exact fun k hk => Nat.le_trans hsz hk
end Go.Proofs.Ytdicjemjmlbmlaa.H
/- lin.Even, by its numbers. -/
namespace Go.Proofs.Ytdicjemjmlbmlaa.H
set_option linter.unusedSimpArgs false
set_option linter.unusedVariables false
open Go.RowKit Go.Proofs.YtdicjemjmlbmlaaW.PrintWords Go.Proofs.YtdicjemjmlbmlaaW.PrintLast Go.Proofs.YtdicjemjmlbmlaaW.PrintMore Go.Proofs.Ytdicjemjmlbmlaa.PA Go.Proofs.Ytdicjemjmlbmlaa.V Go.Proofs.Ytdicjemjmlbmlaa.S
attribute [local go_sem] box_twice
def lin_Even.f (b : Bool) (l1 : List Int) (l2 : List S46) : Option (Bool × List Int × List S46 × Int) := if guardT l1 l2 = true then some (OU (evenP (wv b l1) (normP (l2.map prM)))) else none
set_option maxHeartbeats 8000000 in
set_option maxRecDepth 100000 in
theorem lin_Even.calls (a0_0 : Bool) (A0_1 : Option Addr) (c0_1 : Nat) (l0_1 : List Int) (A0_2 : Option Addr) (c0_2 : Nat) (l0_2 : List (S46)) (r1 : Bool) (r2 : List Int) (r3 : List (S46)) (r4 : Int) (w : World) (hr0_1 : Kd.C (Kd.int .u32) w A0_1 l0_1.length l0_1) (hc0_1 : l0_1.length ≤ c0_1) (hr0_2 : Kd.C k46 w A0_2 l0_2.length l0_2) (hc0_2 : l0_2.length ≤ c0_2) (h : lin_Even.f a0_0 l0_1 l0_2 = some (r1, r2, r3, r4)) :
    Calls Try.prog 13 #[.agg #[.bool a0_0, .slice A0_1 l0_1.length c0_1, .slice A0_2 l0_2.length c0_2]] w fun e w' => ∃ v1_ v2_ : Value, e = .returned (.tuple #[.agg #[.bool r1, v1_, v2_], .int .i64 r4]) ∧ Kd.V (Kd.int .u32) 81 w' w.heap.size (fun k_ => w.heap.size ≤ k_ ∧ some k_ ≠ (v2_ : Value).ownBlock) v1_ r2 ∧ Kd.S k46 46 w' w.heap.size (fun k_ => w.heap.size ≤ k_) v2_ r3 ∧ Below w.heap.size w w' := by
  have mixed : Try.prog.follows Departure.mixedOrders = true := by kernel_rfl
  have hu27 := Try.underlying27
  have hu24 := Try.underlying24
  have hu46 := Try.underlying46
  unfold lin_Even.f at h
  split at h
  case isFalse => cases h
  case isTrue hg =>
  have hs := guardT_small hg
  have h1x := guardT_one hg
  have hN := lnorm_ev hs (by omega) (by omega) a0_0
  obtain ⟨hq1, hq2⟩ := norm_small hs
  have hcB := hs.b a0_0
  have hf := form_norm (l0_2.map prM)
  have HR1 := Aside0.mk hr0_1
  have HC1 := Aside0.mk hc0_1
  have HR2 := Aside0.mk hr0_2
  have HC2 := Aside0.mk hc0_2
  generalize normP (l0_2.map prM) = q at *
  generalize wv a0_0 l0_1 = c at *
  have hsg := wSign_ev (W c).1 (W c).2 (W_lim c) (by have := hcB.len; omega)
  rw [wv_W] at hsg
  have hOU := Option.some.inj h
  have hN2 : lin_Norm.f a0_0 l0_1 l0_2 = some ((W c).1, (W c).2, q.map enP) := hN
  clear hr0_1 hc0_1 hr0_2 hc0_2 hN h hg
  by_cases hq : q = []
  · subst hq
    rw [show evenP c [] = (c, [], if c = 0 then 1 else -1) from rfl] at hOU
    have hOU2 : ((W c).1, (W c).2, ([] : List S46), if c = 0 then (1 : Int) else -1) = (r1, r2, r3, r4) := hOU
    have hN3 : lin_Norm.f a0_0 l0_1 l0_2 = some ((W c).1, (W c).2, []) := hN2
    have hcc : (sg c = 0) ↔ (c = 0) := by unfold sg; split <;> (try split) <;> omega
    generalize (W c).1 = nb at *
    generalize (W c).2 = nl at *
    generalize sg c = s at *
    have HN := Aside0.mk hN3
    have HSG := Aside0.mk hsg
    simp only [Prod.mk.injEq] at hOU2
    obtain ⟨rfl, rfl, rfl, hr4⟩ := hOU2
    have hd : (r4 = 1 ∧ (s != 0) = false) ∨ (r4 = -1 ∧ (s != 0) = true) := by
      by_cases hc : c = 0
      · rw [if_pos hc] at hr4
        exact .inl ⟨hr4.symm, bne_eq_false_iff_eq.2 (hcc.2 hc)⟩
      · rw [if_neg hc] at hr4
        exact .inr ⟨hr4.symm, bne_iff_ne.2 (fun e => hc (hcc.1 e))⟩
    clear hcB hf hq1 hq2 hOU hN2 hN3 hsg hcc hs hr4 h1x
    rcases hd with ⟨rfl, d1⟩ | ⟨rfl, d1⟩
    all_goals go_enter Try.func13, Try.ntmps13
    all_goals go_wp2_with (first
        | ((with_reducible refine gate_dst (N := 1) rfl ?_); refine box_event ?hg (N := 1) ?hd (cs := #[.bool a0_0, .slice A0_1 l0_1.length c0_1, .slice A0_2 l0_2.length c0_2]) (t := 27) ?hr ?_; (case hd => rfl); (case hg => rfl); (case hr => first | (go_simp; done) | (go_simp; rfl)); intro gA hgA w1 hbox hb; have BA1 := Aside0.mk hbox; have GA := Aside0.mk (show w.heap.size ≤ gA by rw [hgA]; exact Nat.le_refl _); have HB1 := Aside0.mk hb; clear hgA hbox hb)
        | ((with_reducible refine gate_dst (N := 2) rfl ?_); refine box_event ?hg (N := 2) ?hd (cs := #[.bool false, .slice none 0 0, .slice none 0 0]) (t := 27) ?hr ?_; (case hd => rfl); (case hg => rfl); (case hr => first | (go_simp; done) | (go_simp; rfl)); intro gR hgR w2 hbox hb; have BR2 := Aside0.mk hbox; have BA2 := Aside0.mk (blk_below BA1.out hb); have GR := Aside0.mk (show w.heap.size ≤ gR by rw [hgR]; exact below_size HB1.out); have NAR := Aside0.mk (show gA ≠ gR by rw [hgR]; exact Nat.ne_of_lt (blk_lt BA1.out)); have HB2 := Aside0.mk (below_step HB1.out hb); clear hgR hbox hb; have hcA0 : w2.cell? ⟨gA, 0, none⟩ = some (.bool a0_0) := (blk_cell BA2.out 0).trans rfl; have hcA1 : w2.cell? ⟨gA, 1, none⟩ = some (.slice A0_1 l0_1.length c0_1) := (blk_cell BA2.out 1).trans rfl; have hcA2 : w2.cell? ⟨gA, 2, none⟩ = some (.slice A0_2 l0_2.length c0_2) := (blk_cell BA2.out 2).trans rfl)
        | (go_at_call 20; (with_reducible refine (lin_Norm.calls a0_0 _ _ l0_1 _ _ l0_2 nb nl [] _ ?s1 HC1.out ?s3 HC2.out HN.out).mono ?_); (case s1 => exact Kd.C_below HR1.out HB2.out); (case s3 => exact Kd.C_below HR2.out HB2.out); rintro e w3 ⟨v1, v2, rfl, ho, hs, hb⟩; obtain ⟨AC, cC, eC⟩ := Kd.R_slice ho; subst eC; obtain ⟨AV, cV, eV⟩ := Kd.S_slice hs; subst eV; have HO3 := Aside0.mk ho; have HS3 := Aside0.mk hs; have HB23 := Aside0.mk hb; have BA3 := Aside0.mk (blk_below BA2.out hb); have BR3 := Aside0.mk (blk_below BR2.out hb); have HB3 := Aside0.mk (below_step HB2.out hb); clear ho hs hb; have hcB0 : w3.cell? ⟨gA, 0, none⟩ = some (.bool a0_0) := (blk_cell BA3.out 0).trans rfl; have hcB1 : w3.cell? ⟨gA, 1, none⟩ = some (.slice A0_1 l0_1.length c0_1) := (blk_cell BA3.out 1).trans rfl; have hcB2 : w3.cell? ⟨gA, 2, none⟩ = some (.slice A0_2 l0_2.length c0_2) := (blk_cell BA3.out 2).trans rfl; have hfB0 := blk_frozen BA3.out 0; have hfB1 := blk_frozen BA3.out 1; have hfB2 := blk_frozen BA3.out 2)
        | (go_at_call 19; (with_reducible refine (whole_Sign.calls nb _ _ nl s _ ?s4 ?s5 HSG.out).mono ?_); (case s4 => exact (Kd.R_reads' (OwnK.move (x := ⟨0, false, AC, cC, nl⟩) HO3.out (fun k cells hk => set3_other _ _ _ _ _ _ _ _ k (box_ne BA3.out hk (by decide))))).2.2); (case s5 => exact (Kd.R_reads' HO3.out).2.1); rintro e w4 ⟨rfl, hb⟩; have BA4 := Aside0.mk (blk_below (g := gA) (o := .cells #[.bool nb, .slice AC nl.length cC, .slice AV 0 cV] 27 (0, 0)) (by refine blk_put (cs := #[.bool nb, .slice AC nl.length cC, .slice A0_2 l0_2.length c0_2]) ?_ 2 _ rfl; refine blk_put (cs := #[.bool nb, .slice A0_1 l0_1.length c0_1, .slice A0_2 l0_2.length c0_2]) ?_ 1 _ rfl; refine blk_put (cs := #[.bool a0_0, .slice A0_1 l0_1.length c0_1, .slice A0_2 l0_2.length c0_2]) ?_ 0 _ rfl; exact BA3.out) hb); have BR4 := Aside0.mk (blk_below (g := gR) (o := .cells #[.bool false, .slice none 0 0, .slice none 0 0] 27 (0, 0)) ((set3_other _ _ _ _ _ _ _ _ gR (fun e => NAR.out e.symm)).trans BR3.out) hb); have KM := Aside0.mk (fun (k : Nat) (cells : Array Value) (t : Nat) (ht : t ≠ 27) (hk : w3.heap[k]? = some (Obj.cells cells t (0, 0))) => (hb.block k (Array.getElem?_eq_some_iff.1 ((set3_other w3 gA 0 1 2 (.bool nb) (.slice AC nl.length cC) (.slice AV 0 cV) k (box_ne BA3.out hk (fun e => ht e.symm))).trans hk)).1).trans (set3_other w3 gA 0 1 2 (.bool nb) (.slice AC nl.length cC) (.slice AV 0 cV) k (box_ne BA3.out hk (fun e => ht e.symm)))); have HB4 := Aside0.mk (below_step (show Below w.heap.size w (((w3.setCell ⟨gA, 0, none⟩ (.bool nb)).setCell ⟨gA, 1, none⟩ (.slice AC nl.length cC)).setCell ⟨gA, 2, none⟩ (.slice AV 0 cV)) by repeat first | exact HB3.out | refine below_set ?_ GA.out) hb); clear hb; have hcD0 : w4.cell? ⟨gA, 0, none⟩ = some (.bool nb) := (blk_cell BA4.out 0).trans rfl; have hcD1 : w4.cell? ⟨gA, 1, none⟩ = some (.slice AC nl.length cC) := (blk_cell BA4.out 1).trans rfl; have hcD2 : w4.cell? ⟨gA, 2, none⟩ = some (.slice AV 0 cV) := (blk_cell BA4.out 2).trans rfl; have hcR0 : w4.cell? ⟨gR, 0, none⟩ = some (.bool false) := (blk_cell BR4.out 0).trans rfl; have hcR1 : w4.cell? ⟨gR, 1, none⟩ = some (.slice none 0 0) := (blk_cell BR4.out 1).trans rfl; have hcR2 : w4.cell? ⟨gR, 2, none⟩ = some (.slice none 0 0) := (blk_cell BR4.out 2).trans rfl; have hfR0 := blk_frozen BR4.out 0; have hfR1 := blk_frozen BR4.out 1; have hfR2 := blk_frozen BR4.out 2))
    all_goals refine bodyPost_ret (results_ct rfl _ _ gR 27 #[.bool nb, .slice AC nl.length cC, .slice AV 0 cV] (0, 0) _ rfl (by refine blk_put (cs := #[.bool nb, .slice AC nl.length cC, .slice none 0 0]) ?_ 2 _ rfl; refine blk_put (cs := #[.bool nb, .slice none 0 0, .slice none 0 0]) ?_ 1 _ rfl; refine blk_put (cs := #[.bool false, .slice none 0 0, .slice none 0 0]) ?_ 0 _ rfl; exact BR4.out) Try.underlying27 rfl (by kernel_rfl)) rfl ?_
    all_goals (obtain ⟨hV, hS⟩ := out_lin (w1 := ((w4.setCell ⟨gR, 0, none⟩ (.bool nb)).setCell ⟨gR, 1, none⟩ (.slice AC nl.length cC)).setCell ⟨gR, 2, none⟩ (.slice AV 0 cV)) (Kd.R_lower HO3.out HB2.out.size) (Kd.S_lower HS3.out HB2.out.size) (fun k cells t ht hk => (set3_other _ _ _ _ _ _ _ _ k (box_ne BR3.out hk (fun e => by rcases ht with rfl | rfl <;> exact absurd e (by decide)))).trans (KM.out k cells t (fun e => by rcases ht with rfl | rfl <;> exact absurd e (by decide)) hk)))
    all_goals exact ⟨_, _, rfl, hV, hS, by repeat first | exact HB4.out | refine below_set ?_ GR.out⟩
  · obtain ⟨y, r, rfl⟩ : ∃ y r, q = y :: r := by cases q with | nil => exact absurd rfl hq | cons y r => exact ⟨y, r, rfl⟩
    have hne := form_ne hf
    have hg := gP_pos hq hne
    have hgB := gP_B hq hne hq2
    rw [evenP] at hOU
    have hNB : OU (c, y :: r, -1) = ((W c).1, (W c).2, (y :: r).map enP, -1) := rfl
    obtain ⟨kd, hkd⟩ := (div_ev (y :: r) (by omega) (n := 10000 + 10000) (by omega) hq2 h1x (W c).1 (W c).2).rounds
    have e1 := wDivMod_ev (W c).1 false (W c).2 (dig (gP 0 (y :: r))) (W_lim c) (dig_lim _) (by have := hcB.len; omega) (by have := B_pos (Int.le_of_lt hg) hgB; omega) (by rw [wv_dig (Int.le_of_lt hg)]; exact gP_one hq hne h1x)
    rw [wv_W, wv_dig (Int.le_of_lt hg), if_neg (by omega)] at e1
    obtain ⟨kf, hkf⟩ := e1.rounds
    have hby := fun b l b2 l3 => by_ev (q := y :: r) (by omega) (hq2.mono (by omega)) hg (hgB.mono (by omega)) (gP_one hq hne h1x) b b2 l l3
    have hrB : B (10000 + 10000) (c % gP 0 (y :: r)) := hgB.le (by have h1 := Int.emod_nonneg c (Int.ne_of_gt hg); have h2 := Int.emod_lt_of_pos c hg; unfold az; rw [if_neg (by omega), if_neg (by omega)]; omega)
    have hs1 := wSign_ev (W (c % gP 0 (y :: r))).1 (W (c % gP 0 (y :: r))).2 (W_lim _) (by have := hrB.len; omega)
    rw [wv_W] at hs1
    have hs0 : (sg (c % gP 0 (y :: r)) = 0) ↔ (c % gP 0 (y :: r) = 0) := by unfold sg; split <;> (try split) <;> omega
    have hqn : 0 < ((y :: r).map enP).length := by rw [List.length_map, List.length_cons]; omega
    have hyB : B (10000 + 10000) (y.2 / gP 0 (y :: r)) := B_div (hq2 y List.mem_cons_self) hg
    have hs2 := wSign_ev (W (y.2 / gP 0 (y :: r))).1 (W (y.2 / gP 0 (y :: r))).2 (W_lim _) (by have := hyB.len; omega)
    rw [wv_W] at hs2
    have hs2' : whole_Sign.f (rd_T46 ((partP (gP 0 (y :: r)) (y :: r)).map enP) 0).f1.f0 (rd_T46 ((partP (gP 0 (y :: r)) (y :: r)).map enP) 0).f1.f1 = some (sg (y.2 / gP 0 (y :: r))) := hs2
    have hnp : (0 : Int) < ((partP (gP 0 (y :: r)) (y :: r)).map enP).length := by unfold partP; rw [List.length_map, List.length_map, List.length_cons]; omega
    have hsn : (sg (y.2 / gP 0 (y :: r)) < 0) ↔ (y.2 / gP 0 (y :: r) < 0) := sg_neg _
    have hof : whole_Of.f (-1) = some ((W (-1)).1, (W (-1)).2) := wOf_ev (-1) (by decide) (by decide)
    have hd : ((sg (c % gP 0 (y :: r)) != 0) = true ∧ (W c).1 = r1 ∧ (W c).2 = r2 ∧ (y :: r).map enP = r3 ∧ (-1 : Int) = r4) ∨ ((sg (c % gP 0 (y :: r)) != 0) = false ∧ decide (sg (y.2 / gP 0 (y :: r)) < 0) = false ∧ (W (c / gP 0 (y :: r))).1 = r1 ∧ (W (c / gP 0 (y :: r))).2 = r2 ∧ (partP (gP 0 (y :: r)) (y :: r)).map enP = r3 ∧ (0 : Int) = r4) ∨ ((sg (c % gP 0 (y :: r)) != 0) = false ∧ decide (sg (y.2 / gP 0 (y :: r)) < 0) = true ∧ (0 : Int) = r4 ∧ ∃ kS, lin_Scale.f kS (W (c / gP 0 (y :: r))).1 (W (c / gP 0 (y :: r))).2 ((partP (gP 0 (y :: r)) (y :: r)).map enP) (W (-1)).1 (W (-1)).2 = some (r1, r2, r3)) := by
      generalize gP 0 (y :: r) = g at *
      by_cases hz : c % g = 0
      · rw [if_pos hz] at hOU
        have d3 : (sg (c % g) != 0) = false := bne_eq_false_iff_eq.2 (hs0.2 hz)
        by_cases hy : y.2 / g < 0
        · rw [if_pos hy] at hOU
          have hpl : (partP g (y :: r)).length ≤ 100000 := by unfold partP; rw [List.length_map]; omega
          have hsm : Small 100000 100000 (W (c / g)).2 ((partP g (y :: r)).map enP) := small_SU ((B_div hcB hg).mono (by omega)) hpl ((partP_B hq2 hg).mono (by omega))
          have hsc0 := scale_ev hsm (by omega) (by omega) (W (c / g)).1 (W (-1)).1 (W (-1)).2 (W_lim _) (by have : B 1 (-1) := by { unfold B; exact dig_length_le (az_nonneg _) (by decide) }; have := this.len; omega)
          rw [wv_W, wv_W, map_enP] at hsc0
          obtain ⟨kS, hsc⟩ := hsc0.rounds
          have h2 : ((SU (c / g * -1) (normP (scP (-1) (partP g (y :: r))))).1, (SU (c / g * -1) (normP (scP (-1) (partP g (y :: r))))).2.1, (SU (c / g * -1) (normP (scP (-1) (partP g (y :: r))))).2.2, (0 : Int)) = (r1, r2, r3, r4) := hOU
          simp only [Prod.mk.injEq] at h2
          obtain ⟨q1, q2, q3, q4⟩ := h2
          refine .inr (.inr ⟨d3, decide_eq_true (hsn.2 hy), q4, kS, ?_⟩)
          rw [← q1, ← q2, ← q3]
          exact hsc
        · rw [if_neg hy] at hOU
          have hOU2 : ((W (c / g)).1, (W (c / g)).2, (partP g (y :: r)).map enP, (0 : Int)) = (r1, r2, r3, r4) := hOU
          simp only [Prod.mk.injEq] at hOU2
          exact .inr (.inl ⟨d3, decide_eq_false (fun e => hy (hsn.1 e)), hOU2⟩)
      · rw [if_neg hz] at hOU
        have hOU2 : ((W c).1, (W c).2, (y :: r).map enP, (-1 : Int)) = (r1, r2, r3, r4) := by rw [← hOU]; exact hNB.symm
        simp only [Prod.mk.injEq] at hOU2
        exact .inl ⟨bne_iff_ne.2 (fun e => hz (hs0.1 e)), hOU2⟩
    have d1 : (((((y :: r).map enP).length : Nat) : Int) == 0) = false := beq_eq_false_iff_ne.2 (by omega)
    have d2 : (((y :: r).map enP).length == 0) = false := beq_eq_false_iff_ne.2 (by omega)
    generalize (W c).1 = nb at *
    generalize (W c).2 = nl at *
    generalize gP 0 (y :: r) = g at *
    generalize (W (c % g)).1 = sb at *
    generalize (W (c % g)).2 = sl at *
    generalize sg (c % g) = s1 at *
    generalize (W (c / g)).1 = cb at *
    generalize (W (c / g)).2 = cl at *
    generalize dig g = gl at *
    generalize (partP g (y :: r)).map enP = np at *
    generalize sg (y.2 / g) = s2 at *
    generalize (y :: r).map enP = nq at *
    generalize (W (-1)).1 = tb at *
    generalize (W (-1)).2 = tl at *
    have HN := Aside0.mk hN2
    have HD := Aside0.mk hkd
    have HS1 := Aside0.mk hs1
    have HF := Aside0.mk hkf
    have HY := Aside0.mk hby
    have HS2 := Aside0.mk hs2'
    have HNP := Aside0.mk hnp
    have HOF := Aside0.mk hof
    have p1 : ((0 : Int) < (np.length : Int)) = True := eq_true hnp
    have p2 : (0 < np.length) = True := eq_true (by omega)
    clear hcB hf hq1 hq2 hOU hNB hN2 hsg hs hne hg hgB hkd e1 hkf hby hrB hs1 hs0 hqn hq hyB hs2 hs2' hnp hsn hof h1x
    rcases hd with ⟨d3, rfl, rfl, rfl, rfl⟩ | ⟨d3, d5, rfl, rfl, rfl, rfl⟩ | ⟨d3, d5, rfl, kS, hsc⟩
    rotate_right
    have HSC := Aside0.mk hsc
    clear hsc
    rotate_left
    all_goals go_enter Try.func13, Try.ntmps13
    all_goals go_wp2_with (first
      | ((with_reducible refine gate_dst (N := 1) rfl ?_); refine box_event ?hg (N := 1) ?hd (cs := #[.bool a0_0, .slice A0_1 l0_1.length c0_1, .slice A0_2 l0_2.length c0_2]) (t := 27) ?hr ?_; (case hd => rfl); (case hg => rfl); (case hr => first | (go_simp; done) | (go_simp; rfl)); intro gA hgA w1 hbox hb; have BA1 := Aside0.mk hbox; have GA := Aside0.mk (show w.heap.size ≤ gA by rw [hgA]; exact Nat.le_refl _); have HB1 := Aside0.mk hb; clear hgA hbox hb)
      | ((with_reducible refine gate_dst (N := 2) rfl ?_); refine box_event ?hg (N := 2) ?hd (cs := #[.bool false, .slice none 0 0, .slice none 0 0]) (t := 27) ?hr ?_; (case hd => rfl); (case hg => rfl); (case hr => first | (go_simp; done) | (go_simp; rfl)); intro gR hgR w2 hbox hb; have BR2 := Aside0.mk hbox; have BA2 := Aside0.mk (blk_below BA1.out hb); have GR := Aside0.mk (show w.heap.size ≤ gR by rw [hgR]; exact below_size HB1.out); have NAR := Aside0.mk (show gA ≠ gR by rw [hgR]; exact Nat.ne_of_lt (blk_lt BA1.out)); have HB2 := Aside0.mk (below_step HB1.out hb); clear hgR hbox hb; have hcA0 : w2.cell? ⟨gA, 0, none⟩ = some (.bool a0_0) := (blk_cell BA2.out 0).trans rfl; have hcA1 : w2.cell? ⟨gA, 1, none⟩ = some (.slice A0_1 l0_1.length c0_1) := (blk_cell BA2.out 1).trans rfl; have hcA2 : w2.cell? ⟨gA, 2, none⟩ = some (.slice A0_2 l0_2.length c0_2) := (blk_cell BA2.out 2).trans rfl)
      | (go_at_call 20; (with_reducible refine (lin_Norm.calls a0_0 _ _ l0_1 _ _ l0_2 nb nl nq _ ?s1 HC1.out ?s3 HC2.out HN.out).mono ?_); (case s1 => exact Kd.C_below HR1.out HB2.out); (case s3 => exact Kd.C_below HR2.out HB2.out); rintro e w3 ⟨v1, v2, rfl, ho, hs, hb⟩; obtain ⟨AC, cC, eC⟩ := Kd.R_slice ho; subst eC; obtain ⟨AV, cV, eV⟩ := Kd.S_slice hs; subst eV; have HO3 := Aside0.mk ho; have HS3 := Aside0.mk hs; have HB23 := Aside0.mk hb; have BA3 := Aside0.mk (blk_below BA2.out hb); have BR3 := Aside0.mk (blk_below BR2.out hb); have HB3 := Aside0.mk (below_step HB2.out hb); clear ho hs hb; have hcB0 : w3.cell? ⟨gA, 0, none⟩ = some (.bool a0_0) := (blk_cell BA3.out 0).trans rfl; have hcB1 : w3.cell? ⟨gA, 1, none⟩ = some (.slice A0_1 l0_1.length c0_1) := (blk_cell BA3.out 1).trans rfl; have hcB2 : w3.cell? ⟨gA, 2, none⟩ = some (.slice A0_2 l0_2.length c0_2) := (blk_cell BA3.out 2).trans rfl; have hfB0 := blk_frozen BA3.out 0; have hfB1 := blk_frozen BA3.out 1; have hfB2 := blk_frozen BA3.out 2)
      | (have n3_ := Aside0.mk (out_lin (w1 := (((w3.setCell ⟨gA, 0, none⟩ (.bool nb)).setCell ⟨gA, 1, none⟩ (.slice AC nl.length cC)).setCell ⟨gA, 2, none⟩ (.slice AV nq.length cV))) HO3.out HS3.out (fun k cells t ht hk => set3_other w3 gA 0 1 2 (.bool nb) (.slice AC nl.length cC) (.slice AV nq.length cV) k (box_ne BA3.out hk (fun e => by rcases ht with rfl | rfl <;> exact absurd e (by decide))))); go_at_call 41; (with_reducible refine (lin_divisor.calls kd nb _ _ nl _ _ nq false gl _ ?d1 ?d2 ?d3 ?d4 HD.out).mono ?_); (case d1 => exact (Kd.V_reads' n3_.out.1).2.2); (case d2 => exact (Kd.V_reads' n3_.out.1).2.1); (case d3 => exact (Kd.S_reads' n3_.out.2).2.2); (case d4 => exact (Kd.S_reads' n3_.out.2).2.1); rintro e w5 ⟨vg, rfl, ho, hb⟩; obtain ⟨Ag, cg, eg⟩ := Kd.R_slice ho; subst eg; have HG5 := Aside0.mk (show OwnK (w5.alloc (.cells #[.bool false, .slice Ag gl.length cg] 24 (0, 0))) w.heap.size ⟨0, false, Ag, cg, gl⟩ from Kd.R_alloc (Kd.R_mono (Kd.R_lower ho (Below.size (show Below w.heap.size w (((w3.setCell ⟨gA, 0, none⟩ (.bool nb)).setCell ⟨gA, 1, none⟩ (.slice AC nl.length cC)).setCell ⟨gA, 2, none⟩ (.slice AV nq.length cV)) by repeat first | exact HB3.out | refine below_set ?_ GA.out))) (fun _ _ => trivial)) _); have HV5 := Aside0.mk (Kd.V_alloc (Kd.V_below n3_.out.1 hb) (.cells #[.bool false, .slice Ag gl.length cg] 24 (0, 0))); have HS5 := Aside0.mk (Kd.S_alloc (Kd.S_below n3_.out.2 hb) (.cells #[.bool false, .slice Ag gl.length cg] 24 (0, 0))); have BA5 := Aside0.mk (show (w5.alloc (.cells #[.bool false, .slice Ag gl.length cg] 24 (0, 0))).heap[gA]? = some (.cells #[.bool nb, .slice AC nl.length cC, .slice AV nq.length cV] 27 (0, 0)) from blk_alloc (blk_below (by refine blk_put (cs := #[.bool nb, .slice AC nl.length cC, .slice A0_2 l0_2.length c0_2]) ?_ 2 _ rfl; refine blk_put (cs := #[.bool nb, .slice A0_1 l0_1.length c0_1, .slice A0_2 l0_2.length c0_2]) ?_ 1 _ rfl; refine blk_put (cs := #[.bool a0_0, .slice A0_1 l0_1.length c0_1, .slice A0_2 l0_2.length c0_2]) ?_ 0 _ rfl; exact BA3.out) hb) _); have BR5 := Aside0.mk (show (w5.alloc (.cells #[.bool false, .slice Ag gl.length cg] 24 (0, 0))).heap[gR]? = some (.cells #[.bool false, .slice none 0 0, .slice none 0 0] 27 (0, 0)) from blk_alloc (blk_below ((set3_other w3 gA 0 1 2 (.bool nb) (.slice AC nl.length cC) (.slice AV nq.length cV) gR (fun e => NAR.out e.symm)).trans BR3.out) hb) _); have HB5 := Aside0.mk (below_alloc (below_step (show Below w.heap.size w (((w3.setCell ⟨gA, 0, none⟩ (.bool nb)).setCell ⟨gA, 1, none⟩ (.slice AC nl.length cC)).setCell ⟨gA, 2, none⟩ (.slice AV nq.length cV)) by repeat first | exact HB3.out | refine below_set ?_ GA.out) hb) (.cells #[.bool false, .slice Ag gl.length cg] 24 (0, 0))); clear ho hb n3_; have hcE0 : (w5.alloc (.cells #[.bool false, .slice Ag gl.length cg] 24 (0, 0))).cell? ⟨gA, 0, none⟩ = some (.bool nb) := (blk_cell BA5.out 0).trans rfl; have hcE1 : (w5.alloc (.cells #[.bool false, .slice Ag gl.length cg] 24 (0, 0))).cell? ⟨gA, 1, none⟩ = some (.slice AC nl.length cC) := (blk_cell BA5.out 1).trans rfl; have hcE2 : (w5.alloc (.cells #[.bool false, .slice Ag gl.length cg] 24 (0, 0))).cell? ⟨gA, 2, none⟩ = some (.slice AV nq.length cV) := (blk_cell BA5.out 2).trans rfl; have hg0 : (w5.alloc (.cells #[.bool false, .slice Ag gl.length cg] 24 (0, 0))).cell? ⟨w5.heap.size, 0, none⟩ = some (.bool false) := (blk_cell (blk_new w5 _) 0).trans rfl; have hg1 : (w5.alloc (.cells #[.bool false, .slice Ag gl.length cg] 24 (0, 0))).cell? ⟨w5.heap.size, 1, none⟩ = some (.slice Ag gl.length cg) := (blk_cell (blk_new w5 _) 1).trans rfl)
      | (go_at_call 48; (with_reducible refine (whole_DivMod.calls kf nb _ _ nl false _ _ gl cb cl sb sl 0 _ ?f1 ?f2 ?f3 ?f4 HF.out).mono ?_); (case f1 => exact (Kd.V_reads' HV5.out).2.2); (case f2 => exact (Kd.V_reads' HV5.out).2.1); (case f3 => exact (Kd.R_reads' HG5.out).2.2); (case f4 => exact (Kd.R_reads' HG5.out).2.1); rintro e w6 ⟨vc, vs, rfl, ho, ho2, hb⟩; obtain ⟨Ac, cc, ec⟩ := Kd.R_slice ho; subst ec; obtain ⟨As, cs, es⟩ := Kd.R_slice ho2; subst es; have HC6 := Aside0.mk (show OwnK ((w6.alloc (.cells #[.bool cb, .slice Ac cl.length cc] 24 (0, 0))).alloc (.cells #[.bool sb, .slice As sl.length cs] 24 (0, 0))) w.heap.size ⟨0, false, Ac, cc, cl⟩ from Kd.R_alloc (Kd.R_alloc (Kd.R_mono (Kd.R_lower ho HB5.out.size) (fun _ _ => trivial)) (.cells #[.bool cb, .slice Ac cl.length cc] 24 (0, 0))) (.cells #[.bool sb, .slice As sl.length cs] 24 (0, 0))); have HR6 := Aside0.mk (show OwnK ((w6.alloc (.cells #[.bool cb, .slice Ac cl.length cc] 24 (0, 0))).alloc (.cells #[.bool sb, .slice As sl.length cs] 24 (0, 0))) w.heap.size ⟨0, false, As, cs, sl⟩ from Kd.R_alloc (Kd.R_alloc (Kd.R_mono (Kd.R_lower ho2 HB5.out.size) (fun _ _ => trivial)) (.cells #[.bool cb, .slice Ac cl.length cc] 24 (0, 0))) (.cells #[.bool sb, .slice As sl.length cs] 24 (0, 0))); have HV6 := Aside0.mk (Kd.V_alloc (Kd.V_alloc (Kd.V_below HV5.out hb) (.cells #[.bool cb, .slice Ac cl.length cc] 24 (0, 0))) (.cells #[.bool sb, .slice As sl.length cs] 24 (0, 0))); have HS6 := Aside0.mk (Kd.S_alloc (Kd.S_alloc (Kd.S_below HS5.out hb) (.cells #[.bool cb, .slice Ac cl.length cc] 24 (0, 0))) (.cells #[.bool sb, .slice As sl.length cs] 24 (0, 0))); have HG6 := Aside0.mk (show OwnK ((w6.alloc (.cells #[.bool cb, .slice Ac cl.length cc] 24 (0, 0))).alloc (.cells #[.bool sb, .slice As sl.length cs] 24 (0, 0))) w.heap.size ⟨0, false, Ag, cg, gl⟩ from Kd.R_alloc (Kd.R_alloc (Kd.R_below HG5.out hb) (.cells #[.bool cb, .slice Ac cl.length cc] 24 (0, 0))) (.cells #[.bool sb, .slice As sl.length cs] 24 (0, 0))); have BA6 := Aside0.mk (show ((w6.alloc (.cells #[.bool cb, .slice Ac cl.length cc] 24 (0, 0))).alloc (.cells #[.bool sb, .slice As sl.length cs] 24 (0, 0))).heap[gA]? = some (.cells #[.bool nb, .slice AC nl.length cC, .slice AV nq.length cV] 27 (0, 0)) from blk_alloc (blk_alloc (blk_below BA5.out hb) _) _); have BR6 := Aside0.mk (show ((w6.alloc (.cells #[.bool cb, .slice Ac cl.length cc] 24 (0, 0))).alloc (.cells #[.bool sb, .slice As sl.length cs] 24 (0, 0))).heap[gR]? = some (.cells #[.bool false, .slice none 0 0, .slice none 0 0] 27 (0, 0)) from blk_alloc (blk_alloc (blk_below BR5.out hb) _) _); have BG6 := Aside0.mk (show ((w6.alloc (.cells #[.bool cb, .slice Ac cl.length cc] 24 (0, 0))).alloc (.cells #[.bool sb, .slice As sl.length cs] 24 (0, 0))).heap[w5.heap.size]? = some (.cells #[.bool false, .slice Ag gl.length cg] 24 (0, 0)) from blk_alloc (blk_alloc (blk_below (blk_new w5 _) hb) _) _); have BC6 := Aside0.mk (show ((w6.alloc (.cells #[.bool cb, .slice Ac cl.length cc] 24 (0, 0))).alloc (.cells #[.bool sb, .slice As sl.length cs] 24 (0, 0))).heap[w6.heap.size]? = some (.cells #[.bool cb, .slice Ac cl.length cc] 24 (0, 0)) from blk_alloc (blk_new w6 _) _); have HB6 := Aside0.mk (below_alloc (below_alloc (below_step HB5.out hb) (.cells #[.bool cb, .slice Ac cl.length cc] 24 (0, 0))) (.cells #[.bool sb, .slice As sl.length cs] 24 (0, 0))); have hsz : (w6.alloc (.cells #[.bool cb, .slice Ac cl.length cc] 24 (0, 0))).heap.size = w6.heap.size + 1 := (by simp only [World.alloc, Array.size_push]); have BS6 := Aside0.mk (show ((w6.alloc (.cells #[.bool cb, .slice Ac cl.length cc] 24 (0, 0))).alloc (.cells #[.bool sb, .slice As sl.length cs] 24 (0, 0))).heap[w6.heap.size + 1]? = some (.cells #[.bool sb, .slice As sl.length cs] 24 (0, 0)) from hsz ▸ blk_new (w6.alloc (.cells #[.bool cb, .slice Ac cl.length cc] 24 (0, 0))) (.cells #[.bool sb, .slice As sl.length cs] 24 (0, 0))); clear ho ho2 hb hsz; have hcF0 : ((w6.alloc (.cells #[.bool cb, .slice Ac cl.length cc] 24 (0, 0))).alloc (.cells #[.bool sb, .slice As sl.length cs] 24 (0, 0))).cell? ⟨gA, 0, none⟩ = some (.bool nb) := (blk_cell BA6.out 0).trans rfl; have hcF1 : ((w6.alloc (.cells #[.bool cb, .slice Ac cl.length cc] 24 (0, 0))).alloc (.cells #[.bool sb, .slice As sl.length cs] 24 (0, 0))).cell? ⟨gA, 1, none⟩ = some (.slice AC nl.length cC) := (blk_cell BA6.out 1).trans rfl; have hcF2 : ((w6.alloc (.cells #[.bool cb, .slice Ac cl.length cc] 24 (0, 0))).alloc (.cells #[.bool sb, .slice As sl.length cs] 24 (0, 0))).cell? ⟨gA, 2, none⟩ = some (.slice AV nq.length cV) := (blk_cell BA6.out 2).trans rfl; have hcS0 : ((w6.alloc (.cells #[.bool cb, .slice Ac cl.length cc] 24 (0, 0))).alloc (.cells #[.bool sb, .slice As sl.length cs] 24 (0, 0))).cell? ⟨(w6.heap.size + 1), 0, none⟩ = some (.bool sb) := (blk_cell BS6.out 0).trans rfl; have hcS1 : ((w6.alloc (.cells #[.bool cb, .slice Ac cl.length cc] 24 (0, 0))).alloc (.cells #[.bool sb, .slice As sl.length cs] 24 (0, 0))).cell? ⟨(w6.heap.size + 1), 1, none⟩ = some (.slice As sl.length cs) := (blk_cell BS6.out 1).trans rfl)
      | (go_at_call 19; (with_reducible refine (whole_Sign.calls sb _ _ sl s1 _ ?g1 ?g2 HS1.out).mono ?_); (case g1 => exact (Kd.R_reads' HR6.out).2.2); (case g2 => exact (Kd.R_reads' HR6.out).2.1); rintro e w7 ⟨rfl, hb⟩; have HC7 := Aside0.mk (HC6.out.below hb); have HV7 := Aside0.mk (Kd.V_below HV6.out hb); have HS7 := Aside0.mk (Kd.S_below HS6.out hb); have HG7 := Aside0.mk (HG6.out.below hb); have BA7 := Aside0.mk (blk_below BA6.out hb); have BR7 := Aside0.mk (blk_below BR6.out hb); have BG7 := Aside0.mk (blk_below BG6.out hb); have BC7 := Aside0.mk (blk_below BC6.out hb); have HB7 := Aside0.mk (below_step HB6.out hb); clear hb; have hcH0 : w7.cell? ⟨gA, 0, none⟩ = some (.bool nb) := (blk_cell BA7.out 0).trans rfl; have hcH1 : w7.cell? ⟨gA, 1, none⟩ = some (.slice AC nl.length cC) := (blk_cell BA7.out 1).trans rfl; have hcH2 : w7.cell? ⟨gA, 2, none⟩ = some (.slice AV nq.length cV) := (blk_cell BA7.out 2).trans rfl; have hcR0 : w7.cell? ⟨gR, 0, none⟩ = some (.bool false) := (blk_cell BR7.out 0).trans rfl; have hcR1 : w7.cell? ⟨gR, 1, none⟩ = some (.slice none 0 0) := (blk_cell BR7.out 1).trans rfl; have hcR2 : w7.cell? ⟨gR, 2, none⟩ = some (.slice none 0 0) := (blk_cell BR7.out 2).trans rfl; have hcI0 : w7.cell? ⟨w5.heap.size, 0, none⟩ = some (.bool false) := (blk_cell BG7.out 0).trans rfl; have hcI1 : w7.cell? ⟨w5.heap.size, 1, none⟩ = some (.slice Ag gl.length cg) := (blk_cell BG7.out 1).trans rfl; have hcJ0 : w7.cell? ⟨w6.heap.size, 0, none⟩ = some (.bool cb) := (blk_cell BC7.out 0).trans rfl; have hcJ1 : w7.cell? ⟨w6.heap.size, 1, none⟩ = some (.slice Ac cl.length cc) := (blk_cell BC7.out 1).trans rfl; have hfR0 := blk_frozen BR7.out 0; have hfR1 := blk_frozen BR7.out 1; have hfR2 := blk_frozen BR7.out 2)
      | (go_at_call 43; (with_reducible refine (lin_by.calls nb _ _ nl _ _ nq false _ _ gl cb (fun k_ => w.heap.size ≤ k_ ∧ k_ ≠ gR) _ _ cl cb cl np _ ?b1 ?b2 ?b3 ?b4 ?b5 ?b6 ?b7 (HY.out nb nl cb cl)).mono ?_); (case b1 => exact (Kd.V_reads' HV7.out).2.2); (case b2 => exact (Kd.V_reads' HV7.out).2.1); (case b3 => exact (Kd.S_reads' HS7.out).2.2); (case b4 => exact (Kd.S_reads' HS7.out).2.1); (case b5 => exact (Kd.R_reads' HG7.out).2.2); (case b6 => exact (Kd.R_reads' HG7.out).2.1); (case b7 => exact Kd.R_V (Kd.R_mono (Kd.R_bound (Kd.R_types HC7.out BR7.out (by decide))) (fun k hk => ⟨hk.2.1, hk.1.2⟩))); rintro e w8 ⟨v1, v2, rfl, ho, hs, hb⟩; obtain ⟨A8, c8, e8⟩ := Kd.V_slice ho; subst e8; obtain ⟨A9, c9, e9⟩ := Kd.S_slice hs; subst e9; have GO8 := Aside0.mk (show w.heap.size ≤ w8.heap.size from Nat.le_trans HB7.out.size hb.size); have NRO := Aside0.mk (show gR ≠ w8.heap.size from Nat.ne_of_lt (Nat.lt_of_lt_of_le (blk_lt BR7.out) hb.size)); have HO9 := Aside0.mk (Kd.V_alloc ho (.cells #[.bool cb, .slice A8 cl.length c8, .slice A9 np.length c9] 27 (0, 0))); have HS9 := Aside0.mk (Kd.S_alloc hs (.cells #[.bool cb, .slice A8 cl.length c8, .slice A9 np.length c9] 27 (0, 0))); obtain ⟨ad9, AX, cX, eX, hx0, hx1, hx2, hx3, hx4⟩ := at_T46 (Kd.S_reads' HS9.out).2.2 0 (Int.le_refl 0) HNP.out; have HX := Aside0.mk hx4; have HXc := Aside0.mk hx3; have BR9 := Aside0.mk (show (w8.alloc (.cells #[.bool cb, .slice A8 cl.length c8, .slice A9 np.length c9] 27 (0, 0))).heap[gR]? = some (.cells #[.bool false, .slice none 0 0, .slice none 0 0] 27 (0, 0)) from blk_alloc (blk_below BR7.out hb) _); have BO9 := Aside0.mk (blk_new w8 (.cells #[.bool cb, .slice A8 cl.length c8, .slice A9 np.length c9] 27 (0, 0))); have HB9 := Aside0.mk (below_alloc (below_step HB7.out hb) (.cells #[.bool cb, .slice A8 cl.length c8, .slice A9 np.length c9] 27 (0, 0))); clear ho hs hb hx3 hx4; have ho0 : (w8.alloc (.cells #[.bool cb, .slice A8 cl.length c8, .slice A9 np.length c9] 27 (0, 0))).cell? ⟨w8.heap.size, 0, none⟩ = some (.bool cb) := (blk_cell BO9.out 0).trans rfl; have ho1 : (w8.alloc (.cells #[.bool cb, .slice A8 cl.length c8, .slice A9 np.length c9] 27 (0, 0))).cell? ⟨w8.heap.size, 1, none⟩ = some (.slice A8 cl.length c8) := (blk_cell BO9.out 1).trans rfl; have ho2 : (w8.alloc (.cells #[.bool cb, .slice A8 cl.length c8, .slice A9 np.length c9] 27 (0, 0))).cell? ⟨w8.heap.size, 2, none⟩ = some (.slice A9 np.length c9) := (blk_cell BO9.out 2).trans rfl; cases eX; rw [show ad9.add ((0 : Int).toNat * 3) = ad9 by cases ad9; rfl] at hx1 hx2)
      | (go_at_call 19; (with_reducible refine (whole_Sign.calls _ _ _ _ s2 _ ?i1 ?i2 HS2.out).mono ?_); (case i1 => exact HX.out); (case i2 => exact HXc.out); rintro e w10 ⟨rfl, hb⟩; have HO10 := Aside0.mk (Kd.V_below HO9.out hb); have HS10 := Aside0.mk (Kd.S_below HS9.out hb); have BR10 := Aside0.mk (blk_below BR9.out hb); have BO10 := Aside0.mk (blk_below BO9.out hb); have HB10 := Aside0.mk (below_step HB9.out hb); clear hb; have hp0 : w10.cell? ⟨w8.heap.size, 0, none⟩ = some (.bool cb) := (blk_cell BO10.out 0).trans rfl; have hp1 : w10.cell? ⟨w8.heap.size, 1, none⟩ = some (.slice A8 cl.length c8) := (blk_cell BO10.out 1).trans rfl; have hp2 : w10.cell? ⟨w8.heap.size, 2, none⟩ = some (.slice (some ad9) np.length c9) := (blk_cell BO10.out 2).trans rfl; have hcS0 : w10.cell? ⟨gR, 0, none⟩ = some (.bool false) := (blk_cell BR10.out 0).trans rfl; have hcS1 : w10.cell? ⟨gR, 1, none⟩ = some (.slice none 0 0) := (blk_cell BR10.out 1).trans rfl; have hcS2 : w10.cell? ⟨gR, 2, none⟩ = some (.slice none 0 0) := (blk_cell BR10.out 2).trans rfl; have hgR0 := blk_frozen BR10.out 0; have hgR1 := blk_frozen BR10.out 1; have hgR2 := blk_frozen BR10.out 2))
    · skip
      refine bodyPost_ret (results_ct rfl _ _ gR 27 #[.bool nb, .slice AC nl.length cC, .slice AV nq.length cV] (0, 0) _ rfl (by refine blk_put (cs := #[.bool nb, .slice AC nl.length cC, .slice none 0 0]) ?_ 2 _ rfl; refine blk_put (cs := #[.bool nb, .slice none 0 0, .slice none 0 0]) ?_ 1 _ rfl; refine blk_put (cs := #[.bool false, .slice none 0 0, .slice none 0 0]) ?_ 0 _ rfl; exact BR7.out) Try.underlying27 rfl (by kernel_rfl)) rfl ?_
      have hlt := blk_lt BR2.out
      have hsz := HB2.out.size
      refine ⟨_, _, rfl, Kd.V_mono (Kd.V_far (p := ⟨gR, 2, none⟩) (Kd.V_far (p := ⟨gR, 1, none⟩) (Kd.V_far (p := ⟨gR, 0, none⟩) HV7.out ?n1 _) ?n2 _) ?n3 _) ?n4, Kd.S_mono (Kd.S_lower (Kd.S_far (p := ⟨gR, 2, none⟩) (Kd.S_far (p := ⟨gR, 1, none⟩) (Kd.S_far (p := ⟨gR, 0, none⟩) HS7.out ?m1 _) ?m2 _) ?m3 _) hsz) ?m4, by repeat first | exact HB7.out | refine below_set ?_ GR.out⟩
      case n1 => exact fun k hk e => by have := hk.1; subst e; omega
      case n2 => exact fun k hk e => by have := hk.1; subst e; omega
      case n3 => exact fun k hk e => by have := hk.1; subst e; omega
      case n4 => exact fun k hk => ⟨Nat.le_trans hsz hk.1, hk.2⟩
      case m1 => exact fun k hk e => by subst e; omega
      case m2 => exact fun k hk e => by subst e; omega
      case m3 => exact fun k hk e => by subst e; omega
      case m4 => exact fun k hk => Nat.le_trans hsz hk
    · skip
      refine bodyPost_ret (results_ct rfl _ _ gR 27 #[.bool cb, .slice A8 cl.length c8, .slice (some ad9) np.length c9] (0, 0) _ rfl (by refine blk_put (cs := #[.bool cb, .slice A8 cl.length c8, .slice none 0 0]) ?_ 2 _ rfl; refine blk_put (cs := #[.bool cb, .slice none 0 0, .slice none 0 0]) ?_ 1 _ rfl; refine blk_put (cs := #[.bool false, .slice none 0 0, .slice none 0 0]) ?_ 0 _ rfl; exact BR10.out) Try.underlying27 rfl (by kernel_rfl)) rfl ?_
      have hlt := blk_lt BR7.out
      have hsz := HB7.out.size
      refine ⟨_, _, rfl, Kd.V_mono (Kd.V_far (p := ⟨gR, 2, none⟩) (Kd.V_far (p := ⟨gR, 1, none⟩) (Kd.V_far (p := ⟨gR, 0, none⟩) HO10.out ?n1 _) ?n2 _) ?n3 _) ?n4, Kd.S_mono (Kd.S_lower (Kd.S_far (p := ⟨gR, 2, none⟩) (Kd.S_far (p := ⟨gR, 1, none⟩) (Kd.S_far (p := ⟨gR, 0, none⟩) HS10.out ?m1 _) ?m2 _) ?m3 _) hsz) ?m4, by repeat first | exact HB10.out | refine below_set ?_ GR.out⟩
      case n1 => exact fun k hk => hk.1.elim (fun h => h.2) (fun h e => by subst e; omega)
      case n2 => exact fun k hk => hk.1.elim (fun h => h.2) (fun h e => by subst e; omega)
      case n3 => exact fun k hk => hk.1.elim (fun h => h.2) (fun h e => by subst e; omega)
      case n4 => exact fun k hk => ⟨hk.1.elim (fun h => h.1) (fun h => Nat.le_trans hsz h), hk.2⟩
      case m1 => exact fun k hk e => by subst e; omega
      case m2 => exact fun k hk e => by subst e; omega
      case m3 => exact fun k hk e => by subst e; omega
      case m4 => exact fun k hk => Nat.le_trans hsz hk
    · skip
      refine start_ (n := 4) (S := fun w' => w'.cell? ⟨w8.heap.size, 0, none⟩ = some (.bool cb) ∧ w'.cell? ⟨w8.heap.size, 1, none⟩ = some (.slice A8 cl.length c8) ∧ w'.cell? ⟨w8.heap.size, 2, none⟩ = some (.slice (some ad9) np.length c9)) (ds := [3]) #[false, false, false, false] (by kernel_rfl) rfl rfl ⟨hp0, hp1, hp2⟩ (fun hHeld => ?_)
      refine take_ (i := 0) (N := some 46) (v := ?_) (a' := ?_) #[true, false, false, false] rfl rfl (by kernel_rfl) (fun _ _ _ h => h) (Or.inl ⟨by rfl, ?_⟩) hHeld ?_ ?_
      rotate_left
      · rintro w' ⟨s0, s1, s2⟩
        go_simp
        with_reducible rfl
      rotate_left
      · simp only [Act.put, List.setIfInBounds_toArray, List.set_cons_zero, List.set_cons_succ, i64_w, i32_w]
        rfl
      refine one_ (i := 1) (N := some 47) #[true, true, false, false] rfl rfl (by kernel_rfl) (by decide) (fun K hK => ?_)
      refine goes_ Try.func33 (by kernel_rfl) rfl #[.int .i64 (-1)] (by rfl) rfl rfl (by simp only [List.map_toArray, List.map_cons, List.map_nil]; rfl) ?_
      with_reducible refine (whole_Of.calls (-1) tb tl _ HOF.out).mono ?_
      rintro e w11 ⟨v11, rfl, ho, hb⟩
      obtain ⟨A11, c11, e11⟩ := Kd.R_slice ho
      subst e11
      have HV11 := Aside0.mk ho
      have HB11 := Aside0.mk (show Below w10.heap.size w10 w11 from below_step (by repeat first | exact Below.refl _ _ | apply below_drew1) hb)
      have BO11 := Aside0.mk (blk_below BO10.out HB11.out)
      have hq0 : w11.cell? ⟨w8.heap.size, 0, none⟩ = some (.bool cb) := (blk_cell BO11.out 0).trans rfl
      have hq1 : w11.cell? ⟨w8.heap.size, 1, none⟩ = some (.slice A8 cl.length c8) := (blk_cell BO11.out 1).trans rfl
      have hq2 : w11.cell? ⟨w8.heap.size, 2, none⟩ = some (.slice (some ad9) np.length c9) := (blk_cell BO11.out 2).trans rfl
      clear ho hb
      refine ⟨_, rfl, ?_⟩
      refine hK.out _ _ ⟨hq0, hq1, hq2⟩ (fun hHeld => ?_)
      clear hK K
      refine norm_ (a' := ?_) ?_ ?_
      rotate_left
      · show Act.put _ (some 47) _ = _
        simp only [Act.put, List.setIfInBounds_toArray, List.set_cons_zero, List.set_cons_succ, i64_w, i32_w]
        rfl
      refine one_ (i := 2) (N := some 48) #[true, true, true, false] rfl rfl (by kernel_rfl) (by decide) (fun K hK => ?_)
      refine goes_ Try.func24 (by kernel_rfl) rfl #[.agg #[.bool cb, .slice A8 cl.length c8, .slice (some ad9) np.length c9], .agg #[.bool tb, .slice A11 tl.length c11]] (by rfl) rfl rfl (by simp only [List.map_toArray, List.map_cons, List.map_nil]; rfl) ?_
      with_reducible refine (lin_Scale.calls kS cb _ _ cl _ _ np tb _ _ tl r1 r2 r3 _ ?s1 ?s2 ?s3 ?s4 ?s5 ?s6 HSC.out).mono ?_
      (case s1 => exact (Kd.V_reads' (Kd.V_below HO10.out HB11.out)).2.2)
      (case s2 => exact (Kd.V_reads' HO10.out).2.1)
      (case s3 => exact (Kd.S_reads' (Kd.S_below HS10.out HB11.out)).2.2)
      (case s4 => exact (Kd.S_reads' HS10.out).2.1)
      (case s5 => exact (Kd.R_reads' HV11.out).2.2)
      (case s6 => exact (Kd.R_reads' HV11.out).2.1)
      rintro e w12 ⟨v1, v2, rfl, ho, hs, hb⟩
      obtain ⟨A12, c12, e12⟩ := Kd.R_slice ho
      subst e12
      obtain ⟨A13, c13, e13⟩ := Kd.S_slice hs
      subst e13
      have HO12 := Aside0.mk ho
      have HS12 := Aside0.mk hs
      have HB12 := Aside0.mk (below_step HB11.out hb)
      have BO12 := Aside0.mk (blk_below BO10.out HB12.out)
      have BR12 := Aside0.mk (blk_below BR10.out HB12.out)
      have hcT0 : w12.cell? ⟨gR, 0, none⟩ = some (.bool false) := (blk_cell BR12.out 0).trans rfl
      have hcT1 : w12.cell? ⟨gR, 1, none⟩ = some (.slice none 0 0) := (blk_cell BR12.out 1).trans rfl
      have hcT2 : w12.cell? ⟨gR, 2, none⟩ = some (.slice none 0 0) := (blk_cell BR12.out 2).trans rfl
      have hgT0 := blk_frozen BR12.out 0
      have hgT1 := blk_frozen BR12.out 1
      have hgT2 := blk_frozen BR12.out 2
      have nRO : gR ≠ w8.heap.size := NRO.out
      have nOR : w8.heap.size ≠ gR := fun e => NRO.out e.symm
      have hr0 : w12.cell? ⟨w8.heap.size, 0, none⟩ = some (.bool cb) := (blk_cell BO12.out 0).trans rfl
      have hr1 : w12.cell? ⟨w8.heap.size, 1, none⟩ = some (.slice A8 cl.length c8) := (blk_cell BO12.out 1).trans rfl
      have hr2 : w12.cell? ⟨w8.heap.size, 2, none⟩ = some (.slice (some ad9) np.length c9) := (blk_cell BO12.out 2).trans rfl
      have hfo0 := blk_frozen BO12.out 0
      have hfo1 := blk_frozen BO12.out 1
      have hfo2 := blk_frozen BO12.out 2
      clear ho hs hb
      refine ⟨_, rfl, ?_⟩
      refine hK.out _ _ ⟨hr0, hr1, hr2⟩ (fun hHeld => ?_)
      clear hK K
      refine norm_ (a' := ?_) ?_ ?_
      rotate_left
      · show Act.put _ (some 48) _ = _
        simp only [Act.put, List.setIfInBounds_toArray, List.set_cons_zero, List.set_cons_succ, i64_w, i32_w]
        rfl
      refine last_ (i := 3) (N := none) #[true, true, true, true] rfl rfl (by kernel_rfl) (by decide) (fun K hK => ?_)
      refine skip_ (w1 := ?_) (by rfl) rfl ?_ ?_
      rotate_left
      · go_simp
        rfl
      refine hK.out _ _ ?_
      clear hK K
      refine done_ (by kernel_rfl) ?_
      go_wp2_with fail
      have hbR : (((w12.setCell ⟨w8.heap.size, 0, none⟩ (.bool r1)).setCell ⟨w8.heap.size, 1, none⟩ (.slice A12 r2.length c12)).setCell ⟨w8.heap.size, 2, none⟩ (.slice A13 r3.length c13)).heap[gR]? = some (.cells #[.bool false, .slice none 0 0, .slice none 0 0] 27 (0, 0)) := (set3_other w12 w8.heap.size 0 1 2 _ _ _ gR NRO.out).trans BR12.out
      refine bodyPost_ret (results_ct rfl _ _ gR 27 #[.bool r1, .slice A12 r2.length c12, .slice A13 r3.length c13] (0, 0) _ rfl (by refine blk_put (cs := #[.bool r1, .slice A12 r2.length c12, .slice none 0 0]) ?_ 2 _ rfl; refine blk_put (cs := #[.bool r1, .slice none 0 0, .slice none 0 0]) ?_ 1 _ rfl; refine blk_put (cs := #[.bool false, .slice none 0 0, .slice none 0 0]) ?_ 0 _ rfl; exact hbR) Try.underlying27 rfl (by kernel_rfl)) rfl ?_
      have hlb := Nat.le_trans HB10.out.size HB11.out.size
      obtain ⟨hV, hS⟩ := out_lin (w1 := (((((w12.setCell ⟨w8.heap.size, 0, none⟩ (.bool r1)).setCell ⟨w8.heap.size, 1, none⟩ (.slice A12 r2.length c12)).setCell ⟨w8.heap.size, 2, none⟩ (.slice A13 r3.length c13)).setCell ⟨gR, 0, none⟩ (.bool r1)).setCell ⟨gR, 1, none⟩ (.slice A12 r2.length c12)).setCell ⟨gR, 2, none⟩ (.slice A13 r3.length c13)) (Kd.R_lower HO12.out hlb) (Kd.S_lower HS12.out hlb) (fun k cells t ht hk => by
        have hne : t ≠ 27 := by rcases ht with rfl | rfl <;> decide
        exact (set3_other _ _ _ _ _ _ _ _ k (box_ne BR12.out hk (fun e => hne e.symm))).trans (set3_other _ _ _ _ _ _ _ _ k (box_ne BO12.out hk (fun e => hne e.symm))))
      exact ⟨_, _, rfl, hV, hS, by repeat first | exact below_step HB10.out HB12.out | refine below_set ?_ GR.out | refine below_set ?_ GO8.out⟩
end Go.Proofs.Ytdicjemjmlbmlaa.H
/- Written by a program of this session, wip/tools/patch_print.py, over the kit's print of the loaded functions. -/
namespace Go.Proofs.Ytdicjemjmlbmlaa.H
end Go.Proofs.Ytdicjemjmlbmlaa.H
namespace Go.Proofs.Ytdicjemjmlbmlaa.PA
open Go.RowKit Go.Proofs.YtdicjemjmlbmlaaW.PrintWords Go.Proofs.YtdicjemjmlbmlaaW.PrintLast Go.Proofs.YtdicjemjmlbmlaaW.PrintMore Go.Proofs.Ytdicjemjmlbmlaa.H
attribute [local go_sem] max2_int min2_int max_two min_two max_three min_three max_four min_four   -- for this text's walks alone
set_option linter.unusedVariables false
set_option linter.unusedSimpArgs false

/-! ### gudgeonref13_Light: function 40 -/
mutual
def gudgeonref13_Light.j0 : Nat → Int → Bool → Bool → List Int → List (S46) → Option (Bool)
 | 0, _, _, _, _, _ => none
 | k + 1, x2, x20, x611000, x611001, x611002 => if x20 = true then (some false) else (gudgeonref13_Light.l0 k x2 0 x611000 x611001 x611002)
def gudgeonref13_Light.l0 : Nat → Int → Int → Bool → List Int → List (S46) → Option (Bool)
 | 0, _, _, _, _, _ => none
 | k + 1, x2, x7, x611000, x611001, x611002 => if x7 < (x611002.length : Int) then (if 0 ≤ x7 then (if (((rd_T46 x611002 x7).f1.f1).length : Int) > x2 then (some false) else (gudgeonref13_Light.l0 k x2 (wrap64 (x7 + 1)) x611000 x611001 x611002)) else (none)) else (some true)
end
def gudgeonref13_Light.f (k : Nat) (a0_0 : Bool) (l0_1 : List Int) (l0_2 : List (S46)) (a1 : Int) (a2 : Int) : Option (Bool) := if (l0_2.length : Int) > a1 then (gudgeonref13_Light.j0 k a2 true a0_0 l0_1 l0_2) else (gudgeonref13_Light.j0 k a2 (decide ((l0_1.length : Int) > a2)) a0_0 l0_1 l0_2)
set_option maxHeartbeats 8000000 in
set_option maxRecDepth 100000 in
theorem gudgeonref13_Light.calls (k : Nat) (a0_0 : Bool) (A0_1 : Option Addr) (c0_1 : Nat) (l0_1 : List Int) (A0_2 : Option Addr) (c0_2 : Nat) (l0_2 : List (S46)) (a1 : Int) (a2 : Int) (r : Bool) (w : World) (hr0_1 : Kd.C (Kd.int .u32) w A0_1 l0_1.length l0_1) (hc0_1 : l0_1.length ≤ c0_1) (hr0_2 : Kd.C k46 w A0_2 l0_2.length l0_2) (hc0_2 : l0_2.length ≤ c0_2) (h : gudgeonref13_Light.f k a0_0 l0_1 l0_2 a1 a2 = some r) :
  Calls Try.prog 40 #[.agg #[.bool a0_0, .slice A0_1 l0_1.length c0_1, .slice A0_2 l0_2.length c0_2], .int .i64 a1, .int .i64 a2] w fun e w' => e = .returned (.bool r) ∧ Below w.heap.size w w' := by
 have hu27 := Try.underlying27
 have HR0_1 := Aside0.mk hr0_1
 have HC0_1 := Aside0.mk hc0_1
 clear hr0_1 hc0_1
 have HR0_2 := Aside0.mk hr0_2
 have HC0_2 := Aside0.mk hc0_2
 clear hr0_2 hc0_2
 have HB := Aside0.mk (Below.refl w.heap.size w)
 have H : (if (l0_2.length : Int) > a1 then (gudgeonref13_Light.j0 k a2 true a0_0 l0_1 l0_2) else (gudgeonref13_Light.j0 k a2 (decide ((l0_1.length : Int) > a2)) a0_0 l0_1 l0_2)) = some r := h
 clear h
 have HC4 := Aside0.mk H
 clear H
 go_enter Try.func40, Try.ntmps40
 go_upto_region 1 with (first | ((with_reducible refine gate_dst (N := 3) rfl ?_); (try (refine gate_guard (by rfl) ?_; dsimp only)); refine box_event ?hg (N := 3) ?hd (cs := #[.bool a0_0, .slice A0_1 l0_1.length c0_1, .slice A0_2 l0_2.length c0_2]) (t := 27) ?hr ?_; (case hd => rfl); (case hg => rfl); (case hr => first | (go_simp; done) | (go_simp; rfl)); intro gb610 hg w5 hbox hb; have BK610 := Aside0.mk (hbox); have GW610 := Aside0.mk (bxLe HB.out hg); have GE610 := GW610; replace HB := Aside0.mk (below_step HB.out hb); clear hb hbox hg))
 (try simp only [Act.put, List.setIfInBounds_toArray, List.set_cons_zero, List.set_cons_succ])
 go_cut [20] (fun v20 wc => ∃ (kq : Nat) (x20_3 : Bool), v20 = .bool x20_3 ∧ Aside0 (gudgeonref13_Light.j0 kq a2 x20_3 a0_0 l0_1 l0_2 = some r) ∧ Aside0 (kq ≤ k) ∧ Aside0 (wc.heap[gb610]? = some (.cells #[.bool a0_0, (.slice A0_1 l0_1.length c0_1), (.slice A0_2 l0_2.length c0_2)] 27 (0, 0))) ∧ Aside0 (Below w.heap.size w wc))
 case first =>
  have H := HC4.out
  clear HC4
  by_cases c6 : (l0_2.length : Int) > a1
  ·rw [if_pos c6] at H
   have c6b0 : decide (a1 < (l0_2.length : Int)) = true := decide_eq_true c6
   clear c6
   (first | rw [c6b0] | rw [c6b1] | (simp only [i64_w, i32_w]; rw [c6b0]) | skip)
   have H' := Aside0.mk H
   clear H
   have hcz7_0 : w5.cell? ⟨gb610, 0, none⟩ = some (.bool a0_0) := bc0 BK610.out
   have hcz7_1 : w5.cell? ⟨gb610, 1, none⟩ = some (.slice A0_1 l0_1.length c0_1) := bc1 BK610.out
   have hcz7_2 : w5.cell? ⟨gb610, 2, none⟩ = some (.slice A0_2 l0_2.length c0_2) := bc2 BK610.out
   have hfz7_0 := blk_frozen BK610.out 0
   have hfz7_1 := blk_frozen BK610.out 1
   have hfz7_2 := blk_frozen BK610.out 2
   go_wp2
   go_meet
   case rel => exact ⟨_, (true), (by first | rfl | (simp; done)), H', ⟨by first | omega | exact Nat.le_refl _⟩, ⟨BK610.out⟩, ⟨HB.out⟩⟩
  ·rw [if_neg c6] at H
   have c6b0 : decide (a1 < (l0_2.length : Int)) = false := decide_eq_false c6
   clear c6
   (first | rw [c6b0] | rw [c6b1] | (simp only [i64_w, i32_w]; rw [c6b0]) | skip)
   have H' := Aside0.mk H
   clear H
   have hcz8_0 : w5.cell? ⟨gb610, 0, none⟩ = some (.bool a0_0) := bc0 BK610.out
   have hcz8_1 : w5.cell? ⟨gb610, 1, none⟩ = some (.slice A0_1 l0_1.length c0_1) := bc1 BK610.out
   have hcz8_2 : w5.cell? ⟨gb610, 2, none⟩ = some (.slice A0_2 l0_2.length c0_2) := bc2 BK610.out
   have hfz8_0 := blk_frozen BK610.out 0
   have hfz8_1 := blk_frozen BK610.out 1
   have hfz8_2 := blk_frozen BK610.out 2
   go_wp2
   go_meet
   case rel => exact ⟨_, (decide ((l0_1.length : Int) > a2)), (by first | rfl | (simp; done)), H', ⟨by first | omega | exact Nat.le_refl _⟩, ⟨BK610.out⟩, ⟨HB.out⟩⟩
 case rest =>
  clear HC4
  try clear p2
  try clear c4
  try clear c6
  try clear c6b0
  try clear hcz7_0
  try clear hcz7_1
  try clear hcz7_2
  try clear hcz8_0
  try clear hcz8_1
  try clear hcz8_2
  try clear hfz7_0
  try clear hfz7_1
  try clear hfz7_2
  try clear hfz8_0
  try clear hfz8_1
  try clear hfz8_2
  obtain ⟨kq, x20_3, rfl, HA, HJ3, BK610, HB⟩ := hcut
  cases kq with
  | zero => exact absurd HA.out (by simp [gudgeonref13_Light.j0])
  | succ kj3 =>
   have H := HA.out
   clear HA
   simp only [gudgeonref13_Light.j0] at H
   by_cases c9 : x20_3 = true
   ·subst c9
    rw [if_pos rfl] at H
    obtain rfl := Option.some.inj H
    go_wp2
    go_ret
    exact ⟨by first | rfl | (simp [errW_none, errW_some] <;> rfl) | (refine congrArg (fun z_ => Ending.returned (Value.bool z_)) (decide_eq_decide.mpr ?_); unfold wrap64; omega) | (simp [*, errW_none, errW_some] <;> rfl), HB.out⟩
   ·replace c9 := Bool.eq_false_iff.mpr c9
    subst c9
    rw [if_neg (show ¬ (false = true) by decide)] at H
    have H' := Aside0.mk H
    clear H
    go_wp2
    go_loopg [7] kj3 (fun kq v7 w' => ∃ (x7_2 : Int), v7 = .int .i64 x7_2 ∧ Aside0 (gudgeonref13_Light.l0 kq a2 x7_2 a0_0 l0_1 l0_2 = some r) ∧ Aside0 (kq ≤ kj3) ∧ Aside0 (w'.heap[gb610]? = some (.cells #[.bool a0_0, (.slice A0_1 l0_1.length c0_1), (.slice A0_2 l0_2.length c0_2)] 27 (0, 0))) ∧ Aside0 (Below w.heap.size w w'))
    case atStart => exact ⟨(0), (by first | rfl | (simp; done)), H', ⟨Nat.le_refl _⟩, ⟨BK610.out⟩, ⟨HB.out⟩⟩
    case round =>
     clear H'
     try clear p2
     try clear c4
     try clear c6
     try clear c6b0
     try clear c9
     try clear hcz7_0
     try clear hcz7_1
     try clear hcz7_2
     try clear hcz8_0
     try clear hcz8_1
     try clear hcz8_2
     try clear hfz7_0
     try clear hfz7_1
     try clear hfz7_2
     try clear hfz8_0
     try clear hfz8_1
     try clear hfz8_2
     try clear p2
     obtain ⟨x7_2, rfl, HA, HK2, BK610, HB⟩ := hrel
     cases gk with
     | zero => exact absurd HA.out (by simp [gudgeonref13_Light.l0])
     | succ k2 =>
      have H := HA.out
      clear HA
      simp only [gudgeonref13_Light.l0] at H
      by_cases c10 : x7_2 < (l0_2.length : Int)
      ·rw [if_pos c10] at H
       have c10b0 : decide (x7_2 < (l0_2.length : Int)) = true := decide_eq_true c10
       clear c10
       by_cases c11 : 0 ≤ x7_2
       ·rw [if_pos c11] at H
        have c11b0 : decide (0 ≤ x7_2) = true := decide_eq_true c11
        clear c11
        by_cases c12 : (((rd_T46 l0_2 x7_2).f1.f1).length : Int) > a2
        ·rw [if_pos c12] at H
         have c12b0 : decide (a2 < (((rd_T46 l0_2 x7_2).f1.f1).length : Int)) = true := decide_eq_true c12
         clear c12
         obtain rfl := Option.some.inj H
         have hcz13_0 : wr.cell? ⟨gb610, 0, none⟩ = some (.bool a0_0) := bc0 BK610.out
         have hcz13_1 : wr.cell? ⟨gb610, 1, none⟩ = some (.slice A0_1 l0_1.length c0_1) := bc1 BK610.out
         have hcz13_2 : wr.cell? ⟨gb610, 2, none⟩ = some (.slice A0_2 l0_2.length c0_2) := bc2 BK610.out
         have hfz13_0 := blk_frozen BK610.out 0
         have hfz13_1 := blk_frozen BK610.out 1
         have hfz13_2 := blk_frozen BK610.out 2
         have p611 : 0 ≤ (x7_2 : Int) := of_decide_eq_true (by first | (with_reducible assumption) | assumption)
         have q611 : x7_2 < (l0_2.length : Int) := of_decide_eq_true (by first | (with_reducible assumption) | assumption)
         obtain ⟨ad611, A611_2, c611_2, e611, hx611_0, hx611_1, hx611_2, hl611_2, hi611_2⟩ := at_T46 HR0_2.out x7_2 p611 q611
         cases e611
         replace hx611_0 := (HB.out.cell (World.block_lt_of_cell? w _ hx611_0)).trans hx611_0
         replace hx611_1 := (HB.out.cell (World.block_lt_of_cell? w _ hx611_1)).trans hx611_1
         replace hx611_2 := (HB.out.cell (World.block_lt_of_cell? w _ hx611_2)).trans hx611_2
         have HR611_2 := Aside0.mk hi611_2
         have HC611_2 := Aside0.mk hl611_2
         clear hi611_2 hl611_2
         replace p611 := eq_true p611
         replace q611 := eq_true q611
         go_wp2
         go_ret
         exact ⟨by first | rfl | (simp [errW_none, errW_some] <;> rfl) | (refine congrArg (fun z_ => Ending.returned (Value.bool z_)) (decide_eq_decide.mpr ?_); unfold wrap64; omega) | (simp [*, errW_none, errW_some] <;> rfl), HB.out⟩
        ·rw [if_neg c12] at H
         have c12b0 : decide (a2 < (((rd_T46 l0_2 x7_2).f1.f1).length : Int)) = false := decide_eq_false c12
         clear c12
         have H' := Aside0.mk H
         clear H
         have hcz14_0 : wr.cell? ⟨gb610, 0, none⟩ = some (.bool a0_0) := bc0 BK610.out
         have hcz14_1 : wr.cell? ⟨gb610, 1, none⟩ = some (.slice A0_1 l0_1.length c0_1) := bc1 BK610.out
         have hcz14_2 : wr.cell? ⟨gb610, 2, none⟩ = some (.slice A0_2 l0_2.length c0_2) := bc2 BK610.out
         have hfz14_0 := blk_frozen BK610.out 0
         have hfz14_1 := blk_frozen BK610.out 1
         have hfz14_2 := blk_frozen BK610.out 2
         have p611 : 0 ≤ (x7_2 : Int) := of_decide_eq_true (by first | (with_reducible assumption) | assumption)
         have q611 : x7_2 < (l0_2.length : Int) := of_decide_eq_true (by first | (with_reducible assumption) | assumption)
         obtain ⟨ad611, A611_2, c611_2, e611, hx611_0, hx611_1, hx611_2, hl611_2, hi611_2⟩ := at_T46 HR0_2.out x7_2 p611 q611
         cases e611
         replace hx611_0 := (HB.out.cell (World.block_lt_of_cell? w _ hx611_0)).trans hx611_0
         replace hx611_1 := (HB.out.cell (World.block_lt_of_cell? w _ hx611_1)).trans hx611_1
         replace hx611_2 := (HB.out.cell (World.block_lt_of_cell? w _ hx611_2)).trans hx611_2
         have HR611_2 := Aside0.mk hi611_2
         have HC611_2 := Aside0.mk hl611_2
         clear hi611_2 hl611_2
         replace p611 := eq_true p611
         replace q611 := eq_true q611
         go_wp2
         go_roundg k2
         case measure => have := HJ3.out; have := HK2.out; omega
         case rel => exact ⟨(wrap64 (x7_2 + 1)), (by first | rfl | (simp; done)), H', ⟨by have := HJ3.out; have := HK2.out; omega⟩, ⟨BK610.out⟩, ⟨HB.out⟩⟩
       ·rw [if_neg c11] at H
        exact absurd H (by simp)
      ·rw [if_neg c10] at H
       have c10b0 : decide (x7_2 < (l0_2.length : Int)) = false := decide_eq_false c10
       clear c10
       obtain rfl := Option.some.inj H
       have hcz15_0 : wr.cell? ⟨gb610, 0, none⟩ = some (.bool a0_0) := bc0 BK610.out
       have hcz15_1 : wr.cell? ⟨gb610, 1, none⟩ = some (.slice A0_1 l0_1.length c0_1) := bc1 BK610.out
       have hcz15_2 : wr.cell? ⟨gb610, 2, none⟩ = some (.slice A0_2 l0_2.length c0_2) := bc2 BK610.out
       have hfz15_0 := blk_frozen BK610.out 0
       have hfz15_1 := blk_frozen BK610.out 1
       have hfz15_2 := blk_frozen BK610.out 2
       go_wp2
       go_ret
       exact ⟨by first | rfl | (simp [errW_none, errW_some] <;> rfl) | (refine congrArg (fun z_ => Ending.returned (Value.bool z_)) (decide_eq_decide.mpr ?_); unfold wrap64; omega) | (simp [*, errW_none, errW_some] <;> rfl), HB.out⟩

/-! ### gudgeonlaw13_light: function 10 -/
def gudgeonlaw13_light.f (k : Nat) (a0_0 : Bool) (l0_1 : List Int) (l0_2 : List (S46)) (a1_0 : Bool) (l1_1 : List Int) (l1_2 : List (S46)) : Option (Bool) := (gudgeonref13_Light.f k a0_0 l0_1 l0_2 20 8).bind fun t614 => ((gudgeonref13_Light.f k a1_0 l1_1 l1_2 20 8).bind fun t615 => (if t614 = true then (some t615) else (some false)))
set_option maxHeartbeats 8000000 in
set_option maxRecDepth 100000 in
theorem gudgeonlaw13_light.calls (k : Nat) (a0_0 : Bool) (A0_1 : Option Addr) (c0_1 : Nat) (l0_1 : List Int) (A0_2 : Option Addr) (c0_2 : Nat) (l0_2 : List (S46)) (a1_0 : Bool) (A1_1 : Option Addr) (c1_1 : Nat) (l1_1 : List Int) (A1_2 : Option Addr) (c1_2 : Nat) (l1_2 : List (S46)) (r : Bool) (w : World) (hr0_1 : Kd.C (Kd.int .u32) w A0_1 l0_1.length l0_1) (hc0_1 : l0_1.length ≤ c0_1) (hr0_2 : Kd.C k46 w A0_2 l0_2.length l0_2) (hc0_2 : l0_2.length ≤ c0_2) (hr1_1 : Kd.C (Kd.int .u32) w A1_1 l1_1.length l1_1) (hc1_1 : l1_1.length ≤ c1_1) (hr1_2 : Kd.C k46 w A1_2 l1_2.length l1_2) (hc1_2 : l1_2.length ≤ c1_2) (h : gudgeonlaw13_light.f k a0_0 l0_1 l0_2 a1_0 l1_1 l1_2 = some r) :
  Calls Try.prog 10 #[.agg #[.bool a0_0, .slice A0_1 l0_1.length c0_1, .slice A0_2 l0_2.length c0_2], .agg #[.bool a1_0, .slice A1_1 l1_1.length c1_1, .slice A1_2 l1_2.length c1_2]] w fun e w' => e = .returned (.bool r) ∧ Below w.heap.size w w' := by
 have hu27 := Try.underlying27
 have HR0_1 := Aside0.mk hr0_1
 have HC0_1 := Aside0.mk hc0_1
 clear hr0_1 hc0_1
 have HR0_2 := Aside0.mk hr0_2
 have HC0_2 := Aside0.mk hc0_2
 clear hr0_2 hc0_2
 have HR1_1 := Aside0.mk hr1_1
 have HC1_1 := Aside0.mk hc1_1
 clear hr1_1 hc1_1
 have HR1_2 := Aside0.mk hr1_2
 have HC1_2 := Aside0.mk hc1_2
 clear hr1_2 hc1_2
 have HB := Aside0.mk (Below.refl w.heap.size w)
 have H : ((gudgeonref13_Light.f k a0_0 l0_1 l0_2 20 8).bind fun t614 => ((gudgeonref13_Light.f k a1_0 l1_1 l1_2 20 8).bind fun t615 => (if t614 = true then (some t615) else (some false)))) = some r := h
 clear h
 obtain ⟨t614, A30, H⟩ := Option.bind_eq_some_iff.mp H
 try dsimp only at H
 have A3 := Aside0.mk A30
 clear A30
 obtain ⟨t615, A40, H⟩ := Option.bind_eq_some_iff.mp H
 try dsimp only at H
 have A4 := Aside0.mk A40
 clear A40
 by_cases c5 : t614 = true
 ·subst c5
  rw [if_pos rfl] at H
  obtain rfl := Option.some.inj H
  go_enter Try.func10, Try.ntmps10
  go_wp2_with (first | ((with_reducible refine gate_dst (N := 2) rfl ?_); refine box_event ?hg (N := 2) ?hd (cs := #[.bool a0_0, .slice A0_1 l0_1.length c0_1, .slice A0_2 l0_2.length c0_2]) (t := 27) ?hr ?_; (case hd => rfl); (case hg => rfl); (case hr => first | (go_simp; done) | (go_simp; rfl)); intro gb612 hg w6 hbox hb; have BK612 := Aside0.mk (hbox); have GW612 := Aside0.mk (bxLe HB.out hg); have GE612 := GW612; replace HB := Aside0.mk (below_step HB.out hb); clear hb hbox hg) | ((with_reducible refine gate_dst (N := 3) rfl ?_); refine box_event ?hg (N := 3) ?hd (cs := #[.bool a1_0, .slice A1_1 l1_1.length c1_1, .slice A1_2 l1_2.length c1_2]) (t := 27) ?hr ?_; (case hd => rfl); (case hg => rfl); (case hr => first | (go_simp; done) | (go_simp; rfl)); intro gb613 hg w7 hbox hb; have BK613 := Aside0.mk (hbox); have GW613 := Aside0.mk (bxLe HB.out hg); have GE613 := GW613; replace HB := Aside0.mk (below_step HB.out hb); have NB612_613 := Aside0.mk (neL BK612.out hg); have NB613_612 := Aside0.mk (neR BK612.out hg); replace BK612 := Aside0.mk (blk_below BK612.out hb); clear hb hbox hg; have hnb8 := NB612_613.out; have hnc8 := NB613_612.out; have hcz9_0 : w7.cell? ⟨gb612, 0, none⟩ = some (.bool a0_0) := bc0 BK612.out; have hcz9_1 : w7.cell? ⟨gb612, 1, none⟩ = some (.slice A0_1 l0_1.length c0_1) := bc1 BK612.out; have hcz9_2 : w7.cell? ⟨gb612, 2, none⟩ = some (.slice A0_2 l0_2.length c0_2) := bc2 BK612.out; have hfz9_0 := blk_frozen BK612.out 0; have hfz9_1 := blk_frozen BK612.out 1; have hfz9_2 := blk_frozen BK612.out 2) | ((with_reducible refine gate_callee (f := 40) rfl ?_); refine goL (some 8) Try.func40 [.agg #[.bool a0_0, .slice A0_1 l0_1.length c0_1, .slice A0_2 l0_2.length c0_2], .int .i64 20, .int .i64 8] ?_; (with_reducible refine (gudgeonref13_Light.calls k a0_0 _ _ l0_1 _ _ l0_2 20 8 true _ ?side1 ?side2 ?side3 ?side4 A3.out).mono ?_); (case side1 => exact (Kd.C_below HR0_1.out HB.out)); (case side2 => exact HC0_1.out); (case side3 => exact (Kd.C_below HR0_2.out HB.out)); (case side4 => exact HC0_2.out); rintro e w10 ⟨rfl, hb⟩; refine ⟨_, rfl, ?_⟩; replace BK613 := Aside0.mk (blk_below BK613.out hb); replace HB := Aside0.mk (below_step HB.out hb); (try clear hb); (try clear hb2); (try clear hk); (try clear hi); have hcz11_0 : w10.cell? ⟨gb613, 0, none⟩ = some (.bool a1_0) := bc0 BK613.out; have hcz11_1 : w10.cell? ⟨gb613, 1, none⟩ = some (.slice A1_1 l1_1.length c1_1) := bc1 BK613.out; have hcz11_2 : w10.cell? ⟨gb613, 2, none⟩ = some (.slice A1_2 l1_2.length c1_2) := bc2 BK613.out; have hfz11_0 := blk_frozen BK613.out 0; have hfz11_1 := blk_frozen BK613.out 1; have hfz11_2 := blk_frozen BK613.out 2) | ((with_reducible refine gate_callee (f := 40) rfl ?_); refine goL (some 10) Try.func40 [.agg #[.bool a1_0, .slice A1_1 l1_1.length c1_1, .slice A1_2 l1_2.length c1_2], .int .i64 20, .int .i64 8] ?_; (with_reducible refine (gudgeonref13_Light.calls k a1_0 _ _ l1_1 _ _ l1_2 20 8 t615 _ ?side1 ?side2 ?side3 ?side4 A4.out).mono ?_); (case side1 => exact (Kd.C_below HR1_1.out HB.out)); (case side2 => exact HC1_1.out); (case side3 => exact (Kd.C_below HR1_2.out HB.out)); (case side4 => exact HC1_2.out); rintro e w12 ⟨rfl, hb⟩; refine ⟨_, rfl, ?_⟩; replace HB := Aside0.mk (below_step HB.out hb); (try clear hb); (try clear hb2); (try clear hk); (try clear hi)))
  go_ret
  exact ⟨by first | rfl | (simp [errW_none, errW_some] <;> rfl) | (refine congrArg (fun z_ => Ending.returned (Value.bool z_)) (decide_eq_decide.mpr ?_); unfold wrap64; omega) | (simp [*, errW_none, errW_some] <;> rfl), HB.out⟩
 ·replace c5 := Bool.eq_false_iff.mpr c5
  subst c5
  rw [if_neg (show ¬ (false = true) by decide)] at H
  obtain rfl := Option.some.inj H
  go_enter Try.func10, Try.ntmps10
  go_wp2_with (first | ((with_reducible refine gate_dst (N := 2) rfl ?_); refine box_event ?hg (N := 2) ?hd (cs := #[.bool a0_0, .slice A0_1 l0_1.length c0_1, .slice A0_2 l0_2.length c0_2]) (t := 27) ?hr ?_; (case hd => rfl); (case hg => rfl); (case hr => first | (go_simp; done) | (go_simp; rfl)); intro gb612 hg w13 hbox hb; have BK612 := Aside0.mk (hbox); have GW612 := Aside0.mk (bxLe HB.out hg); have GE612 := GW612; replace HB := Aside0.mk (below_step HB.out hb); clear hb hbox hg) | ((with_reducible refine gate_dst (N := 3) rfl ?_); refine box_event ?hg (N := 3) ?hd (cs := #[.bool a1_0, .slice A1_1 l1_1.length c1_1, .slice A1_2 l1_2.length c1_2]) (t := 27) ?hr ?_; (case hd => rfl); (case hg => rfl); (case hr => first | (go_simp; done) | (go_simp; rfl)); intro gb613 hg w14 hbox hb; have BK613 := Aside0.mk (hbox); have GW613 := Aside0.mk (bxLe HB.out hg); have GE613 := GW613; replace HB := Aside0.mk (below_step HB.out hb); have NB612_613 := Aside0.mk (neL BK612.out hg); have NB613_612 := Aside0.mk (neR BK612.out hg); replace BK612 := Aside0.mk (blk_below BK612.out hb); clear hb hbox hg; have hnb15 := NB612_613.out; have hnc15 := NB613_612.out; have hcz16_0 : w14.cell? ⟨gb612, 0, none⟩ = some (.bool a0_0) := bc0 BK612.out; have hcz16_1 : w14.cell? ⟨gb612, 1, none⟩ = some (.slice A0_1 l0_1.length c0_1) := bc1 BK612.out; have hcz16_2 : w14.cell? ⟨gb612, 2, none⟩ = some (.slice A0_2 l0_2.length c0_2) := bc2 BK612.out; have hfz16_0 := blk_frozen BK612.out 0; have hfz16_1 := blk_frozen BK612.out 1; have hfz16_2 := blk_frozen BK612.out 2) | ((with_reducible refine gate_callee (f := 40) rfl ?_); refine goL (some 8) Try.func40 [.agg #[.bool a0_0, .slice A0_1 l0_1.length c0_1, .slice A0_2 l0_2.length c0_2], .int .i64 20, .int .i64 8] ?_; (with_reducible refine (gudgeonref13_Light.calls k a0_0 _ _ l0_1 _ _ l0_2 20 8 false _ ?side1 ?side2 ?side3 ?side4 A3.out).mono ?_); (case side1 => exact (Kd.C_below HR0_1.out HB.out)); (case side2 => exact HC0_1.out); (case side3 => exact (Kd.C_below HR0_2.out HB.out)); (case side4 => exact HC0_2.out); rintro e w17 ⟨rfl, hb⟩; refine ⟨_, rfl, ?_⟩; replace BK613 := Aside0.mk (blk_below BK613.out hb); replace HB := Aside0.mk (below_step HB.out hb); (try clear hb); (try clear hb2); (try clear hk); (try clear hi); have hcz18_0 : w17.cell? ⟨gb613, 0, none⟩ = some (.bool a1_0) := bc0 BK613.out; have hcz18_1 : w17.cell? ⟨gb613, 1, none⟩ = some (.slice A1_1 l1_1.length c1_1) := bc1 BK613.out; have hcz18_2 : w17.cell? ⟨gb613, 2, none⟩ = some (.slice A1_2 l1_2.length c1_2) := bc2 BK613.out; have hfz18_0 := blk_frozen BK613.out 0; have hfz18_1 := blk_frozen BK613.out 1; have hfz18_2 := blk_frozen BK613.out 2) | ((with_reducible refine gate_callee (f := 40) rfl ?_); refine goL (some 10) Try.func40 [.agg #[.bool a1_0, .slice A1_1 l1_1.length c1_1, .slice A1_2 l1_2.length c1_2], .int .i64 20, .int .i64 8] ?_; (with_reducible refine (gudgeonref13_Light.calls k a1_0 _ _ l1_1 _ _ l1_2 20 8 t615 _ ?side1 ?side2 ?side3 ?side4 A4.out).mono ?_); (case side1 => exact (Kd.C_below HR1_1.out HB.out)); (case side2 => exact HC1_1.out); (case side3 => exact (Kd.C_below HR1_2.out HB.out)); (case side4 => exact HC1_2.out); rintro e w19 ⟨rfl, hb⟩; refine ⟨_, rfl, ?_⟩; replace HB := Aside0.mk (below_step HB.out hb); (try clear hb); (try clear hb2); (try clear hk); (try clear hi)))
  go_ret
  exact ⟨by first | rfl | (simp [errW_none, errW_some] <;> rfl) | (refine congrArg (fun z_ => Ending.returned (Value.bool z_)) (decide_eq_decide.mpr ?_); unfold wrap64; omega) | (simp [*, errW_none, errW_some] <;> rfl), HB.out⟩

end Go.Proofs.Ytdicjemjmlbmlaa.PA
/- Written by a program of this session, wip/tools/patch_print.py, over the kit's print of the loaded functions. -/
namespace Go.Proofs.Ytdicjemjmlbmlaa.H
end Go.Proofs.Ytdicjemjmlbmlaa.H
namespace Go.Proofs.Ytdicjemjmlbmlaa.PA
open Go.RowKit Go.Proofs.YtdicjemjmlbmlaaW.PrintWords Go.Proofs.YtdicjemjmlbmlaaW.PrintLast Go.Proofs.YtdicjemjmlbmlaaW.PrintMore Go.Proofs.Ytdicjemjmlbmlaa.H
attribute [local go_sem] max2_int min2_int max_two min_two max_three min_three max_four min_four   -- for this text's walks alone
attribute [local go_sem] box_twice
set_option linter.unusedVariables false
set_option linter.unusedSimpArgs false

/-! ### gudgeonref01_trim: function 108 -/
def gudgeonref01_trim.l0 : Nat → List Bool → Int → Option (List Bool)
 | 0, _, _ => none
 | k + 1, x0, x3 => if x3 > 0 then (if 0 ≤ (wrap64 (x3 - 1)) then (if (wrap64 (x3 - 1)) < (x0.length : Int) then (if (rdOf false x0 (wrap64 (x3 - 1)) = true) then (if 0 ≤ x3 then (if x3 ≤ (x0.length : Int) then (if ([] : List Bool).length + (x0.take (x3 : Int).toNat).length < 140737488355328 then (some (([] : List Bool) ++ (x0.take (x3 : Int).toNat))) else (none)) else (none)) else (none)) else (gudgeonref01_trim.l0 k x0 (wrap64 (x3 - 1)))) else (none)) else (none)) else (if 0 ≤ x3 then (if x3 ≤ (x0.length : Int) then (if ([] : List Bool).length + (x0.take (x3 : Int).toNat).length < 140737488355328 then (some (([] : List Bool) ++ (x0.take (x3 : Int).toNat))) else (none)) else (none)) else (none))
def gudgeonref01_trim.f (k : Nat) (l0 : List Bool) : Option (List Bool) := gudgeonref01_trim.l0 k l0 (l0.length : Int)
theorem gudgeonref01_trim.mono_l : ∀ k, (∀ y0 y1, LeO (gudgeonref01_trim.l0 k y0 y1) (gudgeonref01_trim.l0 (k + 1) y0 y1))
 | 0 => fun _ _ r h => by simp [gudgeonref01_trim.l0] at h
 | k + 1 => by
  have ih0 := gudgeonref01_trim.mono_l k
  ·intro y0 y1
   unfold gudgeonref01_trim.l0
   repeat' first
   | (with_reducible exact ih0 _ _)
   | (with_reducible exact LeO.refl _)
   | (with_reducible exact LeO.none _)
   | (with_reducible refine LeO.ite ?_ ?_)
   | (with_reducible refine LeO.bind ?_ (fun _ => ?_))
   | exact ih0 _ _
   | exact LeO.none _
   | refine LeO.ite ?_ ?_
   | refine LeO.bind ?_ (fun _ => ?_)
theorem gudgeonref01_trim.mono : ∀ a0 k, LeO (gudgeonref01_trim.f k a0) (gudgeonref01_trim.f (k + 1) a0) := by
 intro a0 k
 have ih0 := gudgeonref01_trim.mono_l k
 unfold gudgeonref01_trim.f
 repeat' first
   | (with_reducible exact ih0 _ _)
   | (with_reducible exact LeO.refl _)
   | (with_reducible exact LeO.none _)
   | (with_reducible refine LeO.ite ?_ ?_)
   | (with_reducible refine LeO.bind ?_ (fun _ => ?_))
   | exact ih0 _ _
   | exact LeO.none _
   | refine LeO.ite ?_ ?_
   | refine LeO.bind ?_ (fun _ => ?_)
set_option maxHeartbeats 8000000 in
set_option maxRecDepth 100000 in
theorem gudgeonref01_trim.calls (k : Nat) (A0 : Option Addr) (c0 : Nat) (l0 : List Bool) (r : List Bool) (w : World) (hr0 : Kd.C Kd.bool w A0 l0.length l0) (hc0 : l0.length ≤ c0) (h : gudgeonref01_trim.f k l0 = some r) :
  Calls Try.prog 108 #[.slice A0 l0.length c0] w fun e w' => ∃ v0_ : Value, e = .returned (v0_) ∧ Kd.R Kd.bool 4 w' w.heap.size (fun _ => True) v0_ r ∧ Below w.heap.size w w' := by
 have HR0 := Aside0.mk hr0
 have HC0 := Aside0.mk hc0
 clear hr0 hc0
 have HB := Aside0.mk (Below.refl w.heap.size w)
 have H : (gudgeonref01_trim.l0 k l0 (l0.length : Int)) = some r := h
 clear h
 have H' := Aside0.mk H
 clear H
 go_enter Try.func108, Try.ntmps108
 go_wp2
 go_loopg [3] k (fun kq v3 w' => ∃ (x3_1 : Int), v3 = .int .i64 x3_1 ∧ Aside0 (gudgeonref01_trim.l0 kq l0 x3_1 = some r) ∧ Aside0 (kq ≤ k) ∧ Aside0 (Below w.heap.size w w'))
 case atStart => exact ⟨((l0.length : Int)), (by first | rfl | (simp; done)), H', ⟨Nat.le_refl _⟩, ⟨HB.out⟩⟩
 case round =>
  clear H'
  try clear c1
  obtain ⟨x3_1, rfl, HA, HK1, HB⟩ := hrel
  cases gk with
  | zero => exact absurd HA.out (by simp [gudgeonref01_trim.l0])
  | succ k1 =>
   have H := HA.out
   clear HA
   simp only [gudgeonref01_trim.l0] at H
   by_cases c2 : x3_1 > 0
   ·rw [if_pos c2] at H
    have c2b0 : decide (0 < x3_1) = true := decide_eq_true c2
    clear c2
    obtain ⟨ji3, hji3⟩ : ∃ j_ : Int, (wrap64 (x3_1 - 1)) = j_ := ⟨_, rfl⟩
    replace H : (if 0 ≤ (ji3) then (if (ji3) < (l0.length : Int) then (if (rdOf false l0 (ji3) = true) then (if 0 ≤ x3_1 then (if x3_1 ≤ (l0.length : Int) then (if ([] : List Bool).length + (l0.take (x3_1 : Int).toNat).length < 140737488355328 then (some (([] : List Bool) ++ (l0.take (x3_1 : Int).toNat))) else (none)) else (none)) else (none)) else (gudgeonref01_trim.l0 k1 l0 ji3)) else (none)) else (none)) = some r := by first | (rw [hji3] at H; exact H) | (simp only [hji3] at H ⊢; exact H)
    have hji3w : (IntKind.i64.wrap (x3_1 - 1)) = ji3 := (i64_w _).trans hji3
    by_cases c4 : 0 ≤ (ji3)
    ·rw [if_pos c4] at H
     have c4b0 : decide (0 ≤ (ji3)) = true := decide_eq_true c4
     clear c4
     by_cases c5 : (ji3) < (l0.length : Int)
     ·rw [if_pos c5] at H
      have c5b0 : decide ((ji3) < (l0.length : Int)) = true := decide_eq_true c5
      clear c5
      obtain ⟨bq6, hbq6⟩ : ∃ b_ : Bool, b_ = (rdOf false l0 (ji3)) := ⟨_, rfl⟩
      replace H : (if (bq6 = true) then (if 0 ≤ x3_1 then (if x3_1 ≤ (l0.length : Int) then (if ([] : List Bool).length + (l0.take (x3_1 : Int).toNat).length < 140737488355328 then (some (([] : List Bool) ++ (l0.take (x3_1 : Int).toNat))) else (none)) else (none)) else (none)) else (gudgeonref01_trim.l0 k1 l0 ji3)) = some r := by rw [← hbq6] at H; exact H
      have Nbq6 := Aside0.mk hbq6
      clear hbq6
      by_cases c7 : (bq6 = true)
      ·subst c7
       rw [if_pos rfl] at H
       by_cases c8 : 0 ≤ x3_1
       ·rw [if_pos c8] at H
        have c8b0 := eq_true c8
        have c8b1 : decide (0 ≤ x3_1) = true := decide_eq_true c8
        clear c8
        by_cases c9 : x3_1 ≤ (l0.length : Int)
        ·rw [if_pos c9] at H
         have c9b0 := eq_true c9
         have c9b1 : decide (x3_1 ≤ (l0.length : Int)) = true := decide_eq_true c9
         clear c9
         by_cases c10 : ([] : List Bool).length + (l0.take (x3_1 : Int).toNat).length < 140737488355328
         ·rw [if_pos c10] at H
          have LMc10 := Aside0.mk c10
          clear c10
          obtain ⟨y473, hy473⟩ : ∃ y_ : List Bool, y_ = (([] : List Bool) ++ (l0.take (x3_1 : Int).toNat)) := ⟨_, rfl⟩
          replace H : (some y473) = some r := by first | (rw [hy473]; with_reducible exact H) | (have H2_ := (Option.bind_some _ _).symm.trans H; rw [hy473]; with_reducible exact H2_) | (have H2_ := (Option.bind_some _ _).symm.trans H; with_reducible exact H2_) | with_reducible exact H | (rw [hy473]; exact H) | exact H
          have Ny473 := Aside0.mk hy473
          clear hy473
          obtain rfl := Option.some.inj H
          have p471 : 0 ≤ ((ji3) : Int) := of_decide_eq_true (by first | (with_reducible assumption) | assumption)
          have q471 : (ji3) < (l0.length : Int) := of_decide_eq_true (by first | (with_reducible assumption) | assumption)
          obtain ⟨ad471, e471, hx471_0⟩ := Kd.at_bool HR0.out (ji3) p471 q471
          (try rw [← Nbq6.out] at hx471_0)
          cases e471
          replace hx471_0 := (HB.out.cell (World.block_lt_of_cell? w _ hx471_0)).trans hx471_0
          replace p471 := eq_true p471
          replace q471 := eq_true q471
          obtain ⟨i011, hi011, _, hsz11, _⟩ := info_parts info4
          obtain ⟨hcut11, hA11, hC11⟩ := print_take_of (P := Try.prog) Value.bool false 90 4 .i64 Try.underlying90 hi011 hsz11 (some ad471) c0 l0 x3_1 (of_decide_eq_true (by first | (with_reducible assumption) | assumption)) (of_decide_eq_true (by first | (with_reducible assumption) | assumption)) HC0.out
          have HR472 := Aside0.mk (Kd.C_of_reads (h1 := fun _ => rfl) (hA11 _ (Kd.reads_of_C HR0.out)))
          have HC472 := Aside0.mk hC11
          clear hA11 hC11 hi011 hsz11
          go_wp2_with (first | ((with_reducible refine gate_builtin (b := .append) (xs := #[.const (.slice none 0 0), .tmp 20]) rfl ?_); at_builtin; refine Kd.R_append_rows Kd.bool (w0 := w) w.heap.size rfl (.const (.slice none 0 0)) (.tmp 20) 90 4 (.bool false) 1 rfl Try.underlying90 info4 rfl (by decide) (by omega) (.slice none 0 0) ([] : List Bool) (l0.take (x3_1 : Int).toNat) _ _ _ (fun _ => True) (fun _ => False) rfl rfl ?aO ?aR (fun _ _ h => h) (fun _ h => h.elim) ?aF ?aB ?aS ?aL ?_; (case aR => first | (have X_ := (Kd.C_below HR472.out HB.out); rw [show (l0.take (x3_1 : Int).toNat).length = x3_1.toNat from (by rw [List.length_take]; have h_ : (x3_1 : Int) ≤ (l0.length : Int) := of_decide_eq_true (by first | (with_reducible assumption) | assumption); omega)] at X_; exact X_) | (rw [← show (l0.take (x3_1 : Int).toNat).length = x3_1.toNat from (by rw [List.length_take]; have h_ : (x3_1 : Int) ≤ (l0.length : Int) := of_decide_eq_true (by first | (with_reducible assumption) | assumption); omega)]; repeat (first | exact (Kd.C_below HR472.out HB.out) | (with_reducible refine Kd.C_alloc ?_ _) | (with_reducible refine Kd.C_drewN ?_ _) | (with_reducible refine Kd.C_drew ?_))) | (repeat (first | exact (Kd.C_below HR472.out HB.out) | (with_reducible refine Kd.C_alloc ?_ _) | (with_reducible refine Kd.C_drewN ?_ _) | (with_reducible refine Kd.C_drew ?_)))); (case aB => exact HB.out); (case aF => exact (fun _ _ => trivial)); (case aO => exact ((Kd.R_nil _ _ _ _ (fun _ => True)))); (case aS => exact (below_size HB.out)); (case aL => have := LMc10.out; have hlx_ := (show (l0.take (x3_1 : Int).toNat).length = x3_1.toNat from (by rw [List.length_take]; have h_ : (x3_1 : Int) ≤ (l0.length : Int) := of_decide_eq_true (by first | (with_reducible assumption) | assumption); omega)); omega); intro v474 w12 ho hb hg hat; rw [← Ny473.out] at ho; replace HB := Aside0.mk (hb); have HO475 := Aside0.mk (ho); clear ho hb hg hat))
          go_ret
          exact ⟨_, by first | rfl | (simp [errW_none, errW_some] <;> rfl) | (simp only [← hji3]; first | rfl | (simp [errW_none, errW_some] <;> rfl)) | (simp [*, errW_none, errW_some] <;> rfl), HO475.out, HB.out⟩
         ·rw [if_neg c10] at H
          exact absurd H (by simp)
        ·rw [if_neg c9] at H
         exact absurd H (by simp)
       ·rw [if_neg c8] at H
        exact absurd H (by simp)
      ·replace c7 := Bool.eq_false_iff.mpr c7
       subst c7
       rw [if_neg (show ¬ (false = true) by decide)] at H
       have H' := Aside0.mk H
       clear H
       have p471 : 0 ≤ ((ji3) : Int) := of_decide_eq_true (by first | (with_reducible assumption) | assumption)
       have q471 : (ji3) < (l0.length : Int) := of_decide_eq_true (by first | (with_reducible assumption) | assumption)
       obtain ⟨ad471, e471, hx471_0⟩ := Kd.at_bool HR0.out (ji3) p471 q471
       (try rw [← Nbq6.out] at hx471_0)
       cases e471
       replace hx471_0 := (HB.out.cell (World.block_lt_of_cell? w _ hx471_0)).trans hx471_0
       replace p471 := eq_true p471
       replace q471 := eq_true q471
       go_wp2
       go_roundg k1
       case measure => have := HK1.out; omega
       case rel => exact ⟨(ji3), (by first | rfl | (simp; done) | (simp only [← hji3] <;> (first | rfl | simp)) | (simp [*]; done)), H', ⟨by have := HK1.out; omega⟩, ⟨HB.out⟩⟩
     ·rw [if_neg c5] at H
      exact absurd H (by simp)
    ·rw [if_neg c4] at H
     exact absurd H (by simp)
   ·rw [if_neg c2] at H
    have c2b0 : decide (0 < x3_1) = false := decide_eq_false c2
    clear c2
    by_cases c13 : 0 ≤ x3_1
    ·rw [if_pos c13] at H
     have c13b0 := eq_true c13
     have c13b1 : decide (0 ≤ x3_1) = true := decide_eq_true c13
     clear c13
     by_cases c14 : x3_1 ≤ (l0.length : Int)
     ·rw [if_pos c14] at H
      have c14b0 := eq_true c14
      have c14b1 : decide (x3_1 ≤ (l0.length : Int)) = true := decide_eq_true c14
      clear c14
      by_cases c15 : ([] : List Bool).length + (l0.take (x3_1 : Int).toNat).length < 140737488355328
      ·rw [if_pos c15] at H
       have LMc15 := Aside0.mk c15
       clear c15
       obtain ⟨y477, hy477⟩ : ∃ y_ : List Bool, y_ = (([] : List Bool) ++ (l0.take (x3_1 : Int).toNat)) := ⟨_, rfl⟩
       replace H : (some y477) = some r := by first | (rw [hy477]; with_reducible exact H) | (have H2_ := (Option.bind_some _ _).symm.trans H; rw [hy477]; with_reducible exact H2_) | (have H2_ := (Option.bind_some _ _).symm.trans H; with_reducible exact H2_) | with_reducible exact H | (rw [hy477]; exact H) | exact H
       have Ny477 := Aside0.mk hy477
       clear hy477
       obtain rfl := Option.some.inj H
       obtain ⟨i016, hi016, _, hsz16, _⟩ := info_parts info4
       obtain ⟨hcut16, hA16, hC16⟩ := print_take_of (P := Try.prog) Value.bool false 90 4 .i64 Try.underlying90 hi016 hsz16 A0 c0 l0 x3_1 (of_decide_eq_true (by first | (with_reducible assumption) | assumption)) (of_decide_eq_true (by first | (with_reducible assumption) | assumption)) HC0.out
       have HR476 := Aside0.mk (Kd.C_of_reads (h1 := fun _ => rfl) (hA16 _ (Kd.reads_of_C HR0.out)))
       have HC476 := Aside0.mk hC16
       clear hA16 hC16 hi016 hsz16
       go_wp2_with (first | ((with_reducible refine gate_builtin (b := .append) (xs := #[.const (.slice none 0 0), .tmp 20]) rfl ?_); at_builtin; refine Kd.R_append_rows Kd.bool (w0 := w) w.heap.size rfl (.const (.slice none 0 0)) (.tmp 20) 90 4 (.bool false) 1 rfl Try.underlying90 info4 rfl (by decide) (by omega) (.slice none 0 0) ([] : List Bool) (l0.take (x3_1 : Int).toNat) _ _ _ (fun _ => True) (fun _ => False) rfl rfl ?aO ?aR (fun _ _ h => h) (fun _ h => h.elim) ?aF ?aB ?aS ?aL ?_; (case aR => first | (have X_ := (Kd.C_below HR476.out HB.out); rw [show (l0.take (x3_1 : Int).toNat).length = x3_1.toNat from (by rw [List.length_take]; have h_ : (x3_1 : Int) ≤ (l0.length : Int) := of_decide_eq_true (by first | (with_reducible assumption) | assumption); omega)] at X_; exact X_) | (rw [← show (l0.take (x3_1 : Int).toNat).length = x3_1.toNat from (by rw [List.length_take]; have h_ : (x3_1 : Int) ≤ (l0.length : Int) := of_decide_eq_true (by first | (with_reducible assumption) | assumption); omega)]; repeat (first | exact (Kd.C_below HR476.out HB.out) | (with_reducible refine Kd.C_alloc ?_ _) | (with_reducible refine Kd.C_drewN ?_ _) | (with_reducible refine Kd.C_drew ?_))) | (repeat (first | exact (Kd.C_below HR476.out HB.out) | (with_reducible refine Kd.C_alloc ?_ _) | (with_reducible refine Kd.C_drewN ?_ _) | (with_reducible refine Kd.C_drew ?_)))); (case aB => exact HB.out); (case aF => exact (fun _ _ => trivial)); (case aO => exact ((Kd.R_nil _ _ _ _ (fun _ => True)))); (case aS => exact (below_size HB.out)); (case aL => have := LMc15.out; have hlx_ := (show (l0.take (x3_1 : Int).toNat).length = x3_1.toNat from (by rw [List.length_take]; have h_ : (x3_1 : Int) ≤ (l0.length : Int) := of_decide_eq_true (by first | (with_reducible assumption) | assumption); omega)); omega); intro v478 w17 ho hb hg hat; rw [← Ny477.out] at ho; replace HB := Aside0.mk (hb); have HO479 := Aside0.mk (ho); clear ho hb hg hat))
       go_ret
       exact ⟨_, rfl, HO479.out, HB.out⟩
      ·rw [if_neg c15] at H
       exact absurd H (by simp)
     ·rw [if_neg c14] at H
      exact absurd H (by simp)
    ·rw [if_neg c13] at H
     exact absurd H (by simp)

/-! ### gudgeonref01_Bits: function 86 -/
mutual
def gudgeonref01_Bits.l0 : Nat → List Int → List Bool → Int → Option (List Bool)
 | 0, _, _, _ => none
 | k + 1, x0, x3, x4 => if x4 < (x0.length : Int) then (if 0 ≤ x4 then (gudgeonref01_Bits.l1 k x0 x3 x4 (rd x0 x4) 0) else (none)) else ((gudgeonref01_trim.f k x3).bind fun t480 => (some t480))
def gudgeonref01_Bits.l1 : Nat → List Int → List Bool → Int → Int → Int → Option (List Bool)
 | 0, _, _, _, _, _ => none
 | k + 1, x0, x3, x4, x5, x6 => if x6 < 32 then (if x3.length < 140737488355328 then (gudgeonref01_Bits.l1 k x0 (x3 ++ [((Int.tmod x5 2) == 1)]) x4 ((Int.tdiv x5 2) % 4294967296) (wrap64 (x6 + 1))) else (none)) else (gudgeonref01_Bits.l0 k x0 x3 (wrap64 (x4 + 1)))
end
def gudgeonref01_Bits.f (k : Nat) (l0 : List Int) : Option (List Bool) := gudgeonref01_Bits.l0 k l0 ([] : List Bool) 0
theorem gudgeonref01_Bits.mono_l : ∀ k, (∀ y0 y1 y2, LeO (gudgeonref01_Bits.l0 k y0 y1 y2) (gudgeonref01_Bits.l0 (k + 1) y0 y1 y2)) ∧ (∀ y0 y1 y2 y3 y4, LeO (gudgeonref01_Bits.l1 k y0 y1 y2 y3 y4) (gudgeonref01_Bits.l1 (k + 1) y0 y1 y2 y3 y4))
 | 0 => ⟨fun _ _ _ r h => by simp [gudgeonref01_Bits.l0] at h, fun _ _ _ _ _ r h => by simp [gudgeonref01_Bits.l1] at h⟩
 | k + 1 => by
  obtain ⟨ih0, ih1⟩ := gudgeonref01_Bits.mono_l k
  refine ⟨?_, ?_⟩
  ·intro y0 y1 y2
   unfold gudgeonref01_Bits.l0
   repeat' first
   | (with_reducible exact ih0 _ _ _)
   | (with_reducible exact ih1 _ _ _ _ _)
   | (with_reducible exact gudgeonref01_trim.mono _ _)
   | (with_reducible exact LeO.refl _)
   | (with_reducible exact LeO.none _)
   | (with_reducible refine LeO.ite ?_ ?_)
   | (with_reducible refine LeO.bind ?_ (fun _ => ?_))
   | exact ih0 _ _ _
   | exact ih1 _ _ _ _ _
   | exact gudgeonref01_trim.mono _ _
   | exact LeO.none _
   | refine LeO.ite ?_ ?_
   | refine LeO.bind ?_ (fun _ => ?_)
  ·intro y0 y1 y2 y3 y4
   unfold gudgeonref01_Bits.l1
   repeat' first
   | (with_reducible exact ih0 _ _ _)
   | (with_reducible exact ih1 _ _ _ _ _)
   | (with_reducible exact gudgeonref01_trim.mono _ _)
   | (with_reducible exact LeO.refl _)
   | (with_reducible exact LeO.none _)
   | (with_reducible refine LeO.ite ?_ ?_)
   | (with_reducible refine LeO.bind ?_ (fun _ => ?_))
   | exact ih0 _ _ _
   | exact ih1 _ _ _ _ _
   | exact gudgeonref01_trim.mono _ _
   | exact LeO.none _
   | refine LeO.ite ?_ ?_
   | refine LeO.bind ?_ (fun _ => ?_)
theorem gudgeonref01_Bits.mono : ∀ a0 k, LeO (gudgeonref01_Bits.f k a0) (gudgeonref01_Bits.f (k + 1) a0) := by
 intro a0 k
 obtain ⟨ih0, ih1⟩ := gudgeonref01_Bits.mono_l k
 unfold gudgeonref01_Bits.f
 repeat' first
   | (with_reducible exact ih0 _ _ _)
   | (with_reducible exact ih1 _ _ _ _ _)
   | (with_reducible exact gudgeonref01_trim.mono _ _)
   | (with_reducible exact LeO.refl _)
   | (with_reducible exact LeO.none _)
   | (with_reducible refine LeO.ite ?_ ?_)
   | (with_reducible refine LeO.bind ?_ (fun _ => ?_))
   | exact ih0 _ _ _
   | exact ih1 _ _ _ _ _
   | exact gudgeonref01_trim.mono _ _
   | exact LeO.none _
   | refine LeO.ite ?_ ?_
   | refine LeO.bind ?_ (fun _ => ?_)
set_option maxHeartbeats 8000000 in
set_option maxRecDepth 100000 in
theorem gudgeonref01_Bits.calls (k : Nat) (A0 : Option Addr) (c0 : Nat) (l0 : List Int) (r : List Bool) (w : World) (hr0 : Kd.C (Kd.int .u32) w A0 l0.length l0) (hc0 : l0.length ≤ c0) (h : gudgeonref01_Bits.f k l0 = some r) :
  Calls Try.prog 86 #[.slice A0 l0.length c0] w fun e w' => ∃ v0_ : Value, e = .returned (v0_) ∧ Kd.R Kd.bool 4 w' w.heap.size (fun _ => True) v0_ r ∧ Below w.heap.size w w' := by
 have HR0 := Aside0.mk hr0
 have HC0 := Aside0.mk hc0
 clear hr0 hc0
 have HB := Aside0.mk (Below.refl w.heap.size w)
 have H : (gudgeonref01_Bits.l0 k l0 ([] : List Bool) 0) = some r := h
 clear h
 have H' := Aside0.mk H
 clear H
 go_enter Try.func86, Try.ntmps86
 go_wp2
 go_loopg [3, 4] k (fun kq v3 v4 w' => ∃ (x3_1 : List Bool) (x4_1 : Int), v4 = .int .i64 x4_1 ∧ Aside0 (gudgeonref01_Bits.l0 kq l0 x3_1 x4_1 = some r) ∧ Aside0 (kq ≤ k) ∧ Aside0 (Kd.R Kd.bool 4 w' w.heap.size (fun _ => True) v3 x3_1) ∧ Aside0 (Below w.heap.size w w'))
 case atStart => exact ⟨(([] : List Bool)), (0), (by first | rfl | (simp; done)), H', ⟨Nat.le_refl _⟩, ⟨by first | exact Kd.R_nil _ _ _ _ _ | exact Kd.N_nil _ _ _ _ _ | exact Kd.V_nil _ _ _ _ _ | exact Kd.Q_nil _ _ _ _ _ | exact Kd.S_nil _ _ _ _ _⟩, ⟨HB.out⟩⟩
 case round =>
  clear H'
  obtain ⟨x3_1, x4_1, rfl, HA, HK1, HO_3, HB⟩ := hrel
  cases gk with
  | zero => exact absurd HA.out (by simp [gudgeonref01_Bits.l0])
  | succ k1 =>
   have H := HA.out
   clear HA
   simp only [gudgeonref01_Bits.l0] at H
   by_cases c2 : x4_1 < (l0.length : Int)
   ·rw [if_pos c2] at H
    have c2b0 : decide (x4_1 < (l0.length : Int)) = true := decide_eq_true c2
    clear c2
    by_cases c3 : 0 ≤ x4_1
    ·rw [if_pos c3] at H
     have c3b0 : decide (0 ≤ x4_1) = true := decide_eq_true c3
     clear c3
     have H' := Aside0.mk H
     clear H
     have p483 : 0 ≤ (x4_1 : Int) := of_decide_eq_true (by first | (with_reducible assumption) | assumption)
     have q483 : x4_1 < (l0.length : Int) := of_decide_eq_true (by first | (with_reducible assumption) | assumption)
     obtain ⟨ad483, e483, hx483_0⟩ := Kd.at_int HR0.out x4_1 p483 q483
     cases e483
     replace hx483_0 := (HB.out.cell (World.block_lt_of_cell? w _ hx483_0)).trans hx483_0
     replace p483 := eq_true p483
     replace q483 := eq_true q483
     go_wp2
     go_loopg [3, 5, 6] k1 (fun kq v3 v5 v6 w' => ∃ (x3_2 : List Bool) (x5_2 : Int) (x6_2 : Int), v5 = .int .u32 x5_2 ∧ v6 = .int .i64 x6_2 ∧ Aside0 (gudgeonref01_Bits.l1 kq l0 x3_2 x4_1 x5_2 x6_2 = some r) ∧ Aside0 (kq ≤ k1) ∧ Aside0 (Kd.R Kd.bool 4 w' w.heap.size (fun _ => True) v3 x3_2) ∧ Aside0 (Below w.heap.size w w'))
     case atStart => exact ⟨(x3_1), (rd l0 x4_1), (0), (by first | rfl | (simp; done)), (by first | rfl | (simp; done)), H', ⟨Nat.le_refl _⟩, ⟨HO_3.out⟩, ⟨HB.out⟩⟩
     case round =>
      clear H'
      try clear c2
      try clear c2b0
      try clear p2
      try clear c3
      try clear c3b0
      try clear hx483_0
      try clear p483
      try clear q483
      obtain ⟨x3_2, x5_2, x6_2, rfl, rfl, HA, HK2, HO_3, HB⟩ := hrel
      cases gk with
      | zero => exact absurd HA.out (by simp [gudgeonref01_Bits.l1])
      | succ k2 =>
       have H := HA.out
       clear HA
       simp only [gudgeonref01_Bits.l1] at H
       by_cases c4 : x6_2 < 32
       ·rw [if_pos c4] at H
        have c4b0 : decide (x6_2 < 32) = true := decide_eq_true c4
        clear c4
        by_cases c5 : x3_2.length < 140737488355328
        ·rw [if_pos c5] at H
         have LMc5 := Aside0.mk c5
         clear c5
         obtain ⟨y484, hy484⟩ : ∃ y_ : List Bool, y_ = (x3_2 ++ [((Int.tmod x5_2 2) == 1)]) := ⟨_, rfl⟩
         replace H : (gudgeonref01_Bits.l1 k2 l0 y484 x4_1 ((Int.tdiv x5_2 2) % 4294967296) (wrap64 (x6_2 + 1))) = some r := by first | (rw [hy484]; with_reducible exact H) | (have H2_ := (Option.bind_some _ _).symm.trans H; rw [hy484]; with_reducible exact H2_) | (have H2_ := (Option.bind_some _ _).symm.trans H; with_reducible exact H2_) | with_reducible exact H | (rw [hy484]; exact H) | exact H
         have Ny484 := Aside0.mk hy484
         clear hy484
         have H' := Aside0.mk H
         clear H
         go_wp2_with (first | ((with_reducible refine gate_builtin (b := .append) (xs := #[.tmp 21, .tmp 25]) rfl ?_); at_builtin; refine Kd.R_append Kd.bool (w0 := w) w.heap.size rfl (.tmp 21) (.tmp 25) 90 4 (.bool false) 1 rfl Try.underlying90 info4 rfl (by decide) (by omega) u3 x3_2 ((Int.tmod x5_2 2) == 1) [.bool ((Int.tmod x5_2 2) == 1)] (fun _ => True) (fun _ => False) rfl rfl ?aP (fun _ hk => hk.elim) ?aF ?aO ?aB ?aS ?aL ?_; (case aP => exact rfl); (case aB => exact HB.out); (case aF => exact (fun _ _ => trivial)); (case aO => exact HO_3.out); (case aS => exact (below_size HB.out)); (case aL => have := LMc5.out; omega); intro v485 w6 ho hb hg hat; rw [← Ny484.out] at ho; have n0_ := Aside0.mk (hb); have n1_ := Aside0.mk (ho); clear HB; clear HO_3; have HB := n0_; have HO486 := n1_; clear n0_ n1_; clear ho hb hg hat))
         go_roundg k2
         case measure => have := HK1.out; have := HK2.out; omega
         case rel => exact ⟨(y484), ((Int.tdiv x5_2 2) % 4294967296), (wrap64 (x6_2 + 1)), (by first | rfl | (simp; done)), (by first | rfl | (simp; done)), H', ⟨by have := HK1.out; have := HK2.out; omega⟩, ⟨HO486.out⟩, ⟨HB.out⟩⟩
        ·rw [if_neg c5] at H
         exact absurd H (by simp)
       ·rw [if_neg c4] at H
        have c4b0 : decide (x6_2 < 32) = false := decide_eq_false c4
        clear c4
        have H' := Aside0.mk H
        clear H
        go_wp2
        go_roundg k2
        case measure => have := HK1.out; have := HK2.out; omega
        case rel => exact ⟨(x3_2), (wrap64 (x4_1 + 1)), (by first | rfl | (simp; done)), H', ⟨by have := HK1.out; have := HK2.out; omega⟩, ⟨HO_3.out⟩, ⟨HB.out⟩⟩
    ·rw [if_neg c3] at H
     exact absurd H (by simp)
   ·rw [if_neg c2] at H
    have c2b0 : decide (x4_1 < (l0.length : Int)) = false := decide_eq_false c2
    clear c2
    obtain ⟨t480, A70, H⟩ := Option.bind_eq_some_iff.mp H
    try dsimp only at H
    have A7 := Aside0.mk A70
    clear A70
    obtain rfl := Option.some.inj H
    obtain ⟨Ao8, co8, eo8⟩ := Kd.R_slice HO_3.out
    subst eo8
    go_wp2_with (first | ((with_reducible refine gate_callee (f := 108) rfl ?_); refine goL (some 30) Try.func108 [.slice Ao8 x3_1.length co8] ?_; (with_reducible refine (gudgeonref01_trim.calls k1 _ _ x3_1 t480 _ ?side1 ?side2 A7.out).mono ?_); (case side1 => exact (Kd.R_reads' HO_3.out).2.2); (case side2 => exact (Kd.R_reads' HO_3.out).2.1); rintro e w9 ⟨v481, rfl, ho0, hb⟩; refine ⟨_, rfl, ?_⟩; have HO482 := Aside0.mk (Kd.R_lower (Kd.R_new' ho0 (Kd.R_lt HO_3.out)) (below_size HB.out)); replace HB := Aside0.mk (below_step HB.out hb)))
    go_ret
    exact ⟨_, rfl, Kd.R_mono HO482.out (fun _ hk => trivial), HB.out⟩

/-! ### gudgeonref01_Limbs: function 88 -/
mutual
def gudgeonref01_Limbs.l0 : Nat → List Bool → List Int → Int → Option (List Int)
 | 0, _, _, _ => none
 | k + 1, x0, x3, x4 => if x4 < (x0.length : Int) then (gudgeonref01_Limbs.l1 k x0 x3 x4 0 (wrap64 (x4 + 31))) else (some x3)
def gudgeonref01_Limbs.l1 : Nat → List Bool → List Int → Int → Int → Int → Option (List Int)
 | 0, _, _, _, _, _ => none
 | k + 1, x0, x3, x4, x5, x6 => if x6 ≥ x4 then (if x6 < (x0.length : Int) then (if 0 ≤ x6 then (if rdOf false x0 x6 = true then (gudgeonref01_Limbs.l1 k x0 x3 x4 ((((x5 * 2) % 4294967296) + 1) % 4294967296) (wrap64 (x6 - 1))) else (gudgeonref01_Limbs.l1 k x0 x3 x4 ((x5 * 2) % 4294967296) (wrap64 (x6 - 1)))) else (none)) else (gudgeonref01_Limbs.l1 k x0 x3 x4 ((x5 * 2) % 4294967296) (wrap64 (x6 - 1)))) else (if x3.length < 35184372088832 then (gudgeonref01_Limbs.l0 k x0 (x3 ++ [x5]) (wrap64 (x4 + 32))) else (none))
end
def gudgeonref01_Limbs.f (k : Nat) (l0 : List Bool) : Option (List Int) := (gudgeonref01_trim.f k l0).bind fun t487 => (gudgeonref01_Limbs.l0 k t487 ([] : List Int) 0)
theorem gudgeonref01_Limbs.mono_l : ∀ k, (∀ y0 y1 y2, LeO (gudgeonref01_Limbs.l0 k y0 y1 y2) (gudgeonref01_Limbs.l0 (k + 1) y0 y1 y2)) ∧ (∀ y0 y1 y2 y3 y4, LeO (gudgeonref01_Limbs.l1 k y0 y1 y2 y3 y4) (gudgeonref01_Limbs.l1 (k + 1) y0 y1 y2 y3 y4))
 | 0 => ⟨fun _ _ _ r h => by simp [gudgeonref01_Limbs.l0] at h, fun _ _ _ _ _ r h => by simp [gudgeonref01_Limbs.l1] at h⟩
 | k + 1 => by
  obtain ⟨ih0, ih1⟩ := gudgeonref01_Limbs.mono_l k
  refine ⟨?_, ?_⟩
  ·intro y0 y1 y2
   unfold gudgeonref01_Limbs.l0
   repeat' first
   | (with_reducible exact ih0 _ _ _)
   | (with_reducible exact ih1 _ _ _ _ _)
   | (with_reducible exact gudgeonref01_trim.mono _ _)
   | (with_reducible exact LeO.refl _)
   | (with_reducible exact LeO.none _)
   | (with_reducible refine LeO.ite ?_ ?_)
   | (with_reducible refine LeO.bind ?_ (fun _ => ?_))
   | exact ih0 _ _ _
   | exact ih1 _ _ _ _ _
   | exact gudgeonref01_trim.mono _ _
   | exact LeO.none _
   | refine LeO.ite ?_ ?_
   | refine LeO.bind ?_ (fun _ => ?_)
  ·intro y0 y1 y2 y3 y4
   unfold gudgeonref01_Limbs.l1
   repeat' first
   | (with_reducible exact ih0 _ _ _)
   | (with_reducible exact ih1 _ _ _ _ _)
   | (with_reducible exact gudgeonref01_trim.mono _ _)
   | (with_reducible exact LeO.refl _)
   | (with_reducible exact LeO.none _)
   | (with_reducible refine LeO.ite ?_ ?_)
   | (with_reducible refine LeO.bind ?_ (fun _ => ?_))
   | exact ih0 _ _ _
   | exact ih1 _ _ _ _ _
   | exact gudgeonref01_trim.mono _ _
   | exact LeO.none _
   | refine LeO.ite ?_ ?_
   | refine LeO.bind ?_ (fun _ => ?_)
theorem gudgeonref01_Limbs.mono : ∀ a0 k, LeO (gudgeonref01_Limbs.f k a0) (gudgeonref01_Limbs.f (k + 1) a0) := by
 intro a0 k
 obtain ⟨ih0, ih1⟩ := gudgeonref01_Limbs.mono_l k
 unfold gudgeonref01_Limbs.f
 repeat' first
   | (with_reducible exact ih0 _ _ _)
   | (with_reducible exact ih1 _ _ _ _ _)
   | (with_reducible exact gudgeonref01_trim.mono _ _)
   | (with_reducible exact LeO.refl _)
   | (with_reducible exact LeO.none _)
   | (with_reducible refine LeO.ite ?_ ?_)
   | (with_reducible refine LeO.bind ?_ (fun _ => ?_))
   | exact ih0 _ _ _
   | exact ih1 _ _ _ _ _
   | exact gudgeonref01_trim.mono _ _
   | exact LeO.none _
   | refine LeO.ite ?_ ?_
   | refine LeO.bind ?_ (fun _ => ?_)
set_option maxHeartbeats 8000000 in
set_option maxRecDepth 100000 in
theorem gudgeonref01_Limbs.calls (k : Nat) (A0 : Option Addr) (c0 : Nat) (l0 : List Bool) (r : List Int) (w : World) (hr0 : Kd.C Kd.bool w A0 l0.length l0) (hc0 : l0.length ≤ c0) (h : gudgeonref01_Limbs.f k l0 = some r) :
  Calls Try.prog 88 #[.slice A0 l0.length c0] w fun e w' => ∃ v0_ : Value, e = .returned (v0_) ∧ Kd.R (Kd.int .u32) 81 w' w.heap.size (fun _ => True) v0_ r ∧ Below w.heap.size w w' := by
 have HR0 := Aside0.mk hr0
 have HC0 := Aside0.mk hc0
 clear hr0 hc0
 have HB := Aside0.mk (Below.refl w.heap.size w)
 have H : ((gudgeonref01_trim.f k l0).bind fun t487 => (gudgeonref01_Limbs.l0 k t487 ([] : List Int) 0)) = some r := h
 clear h
 obtain ⟨t487, A20, H⟩ := Option.bind_eq_some_iff.mp H
 try dsimp only at H
 have A2 := Aside0.mk A20
 clear A20
 have H' := Aside0.mk H
 clear H
 go_enter Try.func88, Try.ntmps88
 go_wp2_with (first | ((with_reducible refine gate_callee (f := 108) rfl ?_); refine goL (some 8) Try.func108 [.slice A0 l0.length c0] ?_; (with_reducible refine (gudgeonref01_trim.calls k _ _ l0 t487 _ ?side1 ?side2 A2.out).mono ?_); (case side1 => exact HR0.out); (case side2 => exact HC0.out); rintro e w3 ⟨v488, rfl, ho0, hb⟩; refine ⟨_, rfl, ?_⟩; have HO489 := Aside0.mk (Kd.R_lower ho0 (below_size HB.out)); replace HB := Aside0.mk (below_step HB.out hb)))
 go_loopg [3, 4] k (fun kq v3 v4 w' => ∃ (x3_1 : List Int) (x4_1 : Int), v4 = .int .i64 x4_1 ∧ Aside0 (gudgeonref01_Limbs.l0 kq t487 x3_1 x4_1 = some r) ∧ Aside0 (kq ≤ k) ∧ Aside0 (Kd.R Kd.bool 4 w' w.heap.size (fun _ => True) v488 t487) ∧ Aside0 (Kd.R (Kd.int .u32) 81 w' w.heap.size (fun _ => True) v3 x3_1) ∧ Aside0 (Below w.heap.size w w'))
 case atStart => exact ⟨(([] : List Int)), (0), (by first | rfl | (simp; done)), H', ⟨Nat.le_refl _⟩, ⟨HO489.out⟩, ⟨by first | exact Kd.R_nil _ _ _ _ _ | exact Kd.N_nil _ _ _ _ _ | exact Kd.V_nil _ _ _ _ _ | exact Kd.Q_nil _ _ _ _ _ | exact Kd.S_nil _ _ _ _ _⟩, ⟨HB.out⟩⟩
 case round =>
  clear H'
  try clear c1
  try clear p2
  obtain ⟨x3_1, x4_1, rfl, HA, HK1, HO_0, HO_3, HB⟩ := hrel
  cases gk with
  | zero => exact absurd HA.out (by simp [gudgeonref01_Limbs.l0])
  | succ k1 =>
   have H := HA.out
   clear HA
   simp only [gudgeonref01_Limbs.l0] at H
   by_cases c4 : x4_1 < (t487.length : Int)
   ·rw [if_pos c4] at H
    have c4b0 : decide (x4_1 < (t487.length : Int)) = true := decide_eq_true c4
    clear c4
    have H' := Aside0.mk H
    clear H
    obtain ⟨Ao5, co5, eo5⟩ := Kd.R_slice HO_0.out
    subst eo5
    go_wp2
    go_loopg [5, 6] k1 (fun kq v5 v6 w' => ∃ (x5_2 : Int) (x6_2 : Int), v5 = .int .u32 x5_2 ∧ v6 = .int .i64 x6_2 ∧ Aside0 (gudgeonref01_Limbs.l1 kq t487 x3_1 x4_1 x5_2 x6_2 = some r) ∧ Aside0 (kq ≤ k1) ∧ Aside0 (Kd.R Kd.bool 4 w' w.heap.size (fun _ => True) (.slice Ao5 t487.length co5) t487) ∧ Aside0 (Kd.R (Kd.int .u32) 81 w' w.heap.size (fun _ => True) u3 x3_1) ∧ Aside0 (Below w.heap.size w w'))
    case atStart => exact ⟨(0), (wrap64 (x4_1 + 31)), (by first | rfl | (simp; done)), (by first | rfl | (simp; done)), H', ⟨Nat.le_refl _⟩, ⟨HO_0.out⟩, ⟨HO_3.out⟩, ⟨HB.out⟩⟩
    case round =>
     clear H'
     try clear c1
     try clear p2
     try clear c4
     try clear c4b0
     try clear p2
     obtain ⟨x5_2, x6_2, rfl, rfl, HA, HK2, HO_0, HO_3, HB⟩ := hrel
     cases gk with
     | zero => exact absurd HA.out (by simp [gudgeonref01_Limbs.l1])
     | succ k2 =>
      have H := HA.out
      clear HA
      simp only [gudgeonref01_Limbs.l1] at H
      by_cases c6 : x6_2 ≥ x4_1
      ·rw [if_pos c6] at H
       have c6b0 : decide (x4_1 ≤ x6_2) = true := decide_eq_true c6
       clear c6
       by_cases c7 : x6_2 < (t487.length : Int)
       ·rw [if_pos c7] at H
        have c7b0 : decide (x6_2 < (t487.length : Int)) = true := decide_eq_true c7
        clear c7
        by_cases c8 : 0 ≤ x6_2
        ·rw [if_pos c8] at H
         have c8b0 : decide (0 ≤ x6_2) = true := decide_eq_true c8
         clear c8
         obtain ⟨bq9, hbq9⟩ : ∃ b_ : Bool, b_ = (rdOf false t487 x6_2) := ⟨_, rfl⟩
         replace H : (if bq9 = true then (gudgeonref01_Limbs.l1 k2 t487 x3_1 x4_1 ((((x5_2 * 2) % 4294967296) + 1) % 4294967296) (wrap64 (x6_2 - 1))) else (gudgeonref01_Limbs.l1 k2 t487 x3_1 x4_1 ((x5_2 * 2) % 4294967296) (wrap64 (x6_2 - 1)))) = some r := by rw [← hbq9] at H; exact H
         have Nbq9 := Aside0.mk hbq9
         clear hbq9
         by_cases c10 : bq9 = true
         ·subst c10
          rw [if_pos rfl] at H
          have H' := Aside0.mk H
          clear H
          have p490 : 0 ≤ (x6_2 : Int) := of_decide_eq_true (by first | (with_reducible assumption) | assumption)
          have q490 : x6_2 < (t487.length : Int) := of_decide_eq_true (by first | (with_reducible assumption) | assumption)
          obtain ⟨ad490, e490, hx490_0⟩ := Kd.at_bool (Kd.R_reads' HO_0.out).2.2 x6_2 p490 q490
          (try rw [← Nbq9.out] at hx490_0)
          cases e490
          replace p490 := eq_true p490
          replace q490 := eq_true q490
          go_wp2
          go_roundg k2
          case measure => have := HK1.out; have := HK2.out; omega
          case rel => exact ⟨((((x5_2 * 2) % 4294967296) + 1) % 4294967296), (wrap64 (x6_2 - 1)), (by first | rfl | (simp; done) | (simp [*]; done) | (refine congrArg (Value.int _) ?_; omega) | (refine congrArg Value.bool ?_; generalize ByteArray.toList _ = z_; cases z_ <;> rfl)), (by first | rfl | (simp; done) | (simp [*]; done) | (refine congrArg (Value.int _) ?_; omega) | (refine congrArg Value.bool ?_; generalize ByteArray.toList _ = z_; cases z_ <;> rfl)), H', ⟨by have := HK1.out; have := HK2.out; omega⟩, ⟨by (with_reducible repeat (first | apply Kd.R_alloc | apply Kd.R_drewN | apply Kd.R_drew)); exact HO_0.out⟩, ⟨by (with_reducible repeat (first | apply Kd.R_alloc | apply Kd.R_drewN | apply Kd.R_drew)); exact HO_3.out⟩, ⟨by repeat first | exact HB.out | refine bxSet ?_ (by assumption) | apply below_alloc | apply pw_below_drewN⟩⟩
         ·replace c10 := Bool.eq_false_iff.mpr c10
          subst c10
          rw [if_neg (show ¬ (false = true) by decide)] at H
          have H' := Aside0.mk H
          clear H
          have p490 : 0 ≤ (x6_2 : Int) := of_decide_eq_true (by first | (with_reducible assumption) | assumption)
          have q490 : x6_2 < (t487.length : Int) := of_decide_eq_true (by first | (with_reducible assumption) | assumption)
          obtain ⟨ad490, e490, hx490_0⟩ := Kd.at_bool (Kd.R_reads' HO_0.out).2.2 x6_2 p490 q490
          (try rw [← Nbq9.out] at hx490_0)
          cases e490
          replace p490 := eq_true p490
          replace q490 := eq_true q490
          go_wp2
          go_roundg k2
          case measure => have := HK1.out; have := HK2.out; omega
          case rel => exact ⟨((x5_2 * 2) % 4294967296), (wrap64 (x6_2 - 1)), (by first | rfl | (simp; done)), (by first | rfl | (simp; done)), H', ⟨by have := HK1.out; have := HK2.out; omega⟩, ⟨HO_0.out⟩, ⟨HO_3.out⟩, ⟨HB.out⟩⟩
        ·rw [if_neg c8] at H
         exact absurd H (by simp)
       ·rw [if_neg c7] at H
        have c7b0 : decide (x6_2 < (t487.length : Int)) = false := decide_eq_false c7
        clear c7
        have H' := Aside0.mk H
        clear H
        go_wp2
        go_roundg k2
        case measure => have := HK1.out; have := HK2.out; omega
        case rel => exact ⟨((x5_2 * 2) % 4294967296), (wrap64 (x6_2 - 1)), (by first | rfl | (simp; done)), (by first | rfl | (simp; done)), H', ⟨by have := HK1.out; have := HK2.out; omega⟩, ⟨HO_0.out⟩, ⟨HO_3.out⟩, ⟨HB.out⟩⟩
      ·rw [if_neg c6] at H
       have c6b0 : decide (x4_1 ≤ x6_2) = false := decide_eq_false c6
       clear c6
       by_cases c11 : x3_1.length < 35184372088832
       ·rw [if_pos c11] at H
        have LMc11 := Aside0.mk c11
        clear c11
        obtain ⟨y491, hy491⟩ : ∃ y_ : List Int, y_ = (x3_1 ++ [x5_2]) := ⟨_, rfl⟩
        replace H : (gudgeonref01_Limbs.l0 k2 t487 y491 (wrap64 (x4_1 + 32))) = some r := by first | (rw [hy491]; with_reducible exact H) | (have H2_ := (Option.bind_some _ _).symm.trans H; rw [hy491]; with_reducible exact H2_) | (have H2_ := (Option.bind_some _ _).symm.trans H; with_reducible exact H2_) | with_reducible exact H | (rw [hy491]; exact H) | exact H
        have Ny491 := Aside0.mk hy491
        clear hy491
        have H' := Aside0.mk H
        clear H
        go_wp2_with (first | ((with_reducible refine gate_builtin (b := .append) (xs := #[.tmp 36, .tmp 38]) rfl ?_); at_builtin; refine Kd.R_append (Kd.int .u32) (w0 := w) w.heap.size rfl (.tmp 36) (.tmp 38) 22 81 (.int .u32 0) 4 rfl Try.underlying22 info81 rfl (by decide) (by omega) u3 x3_1 x5_2 [.int .u32 x5_2] (fun _ => True) (fun _ => False) rfl rfl ?aP (fun _ hk => hk.elim) ?aF ?aO ?aB ?aS ?aL ?_; (case aP => exact rfl); (case aB => exact HB.out); (case aF => exact (fun _ _ => trivial)); (case aO => exact HO_3.out); (case aS => exact (below_size HB.out)); (case aL => have := LMc11.out; omega); intro v492 w12 ho hb hg hat; rw [← Ny491.out] at ho; have n0_ := Aside0.mk (Kd.R_over' HO_0.out (Kd.R_typed HO_3.out) (by decide) hg); have n1_ := Aside0.mk (hb); have n2_ := Aside0.mk (ho); clear HO_0; clear HB; clear HO_3; have HO_0 := n0_; have HB := n1_; have HO493 := n2_; clear n0_ n1_ n2_; clear ho hb hg hat))
        go_roundg k2
        case measure => have := HK1.out; have := HK2.out; omega
        case rel => exact ⟨(y491), (wrap64 (x4_1 + 32)), (by first | rfl | (simp; done)), H', ⟨by have := HK1.out; have := HK2.out; omega⟩, ⟨HO_0.out⟩, ⟨HO493.out⟩, ⟨HB.out⟩⟩
       ·rw [if_neg c11] at H
        exact absurd H (by simp)
   ·rw [if_neg c4] at H
    have c4b0 : decide (x4_1 < (t487.length : Int)) = false := decide_eq_false c4
    clear c4
    obtain rfl := Option.some.inj H
    obtain ⟨Ao13, co13, eo13⟩ := Kd.R_slice HO_0.out
    subst eo13
    go_wp2
    go_ret
    exact ⟨_, rfl, HO_3.out, HB.out⟩

/-! ### gudgeonref01_Norm: function 77 -/
def gudgeonref01_Norm.f (k : Nat) (l0 : List Int) : Option (List Int) := (gudgeonref01_Bits.f k l0).bind fun t494 => ((gudgeonref01_Limbs.f k t494).bind fun t497 => (some t497))
theorem gudgeonref01_Norm.mono : ∀ a0 k, LeO (gudgeonref01_Norm.f k a0) (gudgeonref01_Norm.f (k + 1) a0) := by
 intro a0 k
 unfold gudgeonref01_Norm.f
 repeat' first
   | (with_reducible exact gudgeonref01_Bits.mono _ _)
   | (with_reducible exact gudgeonref01_Limbs.mono _ _)
   | (with_reducible exact LeO.refl _)
   | (with_reducible exact LeO.none _)
   | (with_reducible refine LeO.ite ?_ ?_)
   | (with_reducible refine LeO.bind ?_ (fun _ => ?_))
   | exact gudgeonref01_Bits.mono _ _
   | exact gudgeonref01_Limbs.mono _ _
   | exact LeO.none _
   | refine LeO.ite ?_ ?_
   | refine LeO.bind ?_ (fun _ => ?_)
set_option maxHeartbeats 8000000 in
set_option maxRecDepth 100000 in
theorem gudgeonref01_Norm.calls (k : Nat) (A0 : Option Addr) (c0 : Nat) (l0 : List Int) (r : List Int) (w : World) (hr0 : Kd.C (Kd.int .u32) w A0 l0.length l0) (hc0 : l0.length ≤ c0) (h : gudgeonref01_Norm.f k l0 = some r) :
  Calls Try.prog 77 #[.slice A0 l0.length c0] w fun e w' => ∃ v0_ : Value, e = .returned (v0_) ∧ Kd.R (Kd.int .u32) 81 w' w.heap.size (fun _ => True) v0_ r ∧ Below w.heap.size w w' := by
 have HR0 := Aside0.mk hr0
 have HC0 := Aside0.mk hc0
 clear hr0 hc0
 have HB := Aside0.mk (Below.refl w.heap.size w)
 have H : ((gudgeonref01_Bits.f k l0).bind fun t494 => ((gudgeonref01_Limbs.f k t494).bind fun t497 => (some t497))) = some r := h
 clear h
 obtain ⟨t494, A20, H⟩ := Option.bind_eq_some_iff.mp H
 try dsimp only at H
 have A2 := Aside0.mk A20
 clear A20
 obtain ⟨t497, A30, H⟩ := Option.bind_eq_some_iff.mp H
 try dsimp only at H
 have A3 := Aside0.mk A30
 clear A30
 obtain rfl := Option.some.inj H
 go_enter Try.func77, Try.ntmps77
 go_wp2_with (first | ((with_reducible refine gate_callee (f := 86) rfl ?_); refine goL (some 4) Try.func86 [.slice A0 l0.length c0] ?_; (with_reducible refine (gudgeonref01_Bits.calls k _ _ l0 t494 _ ?side1 ?side2 A2.out).mono ?_); (case side1 => exact HR0.out); (case side2 => exact HC0.out); rintro e w4 ⟨v495, rfl, ho0, hb⟩; refine ⟨_, rfl, ?_⟩; have HO496 := Aside0.mk (Kd.R_lower ho0 (below_size HB.out)); replace HB := Aside0.mk (below_step HB.out hb); obtain ⟨Ao5, co5, eo5⟩ := Kd.R_slice HO496.out; subst eo5) | ((with_reducible refine gate_callee (f := 88) rfl ?_); refine goL (some 5) Try.func88 [.slice Ao5 t494.length co5] ?_; (with_reducible refine (gudgeonref01_Limbs.calls k _ _ t494 t497 _ ?side1 ?side2 A3.out).mono ?_); (case side1 => exact (Kd.R_reads' HO496.out).2.2); (case side2 => exact (Kd.R_reads' HO496.out).2.1); rintro e w6 ⟨v498, rfl, ho0, hb⟩; refine ⟨_, rfl, ?_⟩; have HO499 := Aside0.mk (Kd.R_lower ho0 (below_size HB.out)); replace HB := Aside0.mk (below_step HB.out hb)))
 go_ret
 exact ⟨_, rfl, HO499.out, HB.out⟩

/-! ### gudgeonref02_Norm: function 54 -/
def gudgeonref02_Norm.f (k : Nat) (a0_0 : Bool) (l0_1 : List Int) : Option (Bool × List Int) := (gudgeonref01_Norm.f k l0_1).bind fun t502 => (if a0_0 = true then (some (decide ((t502.length : Int) > 0), t502)) else (some (false, t502)))
theorem gudgeonref02_Norm.mono : ∀ a0 a1 k, LeO (gudgeonref02_Norm.f k a0 a1) (gudgeonref02_Norm.f (k + 1) a0 a1) := by
 intro a0 a1 k
 unfold gudgeonref02_Norm.f
 repeat' first
   | (with_reducible exact gudgeonref01_Norm.mono _ _)
   | (with_reducible exact LeO.refl _)
   | (with_reducible exact LeO.none _)
   | (with_reducible refine LeO.ite ?_ ?_)
   | (with_reducible refine LeO.bind ?_ (fun _ => ?_))
   | exact gudgeonref01_Norm.mono _ _
   | exact LeO.none _
   | refine LeO.ite ?_ ?_
   | refine LeO.bind ?_ (fun _ => ?_)
set_option maxHeartbeats 8000000 in
set_option maxRecDepth 100000 in
theorem gudgeonref02_Norm.calls (k : Nat) (a0_0 : Bool) (A0_1 : Option Addr) (c0_1 : Nat) (l0_1 : List Int) (r1 : Bool) (r2 : List Int) (w : World) (hr0_1 : Kd.C (Kd.int .u32) w A0_1 l0_1.length l0_1) (hc0_1 : l0_1.length ≤ c0_1) (h : gudgeonref02_Norm.f k a0_0 l0_1 = some (r1, r2)) :
  Calls Try.prog 54 #[.agg #[.bool a0_0, .slice A0_1 l0_1.length c0_1]] w fun e w' => ∃ v1_ : Value, e = .returned (.agg #[.bool r1, v1_]) ∧ Kd.R (Kd.int .u32) 81 w' w.heap.size (fun _ => True) v1_ r2 ∧ Below w.heap.size w w' := by
 have hu24 := Try.underlying24
 have HR0_1 := Aside0.mk hr0_1
 have HC0_1 := Aside0.mk hc0_1
 clear hr0_1 hc0_1
 have HB := Aside0.mk (Below.refl w.heap.size w)
 have H : ((gudgeonref01_Norm.f k l0_1).bind fun t502 => (if a0_0 = true then (some (decide ((t502.length : Int) > 0), t502)) else (some (false, t502)))) = some (r1, r2) := h
 clear h
 obtain ⟨t502, A20, H⟩ := Option.bind_eq_some_iff.mp H
 try dsimp only at H
 have A2 := Aside0.mk A20
 clear A20
 by_cases c3 : a0_0 = true
 ·subst c3
  rw [if_pos rfl] at H
  rw [show decide ((t502.length : Int) > 0) = decide (0 < t502.length) from decide_eq_decide.mpr (by omega)] at H
  simp only [Option.some.injEq, Prod.mk.injEq] at H
  obtain ⟨rfl, rfl⟩ := H
  go_enter Try.func54, Try.ntmps54
  go_wp2_with (first | ((with_reducible refine gate_dst (N := 1) rfl ?_); (try (refine gate_guard (by rfl) ?_; dsimp only)); refine box_event ?hg (N := 1) ?hd (cs := #[.bool true, .slice A0_1 l0_1.length c0_1]) (t := 24) ?hr ?_; (case hd => rfl); (case hg => rfl); (case hr => first | (go_simp; done) | (go_simp; rfl)); intro gb500 hg w4 hbox hb; have BK500 := Aside0.mk (hbox); have GW500 := Aside0.mk (bxLe HB.out hg); have GE500 := GW500; replace HB := Aside0.mk (below_step HB.out hb); clear hb hbox hg) | ((with_reducible refine gate_dst (N := 2) rfl ?_); (try (refine gate_guard (by rfl) ?_; dsimp only)); refine box_event ?hg (N := 2) ?hd (cs := #[.bool false, .slice none 0 0]) (t := 24) ?hr ?_; (case hd => rfl); (case hg => rfl); (case hr => first | (go_simp; done) | (go_simp; rfl)); intro gb501 hg w5 hbox hb; have BK501 := Aside0.mk (hbox); have GW501 := Aside0.mk (bxLe HB.out hg); have GE501 := GW501; replace HB := Aside0.mk (below_step HB.out hb); have NB500_501 := Aside0.mk (neL BK500.out hg); have NB501_500 := Aside0.mk (neR BK500.out hg); replace BK500 := Aside0.mk (blk_below BK500.out hb); clear hb hbox hg; have hnb6 := NB500_501.out; have hnc6 := NB501_500.out; have hcz7_0 : w5.cell? ⟨gb500, 0, none⟩ = some (.bool true) := bc0 BK500.out; have hcz7_1 : w5.cell? ⟨gb500, 1, none⟩ = some (.slice A0_1 l0_1.length c0_1) := bc1 BK500.out; have hfz7_0 := blk_frozen BK500.out 0; have hfz7_1 := blk_frozen BK500.out 1) | ((with_reducible refine gate_callee (f := 77) rfl ?_); refine goL (some 6) Try.func77 [.slice A0_1 l0_1.length c0_1] ?_; (with_reducible refine (gudgeonref01_Norm.calls k _ _ l0_1 t502 _ ?side1 ?side2 A2.out).mono ?_); (case side1 => exact (Kd.C_below HR0_1.out HB.out)); (case side2 => exact HC0_1.out); rintro e w8 ⟨v503, rfl, ho0, hb⟩; refine ⟨_, rfl, ?_⟩; have HO504 := Aside0.mk (Kd.R_lower ho0 (below_size HB.out)); replace BK500 := Aside0.mk (blk_below BK500.out hb); replace BK501 := Aside0.mk (blk_below BK501.out hb); replace HB := Aside0.mk (below_step HB.out hb); have hcz9_0 : w8.cell? ⟨gb500, 0, none⟩ = some (.bool true) := bc0 BK500.out; have hcz9_1 : w8.cell? ⟨gb500, 1, none⟩ = some (.slice A0_1 l0_1.length c0_1) := bc1 BK500.out; have hfz9_0 := blk_frozen BK500.out 0; have hfz9_1 := blk_frozen BK500.out 1; obtain ⟨Ao10, co10, eo10⟩ := Kd.R_slice HO504.out; subst eo10; have hcz11_0 : w8.cell? ⟨gb501, 0, none⟩ = some (.bool false) := bc0 BK501.out; have hcz11_1 : w8.cell? ⟨gb501, 1, none⟩ = some (.slice none 0 0) := bc1 BK501.out; have hfz11_0 := blk_frozen BK501.out 0; have hfz11_1 := blk_frozen BK501.out 1))
  refine bodyPost_ret (results_cell_row rfl _ _ gb501 24 #[.bool (decide (0 < t502.length)), .slice Ao10 t502.length co10] (0, 0) _ rfl (by refine blk_put (cs := #[.bool (decide (0 < t502.length)), .slice none 0 0]) ?_ 1 _ rfl; refine blk_put (cs := #[.bool false, .slice none 0 0]) ?_ 0 _ rfl; exact BK501.out) Try.underlying24 rfl (by kernel_rfl)) rfl ?_
  exact ⟨_, rfl, Kd.R_mono (Kd.R_far (p := ⟨gb501, 1, none⟩) (Kd.R_far (p := ⟨gb501, 0, none⟩) (Kd.R_types HO504.out BK501.out (by decide)) (fun _ hk => hk.2) (.bool (decide (0 < t502.length)))) (fun _ hk => hk.2) (.slice Ao10 t502.length co10)) (fun _ hk => trivial), by repeat first | exact HB.out | refine bxSet ?_ (by assumption) | apply below_alloc | apply pw_below_drewN⟩
 ·replace c3 := Bool.eq_false_iff.mpr c3
  subst c3
  rw [if_neg (show ¬ (false = true) by decide)] at H
  simp only [Option.some.injEq, Prod.mk.injEq] at H
  obtain ⟨rfl, rfl⟩ := H
  go_enter Try.func54, Try.ntmps54
  go_wp2_with (first | ((with_reducible refine gate_dst (N := 1) rfl ?_); (try (refine gate_guard (by rfl) ?_; dsimp only)); refine box_event ?hg (N := 1) ?hd (cs := #[.bool false, .slice A0_1 l0_1.length c0_1]) (t := 24) ?hr ?_; (case hd => rfl); (case hg => rfl); (case hr => first | (go_simp; done) | (go_simp; rfl)); intro gb500 hg w12 hbox hb; have BK500 := Aside0.mk (hbox); have GW500 := Aside0.mk (bxLe HB.out hg); have GE500 := GW500; replace HB := Aside0.mk (below_step HB.out hb); clear hb hbox hg) | ((with_reducible refine gate_dst (N := 2) rfl ?_); (try (refine gate_guard (by rfl) ?_; dsimp only)); refine box_event ?hg (N := 2) ?hd (cs := #[.bool false, .slice none 0 0]) (t := 24) ?hr ?_; (case hd => rfl); (case hg => rfl); (case hr => first | (go_simp; done) | (go_simp; rfl)); intro gb501 hg w13 hbox hb; have BK501 := Aside0.mk (hbox); have GW501 := Aside0.mk (bxLe HB.out hg); have GE501 := GW501; replace HB := Aside0.mk (below_step HB.out hb); have NB500_501 := Aside0.mk (neL BK500.out hg); have NB501_500 := Aside0.mk (neR BK500.out hg); replace BK500 := Aside0.mk (blk_below BK500.out hb); clear hb hbox hg; have hnb14 := NB500_501.out; have hnc14 := NB501_500.out; have hcz15_0 : w13.cell? ⟨gb500, 0, none⟩ = some (.bool false) := bc0 BK500.out; have hcz15_1 : w13.cell? ⟨gb500, 1, none⟩ = some (.slice A0_1 l0_1.length c0_1) := bc1 BK500.out; have hfz15_0 := blk_frozen BK500.out 0; have hfz15_1 := blk_frozen BK500.out 1) | ((with_reducible refine gate_callee (f := 77) rfl ?_); refine goL (some 6) Try.func77 [.slice A0_1 l0_1.length c0_1] ?_; (with_reducible refine (gudgeonref01_Norm.calls k _ _ l0_1 t502 _ ?side1 ?side2 A2.out).mono ?_); (case side1 => exact (Kd.C_below HR0_1.out HB.out)); (case side2 => exact HC0_1.out); rintro e w16 ⟨v503, rfl, ho0, hb⟩; refine ⟨_, rfl, ?_⟩; have HO504 := Aside0.mk (Kd.R_lower ho0 (below_size HB.out)); replace BK500 := Aside0.mk (blk_below BK500.out hb); replace BK501 := Aside0.mk (blk_below BK501.out hb); replace HB := Aside0.mk (below_step HB.out hb); have hcz17_0 : w16.cell? ⟨gb500, 0, none⟩ = some (.bool false) := bc0 BK500.out; have hcz17_1 : w16.cell? ⟨gb500, 1, none⟩ = some (.slice A0_1 l0_1.length c0_1) := bc1 BK500.out; have hfz17_0 := blk_frozen BK500.out 0; have hfz17_1 := blk_frozen BK500.out 1; obtain ⟨Ao18, co18, eo18⟩ := Kd.R_slice HO504.out; subst eo18; have hcz19_0 : w16.cell? ⟨gb501, 0, none⟩ = some (.bool false) := bc0 BK501.out; have hcz19_1 : w16.cell? ⟨gb501, 1, none⟩ = some (.slice none 0 0) := bc1 BK501.out; have hfz19_0 := blk_frozen BK501.out 0; have hfz19_1 := blk_frozen BK501.out 1))
  refine bodyPost_ret (results_cell_row rfl _ _ gb501 24 #[.bool false, .slice Ao18 t502.length co18] (0, 0) _ rfl (by refine blk_put (cs := #[.bool false, .slice none 0 0]) ?_ 1 _ rfl; refine blk_put (cs := #[.bool false, .slice none 0 0]) ?_ 0 _ rfl; exact BK501.out) Try.underlying24 rfl (by kernel_rfl)) rfl ?_
  exact ⟨_, rfl, Kd.R_mono (Kd.R_far (p := ⟨gb501, 1, none⟩) (Kd.R_far (p := ⟨gb501, 0, none⟩) (Kd.R_types HO504.out BK501.out (by decide)) (fun _ hk => hk.2) (.bool false)) (fun _ hk => hk.2) (.slice Ao18 t502.length co18)) (fun _ hk => trivial), by repeat first | exact HB.out | refine bxSet ?_ (by assumption) | apply below_alloc | apply pw_below_drewN⟩

/-! ### gudgeonref01_Of: function 62 -/
def gudgeonref01_Of.f (k : Nat) (a0 : Int) : Option (List Int) := (gudgeonref01_Norm.f k (([(Int.tmod a0 4294967296) % 4294967296, (IntKind.u64.wrap (Int.tdiv a0 4294967296)) % 4294967296] : List Int))).bind fun t508 => (some t508)
theorem gudgeonref01_Of.mono : ∀ a0 k, LeO (gudgeonref01_Of.f k a0) (gudgeonref01_Of.f (k + 1) a0) := by
 intro a0 k
 unfold gudgeonref01_Of.f
 repeat' first
   | (with_reducible exact gudgeonref01_Norm.mono _ _)
   | (with_reducible exact LeO.refl _)
   | (with_reducible exact LeO.none _)
   | (with_reducible refine LeO.ite ?_ ?_)
   | (with_reducible refine LeO.bind ?_ (fun _ => ?_))
   | exact gudgeonref01_Norm.mono _ _
   | exact LeO.none _
   | refine LeO.ite ?_ ?_
   | refine LeO.bind ?_ (fun _ => ?_)
set_option maxHeartbeats 8000000 in
set_option maxRecDepth 100000 in
theorem gudgeonref01_Of.calls (k : Nat) (a0 : Int) (r : List Int) (w : World) (h : gudgeonref01_Of.f k a0 = some r) :
  Calls Try.prog 62 #[.int .u64 a0] w fun e w' => ∃ v0_ : Value, e = .returned (v0_) ∧ Kd.R (Kd.int .u32) 81 w' w.heap.size (fun _ => True) v0_ r ∧ Below w.heap.size w w' := by
 have HB := Aside0.mk (Below.refl w.heap.size w)
 have H : ((gudgeonref01_Norm.f k (([(Int.tmod a0 4294967296) % 4294967296, (IntKind.u64.wrap (Int.tdiv a0 4294967296)) % 4294967296] : List Int))).bind fun t508 => (some t508)) = some r := h
 clear h
 obtain ⟨y505, hy505⟩ : ∃ y_ : List Int, y_ = (([(Int.tmod a0 4294967296) % 4294967296, (IntKind.u64.wrap (Int.tdiv a0 4294967296)) % 4294967296] : List Int)) := ⟨_, rfl⟩
 replace H : ((gudgeonref01_Norm.f k y505).bind fun t508 => (some t508)) = some r := by first | (rw [hy505]; with_reducible exact H) | (have H2_ := (Option.bind_some _ _).symm.trans H; rw [hy505]; with_reducible exact H2_) | (have H2_ := (Option.bind_some _ _).symm.trans H; with_reducible exact H2_) | with_reducible exact H | (rw [hy505]; exact H) | exact H
 have Ny505 := Aside0.mk hy505
 clear hy505
 obtain ⟨t508, A20, H⟩ := Option.bind_eq_some_iff.mp H
 try dsimp only at H
 have A2 := Aside0.mk A20
 clear A20
 obtain rfl := Option.some.inj H
 go_enter Try.func62, Try.ntmps62
 go_wp2_with (first | ((with_reducible refine gate_dst (N := 9) rfl ?_); refine Kd.R_lit (Kd.int .u32) _ 81 ?hg (N := 9) ?hd (xs := ([(Int.tmod a0 4294967296) % 4294967296, (IntKind.u64.wrap (Int.tdiv a0 4294967296)) % 4294967296] : List Int)) (inner := [.int .u32 ((Int.tmod a0 4294967296) % 4294967296), .int .u32 ((IntKind.u64.wrap (Int.tdiv a0 4294967296)) % 4294967296)]) (ok := fun _ => True) (okp := fun _ => True) ?hr ?hp (fun _ hk => hk) trivial (Below.refl _ _) (Nat.le_refl _) (by simp) ?_; (case hd => rfl); (case hg => rfl); (case hr => first | (go_simp; done) | (go_simp; rfl)); (case hp => exact (Reps.one (show Kd.M (Kd.int .u32) _ _ _ ((Int.tmod a0 4294967296) % 4294967296) [.int .u32 ((Int.tmod a0 4294967296) % 4294967296)] from rfl) (Reps.one (show Kd.M (Kd.int .u32) _ _ _ ((IntKind.u64.wrap (Int.tdiv a0 4294967296)) % 4294967296) [.int .u32 ((IntKind.u64.wrap (Int.tdiv a0 4294967296)) % 4294967296)] from rfl) (Reps.none _ _)))); intro v506 w3 ho4 hb hg_ hnew_; clear hg_ hnew_; (first | rw [← Ny505.out] at ho4 | (simp only [Int.reduceToNat] at ho4; rw [← Ny505.out] at ho4)); have HO507 := Aside0.mk (Kd.R_lower ho4 (below_size HB.out)); replace HB := Aside0.mk (below_step HB.out hb); clear hb ho4; obtain ⟨Ao5, co5, eo5⟩ := Kd.R_slice HO507.out; subst eo5) | ((with_reducible refine gate_callee (f := 77) rfl ?_); refine goL (some 10) Try.func77 [.slice Ao5 y505.length co5] ?_; (with_reducible refine (gudgeonref01_Norm.calls k _ _ y505 t508 _ ?side1 ?side2 A2.out).mono ?_); (case side1 => exact (Kd.R_reads' HO507.out).2.2); (case side2 => exact (Kd.R_reads' HO507.out).2.1); rintro e w6 ⟨v509, rfl, ho0, hb⟩; refine ⟨_, rfl, ?_⟩; have HO510 := Aside0.mk (Kd.R_lower (Kd.R_new' ho0 (Kd.R_lt HO507.out)) (below_size HB.out)); replace HB := Aside0.mk (below_step HB.out hb)))
 go_ret
 exact ⟨_, rfl, Kd.R_mono HO510.out (fun _ hk => trivial), HB.out⟩

/-! ### gudgeonref02_Of: function 32 -/
def gudgeonref02_Of.f (k : Nat) (a0 : Int) : Option (Bool × List Int) := if a0 < 0 then ((gudgeonref01_Of.f k (IntKind.u64.wrap ((IntKind.u64.wrap (wrap64 (-(wrap64 (a0 + 1))))) + 1))).bind fun t512 => ((gudgeonref02_Norm.f k true t512).bind fun bt515 => (some (bt515.1, bt515.2)))) else ((gudgeonref01_Of.f k (IntKind.u64.wrap (a0))).bind fun t519 => ((gudgeonref02_Norm.f k false t519).bind fun bt522 => (some (bt522.1, bt522.2))))
theorem gudgeonref02_Of.mono : ∀ a0 k, LeO (gudgeonref02_Of.f k a0) (gudgeonref02_Of.f (k + 1) a0) := by
 intro a0 k
 unfold gudgeonref02_Of.f
 repeat' first
   | (with_reducible exact gudgeonref01_Of.mono _ _)
   | (with_reducible exact gudgeonref02_Norm.mono _ _ _)
   | (with_reducible exact LeO.refl _)
   | (with_reducible exact LeO.none _)
   | (with_reducible refine LeO.ite ?_ ?_)
   | (with_reducible refine LeO.bind ?_ (fun _ => ?_))
   | exact gudgeonref01_Of.mono _ _
   | exact gudgeonref02_Norm.mono _ _ _
   | exact LeO.none _
   | refine LeO.ite ?_ ?_
   | refine LeO.bind ?_ (fun _ => ?_)
set_option maxHeartbeats 8000000 in
set_option maxRecDepth 100000 in
theorem gudgeonref02_Of.calls (k : Nat) (a0 : Int) (r1 : Bool) (r2 : List Int) (w : World) (h : gudgeonref02_Of.f k a0 = some (r1, r2)) :
  Calls Try.prog 32 #[.int .i64 a0] w fun e w' => ∃ v1_ : Value, e = .returned (.agg #[.bool r1, v1_]) ∧ Kd.R (Kd.int .u32) 81 w' w.heap.size (fun _ => True) v1_ r2 ∧ Below w.heap.size w w' := by
 have hu24 := Try.underlying24
 have HB := Aside0.mk (Below.refl w.heap.size w)
 have H : (if a0 < 0 then ((gudgeonref01_Of.f k (IntKind.u64.wrap ((IntKind.u64.wrap (wrap64 (-(wrap64 (a0 + 1))))) + 1))).bind fun t512 => ((gudgeonref02_Norm.f k true t512).bind fun bt515 => (some (bt515.1, bt515.2)))) else ((gudgeonref01_Of.f k (IntKind.u64.wrap (a0))).bind fun t519 => ((gudgeonref02_Norm.f k false t519).bind fun bt522 => (some (bt522.1, bt522.2))))) = some (r1, r2) := h
 clear h
 by_cases c2 : a0 < 0
 ·rw [if_pos c2] at H
  have c2b0 : decide (a0 < 0) = true := decide_eq_true c2
  clear c2
  obtain ⟨t512, A30, H⟩ := Option.bind_eq_some_iff.mp H
  try dsimp only at H
  have A3 := Aside0.mk A30
  clear A30
  obtain ⟨⟨t515, t516⟩, A40, H⟩ := Option.bind_eq_some_iff.mp H
  try dsimp only at H
  have A4 := Aside0.mk A40
  clear A40
  simp only [Option.some.injEq, Prod.mk.injEq] at H
  obtain ⟨rfl, rfl⟩ := H
  go_enter Try.func32, Try.ntmps32
  go_wp2_with (first | ((with_reducible refine gate_dst (N := 2) rfl ?_); refine box_event ?hg (N := 2) ?hd (cs := #[.bool false, .slice none 0 0]) (t := 24) ?hr ?_; (case hd => rfl); (case hg => rfl); (case hr => first | (go_simp; done) | (go_simp; rfl)); intro gb511 hg w5 hbox hb; have BK511 := Aside0.mk (hbox); have GW511 := Aside0.mk (bxLe HB.out hg); have GE511 := GW511; replace HB := Aside0.mk (below_step HB.out hb); clear hb hbox hg) | ((with_reducible refine gate_callee (f := 62) rfl ?_); refine goL (some 10) Try.func62 [.int .u64 (IntKind.u64.wrap ((IntKind.u64.wrap (wrap64 (-(wrap64 (a0 + 1))))) + 1))] ?_; (with_reducible refine (gudgeonref01_Of.calls k (IntKind.u64.wrap ((IntKind.u64.wrap (wrap64 (-(wrap64 (a0 + 1))))) + 1)) t512 _ A3.out).mono ?_); rintro e w6 ⟨v513, rfl, ho0, hb⟩; refine ⟨_, rfl, ?_⟩; have HO514 := Aside0.mk (Kd.R_lower ho0 (below_size HB.out)); replace BK511 := Aside0.mk (blk_below BK511.out hb); replace HB := Aside0.mk (below_step HB.out hb); obtain ⟨Ao7, co7, eo7⟩ := Kd.R_slice HO514.out; subst eo7) | ((with_reducible refine gate_callee (f := 54) rfl ?_); refine goL (some 12) Try.func54 [.agg #[.bool true, .slice Ao7 t512.length co7]] ?_; (with_reducible refine (gudgeonref02_Norm.calls k true _ _ t512 t515 t516 _ ?side1 ?side2 A4.out).mono ?_); (case side1 => exact (Kd.R_reads' HO514.out).2.2); (case side2 => exact (Kd.R_reads' HO514.out).2.1); rintro e w8 ⟨v517, rfl, ho0, hb⟩; refine ⟨_, rfl, ?_⟩; have HO518 := Aside0.mk (Kd.R_lower (Kd.R_new' ho0 (Kd.R_lt HO514.out)) (below_size HB.out)); replace BK511 := Aside0.mk (blk_below BK511.out hb); replace HB := Aside0.mk (below_step HB.out hb); have hcz9_0 : w8.cell? ⟨gb511, 0, none⟩ = some (.bool false) := bc0 BK511.out; have hcz9_1 : w8.cell? ⟨gb511, 1, none⟩ = some (.slice none 0 0) := bc1 BK511.out; have hfz9_0 := blk_frozen BK511.out 0; have hfz9_1 := blk_frozen BK511.out 1; obtain ⟨Ao10, co10, eo10⟩ := Kd.R_slice HO518.out; subst eo10))
  refine bodyPost_ret (results_cell_row rfl _ _ gb511 24 #[.bool t515, .slice Ao10 t516.length co10] (0, 0) _ rfl (by refine blk_put (cs := #[.bool t515, .slice none 0 0]) ?_ 1 _ rfl; refine blk_put (cs := #[.bool false, .slice none 0 0]) ?_ 0 _ rfl; exact BK511.out) Try.underlying24 rfl (by kernel_rfl)) rfl ?_
  exact ⟨_, rfl, Kd.R_mono (Kd.R_far (p := ⟨gb511, 1, none⟩) (Kd.R_far (p := ⟨gb511, 0, none⟩) (Kd.R_types HO518.out BK511.out (by decide)) (fun _ hk => hk.2) (.bool t515)) (fun _ hk => hk.2) (.slice Ao10 t516.length co10)) (fun _ hk => trivial), by repeat first | exact HB.out | refine bxSet ?_ (by assumption) | apply below_alloc | apply pw_below_drewN⟩
 ·rw [if_neg c2] at H
  have c2b0 : decide (a0 < 0) = false := decide_eq_false c2
  clear c2
  obtain ⟨t519, A110, H⟩ := Option.bind_eq_some_iff.mp H
  try dsimp only at H
  have A11 := Aside0.mk A110
  clear A110
  obtain ⟨⟨t522, t523⟩, A120, H⟩ := Option.bind_eq_some_iff.mp H
  try dsimp only at H
  have A12 := Aside0.mk A120
  clear A120
  simp only [Option.some.injEq, Prod.mk.injEq] at H
  obtain ⟨rfl, rfl⟩ := H
  go_enter Try.func32, Try.ntmps32
  go_wp2_with (first | ((with_reducible refine gate_dst (N := 2) rfl ?_); refine box_event ?hg (N := 2) ?hd (cs := #[.bool false, .slice none 0 0]) (t := 24) ?hr ?_; (case hd => rfl); (case hg => rfl); (case hr => first | (go_simp; done) | (go_simp; rfl)); intro gb511 hg w13 hbox hb; have BK511 := Aside0.mk (hbox); have GW511 := Aside0.mk (bxLe HB.out hg); have GE511 := GW511; replace HB := Aside0.mk (below_step HB.out hb); clear hb hbox hg) | ((with_reducible refine gate_callee (f := 62) rfl ?_); refine goL (some 15) Try.func62 [.int .u64 (IntKind.u64.wrap (a0))] ?_; (with_reducible refine (gudgeonref01_Of.calls k (IntKind.u64.wrap (a0)) t519 _ A11.out).mono ?_); rintro e w14 ⟨v520, rfl, ho0, hb⟩; refine ⟨_, rfl, ?_⟩; have HO521 := Aside0.mk (Kd.R_lower ho0 (below_size HB.out)); replace BK511 := Aside0.mk (blk_below BK511.out hb); replace HB := Aside0.mk (below_step HB.out hb); obtain ⟨Ao15, co15, eo15⟩ := Kd.R_slice HO521.out; subst eo15) | ((with_reducible refine gate_callee (f := 54) rfl ?_); refine goL (some 17) Try.func54 [.agg #[.bool false, .slice Ao15 t519.length co15]] ?_; (with_reducible refine (gudgeonref02_Norm.calls k false _ _ t519 t522 t523 _ ?side1 ?side2 A12.out).mono ?_); (case side1 => exact (Kd.R_reads' HO521.out).2.2); (case side2 => exact (Kd.R_reads' HO521.out).2.1); rintro e w16 ⟨v524, rfl, ho0, hb⟩; refine ⟨_, rfl, ?_⟩; have HO525 := Aside0.mk (Kd.R_lower (Kd.R_new' ho0 (Kd.R_lt HO521.out)) (below_size HB.out)); replace BK511 := Aside0.mk (blk_below BK511.out hb); replace HB := Aside0.mk (below_step HB.out hb); have hcz17_0 : w16.cell? ⟨gb511, 0, none⟩ = some (.bool false) := bc0 BK511.out; have hcz17_1 : w16.cell? ⟨gb511, 1, none⟩ = some (.slice none 0 0) := bc1 BK511.out; have hfz17_0 := blk_frozen BK511.out 0; have hfz17_1 := blk_frozen BK511.out 1; obtain ⟨Ao18, co18, eo18⟩ := Kd.R_slice HO525.out; subst eo18))
  refine bodyPost_ret (results_cell_row rfl _ _ gb511 24 #[.bool t522, .slice Ao18 t523.length co18] (0, 0) _ rfl (by refine blk_put (cs := #[.bool t522, .slice none 0 0]) ?_ 1 _ rfl; refine blk_put (cs := #[.bool false, .slice none 0 0]) ?_ 0 _ rfl; exact BK511.out) Try.underlying24 rfl (by kernel_rfl)) rfl ?_
  exact ⟨_, rfl, Kd.R_mono (Kd.R_far (p := ⟨gb511, 1, none⟩) (Kd.R_far (p := ⟨gb511, 0, none⟩) (Kd.R_types HO525.out BK511.out (by decide)) (fun _ hk => hk.2) (.bool t522)) (fun _ hk => hk.2) (.slice Ao18 t523.length co18)) (fun _ hk => trivial), by repeat first | exact HB.out | refine bxSet ?_ (by assumption) | apply below_alloc | apply pw_below_drewN⟩

/-! ### gudgeonlaw13_sum: function 39 -/
def gudgeonlaw13_sum.f (k : Nat) (a0 : Int) (a1 : Int) (a2 : Int) : Option (Bool × List Int × (List (S46))) := (gudgeonref02_Of.f k a0).bind fun bt527 => ((gudgeonref02_Of.f k a1).bind fun bt531 => ((gudgeonref02_Of.f k a2).bind fun bt535 => (some (bt527.1, bt527.2, (([(⟨0, (⟨bt531.1, bt531.2⟩ : S24)⟩ : S46), (⟨1, (⟨bt535.1, bt535.2⟩ : S24)⟩ : S46)] : List (S46)))))))
theorem gudgeonlaw13_sum.mono : ∀ a0 a1 a2 k, LeO (gudgeonlaw13_sum.f k a0 a1 a2) (gudgeonlaw13_sum.f (k + 1) a0 a1 a2) := by
 intro a0 a1 a2 k
 unfold gudgeonlaw13_sum.f
 repeat' first
   | (with_reducible exact gudgeonref02_Of.mono _ _)
   | (with_reducible exact LeO.refl _)
   | (with_reducible exact LeO.none _)
   | (with_reducible refine LeO.ite ?_ ?_)
   | (with_reducible refine LeO.bind ?_ (fun _ => ?_))
   | exact gudgeonref02_Of.mono _ _
   | exact LeO.none _
   | refine LeO.ite ?_ ?_
   | refine LeO.bind ?_ (fun _ => ?_)
set_option maxHeartbeats 8000000 in
set_option maxRecDepth 100000 in
theorem gudgeonlaw13_sum.calls (k : Nat) (a0 : Int) (a1 : Int) (a2 : Int) (r1 : Bool) (r2 : List Int) (r3 : List (S46)) (w : World) (h : gudgeonlaw13_sum.f k a0 a1 a2 = some (r1, r2, r3)) :
  Calls Try.prog 39 #[.int .i64 a0, .int .i64 a1, .int .i64 a2] w fun e w' => ∃ v1_ v2_ : Value, e = .returned (.agg #[.bool r1, v1_, v2_]) ∧ Kd.R (Kd.int .u32) 81 w' w.heap.size (fun k_ => (w.heap.size ≤ k_)) v1_ r2 ∧ Kd.N k46 46 w' w.heap.size (fun k_ => (w.heap.size ≤ k_) ∧ some k_ ≠ (v1_ : Value).ownBlock) v2_ r3 ∧ Below w.heap.size w w' := by
 have hu27 := Try.underlying27
 have hu46 := Try.underlying46
 have HB := Aside0.mk (Below.refl w.heap.size w)
 have H : ((gudgeonref02_Of.f k a0).bind fun bt527 => ((gudgeonref02_Of.f k a1).bind fun bt531 => ((gudgeonref02_Of.f k a2).bind fun bt535 => (some (bt527.1, bt527.2, (([(⟨0, (⟨bt531.1, bt531.2⟩ : S24)⟩ : S46), (⟨1, (⟨bt535.1, bt535.2⟩ : S24)⟩ : S46)] : List (S46)))))))) = some (r1, r2, r3) := h
 clear h
 obtain ⟨⟨t527, t528⟩, A40, H⟩ := Option.bind_eq_some_iff.mp H
 try dsimp only at H
 have A4 := Aside0.mk A40
 clear A40
 obtain ⟨⟨t531, t532⟩, A50, H⟩ := Option.bind_eq_some_iff.mp H
 try dsimp only at H
 have A5 := Aside0.mk A50
 clear A50
 obtain ⟨⟨t535, t536⟩, A60, H⟩ := Option.bind_eq_some_iff.mp H
 try dsimp only at H
 have A6 := Aside0.mk A60
 clear A60
 obtain ⟨y539, hy539⟩ : ∃ y_ : List (S46), y_ = (([(⟨0, (⟨t531, t532⟩ : S24)⟩ : S46), (⟨1, (⟨t535, t536⟩ : S24)⟩ : S46)] : List (S46))) := ⟨_, rfl⟩
 replace H : (some (t527, t528, y539)) = some (r1, r2, r3) := by first | (rw [hy539]; with_reducible exact H) | (have H2_ := (Option.bind_some _ _).symm.trans H; rw [hy539]; with_reducible exact H2_) | (have H2_ := (Option.bind_some _ _).symm.trans H; with_reducible exact H2_) | with_reducible exact H | (rw [hy539]; exact H) | exact H
 have Ny539 := Aside0.mk hy539
 clear hy539
 simp only [Option.some.injEq, Prod.mk.injEq] at H
 obtain ⟨rfl, rfl, rfl⟩ := H
 go_enter Try.func39, Try.ntmps39
 go_wp2_with (first | ((with_reducible refine gate_dst (N := 6) rfl ?_); refine box_event ?hg (N := 6) ?hd (cs := #[.bool false, .slice none 0 0, .slice none 0 0]) (t := 27) ?hr ?_; (case hd => rfl); (case hg => rfl); (case hr => first | (go_simp; done) | (go_simp; rfl)); intro gb526 hg w7 hbox hb; have BK526 := Aside0.mk (hbox); have GW526 := Aside0.mk (bxLe HB.out hg); have GE526 := GW526; replace HB := Aside0.mk (below_step HB.out hb); clear hb hbox hg) | ((with_reducible refine gate_callee (f := 32) rfl ?_); refine goL (some 8) Try.func32 [.int .i64 a0] ?_; (with_reducible refine (gudgeonref02_Of.calls k a0 t527 t528 _ A4.out).mono ?_); rintro e w8 ⟨v529, rfl, ho0, hb⟩; refine ⟨_, rfl, ?_⟩; have HO530 := Aside0.mk (Kd.R_lower (Kd.R_newM (M := fun k_ => (w.heap.size ≤ k_)) ho0 (below_size HB.out) (fun k_ h_ => h_)) (below_size HB.out)); replace BK526 := Aside0.mk (blk_below BK526.out hb); replace HB := Aside0.mk (below_step HB.out hb)) | ((with_reducible refine gate_callee (f := 32) rfl ?_); refine goL (some 10) Try.func32 [.int .i64 a1] ?_; (with_reducible refine (gudgeonref02_Of.calls k a1 t531 t532 _ A5.out).mono ?_); rintro e w9 ⟨v533, rfl, ho0, hb⟩; refine ⟨_, rfl, ?_⟩; have HO534 := Aside0.mk (Kd.R_lower (Kd.R_new' (Kd.R_newM (M := fun k_ => (w.heap.size ≤ k_)) ho0 (below_size HB.out) (fun k_ h_ => h_)) (Kd.R_lt HO530.out)) (below_size HB.out)); replace HO530 := Aside0.mk (Kd.R_elder' HO530.out (Kd.R_base ho0) hb); replace BK526 := Aside0.mk (blk_below BK526.out hb); replace HB := Aside0.mk (below_step HB.out hb); obtain ⟨Ao10, co10, eo10⟩ := Kd.R_slice HO534.out; subst eo10) | ((with_reducible refine gate_callee (f := 32) rfl ?_); refine goL (some 13) Try.func32 [.int .i64 a2] ?_; (with_reducible refine (gudgeonref02_Of.calls k a2 t535 t536 _ A6.out).mono ?_); rintro e w11 ⟨v537, rfl, ho0, hb⟩; refine ⟨_, rfl, ?_⟩; have HO538 := Aside0.mk (Kd.R_lower (Kd.R_new' (Kd.R_new' (Kd.R_newM (M := fun k_ => (w.heap.size ≤ k_)) ho0 (below_size HB.out) (fun k_ h_ => h_)) (Kd.R_lt HO530.out)) (Kd.R_lt HO534.out)) (below_size HB.out)); replace HO530 := Aside0.mk (Kd.R_elder' HO530.out (Kd.R_base ho0) hb); replace HO534 := Aside0.mk (Kd.R_elder' HO534.out (Kd.R_base ho0) hb); replace BK526 := Aside0.mk (blk_below BK526.out hb); replace HB := Aside0.mk (below_step HB.out hb); obtain ⟨Ao12, co12, eo12⟩ := Kd.R_slice HO538.out; subst eo12) | ((with_reducible refine gate_dst (N := 15) rfl ?_); refine Kd.N_lit k46 _ 46 ?hg (N' := 15) ?hd (xs := ([(⟨0, (⟨t531, t532⟩ : S24)⟩ : S46), (⟨1, (⟨t535, t536⟩ : S24)⟩ : S46)] : List (S46))) (inner := [.int .i64 0, .bool t531, .slice Ao10 t532.length co10, .int .i64 1, .bool t535, .slice Ao12 t536.length co12]) (ok := (fun k_ => (w.heap.size ≤ k_) ∧ some k_ ≠ (v529 : Value).ownBlock ∧ k_ ≠ gb526)) (okp := (fun k_ => (w.heap.size ≤ k_) ∧ some k_ ≠ (v529 : Value).ownBlock ∧ k_ ≠ gb526)) ?hr ?hp (fun _ hk => hk) ((show ∀ k_, w11.heap.size ≤ k_ → (fun k_ => (w.heap.size ≤ k_) ∧ some k_ ≠ (v529 : Value).ownBlock ∧ k_ ≠ gb526) k_ from fun k_ hk => ⟨(Nat.le_trans (below_size HB.out) hk), Kd.fresh' (Kd.R_lt HO530.out) k_ hk, Kd.freshB BK526.out k_ hk⟩) _ (Nat.le_refl _)) (Below.refl _ _) (Nat.le_refl _) (by simp) ?_; (case hd => rfl); (case hg => rfl); (case hr => first | (go_simp; done) | (go_simp; rfl)); (case hp => exact (Reps.c3 (show Kd.FK k46 _ _ (⟨0, (⟨t531, t532⟩ : S24)⟩ : S46) [.int .i64 0, .bool t531, .slice Ao10 t532.length co10] from (k46_mkF _ _ (⟨0, (⟨t531, t532⟩ : S24)⟩ : S46) (Kd.R_reads' (Kd.R_mono (ok' := (fun k_ => (w.heap.size ≤ k_) ∧ some k_ ≠ (v529 : Value).ownBlock ∧ k_ ≠ gb526)) (Kd.R_types (HO534.out) BK526.out (by decide)) (fun k_ hk => ⟨hk.1.1.1.1, ⟨hk.1.1.2, hk.2⟩⟩))).2.1 (Kd.R_F (Kd.R_mono (ok' := (fun k_ => (w.heap.size ≤ k_) ∧ some k_ ≠ (v529 : Value).ownBlock ∧ k_ ≠ gb526)) (Kd.R_types (HO534.out) BK526.out (by decide)) (fun k_ hk => ⟨hk.1.1.1.1, ⟨hk.1.1.2, hk.2⟩⟩))))) (Reps.c3 (show Kd.FK k46 _ _ (⟨1, (⟨t535, t536⟩ : S24)⟩ : S46) [.int .i64 1, .bool t535, .slice Ao12 t536.length co12] from (k46_mkF _ _ (⟨1, (⟨t535, t536⟩ : S24)⟩ : S46) (Kd.R_reads' (Kd.R_mono (ok' := (fun k_ => (w.heap.size ≤ k_) ∧ some k_ ≠ (v529 : Value).ownBlock ∧ k_ ≠ gb526)) (Kd.R_types (HO538.out) BK526.out (by decide)) (fun k_ hk => ⟨hk.1.1.1.1, ⟨hk.1.1.2, hk.2⟩⟩))).2.1 (Kd.R_F (Kd.R_mono (ok' := (fun k_ => (w.heap.size ≤ k_) ∧ some k_ ≠ (v529 : Value).ownBlock ∧ k_ ≠ gb526)) (Kd.R_types (HO538.out) BK526.out (by decide)) (fun k_ hk => ⟨hk.1.1.1.1, ⟨hk.1.1.2, hk.2⟩⟩))))) (Reps.none _ _)))); intro v540 w13 ho14 hb hg_ hnew_; clear hg_ hnew_; (first | rw [← Ny539.out] at ho14 | (simp only [Int.reduceToNat] at ho14; rw [← Ny539.out] at ho14)); have n0_ := Aside0.mk (Kd.R_below HO530.out hb); have n1_ := Aside0.mk (Kd.N_lower ho14 (below_size HB.out)); have n2_ := Aside0.mk (blk_below BK526.out hb); have n3_ := Aside0.mk (below_step HB.out hb); clear HO530; clear BK526; clear HB; clear HO534; clear HO538; have HO530 := n0_; have HO541 := n1_; have BK526 := n2_; have HB := n3_; clear n0_ n1_ n2_ n3_; clear hb ho14; obtain ⟨Ao15, co15, eo15⟩ := Kd.N_slice HO541.out; subst eo15; obtain ⟨Ao16, co16, eo16⟩ := Kd.R_slice HO530.out; subst eo16; have hcz17_0 : w13.cell? ⟨gb526, 0, none⟩ = some (.bool false) := bc0 BK526.out; have hcz17_1 : w13.cell? ⟨gb526, 1, none⟩ = some (.slice none 0 0) := bc1 BK526.out; have hcz17_2 : w13.cell? ⟨gb526, 2, none⟩ = some (.slice none 0 0) := bc2 BK526.out; have hfz17_0 := blk_frozen BK526.out 0; have hfz17_1 := blk_frozen BK526.out 1; have hfz17_2 := blk_frozen BK526.out 2))
 refine bodyPost_ret (results_cell_row rfl _ _ gb526 27 #[.bool t527, .slice Ao16 t528.length co16, .slice Ao15 y539.length co15] (0, 0) _ rfl (by refine blk_put (cs := #[.bool t527, .slice Ao16 t528.length co16, .slice none 0 0]) ?_ 2 _ rfl; refine blk_put (cs := #[.bool t527, .slice none 0 0, .slice none 0 0]) ?_ 1 _ rfl; refine blk_put (cs := #[.bool false, .slice none 0 0, .slice none 0 0]) ?_ 0 _ rfl; exact BK526.out) Try.underlying27 rfl (by kernel_rfl)) rfl ?_
 exact ⟨_, _, rfl, Kd.R_mono (Kd.R_far (p := ⟨gb526, 2, none⟩) (Kd.R_far (p := ⟨gb526, 1, none⟩) (Kd.R_far (p := ⟨gb526, 0, none⟩) (Kd.R_types HO530.out BK526.out (by decide)) (fun _ hk => hk.2) (.bool t527)) (fun _ hk => hk.2) (.slice Ao16 t528.length co16)) (fun _ hk => hk.2) (.slice Ao15 y539.length co15)) (fun _ hk => hk.1.1.1.1), by (with_reducible repeat (first | apply Kd.N_alloc | apply Kd.N_drewN | apply Kd.N_drew)); exact Kd.N_mono (Kd.N_far (p := ⟨gb526, 2, none⟩) (Kd.N_far (p := ⟨gb526, 1, none⟩) (Kd.N_far (p := ⟨gb526, 0, none⟩) (Kd.N_mono HO541.out (fun k_ hk => (⟨hk, hk.2.2⟩ : _ ∧ k_ ≠ gb526))) (fun _ hk => hk.2) (.bool t527)) (fun _ hk => hk.2) (.slice Ao16 t528.length co16)) (fun _ hk => hk.2) (.slice Ao15 y539.length co15)) (fun _ hk => ⟨hk.1.1, hk.1.2.1⟩), by repeat first | exact HB.out | refine bxSet ?_ (by assumption) | apply below_alloc | apply pw_below_drewN⟩

end Go.Proofs.Ytdicjemjmlbmlaa.PA
/- The reference's numbers by bits, the lowest one first: what its functions compute, as numbers. -/
namespace Go.Proofs.Ytdicjemjmlbmlaa.V
set_option linter.unusedVariables false
set_option linter.unusedSimpArgs false
open Go.RowKit Go.Proofs.Ytdicjemjmlbmlaa.PA Go.Proofs.Ytdicjemjmlbmlaa.H Go.Proofs.YtdicjemjmlbmlaaW.PrintWords Go.Proofs.YtdicjemjmlbmlaaW.PrintLast Go.Proofs.YtdicjemjmlbmlaaW.PrintMore

def p2 (n : Nat) : Int := 2 ^ n
/-- A number's bits, without noughts behind. -/
def bitN (n : Nat) : List Bool := if h : n = 0 then [] else decide (n % 2 = 1) :: bitN (n / 2)
termination_by n
decreasing_by omega
def bits (n : Int) : List Bool := bitN n.toNat
/-! ### order -/
/-! ### sums -/
end Go.Proofs.Ytdicjemjmlbmlaa.V
/- Two sums that are one are the same. -/
namespace Go.Proofs.Ytdicjemjmlbmlaa.H
set_option linter.unusedSimpArgs false
set_option linter.unusedVariables false
open Go.RowKit Go.Proofs.YtdicjemjmlbmlaaW.PrintWords Go.Proofs.YtdicjemjmlbmlaaW.PrintLast Go.Proofs.YtdicjemjmlbmlaaW.PrintMore Go.Proofs.Ytdicjemjmlbmlaa.PA Go.Proofs.Ytdicjemjmlbmlaa.V Go.Proofs.Ytdicjemjmlbmlaa.S
theorem blk_all {w : World} {g : Nat} {t : TypeId} {cs : Array Value} (h : w.heap[g]? = some (.cells cs t (0, 0))) : ∀ i, w.cell? ⟨g, i, none⟩ = cs[i]? := fun i => blk_cell h i
theorem rSame_self (b : Bool) (l : List Int) (hl : l.length ≤ 1000000) : Ev (fun k => gudgeonref02_Same.f k b l b l) true := by
  refine Ev.congr (fun k => rfl) (Ev.bind (same_self _ _ rfl (by omega)) (evP rfl (evR ?_)))
  simp
theorem q_rSame {w : World} {b : Bool} {A A' : Option Addr} {c c' : Nat} {l : List Int} (h1 : Kd.C (Kd.int .u32) w A l.length l) (s1 : l.length ≤ c) (h2 : Kd.C (Kd.int .u32) w A' l.length l) (s2 : l.length ≤ c') (hl : l.length ≤ 1000000) :
    Calls Try.prog 16 #[.agg #[.bool b, .slice A l.length c], .agg #[.bool b, .slice A' l.length c']] w fun e w' => e = .returned (.bool true) ∧ Below w.heap.size w w' := by
  obtain ⟨k, hk⟩ := (rSame_self b l hl).rounds
  exact gudgeonref02_Same.calls k b A c l b A' c' l true w h1 s1 h2 s2 hk
set_option maxHeartbeats 8000000 in
set_option maxRecDepth 100000 in
theorem q_SameE {w : World} {b : Bool} {A B A' B' : Option Addr} {c d c' d' : Nat} {l : List Int} {p : List S46} (h1 : Kd.C (Kd.int .u32) w A l.length l) (s1 : l.length ≤ c) (h2 : Kd.C k46 w B p.length p) (s2 : p.length ≤ d)
    (h3 : Kd.C (Kd.int .u32) w A' l.length l) (s3 : l.length ≤ c') (h4 : Kd.C k46 w B' p.length p) (s4 : p.length ≤ d') (hl : l.length ≤ 1000000) (hp : p.length ≤ 1000000) (hx : ∀ x ∈ p, x.f1.f1.length ≤ 1000000) :
    Calls Try.prog 15 #[.agg #[.bool b, .slice A l.length c, .slice B p.length d], .agg #[.bool b, .slice A' l.length c', .slice B' p.length d']] w fun e w' => e = .returned (.bool true) ∧ Below w.heap.size w w' := by
  have mixed : Try.prog.follows Departure.mixedOrders = true := by kernel_rfl
  have hu27 := Try.underlying27
  obtain ⟨rs, hp1, hr1, hd1⟩ := raws h2
  obtain ⟨ts, hp2, hr2, hd2⟩ := raws h4
  have H1 := Aside0.mk h1
  have H3 := Aside0.mk h3
  have HR := Aside0.mk hr1
  have HT := Aside0.mk hr2
  have HD := Aside0.mk (And.intro hd1 hd2)
  have HP := Aside0.mk (And.intro hp1 hp2)
  have HX := Aside0.mk hx
  have HL := Aside0.mk hl
  have HS := Aside0.mk (And.intro s1 s3)
  clear h1 h2 h3 h4 hr1 hr2 hd1 hd2 hp1 hp2 hx hl s1 s2 s3 s4
  generalize hn : p.length = n at *
  have HN := Aside0.mk hn
  have HM := Aside0.mk hp
  clear hn hp
  go_enter Try.func15, Try.ntmps15
  go_wp2_with (first
    | ((with_reducible refine gate_dst (N := 2) rfl ?_); refine box_event ?hg (N := 2) ?hd (cs := #[.bool b, .slice A l.length c, .slice B n d]) (t := 27) ?hr ?_; (case hd => rfl); (case hg => rfl); (case hr => first | (go_simp; done) | (go_simp; rfl)); intro gA hg w1 hbox hb; have KA := Aside0.mk hbox; have HB := Aside0.mk hb; clear hg hbox hb)
    | ((with_reducible refine gate_dst (N := 3) rfl ?_); refine box_event ?hg (N := 3) ?hd (cs := #[.bool b, .slice A' l.length c', .slice B' n d']) (t := 27) ?hr ?_; (case hd => rfl); (case hg => rfl); (case hr => first | (go_simp; done) | (go_simp; rfl)); intro gB hg w2 hbox hb; have KB := Aside0.mk hbox; have KA := Aside0.mk (blk_below KA.out hb); have HB := Aside0.mk (below_step HB.out hb); clear hg hbox hb; have cA := blk_all KA.out; have cB := blk_all KB.out)
    | (go_at_call 16; (with_reducible refine (q_rSame (Kd.C_below H1.out HB.out) HS.out.1 (Kd.C_below H3.out HB.out) HS.out.2 HL.out).mono ?_); rintro e w3 ⟨rfl, hb⟩; have KA := Aside0.mk (blk_below KA.out hb); have KB := Aside0.mk (blk_below KB.out hb); have HB := Aside0.mk (below_step HB.out hb); clear hb cA cB; have cA := blk_all KA.out; have cB := blk_all KB.out))
  go_loopg [6] (n + 1) (fun kq v6 wr => ∃ i : Int, v6 = .int .i64 i ∧ Aside0 (0 ≤ i ∧ i ≤ (n : Int)) ∧ Aside0 ((n : Int) - i < (kq : Int)) ∧ Aside0 (Below w3.heap.size w3 wr))
  case atStart => exact ⟨0, rfl, ⟨Int.le_refl 0, by omega⟩, ⟨by omega⟩, ⟨Below.refl _ _⟩⟩
  case round =>
    clear cA cB
    obtain ⟨i, rfl, HI, HQ, HBr⟩ := hrel
    have KA := Aside0.mk (blk_below KA.out HBr.out)
    have KB := Aside0.mk (blk_below KB.out HBr.out)
    have cA := blk_all KA.out
    have cB := blk_all KB.out
    cases gk with
    | zero => exact absurd HQ.out (by have := HI.out; omega)
    | succ k1 =>
    by_cases hc : i < (n : Int)
    · obtain ⟨ad, x, eA, hx, hx0, hx1, hx2⟩ := cM_at HR.out i HI.out.1 hc
      obtain ⟨ad', y, eB, hy, hy0, hy1, hy2⟩ := cM_at HT.out i HI.out.1 hc
      cases eA
      cases eB
      have hw := below_step HB.out HBr.out
      have X0 := pw_cell_below hw hx0
      have X1 := pw_cell_below hw hx1
      have X2 := pw_cell_below hw hx2
      have Y0 := pw_cell_below hw hy0
      have Y1 := pw_cell_below hw hy1
      have Y2 := pw_cell_below hw hy2
      obtain ⟨xv, xb, XA, xc, xl⟩ := x
      obtain ⟨yv, yb, YA, yc, yl⟩ := y
      have hxy : toM ⟨xv, xb, XA, xc, xl⟩ = toM ⟨yv, yb, YA, yc, yl⟩ := by
        have e1 := congrArg (fun z => z[i.toNat]?) (HP.out.1.trans HP.out.2.symm)
        simp only [List.getElem?_map, hx, hy, Option.map_some, Option.some.injEq] at e1
        exact e1
      unfold toM at hxy
      simp only [S46.mk.injEq, S24.mk.injEq] at hxy
      obtain ⟨rfl, rfl, rfl⟩ := hxy
      have LX := Aside0.mk (show xl.length ≤ xc ∧ Kd.C (Kd.int .u32) wr XA xl.length xl from (HD.out.1 _ (List.mem_of_getElem? hx)).below hw)
      have LY := Aside0.mk (show xl.length ≤ yc ∧ Kd.C (Kd.int .u32) wr YA xl.length xl from (HD.out.2 _ (List.mem_of_getElem? hy)).below hw)
      have HXL := Aside0.mk (show xl.length ≤ 1000000 from HX.out (toM ⟨xv, xb, XA, xc, xl⟩) (by rw [← HP.out.1]; exact List.mem_map_of_mem (List.mem_of_getElem? hx)))
      have d1 : decide (i < (n : Int)) = true := decide_eq_true hc
      have d2 : decide (0 ≤ i) = true := decide_eq_true HI.out.1
      have p1 : (0 ≤ i) = True := eq_true HI.out.1
      have p2 : (i < (n : Int)) = True := eq_true hc
      have HC := Aside0.mk hc
      clear hx0 hx1 hx2 hy0 hy1 hy2 hw hx hy hc
      dsimp only at X0 X1 X2 Y0 Y1 Y2
      go_wp2_with fail
      go_still_tail 12, (by kernel_rfl)
      change wpList _ _ _ _ _ wr.drew
      have hd := below_drew1 (Below.refl wr.heap.size wr)
      generalize wr.drew = wd at hd ⊢
      go_wp2_with (first
        | (go_at_call 16; (with_reducible refine (q_rSame (Kd.C_below LX.out.2 hd) LX.out.1 (Kd.C_below LY.out.2 hd) LY.out.1 HXL.out).mono ?_); rintro e w4 ⟨rfl, hb⟩; have hy := below_step hd hb; have KA := Aside0.mk (blk_below KA.out hy); have KB := Aside0.mk (blk_below KB.out hy); have HBr := Aside0.mk (below_step HBr.out hy); have X0 := pw_cell_below hy X0; have Y0 := pw_cell_below hy Y0; clear hb hd hy cA cB X1 X2 Y1 Y2; have cA := blk_all KA.out; have cB := blk_all KB.out))
      go_quiet (fail)
      go_wp2
      have hwi : wrap64 (i + 1) = i + 1 := by
        have h1 := HI.out
        have h2 := HM.out
        unfold wrap64; omega
      rw [hwi]
      have hi1 : 0 ≤ i + 1 ∧ i + 1 ≤ (n : Int) := by have h1 := HI.out; have h2 := HC.out; omega
      have hq1 : (n : Int) - (i + 1) < (k1 : Int) := by have h1 := HQ.out; omega
      go_roundg k1
      case measure => omega
      case rel => exact ⟨i + 1, rfl, ⟨hi1⟩, ⟨hq1⟩, ⟨pw_below_drewN HBr.out _⟩⟩
    · have d1 : decide (i < (n : Int)) = false := decide_eq_false hc
      go_wp2
      go_ret
      exact ⟨rfl, below_step HB.out HBr.out⟩
end Go.Proofs.Ytdicjemjmlbmlaa.H
/- Calls whose answers are only read. -/
namespace Go.Proofs.Ytdicjemjmlbmlaa.H
set_option linter.unusedSimpArgs false
set_option linter.unusedVariables false
open Go.RowKit Go.Proofs.YtdicjemjmlbmlaaW.PrintWords Go.Proofs.YtdicjemjmlbmlaaW.PrintLast Go.Proofs.YtdicjemjmlbmlaaW.PrintMore Go.Proofs.Ytdicjemjmlbmlaa.PA

theorem frz_all {w : World} {g : Nat} {t : TypeId} {cs : Array Value} (h : w.heap[g]? = some (.cells cs t (0, 0))) : ∀ i, w.frozen? ⟨g, i, none⟩ = false := fun i => blk_frozen h i
/-- A row of limbs, a row of parts, that can be read. -/
structure RI (w : World) (A : Option Addr) (c : Nat) (l : List Int) : Prop where
  r : Kd.C (Kd.int .u32) w A l.length l
  s : l.length ≤ c
structure RP (w : World) (A : Option Addr) (c : Nat) (l : List S46) : Prop where
  r : Kd.C k46 w A l.length l
  s : l.length ≤ c
theorem RI.b {w w1 : World} {A : Option Addr} {c : Nat} {l : List Int} (h : RI w A c l) (hb : Below w.heap.size w w1) : RI w1 A c l := ⟨Kd.C_below h.r hb, h.s⟩
theorem RP.b {w w1 : World} {A : Option Addr} {c : Nat} {l : List S46} (h : RP w A c l) (hb : Below w.heap.size w w1) : RP w1 A c l := ⟨Kd.C_below h.r hb, h.s⟩
theorem RI.of {w : World} {base : Nat} {ok : Nat → Prop} {v : Value} {l : List Int} (h : Kd.R (Kd.int .u32) 81 w base ok v l) : ∃ A c, v = .slice A l.length c ∧ RI w A c l := by
  obtain ⟨A, c, e, h1, h2⟩ := Kd.R_reads h
  exact ⟨A, c, e, h2, h1⟩
theorem RI.ofV {w : World} {base : Nat} {ok : Nat → Prop} {v : Value} {l : List Int} (h : Kd.V (Kd.int .u32) 81 w base ok v l) : ∃ A c, v = .slice A l.length c ∧ RI w A c l := by
  obtain ⟨A, c, rfl⟩ := Kd.V_slice h
  exact ⟨A, c, rfl, (Kd.V_reads' h).2.2, (Kd.V_reads' h).2.1⟩
theorem RP.of {w : World} {base : Nat} {ok : Nat → Prop} {v : Value} {l : List S46} (h : Kd.S k46 46 w base ok v l) : ∃ A c, v = .slice A l.length c ∧ RP w A c l := by
  obtain ⟨A, c, rfl⟩ := Kd.S_slice h
  exact ⟨A, c, rfl, (Kd.S_reads' h).2.2, (Kd.S_reads' h).2.1⟩
theorem RI.nil (w : World) : RI w Option.none 0 [] := ⟨⟨rfl, Nat.zero_le _, fun h => absurd h (Nat.lt_irrefl 0)⟩, Nat.le_refl _⟩
theorem RP.nil (w : World) : RP w Option.none 0 [] := ⟨⟨rfl, Nat.zero_le _, fun h => absurd h (Nat.lt_irrefl 0)⟩, Nat.le_refl _⟩
/-- What is answered: a number; a sum. -/
def AW (w : World) (b : Bool) (l : List Int) (e : Ending) (w' : World) : Prop := ∃ A c, e = .returned (.agg #[.bool b, .slice A l.length c]) ∧ RI w' A c l ∧ Below w.heap.size w w'
def AL (w : World) (b : Bool) (l : List Int) (p : List S46) (e : Ending) (w' : World) : Prop := ∃ A c B d, e = .returned (.agg #[.bool b, .slice A l.length c, .slice B p.length d]) ∧ RI w' A c l ∧ RP w' B d p ∧ Below w.heap.size w w'
def AT (w : World) (b : Bool) (l : List Int) (p : List S46) (n : Int) (e : Ending) (w' : World) : Prop := ∃ A c B d, e = .returned (.tuple #[.agg #[.bool b, .slice A l.length c, .slice B p.length d], .int .i64 n]) ∧ RI w' A c l ∧ RP w' B d p ∧ Below w.heap.size w w'
theorem q_Value {w : World} {b : Bool} {A B D : Option Addr} {c d f : Nat} {l : List Int} {p q : List S46} {rb : Bool} {rl : List Int} (h1 : RI w A c l) (h2 : RP w B d p) (h3 : RP w D f q) (h : lin_Value.f b l p q = some (rb, rl)) :
    Calls Try.prog 17 #[.agg #[.bool b, .slice A l.length c, .slice B p.length d], .slice D q.length f] w (AW w rb rl) := by
  refine (lin_Value.calls b _ _ l _ _ p _ _ q rb rl w h1.r h1.s h2.r h2.s h3.r h3.s h).mono ?_
  rintro e w' ⟨v, rfl, ho, hb⟩
  obtain ⟨A, c, rfl, hr⟩ := RI.of ho
  exact ⟨A, c, rfl, hr, hb⟩
theorem q_Tight {w : World} {b : Bool} {A B : Option Addr} {c d : Nat} {l : List Int} {p : List S46} {rb : Bool} {rl : List Int} {rp : List S46} {n : Int} (h1 : RI w A c l) (h2 : RP w B d p) (h : lin_Tight.f b l p = some (rb, rl, rp, n)) :
    Calls Try.prog 11 #[.agg #[.bool b, .slice A l.length c, .slice B p.length d]] w (AT w rb rl rp n) := by
  refine (lin_Tight.calls b _ _ l _ _ p rb rl rp n w h1.r h1.s h2.r h2.s h).mono ?_
  rintro e w' ⟨v1, v2, rfl, ho, hs, hb⟩
  obtain ⟨A, c, rfl, hr⟩ := RI.ofV ho
  obtain ⟨B, d, rfl, hr2⟩ := RP.of hs
  exact ⟨A, c, B, d, rfl, hr, hr2, hb⟩
theorem q_Even {w : World} {b : Bool} {A B : Option Addr} {c d : Nat} {l : List Int} {p : List S46} {rb : Bool} {rl : List Int} {rp : List S46} {n : Int} (h1 : RI w A c l) (h2 : RP w B d p) (h : lin_Even.f b l p = some (rb, rl, rp, n)) :
    Calls Try.prog 13 #[.agg #[.bool b, .slice A l.length c, .slice B p.length d]] w (AT w rb rl rp n) := by
  refine (lin_Even.calls b _ _ l _ _ p rb rl rp n w h1.r h1.s h2.r h2.s h).mono ?_
  rintro e w' ⟨v1, v2, rfl, ho, hs, hb⟩
  obtain ⟨A, c, rfl, hr⟩ := RI.ofV ho
  obtain ⟨B, d, rfl, hr2⟩ := RP.of hs
  exact ⟨A, c, B, d, rfl, hr, hr2, hb⟩
theorem q_light {w : World} {b b' : Bool} {A B A' B' : Option Addr} {c d c' d' : Nat} {l l' : List Int} {p p' : List S46} {k : Nat} {r : Bool} (h1 : RI w A c l) (h2 : RP w B d p) (h3 : RI w A' c' l') (h4 : RP w B' d' p') (h : gudgeonlaw13_light.f k b l p b' l' p' = some r) :
    Calls Try.prog 10 #[.agg #[.bool b, .slice A l.length c, .slice B p.length d], .agg #[.bool b', .slice A' l'.length c', .slice B' p'.length d']] w fun e w' => e = .returned (.bool r) ∧ Below w.heap.size w w' := gudgeonlaw13_light.calls k b A c l B d p b' A' c' l' B' d' p' r w h1.r h1.s h2.r h2.s h3.r h3.s h4.r h4.s h

theorem RP.ofN {w : World} {base : Nat} {ok : Nat → Prop} {v : Value} {l : List S46} (h : Kd.N k46 46 w base ok v l) : ∃ A c, v = .slice A l.length c ∧ RP w A c l := by
  obtain ⟨A, c, rfl⟩ := Kd.N_slice h
  exact ⟨A, c, rfl, (Kd.N_reads' h).2.2, (Kd.N_reads' h).2.1⟩
/-- A row of one part. -/
theorem RP.one {w : World} {A : Option Addr} {c : Nat} {l : List Int} (v : Int) (b : Bool) (h : RI w A c l) : RP (w.alloc (.cells #[.int .i64 v, .bool b, .slice A l.length c] 46 (0, 0))) (some ⟨w.heap.size, 0, none⟩) 1 [⟨v, ⟨b, l⟩⟩] := by
  have hb := blk_new w (.cells #[.int .i64 v, .bool b, .slice A l.length c] 46 (0, 0))
  refine ⟨⟨rfl, by show 1 ≤ _; decide, fun _ => ⟨_, rfl, fun j p hj => ?_⟩⟩, Nat.le_refl _⟩
  match j, hj with
  | 0, hj =>
    obtain rfl := Option.some.inj hj
    refine ⟨[.int .i64 v, .bool b, .slice A l.length c], rfl, k46_mk _ ⟨v, ⟨b, l⟩⟩ h.s (Kd.C_below h.r (below_alloc (Below.refl _ _) _)), fun i u hu => ?_⟩
    rw [show (0 * k46.sz + i) = i by omega, add_plain]
    rw [blk_cell hb]
    match i, hu with
    | 0, hu => exact hu
    | 1, hu => exact hu
    | 2, hu => exact hu
theorem q_sum {w : World} {k : Nat} {x y z : Int} {rb : Bool} {rl : List Int} {rp : List S46} (h : gudgeonlaw13_sum.f k x y z = some (rb, rl, rp)) : Calls Try.prog 39 #[.int .i64 x, .int .i64 y, .int .i64 z] w (AL w rb rl rp) := by
  refine (gudgeonlaw13_sum.calls k x y z rb rl rp w h).mono ?_
  rintro e w' ⟨v1, v2, rfl, ho, hs, hb⟩
  obtain ⟨A, c, rfl, hr⟩ := RI.of ho
  obtain ⟨B, d, rfl, hr2⟩ := RP.ofN hs
  exact ⟨A, c, B, d, rfl, hr, hr2, hb⟩
theorem q_rOf {w : World} {k : Nat} {x : Int} {rb : Bool} {rl : List Int} (h : gudgeonref02_Of.f k x = some (rb, rl)) : Calls Try.prog 32 #[.int .i64 x] w (AW w rb rl) := by
  refine (gudgeonref02_Of.calls k x rb rl w h).mono ?_
  rintro e w' ⟨v, rfl, ho, hb⟩
  obtain ⟨A, c, rfl, hr⟩ := RI.of ho
  exact ⟨A, c, rfl, hr, hb⟩
/-- A sum whose rows are not too long. -/
structure OkS (l : List Int) (p : List S46) : Prop where
  hl : l.length ≤ 1000000
  hp : p.length ≤ 1000000
  hx : ∀ x ∈ p, x.f1.f1.length ≤ 1000000
theorem q_Same {w : World} {b : Bool} {A B A' B' : Option Addr} {c d c' d' : Nat} {l : List Int} {p : List S46} (h1 : RI w A c l) (h2 : RP w B d p) (h3 : RI w A' c' l) (h4 : RP w B' d' p) (h : OkS l p) :
    Calls Try.prog 15 #[.agg #[.bool b, .slice A l.length c, .slice B p.length d], .agg #[.bool b, .slice A' l.length c', .slice B' p.length d']] w fun e w' => e = .returned (.bool true) ∧ Below w.heap.size w w' := q_SameE h1.r h1.s h2.r h2.s h3.r h3.s h4.r h4.s h.hl h.hp h.hx
/-- A sum stored into a block of its own. -/
theorem blk_put3 {w : World} {g : Nat} {t : TypeId} {x y z : Value} (h : w.heap[g]? = some (.cells #[x, y, z] t (0, 0))) (a b c : Value) : (((w.setCell ⟨g, 0, none⟩ a).setCell ⟨g, 1, none⟩ b).setCell ⟨g, 2, none⟩ c).heap[g]? = some (.cells #[a, b, c] t (0, 0)) :=
  blk_put (cs := #[a, b, z]) (blk_put (cs := #[a, y, z]) (blk_put (cs := #[x, y, z]) h 0 a rfl) 1 b rfl) 2 c rfl
theorem blk_far3 {w : World} {g k : Nat} {o : Obj} (h : w.heap[k]? = some o) (hne : k ≠ g) (a b c : Value) : (((w.setCell ⟨g, 0, none⟩ a).setCell ⟨g, 1, none⟩ b).setCell ⟨g, 2, none⟩ c).heap[k]? = some o := (set3_other w g 0 1 2 a b c k hne).trans h
theorem below_set3 {w w1 : World} {g : Nat} (h : Below w.heap.size w w1) (hg : w.heap.size ≤ g) (a b c : Value) : Below w.heap.size w (((w1.setCell ⟨g, 0, none⟩ a).setCell ⟨g, 1, none⟩ b).setCell ⟨g, 2, none⟩ c) := below_set (below_set (below_set h hg) hg) hg
end Go.Proofs.Ytdicjemjmlbmlaa.H
/- lin.At: how often a sum has a variable. -/
namespace Go.Proofs.Ytdicjemjmlbmlaa.H
set_option linter.unusedSimpArgs false
set_option linter.unusedVariables false
open Go.RowKit Go.Proofs.YtdicjemjmlbmlaaW.PrintWords Go.Proofs.YtdicjemjmlbmlaaW.PrintLast Go.Proofs.YtdicjemjmlbmlaaW.PrintMore Go.Proofs.Ytdicjemjmlbmlaa.PA Go.Proofs.Ytdicjemjmlbmlaa.V Go.Proofs.Ytdicjemjmlbmlaa.S
theorem coef_snoc (p : List (Int × Int)) (q : Int × Int) (v : Int) : coef (p ++ [q]) v = coef p v + if q.1 = v then q.2 else 0 := by
  rw [coef_append]; simp [coef]
/-- A number stored into a block of its own. -/
theorem blk_put2 {w : World} {g : Nat} {t : TypeId} {x y : Value} (h : w.heap[g]? = some (.cells #[x, y] t (0, 0))) (a b : Value) : ((w.setCell ⟨g, 0, none⟩ a).setCell ⟨g, 1, none⟩ b).heap[g]? = some (.cells #[a, b] t (0, 0)) :=
  blk_put (cs := #[a, y]) (blk_put (cs := #[x, y]) h 0 a rfl) 1 b rfl
theorem below_set2 {w w1 : World} {g : Nat} (h : Below w.heap.size w w1) (hg : w.heap.size ≤ g) (a b : Value) : Below w.heap.size w ((w1.setCell ⟨g, 0, none⟩ a).setCell ⟨g, 1, none⟩ b) := below_set (below_set h hg) hg
/-- A row of limbs of the call's own: it lies in no block of another type. -/
structure OI (w : World) (base : Nat) (A : Option Addr) (c : Nat) (l : List Int) : Prop where
  o : OwnK w base ⟨0, false, A, c, l⟩
theorem OI.of {w : World} {base base' : Nat} {ok : Nat → Prop} {v : Value} {l : List Int} (h : Kd.R (Kd.int .u32) 81 w base ok v l) (hb : base' ≤ base) : ∃ A c, v = .slice A l.length c ∧ OI w base' A c l := by
  obtain ⟨A, c, rfl⟩ := Kd.R_slice h
  exact ⟨A, c, rfl, ⟨Kd.R_lower (Kd.R_mono h (fun _ _ => trivial)) hb⟩⟩
theorem OI.b {w w1 : World} {base : Nat} {A : Option Addr} {c : Nat} {l : List Int} (h : OI w base A c l) (hb : Below w.heap.size w w1) : OI w1 base A c l := ⟨h.o.below hb⟩
theorem OI.set2 {w : World} {base : Nat} {A : Option Addr} {c : Nat} {l : List Int} (h : OI w base A c l) {g t : Nat} {cs : Array Value} (hg : w.heap[g]? = some (.cells cs t (0, 0))) (ht : t ≠ 81) (a b : Value) : OI ((w.setCell ⟨g, 0, none⟩ a).setCell ⟨g, 1, none⟩ b) base A c l :=
  ⟨h.o.move (fun k cells hk => set2_other w g 0 1 a b k (box_ne hg hk ht))⟩
theorem OI.r {w : World} {base : Nat} {A : Option Addr} {c : Nat} {l : List Int} (h : OI w base A c l) : RI w A c l := ⟨h.o.leads.2, h.o.leads.1⟩
/-- What is answered: a number in a row of its own. -/
def AO (w : World) (b : Bool) (l : List Int) (e : Ending) (w' : World) : Prop := ∃ A c, e = .returned (.agg #[.bool b, .slice A l.length c]) ∧ OI w' w.heap.size A c l ∧ Below w.heap.size w w'
theorem q_Add {w : World} {k : Nat} {b b' : Bool} {A A' : Option Addr} {c c' : Nat} {l l' : List Int} {rb : Bool} {rl : List Int} (h1 : RI w A c l) (h2 : RI w A' c' l') (h : whole_Add.f k b l b' l' = some (rb, rl)) :
    Calls Try.prog 36 #[.agg #[.bool b, .slice A l.length c], .agg #[.bool b', .slice A' l'.length c']] w (AO w rb rl) := by
  refine (whole_Add.calls k b A c l b' A' c' l' rb rl w h1.r h1.s h2.r h2.s h).mono ?_
  rintro e w' ⟨v, rfl, ho, hb⟩
  obtain ⟨A, c, rfl, hr⟩ := OI.of ho (Nat.le_refl _)
  exact ⟨A, c, rfl, hr, hb⟩
theorem q_Of {w : World} {x : Int} {rb : Bool} {rl : List Int} (h : whole_Of.f x = some (rb, rl)) : Calls Try.prog 33 #[.int .i64 x] w (AO w rb rl) := by
  refine (whole_Of.calls x rb rl w h).mono ?_
  rintro e w' ⟨v, rfl, ho, hb⟩
  obtain ⟨A, c, rfl, hr⟩ := OI.of ho (Nat.le_refl _)
  exact ⟨A, c, rfl, hr, hb⟩
set_option maxHeartbeats 8000000 in
set_option maxRecDepth 100000 in
theorem q_At {w : World} {b : Bool} {A B0 : Option Addr} {c d : Nat} {l : List Int} {p : List S46} (v : Int) {m n : Nat} (h1 : RI w A c l) (h2 : RP w B0 d p) (hs : Small m n l p) (hm : m ≤ 100000) (hn : n ≤ 100000) :
    Calls Try.prog 28 #[.agg #[.bool b, .slice A l.length c, .slice B0 p.length d], .int .i64 v] w (AW w (W (coef (p.map prM) v)).1 (W (coef (p.map prM) v)).2) := by
  have mixed : Try.prog.follows Departure.mixedOrders = true := by kernel_rfl
  have hu27 := Try.underlying27
  have hu24 := Try.underlying24
  have hu46 := Try.underlying46
  obtain ⟨rs, hp, hr, hd⟩ := raws h2.r
  have hnum := hs.num
  have hlm : ∀ x ∈ rs, Lim x.xs ∧ x.xs.length ≤ n := fun x hx => hs.each (toM x) (by rw [← hp]; exact List.mem_map_of_mem hx)
  have hpr : p.map prM = rs.map prR := by rw [← hp, pr_toM]
  have hln : rs.length = p.length := by rw [← hp, List.length_map]
  have hbq : BQ n (rs.map prR) := hpr ▸ hs.bq
  have HOF := Aside0.mk (show whole_Of.f 0 = some ((W 0).1, (W 0).2) from wOf_ev 0 (by decide) (by decide))
  rw [hpr]
  generalize hN : p.length = N at *
  have HR := Aside0.mk hr
  have HD := Aside0.mk hd
  have HM := Aside0.mk hlm
  have HLN := Aside0.mk (And.intro hln hnum)
  have HBQ := Aside0.mk hbq
  have HBD := Aside0.mk (And.intro hm hn)
  clear h1 h2 hr hd hlm hln hnum hpr hs hbq hp hN hm hn
  go_enter Try.func28, Try.ntmps28
  go_wp2_with (first
    | ((with_reducible refine gate_dst (N := 2) rfl ?_); refine box_event ?hg (N := 2) ?hd (cs := #[.bool b, .slice A l.length c, .slice B0 N d]) (t := 27) ?hr ?_; (case hd => rfl); (case hg => rfl); (case hr => first | (go_simp; done) | (go_simp; rfl)); intro gA hg w1 hbox hb; have KA := Aside0.mk hbox; have HB := Aside0.mk hb; clear hg hbox hb)
    | ((with_reducible refine gate_dst (N := 4) rfl ?_); refine box_event ?hg (N := 4) ?hd (cs := #[.bool false, .slice none 0 0]) (t := 24) ?hr ?_; (case hd => rfl); (case hg => rfl); (case hr => first | (go_simp; done) | (go_simp; rfl)); intro gR hg w2 hbox hb; have KA := Aside0.mk (blk_below KA.out hb); have GR := Aside0.mk (show w.heap.size ≤ gR by rw [hg]; exact HB.out.size); have HB := Aside0.mk (below_step HB.out hb); have KR := Aside0.mk hbox; clear hg hbox hb)
    | (go_at_call 33; (with_reducible refine (q_Of HOF.out).mono ?_); rintro e w3 ⟨A3, c3, rfl, o3, hb⟩; have KA := Aside0.mk (blk_below KA.out hb); have KR := Aside0.mk (blk_below KR.out hb); have O3 := Aside0.mk (OI.mk (Kd.R_lower o3.o HB.out.size) : OI w3 w.heap.size A3 c3 _); have HB := Aside0.mk (below_step HB.out hb); clear o3 hb)
    | ((with_reducible refine gate_dst (N := 5) rfl ?_); refine box_event ?hg (N := 5) ?hd (cs := #[.bool false, .slice none 0 0]) (t := 24) ?hr ?_; (case hd => rfl); (case hg => rfl); (case hr => first | (go_simp; done) | (go_simp; rfl)); intro gN hg w4 hbox hb; have KN := Aside0.mk hbox; have HN := Aside0.mk hb; have cN := blk_all hbox; have fN := frz_all hbox; have cA := blk_all (blk_below KA.out hb); have nAN : gA ≠ gN := (by rw [hg]; exact Nat.ne_of_lt (blk_lt KA.out)); have nNA : gN ≠ gA := (fun e => nAN e.symm); have GN := Aside0.mk (show w3.heap.size ≤ gN by rw [hg]; exact Nat.le_refl _); clear hg hbox hb))
  go_loopg [12] (N + 1) (fun kq v12 wr => ∃ (i : Int) (nb : Bool) (An : Option Addr) (cn : Nat) (nl : List Int), v12 = .int .i64 i ∧ Aside0 (0 ≤ i ∧ i ≤ (N : Int)) ∧ Aside0 ((N : Int) - i < (kq : Int)) ∧ Aside0 (W (coef ((rs.take i.toNat).map prR) v) = (nb, nl)) ∧ Aside0 (wr.heap[gN]? = some (.cells #[.bool nb, .slice An nl.length cn] 24 (0, 0))) ∧ Aside0 (OI wr w.heap.size An cn nl) ∧ Aside0 (Below w3.heap.size w3 wr))
  case atStart =>
    exact ⟨0, _, A3, c3, _, rfl, ⟨Int.le_refl 0, by omega⟩, ⟨by omega⟩, ⟨rfl⟩, ⟨blk_put2 KN.out _ _⟩, ⟨(O3.out.b HN.out).set2 KN.out (by decide) _ _⟩, ⟨below_set2 HN.out GN.out _ _⟩⟩
  case round =>
    clear cN fN cA nAN nNA
    obtain ⟨i, nb, An, cn, nl, rfl, HI, HQ, HW, BN, ON, HBr⟩ := hrel
    have cN := blk_all BN.out
    have fN := frz_all BN.out
    cases gk with
    | zero => exact absurd HQ.out (by have := HI.out; omega)
    | succ k1 =>
    by_cases hc : i < (N : Int)
    · obtain ⟨ad, x, eA, hx, hx0, hx1, hx2⟩ := cM_at HR.out i HI.out.1 hc
      cases eA
      have hw := below_step HB.out HBr.out
      have X0 := pw_cell_below hw hx0
      have X1 := pw_cell_below hw hx1
      have X2 := pw_cell_below hw hx2
      have hmem := List.mem_of_getElem? hx
      obtain ⟨xv, xb, XA, xc, xl⟩ := x
      dsimp only at X0 X1 X2
      have LX := Aside0.mk (show RI wr XA xc xl from ⟨((HD.out _ hmem).below hw).2, ((HD.out _ hmem).below hw).1⟩)
      have hlx : Lim xl ∧ xl.length ≤ n := HM.out _ hmem
      have hcB : B 300000 (coef ((rs.take i.toNat).map prR) v) := (coef_B _ v (fun y hy => HBQ.out y (by rw [← List.take_append_drop i.toNat rs, List.map_append]; exact List.mem_append_left _ hy))).mono (by have h1 := HLN.out; have h2 := HBD.out; rw [List.length_map, List.length_take]; omega)
      have e1 := wAdd_ev (W (coef ((rs.take i.toNat).map prR) v)).1 xb (W (coef ((rs.take i.toNat).map prR) v)).2 xl (W_lim _) hlx.1 (by have := hcB.len; omega) (by have := hlx.2; have := HBD.out; omega)
      rw [wv_W, HW.out] at e1
      obtain ⟨ka, hka⟩ := e1.rounds
      have hsn : coef ((rs.take (i + 1).toNat).map prR) v = coef ((rs.take i.toNat).map prR) v + if xv = v then wv xb xl else 0 := by
        rw [drop_at prR rs i HI.out.1 _ hx, coef_snoc]; rfl
      have hwi : wrap64 (i + 1) = i + 1 := by
        have h1 := HI.out
        have h2 := HLN.out
        have h3 := HBD.out
        unfold wrap64; omega
      have HWI := Aside0.mk hwi
      have HSN := Aside0.mk hsn
      have hi1 : 0 ≤ i + 1 ∧ i + 1 ≤ (N : Int) := by have h1 := HI.out; omega
      have hq1 : (N : Int) - (i + 1) < (k1 : Int) := by have h1 := HQ.out; omega
      have HI1 := Aside0.mk hi1
      have HQ1 := Aside0.mk hq1
      have d1 : decide (i < (N : Int)) = true := decide_eq_true hc
      have d2 : decide (0 ≤ i) = true := decide_eq_true HI.out.1
      have p1 : (0 ≤ i) = True := eq_true HI.out.1
      have p2 : (i < (N : Int)) = True := eq_true hc
      generalize hS : W (coef ((rs.take i.toNat).map prR) v + wv xb xl) = Ws at hka
      obtain ⟨sb, sl⟩ := Ws
      have HKA := Aside0.mk hka
      have HS := Aside0.mk hS
      clear hx0 hx1 hx2 hw hmem hx hc hlx hcB e1 hka hsn hwi hi1 hq1 hS
      by_cases hv : xv = v
      · have d3 : (xv == v) = true := beq_iff_eq.2 hv
        have HV := Aside0.mk hv
        clear hv
        go_wp2_with (first
          | ((with_reducible refine gate_dst (N := 7) rfl ?_); refine box_event ?hg (N := 7) ?hd (cs := #[.int .i64 0, .bool false, .slice none 0 0]) (t := 46) ?hr ?_; (case hd => rfl); (case hg => rfl); (case hr => first | (go_simp; done) | (go_simp; rfl)); intro gX hg w5 hbox hb; have KX := Aside0.mk hbox; have HX := Aside0.mk hb; have GX := Aside0.mk (show wr.heap.size ≤ gX by rw [hg]; exact Nat.le_refl _); have cX := blk_all hbox; have fX := frz_all hbox; have nXN : gN ≠ gX := (by rw [hg]; exact Nat.ne_of_lt (blk_lt BN.out)); have nNX : gX ≠ gN := (fun e => nXN e.symm); have cN := blk_all (blk_below BN.out hb); clear hg hbox hb)
          | (go_at_call 36; (with_reducible refine (q_Add (ON.out.r.b (below_set3 HX.out GX.out _ _ _)) (LX.out.b (below_set3 HX.out GX.out _ _ _)) HKA.out).mono ?_); rintro e w6 ⟨A6, c6, rfl, o6, hb⟩; have hx := below_step (below_set3 HX.out GX.out _ _ _) hb; have BN6 := Aside0.mk (blk_below BN.out hx); have O6 := Aside0.mk (OI.mk (Kd.R_lower o6.o (Nat.le_trans (Nat.le_trans HB.out.size HBr.out.size) (below_set3 HX.out GX.out _ _ _).size)) : OI w6 w.heap.size A6 c6 sl); have HB6 := Aside0.mk (below_step HBr.out hx); clear o6 hb hx cX fX cN; have cN := blk_all BN6.out; have fN := frz_all BN6.out))
        rw [HWI.out]
        go_roundg k1
        case measure => omega
        case rel => exact ⟨i + 1, sb, A6, c6, sl, rfl, HI1, HQ1, ⟨by rw [HSN.out, if_pos HV.out, HS.out]⟩, ⟨blk_put2 BN6.out _ _⟩, ⟨O6.out.set2 BN6.out (by decide) _ _⟩, ⟨below_set (below_set HB6.out GN.out) GN.out⟩⟩
      · have d3 : (xv == v) = false := beq_eq_false_iff_ne.2 hv
        have HV := Aside0.mk hv
        clear hv
        go_wp2_with (first
          | ((with_reducible refine gate_dst (N := 7) rfl ?_); refine box_event ?hg (N := 7) ?hd (cs := #[.int .i64 0, .bool false, .slice none 0 0]) (t := 46) ?hr ?_; (case hd => rfl); (case hg => rfl); (case hr => first | (go_simp; done) | (go_simp; rfl)); intro gX hg w5 hbox hb; have HX := Aside0.mk hb; have GX := Aside0.mk (show wr.heap.size ≤ gX by rw [hg]; exact Nat.le_refl _); have cX := blk_all hbox; have fX := frz_all hbox; clear hg hbox hb))
        rw [HWI.out]
        go_roundg k1
        case measure => omega
        case rel => exact ⟨i + 1, nb, An, cn, nl, rfl, HI1, HQ1, ⟨by rw [HSN.out, if_neg HV.out, Int.add_zero, HW.out]⟩, ⟨blk_below BN.out (below_set3 HX.out GX.out _ _ _)⟩, ⟨ON.out.b (below_set3 HX.out GX.out _ _ _)⟩, ⟨below_step HBr.out (below_set3 HX.out GX.out _ _ _)⟩⟩
    · have hi : i.toNat = rs.length := by have h1 := HI.out; have h2 := HLN.out.1; omega
      have d1 : decide (i < (N : Int)) = false := decide_eq_false hc
      have BR := Aside0.mk (blk_below KR.out HBr.out)
      have cR := blk_all BR.out
      have fR := frz_all BR.out
      have HF := Aside0.mk hi
      clear hc hi
      go_wp2
      refine bodyPost_ret (results_cell_row rfl _ _ gR 24 #[.bool nb, .slice An nl.length cn] (0, 0) _ rfl (blk_put2 BR.out _ _) Try.underlying24 rfl (by kernel_rfl)) rfl ?_
      have hw := HW.out
      rw [HF.out, List.take_length] at hw
      rw [hw]
      exact ⟨An, cn, rfl, (ON.out.set2 BR.out (by decide) _ _).r, below_set2 (below_step HB.out HBr.out) GR.out _ _⟩
end Go.Proofs.Ytdicjemjmlbmlaa.H
/- slices.Grow of nothing, and slices.Concat of two rows of parts. -/
namespace Go.Proofs.Ytdicjemjmlbmlaa.H
set_option linter.unusedSimpArgs false
set_option linter.unusedVariables false
open Go.RowKit Go.Proofs.YtdicjemjmlbmlaaW.PrintWords Go.Proofs.YtdicjemjmlbmlaaW.PrintLast Go.Proofs.YtdicjemjmlbmlaaW.PrintMore Go.Proofs.Ytdicjemjmlbmlaa.PA
set_option maxHeartbeats 1000000 in
set_option maxRecDepth 100000 in
theorem grow_nilM (n : Nat) (hn : n ≤ 1000000000000) (w : World) : Calls Try.prog 82 #[.slice none 0 0, .int .i64 (n : Int)] w fun e w' => ∃ v, e = .returned v ∧ Kd.R kM 46 w' w.heap.size (fun _ => True) v [] ∧ Below w.heap.size w w' := by
  have hw : wrap64 ((n : Int) - wrap64 (0 - 0)) = (n : Int) := by unfold wrap64; omega
  have c1 : decide ((n : Int) < 0) = false := decide_eq_false (by omega)
  have HW := Aside0.mk hw
  go_enter Try.func82, Try.ntmps82
  by_cases h0 : n = 0
  · subst h0
    go_wp2
    go_ret
    exact ⟨_, rfl, Kd.R_nil _ _ _ _ _, by repeat first | exact Below.refl _ _ | apply below_drew1⟩
  · have c2 : decide (0 < (n : Int)) = true := decide_eq_true (by omega)
    have c3 : decide (0 < n) = true := decide_eq_true (by omega)
    go_wp2_with ((with_reducible refine gate_builtin (b := .append) (xs := #[.tmp 20, .tmp 21]) rfl ?_); at_builtin; refine Kd.R_append_zeros kM (w0 := w) w.heap.size rfl (.tmp 20) (.tmp 21) 25 3 46 (.agg #[.int .i64 0, .bool false, .slice none 0 0]) 40 rfl Try.underlying25 Try.underlying3 infoM rfl (by decide) (by omega) (.slice none 0 0) [] (⟨0, false, none, 0, []⟩ : RM) (n : Int) (fun _ => True) rfl rfl rfl (fun _ _ => trivial) (Kd.R_nil _ _ _ _ _) (by omega) (by repeat first | exact Below.refl _ _ | apply below_drew1) (Nat.le_refl _) (by simp only [List.length_nil, Int.toNat_natCast]; omega) ?_; intro v22 w22 ho hb hg hat; obtain ⟨Ao, co, eo⟩ := Kd.R_slice ho; subst eo; have HO := Aside0.mk (Kd.R_take (m := 0) ho (Nat.zero_le _)); have HB := Aside0.mk hb; have HL := Aside0.mk (Kd.R_reads' ho); clear ho hb hg hat)
    go_ret
    exact ⟨_, rfl, by simpa using HO.out, HB.out⟩
set_option maxHeartbeats 4000000 in
set_option maxRecDepth 100000 in
theorem concat_twoM (g : Nat) (A0 : Option Addr) (c0 : Nat) (l0 : List RM) (A1 : Option Addr) (c1 : Nat) (l1 : List RM) (w : World) (hr0 : Kd.C kM w A0 l0.length l0) (hr1 : Kd.C kM w A1 l1.length l1)
    (hlen : l0.length + l1.length ≤ 1000000000) (h0 : w.cell? ⟨g, 0, none⟩ = some (.slice A0 l0.length c0)) (h1 : w.cell? ⟨g, 1, none⟩ = some (.slice A1 l1.length c1)) :
    Calls Try.prog 60 #[.slice (some ⟨g, 0, none⟩) 2 2] w fun e w' => ∃ v, e = .returned v ∧ Kd.R kM 46 w' w.heap.size (fun _ => True) v (l0 ++ l1) ∧ Below w.heap.size w w' := by
  have HR0 := Aside0.mk hr0
  have HR1 := Aside0.mk hr1
  have HLEN := Aside0.mk hlen
  have HB0 := Aside0.mk (World.block_lt_of_cell? w _ h0)
  clear hr0 hr1 hlen
  have q1 : wrap64 ((l0.length : Nat) : Int) = (l0.length : Int) := by have := HLEN.out; unfold wrap64; omega
  have q2 : wrap64 ((l0.length : Int) + (l1.length : Int)) = (l0.length : Int) + (l1.length : Int) := by have := HLEN.out; unfold wrap64; omega
  have p1 : decide ((l0.length : Int) < 0) = false := decide_eq_false (by omega)
  have p2 : decide ((l0.length : Int) + (l1.length : Int) < 0) = false := decide_eq_false (by omega)
  have HG := Aside0.mk (fun W => grow_nilM (l0.length + l1.length) (by have := HLEN.out; omega) W)
  rw [Int.natCast_add] at HG
  go_enter Try.func60, Try.ntmps60
  go_wp2
  refine wp_loop_rounds 3 ?_
  rw [rounds_succ]
  go_wp2
  rw [rounds_succ]
  go_wp2
  rw [rounds_succ]
  go_wp2_with (go_at_call 82; refine (HG.out _).mono ?_; rintro e w1 ⟨v1, rfl, ho, hb⟩; have HO1 := Aside0.mk ho; have HB1 := Aside0.mk hb; clear ho hb)
  have h01 := (HB1.out.cell (p := ⟨g, 0, none⟩) HB0.out).trans h0
  refine wp_loop_rounds 3 ?_
  rw [rounds_succ]
  go_wp2_with ((with_reducible refine gate_builtin (b := .append) (xs := #[.tmp 31, .tmp 32]) rfl ?_); at_builtin; refine Kd.R_append_rows kM (w0 := w) w.heap.size rfl (.tmp 31) (.tmp 32) 25 46 (.agg #[.int .i64 0, .bool false, .slice none 0 0]) 40 rfl Try.underlying25 infoM rfl (by decide) (by omega) v1 [] l0 _ _ _ (fun _ => True) (fun _ => False) rfl rfl ?aO ?aR (fun _ _ h => h) (fun _ h => h.elim) (fun _ _ => trivial) ?aB ?aS ?aL ?_; (case aO => exact HO1.out); (case aR => exact Kd.C_below HR0.out HB1.out); (case aB => exact HB1.out); (case aS => exact below_size HB1.out); (case aL => have := HLEN.out; simp only [List.length_nil, List.nil_append]; omega); intro v2 w2 ho hb hg hat; have HO2 := Aside0.mk ho; have HB2 := Aside0.mk hb; clear ho hb hg hat)
  have h12 := (HB2.out.cell (p := ⟨g, 1, none⟩) HB0.out).trans h1
  rw [rounds_succ]
  go_wp2_with ((with_reducible refine gate_builtin (b := .append) (xs := #[.tmp 31, .tmp 32]) rfl ?_); at_builtin; refine Kd.R_append_rows kM (w0 := w) w.heap.size rfl (.tmp 31) (.tmp 32) 25 46 (.agg #[.int .i64 0, .bool false, .slice none 0 0]) 40 rfl Try.underlying25 infoM rfl (by decide) (by omega) v2 ([] ++ l0) l1 _ _ _ (fun _ => True) (fun _ => False) rfl rfl ?aO ?aR (fun _ _ h => h) (fun _ h => h.elim) (fun _ _ => trivial) ?aB ?aS ?aL ?_; (case aO => exact HO2.out); (case aR => exact Kd.C_below HR1.out HB2.out); (case aB => exact HB2.out); (case aS => exact below_size HB2.out); (case aL => have := HLEN.out; simp only [List.length_nil, List.nil_append]; omega); intro v3 w3 ho hb hg hat; have HO3 := Aside0.mk ho; have HB3 := Aside0.mk hb; clear ho hb hg hat)
  rw [rounds_succ]
  go_wp2
  go_ret
  exact ⟨_, rfl, HO3.out, HB3.out⟩
end Go.Proofs.Ytdicjemjmlbmlaa.H
