/- Joined by wip/tools/shake.py for the claim of WholeParts: PAx12, PAx13, PAx14, PAx15, PAx16, PAx18. -/
import Derived.Test.YthnfmmaolkenkaaDoorJWholeParts2
import Derived.Test.YthnfmmaolkenkaaDoorJWholeParts4
import Derived.Test.YthnfmmaolkenkaaDoorJWholeParts5
/- Written by a program of this session, wip/tools/patch_print.py, over the kit's print of the loaded functions. -/
namespace Go.Proofs.YthnfmmaolkenkaaDoor.H
end Go.Proofs.YthnfmmaolkenkaaDoor.H
namespace Go.Proofs.YthnfmmaolkenkaaDoor.PA
open Go.RowKit Go.Proofs.YthnfmmaolkenkaaDoorW.PrintWords Go.Proofs.YthnfmmaolkenkaaDoorW.PrintLast Go.Proofs.YthnfmmaolkenkaaDoorW.PrintMore Go.Proofs.YthnfmmaolkenkaaDoor.H
attribute [local go_sem] max2_int min2_int max_two min_two max_three min_three max_four min_four   -- for this text's walks alone
attribute [local go_sem] box_twice
set_option linter.unusedVariables false
set_option linter.unusedSimpArgs false

/-! ### gudgeonlaw02_few: function 10 -/
def gudgeonlaw02_few.f (a0_0 : Bool) (l0_1 : List Int) (a1_0 : Bool) (l1_1 : List Int) (a2 : Int) : Option (Bool) := if (l0_1.length : Int) ≤ a2 then (some (decide ((l1_1.length : Int) ≤ a2))) else (some false)
set_option maxHeartbeats 8000000 in
set_option maxRecDepth 100000 in
theorem gudgeonlaw02_few.calls (a0_0 : Bool) (A0_1 : Option Addr) (c0_1 : Nat) (l0_1 : List Int) (a1_0 : Bool) (A1_1 : Option Addr) (c1_1 : Nat) (l1_1 : List Int) (a2 : Int) (r : Bool) (w : World) (hr0_1 : Kd.C (Kd.int .u32) w A0_1 l0_1.length l0_1) (hc0_1 : l0_1.length ≤ c0_1) (hr1_1 : Kd.C (Kd.int .u32) w A1_1 l1_1.length l1_1) (hc1_1 : l1_1.length ≤ c1_1) (h : gudgeonlaw02_few.f a0_0 l0_1 a1_0 l1_1 a2 = some r) :
  Calls Tryd.prog 10 #[.agg #[.bool a0_0, .slice A0_1 l0_1.length c0_1], .agg #[.bool a1_0, .slice A1_1 l1_1.length c1_1], .int .i64 a2] w fun e w' => e = .returned (.bool r) ∧ Below w.heap.size w w' := by
 have hu24 := Tryd.underlying24
 have HR0_1 := Aside0.mk hr0_1
 have HC0_1 := Aside0.mk hc0_1
 clear hr0_1 hc0_1
 have HR1_1 := Aside0.mk hr1_1
 have HC1_1 := Aside0.mk hc1_1
 clear hr1_1 hc1_1
 have HB := Aside0.mk (Below.refl w.heap.size w)
 have H : (if (l0_1.length : Int) ≤ a2 then (some (decide ((l1_1.length : Int) ≤ a2))) else (some false)) = some r := h
 clear h
 by_cases c4 : (l0_1.length : Int) ≤ a2
 ·rw [if_pos c4] at H
  have c4b0 : decide ((l0_1.length : Int) ≤ a2) = true := decide_eq_true c4
  clear c4
  obtain rfl := Option.some.inj H
  go_enter Tryd.func10, Tryd.ntmps10
  go_wp2_with (first | ((with_reducible refine gate_dst (N := 3) rfl ?_); (try (refine gate_guard (by rfl) ?_; dsimp only)); refine box_event ?hg (N := 3) ?hd (cs := #[.bool a0_0, .slice A0_1 l0_1.length c0_1]) (t := 24) ?hr ?_; (case hd => rfl); (case hg => rfl); (case hr => first | (go_simp; done) | (go_simp; rfl)); intro gb489 hg w5 hbox hb; have BK489 := Aside0.mk (hbox); have GW489 := Aside0.mk (bxLe HB.out hg); have GE489 := GW489; replace HB := Aside0.mk (below_step HB.out hb); clear hb hbox hg) | ((with_reducible refine gate_dst (N := 4) rfl ?_); (try (refine gate_guard (by rfl) ?_; dsimp only)); refine box_event ?hg (N := 4) ?hd (cs := #[.bool a1_0, .slice A1_1 l1_1.length c1_1]) (t := 24) ?hr ?_; (case hd => rfl); (case hg => rfl); (case hr => first | (go_simp; done) | (go_simp; rfl)); intro gb490 hg w6 hbox hb; have BK490 := Aside0.mk (hbox); have GW490 := Aside0.mk (bxLe HB.out hg); have GE490 := GW490; replace HB := Aside0.mk (below_step HB.out hb); have NB489_490 := Aside0.mk (neL BK489.out hg); have NB490_489 := Aside0.mk (neR BK489.out hg); replace BK489 := Aside0.mk (blk_below BK489.out hb); clear hb hbox hg; have hnb7 := NB489_490.out; have hnc7 := NB490_489.out; have hcz8_0 := bc0 BK489.out; have hcz8_1 := bc1 BK489.out; have hfz8_0 := blk_frozen BK489.out 0; have hfz8_1 := blk_frozen BK489.out 1; have hcz9_0 := bc0 BK490.out; have hcz9_1 := bc1 BK490.out; have hfz9_0 := blk_frozen BK490.out 0; have hfz9_1 := blk_frozen BK490.out 1))
  go_ret
  exact ⟨by first | rfl | (simp [errW_none, errW_some] <;> rfl) | (refine congrArg (fun z_ => Ending.returned (Value.bool z_)) (decide_eq_decide.mpr ?_); unfold wrap64; omega) | (simp [*, errW_none, errW_some] <;> rfl), by repeat (first | (with_reducible first | exact HB.out | apply below_alloc | apply pw_below_drewN | apply below_drew1 | refine below_set ?_ GE489.out | refine below_set ?_ GE490.out) | exact HB.out)⟩
 ·rw [if_neg c4] at H
  have c4b0 : decide ((l0_1.length : Int) ≤ a2) = false := decide_eq_false c4
  clear c4
  obtain rfl := Option.some.inj H
  go_enter Tryd.func10, Tryd.ntmps10
  go_wp2_with (first | ((with_reducible refine gate_dst (N := 3) rfl ?_); (try (refine gate_guard (by rfl) ?_; dsimp only)); refine box_event ?hg (N := 3) ?hd (cs := #[.bool a0_0, .slice A0_1 l0_1.length c0_1]) (t := 24) ?hr ?_; (case hd => rfl); (case hg => rfl); (case hr => first | (go_simp; done) | (go_simp; rfl)); intro gb489 hg w10 hbox hb; have BK489 := Aside0.mk (hbox); have GW489 := Aside0.mk (bxLe HB.out hg); have GE489 := GW489; replace HB := Aside0.mk (below_step HB.out hb); clear hb hbox hg) | ((with_reducible refine gate_dst (N := 4) rfl ?_); (try (refine gate_guard (by rfl) ?_; dsimp only)); refine box_event ?hg (N := 4) ?hd (cs := #[.bool a1_0, .slice A1_1 l1_1.length c1_1]) (t := 24) ?hr ?_; (case hd => rfl); (case hg => rfl); (case hr => first | (go_simp; done) | (go_simp; rfl)); intro gb490 hg w11 hbox hb; have BK490 := Aside0.mk (hbox); have GW490 := Aside0.mk (bxLe HB.out hg); have GE490 := GW490; replace HB := Aside0.mk (below_step HB.out hb); have NB489_490 := Aside0.mk (neL BK489.out hg); have NB490_489 := Aside0.mk (neR BK489.out hg); replace BK489 := Aside0.mk (blk_below BK489.out hb); clear hb hbox hg; have hnb12 := NB489_490.out; have hnc12 := NB490_489.out; have hcz13_0 := bc0 BK489.out; have hcz13_1 := bc1 BK489.out; have hfz13_0 := blk_frozen BK489.out 0; have hfz13_1 := blk_frozen BK489.out 1))
  go_ret
  exact ⟨by first | rfl | (simp [errW_none, errW_some] <;> rfl) | (refine congrArg (fun z_ => Ending.returned (Value.bool z_)) (decide_eq_decide.mpr ?_); unfold wrap64; omega) | (simp [*, errW_none, errW_some] <;> rfl), by repeat (first | (with_reducible first | exact HB.out | apply below_alloc | apply pw_below_drewN | apply below_drew1 | refine below_set ?_ GE489.out | refine below_set ?_ GE490.out) | exact HB.out)⟩

/-! ### gudgeonref01_trim: function 81 -/
def gudgeonref01_trim.l0 : Nat → List Bool → Int → Option (List Bool)
 | 0, _, _ => none
 | k + 1, x0, x3 => if x3 > 0 then (if 0 ≤ (wrap64 (x3 - 1)) then (if (wrap64 (x3 - 1)) < (x0.length : Int) then (if (rdOf false x0 (wrap64 (x3 - 1)) = true) then (if 0 ≤ x3 then (if x3 ≤ (x0.length : Int) then (if ([] : List Bool).length + (x0.take (x3 : Int).toNat).length < 140737488355328 then (some (([] : List Bool) ++ (x0.take (x3 : Int).toNat))) else (none)) else (none)) else (none)) else (gudgeonref01_trim.l0 k x0 (wrap64 (x3 - 1)))) else (none)) else (none)) else (if 0 ≤ x3 then (if x3 ≤ (x0.length : Int) then (if ([] : List Bool).length + (x0.take (x3 : Int).toNat).length < 140737488355328 then (some (([] : List Bool) ++ (x0.take (x3 : Int).toNat))) else (none)) else (none)) else (none))
def gudgeonref01_trim.f (k : Nat) (l0 : List Bool) : Option (List Bool) := gudgeonref01_trim.l0 k l0 (l0.length : Int)
set_option maxHeartbeats 8000000 in
set_option maxRecDepth 100000 in
theorem gudgeonref01_trim.calls (k : Nat) (A0 : Option Addr) (c0 : Nat) (l0 : List Bool) (r : List Bool) (w : World) (hr0 : Kd.C Kd.bool w A0 l0.length l0) (hc0 : l0.length ≤ c0) (h : gudgeonref01_trim.f k l0 = some r) :
  Calls Tryd.prog 81 #[.slice A0 l0.length c0] w fun e w' => ∃ v0_ : Value, e = .returned (v0_) ∧ Kd.R Kd.bool 4 w' w.heap.size (fun _ => True) v0_ r ∧ Below w.heap.size w w' := by
 have HR0 := Aside0.mk hr0
 have HC0 := Aside0.mk hc0
 clear hr0 hc0
 have HB := Aside0.mk (Below.refl w.heap.size w)
 have H : (gudgeonref01_trim.l0 k l0 (l0.length : Int)) = some r := h
 clear h
 have H' := Aside0.mk H
 clear H
 go_enter Tryd.func81, Tryd.ntmps81
 go_wp2
 go_loopg [3] k (fun kq v3 w' => ∃ (x3_1 : Int), v3 = .int .i64 x3_1 ∧ Aside0 (gudgeonref01_trim.l0 kq l0 x3_1 = some r) ∧ Aside0 (kq ≤ k) ∧ Aside0 (Below w.heap.size w w'))
 case atStart => exact ⟨((l0.length : Int)), (by first | rfl | (simp; done) | (simp [*]; done) | (refine congrArg (Value.int _) ?_; omega) | (refine congrArg Value.bool ?_; generalize ByteArray.toList _ = z_; cases z_ <;> rfl)), H', ⟨Nat.le_refl _⟩, ⟨by repeat (first | (with_reducible first | exact HB.out | apply below_alloc | apply pw_below_drewN | apply below_drew1) | exact HB.out)⟩⟩
 case round =>
  clear H'
  obtain ⟨x3_1, rfl, HA, HK1, HB⟩ := hrel
  cases gk with
  | zero => exact absurd HA.out (by simp [gudgeonref01_trim.l0])
  | succ k1 =>
   have H := HA.out
   clear HA
   simp only [gudgeonref01_trim.l0] at H
   by_cases c2 : x3_1 > 0
   ·rw [if_pos c2] at H
    have c2b0 : decide (0 < x3_1) = true := decide_eq_true c2
    clear c2
    obtain ⟨ji3, hji3⟩ : ∃ j_ : Int, (wrap64 (x3_1 - 1)) = j_ := ⟨_, rfl⟩
    replace H : (if 0 ≤ (ji3) then (if (ji3) < (l0.length : Int) then (if (rdOf false l0 (ji3) = true) then (if 0 ≤ x3_1 then (if x3_1 ≤ (l0.length : Int) then (if ([] : List Bool).length + (l0.take (x3_1 : Int).toNat).length < 140737488355328 then (some (([] : List Bool) ++ (l0.take (x3_1 : Int).toNat))) else (none)) else (none)) else (none)) else (gudgeonref01_trim.l0 k1 l0 ji3)) else (none)) else (none)) = some r := by first | (rw [hji3] at H; exact H) | (simp only [hji3] at H ⊢; exact H)
    have hji3w : (IntKind.i64.wrap (x3_1 - 1)) = ji3 := (i64_w _).trans hji3
    by_cases c4 : 0 ≤ (ji3)
    ·rw [if_pos c4] at H
     have c4b0 : decide (0 ≤ (ji3)) = true := decide_eq_true c4
     clear c4
     by_cases c5 : (ji3) < (l0.length : Int)
     ·rw [if_pos c5] at H
      have c5b0 : decide ((ji3) < (l0.length : Int)) = true := decide_eq_true c5
      clear c5
      obtain ⟨bq6, hbq6⟩ : ∃ b_ : Bool, b_ = (rdOf false l0 (ji3)) := ⟨_, rfl⟩
      replace H : (if (bq6 = true) then (if 0 ≤ x3_1 then (if x3_1 ≤ (l0.length : Int) then (if ([] : List Bool).length + (l0.take (x3_1 : Int).toNat).length < 140737488355328 then (some (([] : List Bool) ++ (l0.take (x3_1 : Int).toNat))) else (none)) else (none)) else (none)) else (gudgeonref01_trim.l0 k1 l0 ji3)) = some r := by rw [← hbq6] at H; exact H
      have Nbq6 := Aside0.mk hbq6
      clear hbq6
      by_cases c7 : (bq6 = true)
      ·subst c7
       have H1 : (if 0 ≤ x3_1 then (if x3_1 ≤ (l0.length : Int) then (if ([] : List Bool).length + (l0.take (x3_1 : Int).toNat).length < 140737488355328 then (some (([] : List Bool) ++ (l0.take (x3_1 : Int).toNat))) else (none)) else (none)) else (none)) = some r := by rw [if_pos rfl] at H; exact H
       clear H
       have H := H1
       clear H1
       by_cases c8 : 0 ≤ x3_1
       ·rw [if_pos c8] at H
        have c8b0 := eq_true c8
        have c8b1 : decide (0 ≤ x3_1) = true := decide_eq_true c8
        clear c8
        by_cases c9 : x3_1 ≤ (l0.length : Int)
        ·rw [if_pos c9] at H
         have c9b0 := eq_true c9
         have c9b1 : decide (x3_1 ≤ (l0.length : Int)) = true := decide_eq_true c9
         clear c9
         by_cases c10 : ([] : List Bool).length + (l0.take (x3_1 : Int).toNat).length < 140737488355328
         ·rw [if_pos c10] at H
          have LMc10 := Aside0.mk c10
          clear c10
          obtain ⟨y493, hy493⟩ : ∃ y_ : List Bool, y_ = (([] : List Bool) ++ (l0.take (x3_1 : Int).toNat)) := ⟨_, rfl⟩
          replace H : (some y493) = some r := by first | (rw [hy493]; with_reducible exact H) | (have H2_ := (Option.bind_some _ _).symm.trans H; rw [hy493]; with_reducible exact H2_) | (have H2_ := (Option.bind_some _ _).symm.trans H; with_reducible exact H2_) | with_reducible exact H | (rw [hy493]; exact H) | exact H
          have Ny493 := Aside0.mk hy493
          clear hy493
          obtain rfl := Option.some.inj H
          have p491 : 0 ≤ ((ji3) : Int) := of_decide_eq_true (by first | (with_reducible assumption) | assumption)
          have q491 : (ji3) < (l0.length : Int) := of_decide_eq_true (by first | (with_reducible assumption) | assumption)
          obtain ⟨ad491, e491, hx491_0⟩ := Kd.at_bool HR0.out (ji3) p491 q491
          (try rw [← Nbq6.out] at hx491_0)
          cases e491
          replace hx491_0 := (HB.out.cell (World.block_lt_of_cell? w _ hx491_0)).trans hx491_0
          replace p491 := eq_true p491
          replace q491 := eq_true q491
          obtain ⟨i011, hi011, _, hsz11, _⟩ := info_parts info4
          obtain ⟨hcut11, hA11, hC11⟩ := print_take_of (P := Tryd.prog) Value.bool false 69 4 .i64 Tryd.underlying69 hi011 hsz11 (some ad491) c0 l0 x3_1 (of_decide_eq_true (by first | (with_reducible assumption) | assumption)) (of_decide_eq_true (by first | (with_reducible assumption) | assumption)) HC0.out
          have HR492 := Aside0.mk (Kd.C_of_reads (h1 := fun _ => rfl) (hA11 _ (Kd.reads_of_C HR0.out)))
          have HC492 := Aside0.mk hC11
          clear hA11 hC11 hi011 hsz11
          go_wp2_with (first | ((with_reducible refine gate_builtin (b := .append) (xs := #[.const (.slice none 0 0), .tmp 20]) rfl ?_); at_builtin; refine Kd.R_append_rows Kd.bool (w0 := w) w.heap.size rfl (.const (.slice none 0 0)) (.tmp 20) 69 4 (.bool false) 1 rfl Tryd.underlying69 info4 rfl (by decide) (by omega) (.slice none 0 0) ([] : List Bool) (l0.take (x3_1 : Int).toNat) _ _ _ (fun _ => True) (fun _ => False) rfl rfl ?aO ?aR (fun _ _ h => h) (fun _ h => h.elim) ?aF ?aB ?aS ?aL ?_; (case aR => first | (have X_ := (Kd.C_below HR492.out HB.out); rw [show (l0.take (x3_1 : Int).toNat).length = x3_1.toNat from (by rw [List.length_take]; have h_ : (x3_1 : Int) ≤ (l0.length : Int) := of_decide_eq_true (by first | (with_reducible assumption) | assumption); omega)] at X_; exact X_) | (rw [← show (l0.take (x3_1 : Int).toNat).length = x3_1.toNat from (by rw [List.length_take]; have h_ : (x3_1 : Int) ≤ (l0.length : Int) := of_decide_eq_true (by first | (with_reducible assumption) | assumption); omega)]; repeat (first | exact (Kd.C_below HR492.out HB.out) | (with_reducible refine Kd.C_alloc ?_ _) | (with_reducible refine Kd.C_drewN ?_ _) | (with_reducible refine Kd.C_drew ?_))) | (repeat (first | exact (Kd.C_below HR492.out HB.out) | (with_reducible refine Kd.C_alloc ?_ _) | (with_reducible refine Kd.C_drewN ?_ _) | (with_reducible refine Kd.C_drew ?_)))); (case aB => exact HB.out); (case aF => exact (fun _ _ => trivial)); (case aO => exact ((Kd.R_nil _ _ _ _ (fun _ => True)))); (case aS => exact (below_size HB.out)); (case aL => have := LMc10.out; have hlx_ := (show (l0.take (x3_1 : Int).toNat).length = x3_1.toNat from (by rw [List.length_take]; have h_ : (x3_1 : Int) ≤ (l0.length : Int) := of_decide_eq_true (by first | (with_reducible assumption) | assumption); omega)); omega); intro v494 w12 ho hb hg hat; rw [← Ny493.out] at ho; replace HB := Aside0.mk (hb); have HO495 := Aside0.mk (ho); clear ho hb hg hat))
          go_ret
          exact ⟨_, by first | rfl | (simp [errW_none, errW_some] <;> rfl) | (simp only [← hji3]; first | rfl | (simp [errW_none, errW_some] <;> rfl)) | (simp [*, errW_none, errW_some] <;> rfl), by (with_reducible repeat (first | apply Kd.R_alloc | apply Kd.R_drewN | apply Kd.R_drew)); exact HO495.out, by repeat (first | (with_reducible first | exact HB.out | apply below_alloc | apply pw_below_drewN | apply below_drew1) | exact HB.out)⟩
         ·rw [if_neg c10] at H
          exact absurd H (by simp)
        ·rw [if_neg c9] at H
         exact absurd H (by simp)
       ·rw [if_neg c8] at H
        exact absurd H (by simp)
      ·replace c7 := Bool.eq_false_iff.mpr c7
       subst c7
       have H1 : (gudgeonref01_trim.l0 k1 l0 ji3) = some r := by rw [if_neg (show ¬ (false = true) by decide)] at H; exact H
       clear H
       have H := H1
       clear H1
       have H' := Aside0.mk H
       clear H
       have p491 : 0 ≤ ((ji3) : Int) := of_decide_eq_true (by first | (with_reducible assumption) | assumption)
       have q491 : (ji3) < (l0.length : Int) := of_decide_eq_true (by first | (with_reducible assumption) | assumption)
       obtain ⟨ad491, e491, hx491_0⟩ := Kd.at_bool HR0.out (ji3) p491 q491
       (try rw [← Nbq6.out] at hx491_0)
       cases e491
       replace hx491_0 := (HB.out.cell (World.block_lt_of_cell? w _ hx491_0)).trans hx491_0
       replace p491 := eq_true p491
       replace q491 := eq_true q491
       go_wp2
       go_roundg k1
       case measure => have := HK1.out; omega
       case rel => exact ⟨(ji3), (by first | rfl | (simp; done) | (simp only [← hji3] <;> (first | rfl | simp)) | (simp [*]; done)), H', ⟨by have := HK1.out; omega⟩, ⟨by repeat (first | (with_reducible first | exact HB.out | apply below_alloc | apply pw_below_drewN | apply below_drew1) | exact HB.out)⟩⟩
     ·rw [if_neg c5] at H
      exact absurd H (by simp)
    ·rw [if_neg c4] at H
     exact absurd H (by simp)
   ·rw [if_neg c2] at H
    have c2b0 : decide (0 < x3_1) = false := decide_eq_false c2
    clear c2
    by_cases c13 : 0 ≤ x3_1
    ·rw [if_pos c13] at H
     have c13b0 := eq_true c13
     have c13b1 : decide (0 ≤ x3_1) = true := decide_eq_true c13
     clear c13
     by_cases c14 : x3_1 ≤ (l0.length : Int)
     ·rw [if_pos c14] at H
      have c14b0 := eq_true c14
      have c14b1 : decide (x3_1 ≤ (l0.length : Int)) = true := decide_eq_true c14
      clear c14
      by_cases c15 : ([] : List Bool).length + (l0.take (x3_1 : Int).toNat).length < 140737488355328
      ·rw [if_pos c15] at H
       have LMc15 := Aside0.mk c15
       clear c15
       obtain ⟨y497, hy497⟩ : ∃ y_ : List Bool, y_ = (([] : List Bool) ++ (l0.take (x3_1 : Int).toNat)) := ⟨_, rfl⟩
       replace H : (some y497) = some r := by first | (rw [hy497]; with_reducible exact H) | (have H2_ := (Option.bind_some _ _).symm.trans H; rw [hy497]; with_reducible exact H2_) | (have H2_ := (Option.bind_some _ _).symm.trans H; with_reducible exact H2_) | with_reducible exact H | (rw [hy497]; exact H) | exact H
       have Ny497 := Aside0.mk hy497
       clear hy497
       obtain rfl := Option.some.inj H
       obtain ⟨i016, hi016, _, hsz16, _⟩ := info_parts info4
       obtain ⟨hcut16, hA16, hC16⟩ := print_take_of (P := Tryd.prog) Value.bool false 69 4 .i64 Tryd.underlying69 hi016 hsz16 A0 c0 l0 x3_1 (of_decide_eq_true (by first | (with_reducible assumption) | assumption)) (of_decide_eq_true (by first | (with_reducible assumption) | assumption)) HC0.out
       have HR496 := Aside0.mk (Kd.C_of_reads (h1 := fun _ => rfl) (hA16 _ (Kd.reads_of_C HR0.out)))
       have HC496 := Aside0.mk hC16
       clear hA16 hC16 hi016 hsz16
       go_wp2_with (first | ((with_reducible refine gate_builtin (b := .append) (xs := #[.const (.slice none 0 0), .tmp 20]) rfl ?_); at_builtin; refine Kd.R_append_rows Kd.bool (w0 := w) w.heap.size rfl (.const (.slice none 0 0)) (.tmp 20) 69 4 (.bool false) 1 rfl Tryd.underlying69 info4 rfl (by decide) (by omega) (.slice none 0 0) ([] : List Bool) (l0.take (x3_1 : Int).toNat) _ _ _ (fun _ => True) (fun _ => False) rfl rfl ?aO ?aR (fun _ _ h => h) (fun _ h => h.elim) ?aF ?aB ?aS ?aL ?_; (case aR => first | (have X_ := (Kd.C_below HR496.out HB.out); rw [show (l0.take (x3_1 : Int).toNat).length = x3_1.toNat from (by rw [List.length_take]; have h_ : (x3_1 : Int) ≤ (l0.length : Int) := of_decide_eq_true (by first | (with_reducible assumption) | assumption); omega)] at X_; exact X_) | (rw [← show (l0.take (x3_1 : Int).toNat).length = x3_1.toNat from (by rw [List.length_take]; have h_ : (x3_1 : Int) ≤ (l0.length : Int) := of_decide_eq_true (by first | (with_reducible assumption) | assumption); omega)]; repeat (first | exact (Kd.C_below HR496.out HB.out) | (with_reducible refine Kd.C_alloc ?_ _) | (with_reducible refine Kd.C_drewN ?_ _) | (with_reducible refine Kd.C_drew ?_))) | (repeat (first | exact (Kd.C_below HR496.out HB.out) | (with_reducible refine Kd.C_alloc ?_ _) | (with_reducible refine Kd.C_drewN ?_ _) | (with_reducible refine Kd.C_drew ?_)))); (case aB => exact HB.out); (case aF => exact (fun _ _ => trivial)); (case aO => exact ((Kd.R_nil _ _ _ _ (fun _ => True)))); (case aS => exact (below_size HB.out)); (case aL => have := LMc15.out; have hlx_ := (show (l0.take (x3_1 : Int).toNat).length = x3_1.toNat from (by rw [List.length_take]; have h_ : (x3_1 : Int) ≤ (l0.length : Int) := of_decide_eq_true (by first | (with_reducible assumption) | assumption); omega)); omega); intro v498 w17 ho hb hg hat; rw [← Ny497.out] at ho; replace HB := Aside0.mk (hb); have HO499 := Aside0.mk (ho); clear ho hb hg hat))
       go_ret
       exact ⟨_, by first | rfl | (simp [errW_none, errW_some] <;> rfl) | (simp [*, errW_none, errW_some] <;> rfl), by (with_reducible repeat (first | apply Kd.R_alloc | apply Kd.R_drewN | apply Kd.R_drew)); exact HO499.out, by repeat (first | (with_reducible first | exact HB.out | apply below_alloc | apply pw_below_drewN | apply below_drew1) | exact HB.out)⟩
      ·rw [if_neg c15] at H
       exact absurd H (by simp)
     ·rw [if_neg c14] at H
      exact absurd H (by simp)
    ·rw [if_neg c13] at H
     exact absurd H (by simp)

/-! ### gudgeonref01_Bits: function 67 -/
mutual
def gudgeonref01_Bits.l0 : Nat → List Int → List Bool → Int → Option (List Bool)
 | 0, _, _, _ => none
 | k + 1, x0, x3, x4 => if x4 < (x0.length : Int) then (if 0 ≤ x4 then (gudgeonref01_Bits.l1 k x0 x3 x4 (rd x0 x4) 0) else (none)) else ((gudgeonref01_trim.f k x3).bind fun t500 => (some t500))
def gudgeonref01_Bits.l1 : Nat → List Int → List Bool → Int → Int → Int → Option (List Bool)
 | 0, _, _, _, _, _ => none
 | k + 1, x0, x3, x4, x5, x6 => if x6 < 32 then (if x3.length < 140737488355328 then (gudgeonref01_Bits.l1 k x0 (x3 ++ [((Int.tmod x5 2) == 1)]) x4 ((Int.tdiv x5 2) % 4294967296) (wrap64 (x6 + 1))) else (none)) else (gudgeonref01_Bits.l0 k x0 x3 (wrap64 (x4 + 1)))
end
def gudgeonref01_Bits.f (k : Nat) (l0 : List Int) : Option (List Bool) := gudgeonref01_Bits.l0 k l0 ([] : List Bool) 0
set_option maxHeartbeats 8000000 in
set_option maxRecDepth 100000 in
theorem gudgeonref01_Bits.calls (k : Nat) (A0 : Option Addr) (c0 : Nat) (l0 : List Int) (r : List Bool) (w : World) (hr0 : Kd.C (Kd.int .u32) w A0 l0.length l0) (hc0 : l0.length ≤ c0) (h : gudgeonref01_Bits.f k l0 = some r) :
  Calls Tryd.prog 67 #[.slice A0 l0.length c0] w fun e w' => ∃ v0_ : Value, e = .returned (v0_) ∧ Kd.R Kd.bool 4 w' w.heap.size (fun _ => True) v0_ r ∧ Below w.heap.size w w' := by
 have HR0 := Aside0.mk hr0
 have HC0 := Aside0.mk hc0
 clear hr0 hc0
 have HB := Aside0.mk (Below.refl w.heap.size w)
 have H : (gudgeonref01_Bits.l0 k l0 ([] : List Bool) 0) = some r := h
 clear h
 have H' := Aside0.mk H
 clear H
 go_enter Tryd.func67, Tryd.ntmps67
 go_wp2
 go_loopg [3, 4] k (fun kq v3 v4 w' => ∃ (x3_1 : List Bool) (x4_1 : Int), v4 = .int .i64 x4_1 ∧ Aside0 (gudgeonref01_Bits.l0 kq l0 x3_1 x4_1 = some r) ∧ Aside0 (kq ≤ k) ∧ Aside0 (Kd.R Kd.bool 4 w' w.heap.size (fun _ => True) v3 x3_1) ∧ Aside0 (Below w.heap.size w w'))
 case atStart => exact ⟨(([] : List Bool)), (0), (by first | rfl | (simp; done) | (simp [*]; done) | (refine congrArg (Value.int _) ?_; omega) | (refine congrArg Value.bool ?_; generalize ByteArray.toList _ = z_; cases z_ <;> rfl)), H', ⟨Nat.le_refl _⟩, ⟨by first | exact Kd.R_nil _ _ _ _ _ | exact Kd.N_nil _ _ _ _ _ | exact Kd.V_nil _ _ _ _ _ | exact Kd.Q_nil _ _ _ _ _ | exact Kd.S_nil _ _ _ _ _⟩, ⟨by repeat (first | (with_reducible first | exact HB.out | apply below_alloc | apply pw_below_drewN | apply below_drew1) | exact HB.out)⟩⟩
 case round =>
  clear H'
  obtain ⟨x3_1, x4_1, rfl, HA, HK1, HO_3, HB⟩ := hrel
  cases gk with
  | zero => exact absurd HA.out (by simp [gudgeonref01_Bits.l0])
  | succ k1 =>
   have H := HA.out
   clear HA
   simp only [gudgeonref01_Bits.l0] at H
   by_cases c2 : x4_1 < (l0.length : Int)
   ·rw [if_pos c2] at H
    have c2b0 : decide (x4_1 < (l0.length : Int)) = true := decide_eq_true c2
    clear c2
    by_cases c3 : 0 ≤ x4_1
    ·rw [if_pos c3] at H
     have c3b0 : decide (0 ≤ x4_1) = true := decide_eq_true c3
     clear c3
     have H' := Aside0.mk H
     clear H
     have p503 : 0 ≤ (x4_1 : Int) := of_decide_eq_true (by first | (with_reducible assumption) | assumption)
     have q503 : x4_1 < (l0.length : Int) := of_decide_eq_true (by first | (with_reducible assumption) | assumption)
     obtain ⟨ad503, e503, hx503_0⟩ := Kd.at_int HR0.out x4_1 p503 q503
     cases e503
     replace hx503_0 := (HB.out.cell (World.block_lt_of_cell? w _ hx503_0)).trans hx503_0
     replace p503 := eq_true p503
     replace q503 := eq_true q503
     go_wp2
     go_loopg [3, 5, 6] k1 (fun kq v3 v5 v6 w' => ∃ (x3_2 : List Bool) (x5_2 : Int) (x6_2 : Int), v5 = .int .u32 x5_2 ∧ v6 = .int .i64 x6_2 ∧ Aside0 (gudgeonref01_Bits.l1 kq l0 x3_2 x4_1 x5_2 x6_2 = some r) ∧ Aside0 (kq ≤ k1) ∧ Aside0 (Kd.R Kd.bool 4 w' w.heap.size (fun _ => True) v3 x3_2) ∧ Aside0 (Below w.heap.size w w'))
     case atStart => exact ⟨(x3_1), (rd l0 x4_1), (0), (by first | rfl | (simp; done) | (simp [*]; done) | (refine congrArg (Value.int _) ?_; omega) | (refine congrArg Value.bool ?_; generalize ByteArray.toList _ = z_; cases z_ <;> rfl)), (by first | rfl | (simp; done) | (simp [*]; done) | (refine congrArg (Value.int _) ?_; omega) | (refine congrArg Value.bool ?_; generalize ByteArray.toList _ = z_; cases z_ <;> rfl)), H', ⟨Nat.le_refl _⟩, ⟨by (with_reducible repeat (first | apply Kd.R_alloc | apply Kd.R_drewN | apply Kd.R_drew)); exact HO_3.out⟩, ⟨by repeat (first | (with_reducible first | exact HB.out | apply below_alloc | apply pw_below_drewN | apply below_drew1) | exact HB.out)⟩⟩
     case round =>
      clear H'
      try clear c2
      try clear c2b0
      try clear p2
      try clear c3
      try clear c3b0
      try clear hx503_0
      try clear p503
      try clear q503
      obtain ⟨x3_2, x5_2, x6_2, rfl, rfl, HA, HK2, HO_3, HB⟩ := hrel
      cases gk with
      | zero => exact absurd HA.out (by simp [gudgeonref01_Bits.l1])
      | succ k2 =>
       have H := HA.out
       clear HA
       simp only [gudgeonref01_Bits.l1] at H
       by_cases c4 : x6_2 < 32
       ·rw [if_pos c4] at H
        have c4b0 : decide (x6_2 < 32) = true := decide_eq_true c4
        clear c4
        by_cases c5 : x3_2.length < 140737488355328
        ·rw [if_pos c5] at H
         have LMc5 := Aside0.mk c5
         clear c5
         obtain ⟨y504, hy504⟩ : ∃ y_ : List Bool, y_ = (x3_2 ++ [((Int.tmod x5_2 2) == 1)]) := ⟨_, rfl⟩
         replace H : (gudgeonref01_Bits.l1 k2 l0 y504 x4_1 ((Int.tdiv x5_2 2) % 4294967296) (wrap64 (x6_2 + 1))) = some r := by first | (rw [hy504]; with_reducible exact H) | (have H2_ := (Option.bind_some _ _).symm.trans H; rw [hy504]; with_reducible exact H2_) | (have H2_ := (Option.bind_some _ _).symm.trans H; with_reducible exact H2_) | with_reducible exact H | (rw [hy504]; exact H) | exact H
         have Ny504 := Aside0.mk hy504
         clear hy504
         have H' := Aside0.mk H
         clear H
         go_wp2_with (first | ((with_reducible refine gate_builtin (b := .append) (xs := #[.tmp 21, .tmp 25]) rfl ?_); at_builtin; refine Kd.R_append Kd.bool (w0 := w) w.heap.size rfl (.tmp 21) (.tmp 25) 69 4 (.bool false) 1 rfl Tryd.underlying69 info4 rfl (by decide) (by omega) u3 x3_2 ((Int.tmod x5_2 2) == 1) [.bool ((Int.tmod x5_2 2) == 1)] (fun _ => True) (fun _ => False) rfl rfl ?aP (fun _ hk => hk.elim) ?aF ?aO ?aB ?aS ?aL ?_; (case aP => exact rfl); (case aB => exact HB.out); (case aF => exact (fun _ _ => trivial)); (case aO => exact HO_3.out); (case aS => exact (below_size HB.out)); (case aL => have := LMc5.out; omega); intro v505 w6 ho hb hg hat; rw [← Ny504.out] at ho; have n0_ := Aside0.mk (hb); have n1_ := Aside0.mk (ho); clear HB; clear HO_3; have HB := n0_; have HO506 := n1_; clear n0_ n1_; clear ho hb hg hat))
         go_roundg k2
         case measure => have := HK1.out; have := HK2.out; omega
         case rel => exact ⟨(y504), ((Int.tdiv x5_2 2) % 4294967296), (wrap64 (x6_2 + 1)), (by first | rfl | (simp; done) | (simp [*]; done) | (refine congrArg (Value.int _) ?_; omega) | (refine congrArg Value.bool ?_; generalize ByteArray.toList _ = z_; cases z_ <;> rfl)), (by first | rfl | (simp; done) | (simp [*]; done) | (refine congrArg (Value.int _) ?_; omega) | (refine congrArg Value.bool ?_; generalize ByteArray.toList _ = z_; cases z_ <;> rfl)), H', ⟨by have := HK1.out; have := HK2.out; omega⟩, ⟨by (with_reducible repeat (first | apply Kd.R_alloc | apply Kd.R_drewN | apply Kd.R_drew)); exact HO506.out⟩, ⟨by repeat (first | (with_reducible first | exact HB.out | apply below_alloc | apply pw_below_drewN | apply below_drew1) | exact HB.out)⟩⟩
        ·rw [if_neg c5] at H
         exact absurd H (by simp)
       ·rw [if_neg c4] at H
        have c4b0 : decide (x6_2 < 32) = false := decide_eq_false c4
        clear c4
        have H' := Aside0.mk H
        clear H
        go_wp2
        go_roundg k2
        case measure => have := HK1.out; have := HK2.out; omega
        case rel => exact ⟨(x3_2), (wrap64 (x4_1 + 1)), (by first | rfl | (simp; done) | (simp [*]; done) | (refine congrArg (Value.int _) ?_; omega) | (refine congrArg Value.bool ?_; generalize ByteArray.toList _ = z_; cases z_ <;> rfl)), H', ⟨by have := HK1.out; have := HK2.out; omega⟩, ⟨by (with_reducible repeat (first | apply Kd.R_alloc | apply Kd.R_drewN | apply Kd.R_drew)); exact HO_3.out⟩, ⟨by repeat (first | (with_reducible first | exact HB.out | apply below_alloc | apply pw_below_drewN | apply below_drew1) | exact HB.out)⟩⟩
    ·rw [if_neg c3] at H
     exact absurd H (by simp)
   ·rw [if_neg c2] at H
    have c2b0 : decide (x4_1 < (l0.length : Int)) = false := decide_eq_false c2
    clear c2
    replace H := Option.bind_eq_some_iff.mp H
    obtain ⟨t500, A70, H⟩ := H
    replace H : (some t500) = some r := H
    have A7 := Aside0.mk A70
    clear A70
    obtain rfl := Option.some.inj H
    obtain ⟨Ao8, co8, eo8⟩ := Kd.R_slice HO_3.out
    subst eo8
    go_wp2_with (first | ((with_reducible refine gate_callee (f := 81) rfl ?_); refine goL (some 30) Tryd.func81 [.slice Ao8 x3_1.length co8] ?_; (with_reducible refine (gudgeonref01_trim.calls k1 _ _ x3_1 t500 _ ?side1 ?side2 A7.out).mono ?_); (case side1 => exact (Kd.R_reads' HO_3.out).2.2); (case side2 => exact (Kd.R_reads' HO_3.out).2.1); rintro e w9 ⟨v501, rfl, ho0, hb⟩; refine ⟨_, rfl, ?_⟩; have HO502 := Aside0.mk (Kd.R_lower (Kd.R_new' ho0 (Kd.R_lt HO_3.out)) (below_size HB.out)); replace HO_3 := Aside0.mk (Kd.R_elder' HO_3.out (Kd.R_base ho0) hb); replace HB := Aside0.mk (below_step HB.out hb)))
    go_ret
    exact ⟨_, by first | rfl | (simp [errW_none, errW_some] <;> rfl) | (simp [*, errW_none, errW_some] <;> rfl), by (with_reducible repeat (first | apply Kd.R_alloc | apply Kd.R_drewN | apply Kd.R_drew)); exact Kd.R_mono HO502.out (fun _ hk => trivial), by repeat (first | (with_reducible first | exact HB.out | apply below_alloc | apply pw_below_drewN | apply below_drew1) | exact HB.out)⟩

/-! ### gudgeonref01_Limbs: function 69 -/
mutual
def gudgeonref01_Limbs.l0 : Nat → List Bool → List Int → Int → Option (List Int)
 | 0, _, _, _ => none
 | k + 1, x0, x3, x4 => if x4 < (x0.length : Int) then (gudgeonref01_Limbs.l1 k x0 x3 x4 0 (wrap64 (x4 + 31))) else (some x3)
def gudgeonref01_Limbs.l1 : Nat → List Bool → List Int → Int → Int → Int → Option (List Int)
 | 0, _, _, _, _, _ => none
 | k + 1, x0, x3, x4, x5, x6 => if x6 ≥ x4 then (if x6 < (x0.length : Int) then (if 0 ≤ x6 then (if rdOf false x0 x6 = true then (gudgeonref01_Limbs.l1 k x0 x3 x4 ((((x5 * 2) % 4294967296) + 1) % 4294967296) (wrap64 (x6 - 1))) else (gudgeonref01_Limbs.l1 k x0 x3 x4 ((x5 * 2) % 4294967296) (wrap64 (x6 - 1)))) else (none)) else (gudgeonref01_Limbs.l1 k x0 x3 x4 ((x5 * 2) % 4294967296) (wrap64 (x6 - 1)))) else (if x3.length < 35184372088832 then (gudgeonref01_Limbs.l0 k x0 (x3 ++ [x5]) (wrap64 (x4 + 32))) else (none))
end
def gudgeonref01_Limbs.f (k : Nat) (l0 : List Bool) : Option (List Int) := (gudgeonref01_trim.f k l0).bind fun t507 => (gudgeonref01_Limbs.l0 k t507 ([] : List Int) 0)
set_option maxHeartbeats 8000000 in
set_option maxRecDepth 100000 in
theorem gudgeonref01_Limbs.calls (k : Nat) (A0 : Option Addr) (c0 : Nat) (l0 : List Bool) (r : List Int) (w : World) (hr0 : Kd.C Kd.bool w A0 l0.length l0) (hc0 : l0.length ≤ c0) (h : gudgeonref01_Limbs.f k l0 = some r) :
  Calls Tryd.prog 69 #[.slice A0 l0.length c0] w fun e w' => ∃ v0_ : Value, e = .returned (v0_) ∧ Kd.R (Kd.int .u32) 51 w' w.heap.size (fun _ => True) v0_ r ∧ Below w.heap.size w w' := by
 have HR0 := Aside0.mk hr0
 have HC0 := Aside0.mk hc0
 clear hr0 hc0
 have HB := Aside0.mk (Below.refl w.heap.size w)
 have H : ((gudgeonref01_trim.f k l0).bind fun t507 => (gudgeonref01_Limbs.l0 k t507 ([] : List Int) 0)) = some r := h
 clear h
 replace H := Option.bind_eq_some_iff.mp H
 obtain ⟨t507, A20, H⟩ := H
 replace H : (gudgeonref01_Limbs.l0 k t507 ([] : List Int) 0) = some r := H
 have A2 := Aside0.mk A20
 clear A20
 have H' := Aside0.mk H
 clear H
 go_enter Tryd.func69, Tryd.ntmps69
 go_wp2_with (first | ((with_reducible refine gate_callee (f := 81) rfl ?_); refine goL (some 8) Tryd.func81 [.slice A0 l0.length c0] ?_; (with_reducible refine (gudgeonref01_trim.calls k _ _ l0 t507 _ ?side1 ?side2 A2.out).mono ?_); (case side1 => exact HR0.out); (case side2 => exact HC0.out); rintro e w3 ⟨v508, rfl, ho0, hb⟩; refine ⟨_, rfl, ?_⟩; have HO509 := Aside0.mk (Kd.R_lower ho0 (below_size HB.out)); replace HB := Aside0.mk (below_step HB.out hb)))
 go_loopg [3, 4] k (fun kq v3 v4 w' => ∃ (x3_1 : List Int) (x4_1 : Int), v4 = .int .i64 x4_1 ∧ Aside0 (gudgeonref01_Limbs.l0 kq t507 x3_1 x4_1 = some r) ∧ Aside0 (kq ≤ k) ∧ Aside0 (Kd.R Kd.bool 4 w' w.heap.size (fun _ => True) v508 t507) ∧ Aside0 (Kd.R (Kd.int .u32) 51 w' w.heap.size (fun _ => True) v3 x3_1) ∧ Aside0 (Below w.heap.size w w'))
 case atStart => exact ⟨(([] : List Int)), (0), (by first | rfl | (simp; done) | (simp [*]; done) | (refine congrArg (Value.int _) ?_; omega) | (refine congrArg Value.bool ?_; generalize ByteArray.toList _ = z_; cases z_ <;> rfl)), H', ⟨Nat.le_refl _⟩, ⟨by (with_reducible repeat (first | apply Kd.R_alloc | apply Kd.R_drewN | apply Kd.R_drew)); exact HO509.out⟩, ⟨by first | exact Kd.R_nil _ _ _ _ _ | exact Kd.N_nil _ _ _ _ _ | exact Kd.V_nil _ _ _ _ _ | exact Kd.Q_nil _ _ _ _ _ | exact Kd.S_nil _ _ _ _ _⟩, ⟨by repeat (first | (with_reducible first | exact HB.out | apply below_alloc | apply pw_below_drewN | apply below_drew1) | exact HB.out)⟩⟩
 case round =>
  clear H'
  try clear p2
  obtain ⟨x3_1, x4_1, rfl, HA, HK1, HO_0, HO_3, HB⟩ := hrel
  cases gk with
  | zero => exact absurd HA.out (by simp [gudgeonref01_Limbs.l0])
  | succ k1 =>
   have H := HA.out
   clear HA
   simp only [gudgeonref01_Limbs.l0] at H
   by_cases c4 : x4_1 < (t507.length : Int)
   ·rw [if_pos c4] at H
    have c4b0 : decide (x4_1 < (t507.length : Int)) = true := decide_eq_true c4
    clear c4
    have H' := Aside0.mk H
    clear H
    obtain ⟨Ao5, co5, eo5⟩ := Kd.R_slice HO_0.out
    subst eo5
    go_wp2
    go_loopg [5, 6] k1 (fun kq v5 v6 w' => ∃ (x5_2 : Int) (x6_2 : Int), v5 = .int .u32 x5_2 ∧ v6 = .int .i64 x6_2 ∧ Aside0 (gudgeonref01_Limbs.l1 kq t507 x3_1 x4_1 x5_2 x6_2 = some r) ∧ Aside0 (kq ≤ k1) ∧ Aside0 (Kd.R Kd.bool 4 w' w.heap.size (fun _ => True) (.slice Ao5 t507.length co5) t507) ∧ Aside0 (Kd.R (Kd.int .u32) 51 w' w.heap.size (fun _ => True) u3 x3_1) ∧ Aside0 (Below w.heap.size w w'))
    case atStart => exact ⟨(0), (wrap64 (x4_1 + 31)), (by first | rfl | (simp; done) | (simp [*]; done) | (refine congrArg (Value.int _) ?_; omega) | (refine congrArg Value.bool ?_; generalize ByteArray.toList _ = z_; cases z_ <;> rfl)), (by first | rfl | (simp; done) | (simp [*]; done) | (refine congrArg (Value.int _) ?_; omega) | (refine congrArg Value.bool ?_; generalize ByteArray.toList _ = z_; cases z_ <;> rfl)), H', ⟨Nat.le_refl _⟩, ⟨by (with_reducible repeat (first | apply Kd.R_alloc | apply Kd.R_drewN | apply Kd.R_drew)); exact HO_0.out⟩, ⟨by (with_reducible repeat (first | apply Kd.R_alloc | apply Kd.R_drewN | apply Kd.R_drew)); exact HO_3.out⟩, ⟨by repeat (first | (with_reducible first | exact HB.out | apply below_alloc | apply pw_below_drewN | apply below_drew1) | exact HB.out)⟩⟩
    case round =>
     clear H'
     try clear p2
     try clear c4
     try clear c4b0
     try clear p2
     obtain ⟨x5_2, x6_2, rfl, rfl, HA, HK2, HO_0, HO_3, HB⟩ := hrel
     cases gk with
     | zero => exact absurd HA.out (by simp [gudgeonref01_Limbs.l1])
     | succ k2 =>
      have H := HA.out
      clear HA
      simp only [gudgeonref01_Limbs.l1] at H
      by_cases c6 : x6_2 ≥ x4_1
      ·rw [if_pos c6] at H
       have c6b0 : decide (x4_1 ≤ x6_2) = true := decide_eq_true c6
       clear c6
       by_cases c7 : x6_2 < (t507.length : Int)
       ·rw [if_pos c7] at H
        have c7b0 : decide (x6_2 < (t507.length : Int)) = true := decide_eq_true c7
        clear c7
        by_cases c8 : 0 ≤ x6_2
        ·rw [if_pos c8] at H
         have c8b0 : decide (0 ≤ x6_2) = true := decide_eq_true c8
         clear c8
         obtain ⟨bq9, hbq9⟩ : ∃ b_ : Bool, b_ = (rdOf false t507 x6_2) := ⟨_, rfl⟩
         replace H : (if bq9 = true then (gudgeonref01_Limbs.l1 k2 t507 x3_1 x4_1 ((((x5_2 * 2) % 4294967296) + 1) % 4294967296) (wrap64 (x6_2 - 1))) else (gudgeonref01_Limbs.l1 k2 t507 x3_1 x4_1 ((x5_2 * 2) % 4294967296) (wrap64 (x6_2 - 1)))) = some r := by rw [← hbq9] at H; exact H
         have Nbq9 := Aside0.mk hbq9
         clear hbq9
         by_cases c10 : bq9 = true
         ·subst c10
          have H1 : (gudgeonref01_Limbs.l1 k2 t507 x3_1 x4_1 ((((x5_2 * 2) % 4294967296) + 1) % 4294967296) (wrap64 (x6_2 - 1))) = some r := by rw [if_pos rfl] at H; exact H
          clear H
          have H := H1
          clear H1
          have H' := Aside0.mk H
          clear H
          have p510 : 0 ≤ (x6_2 : Int) := of_decide_eq_true (by first | (with_reducible assumption) | assumption)
          have q510 : x6_2 < (t507.length : Int) := of_decide_eq_true (by first | (with_reducible assumption) | assumption)
          obtain ⟨ad510, e510, hx510_0⟩ := Kd.at_bool (Kd.R_reads' HO_0.out).2.2 x6_2 p510 q510
          (try rw [← Nbq9.out] at hx510_0)
          cases e510
          replace p510 := eq_true p510
          replace q510 := eq_true q510
          go_wp2
          go_roundg k2
          case measure => have := HK1.out; have := HK2.out; omega
          case rel => exact ⟨((((x5_2 * 2) % 4294967296) + 1) % 4294967296), (wrap64 (x6_2 - 1)), (by first | rfl | (simp; done) | (simp [*]; done) | (refine congrArg (Value.int _) ?_; omega) | (refine congrArg Value.bool ?_; generalize ByteArray.toList _ = z_; cases z_ <;> rfl)), (by first | rfl | (simp; done) | (simp [*]; done) | (refine congrArg (Value.int _) ?_; omega) | (refine congrArg Value.bool ?_; generalize ByteArray.toList _ = z_; cases z_ <;> rfl)), H', ⟨by have := HK1.out; have := HK2.out; omega⟩, ⟨by (with_reducible repeat (first | apply Kd.R_alloc | apply Kd.R_drewN | apply Kd.R_drew)); exact HO_0.out⟩, ⟨by (with_reducible repeat (first | apply Kd.R_alloc | apply Kd.R_drewN | apply Kd.R_drew)); exact HO_3.out⟩, ⟨by repeat (first | (with_reducible first | exact HB.out | apply below_alloc | apply pw_below_drewN | apply below_drew1) | exact HB.out)⟩⟩
         ·replace c10 := Bool.eq_false_iff.mpr c10
          subst c10
          have H1 : (gudgeonref01_Limbs.l1 k2 t507 x3_1 x4_1 ((x5_2 * 2) % 4294967296) (wrap64 (x6_2 - 1))) = some r := by rw [if_neg (show ¬ (false = true) by decide)] at H; exact H
          clear H
          have H := H1
          clear H1
          have H' := Aside0.mk H
          clear H
          have p510 : 0 ≤ (x6_2 : Int) := of_decide_eq_true (by first | (with_reducible assumption) | assumption)
          have q510 : x6_2 < (t507.length : Int) := of_decide_eq_true (by first | (with_reducible assumption) | assumption)
          obtain ⟨ad510, e510, hx510_0⟩ := Kd.at_bool (Kd.R_reads' HO_0.out).2.2 x6_2 p510 q510
          (try rw [← Nbq9.out] at hx510_0)
          cases e510
          replace p510 := eq_true p510
          replace q510 := eq_true q510
          go_wp2
          go_roundg k2
          case measure => have := HK1.out; have := HK2.out; omega
          case rel => exact ⟨((x5_2 * 2) % 4294967296), (wrap64 (x6_2 - 1)), (by first | rfl | (simp; done) | (simp [*]; done) | (refine congrArg (Value.int _) ?_; omega) | (refine congrArg Value.bool ?_; generalize ByteArray.toList _ = z_; cases z_ <;> rfl)), (by first | rfl | (simp; done) | (simp [*]; done) | (refine congrArg (Value.int _) ?_; omega) | (refine congrArg Value.bool ?_; generalize ByteArray.toList _ = z_; cases z_ <;> rfl)), H', ⟨by have := HK1.out; have := HK2.out; omega⟩, ⟨by (with_reducible repeat (first | apply Kd.R_alloc | apply Kd.R_drewN | apply Kd.R_drew)); exact HO_0.out⟩, ⟨by (with_reducible repeat (first | apply Kd.R_alloc | apply Kd.R_drewN | apply Kd.R_drew)); exact HO_3.out⟩, ⟨by repeat (first | (with_reducible first | exact HB.out | apply below_alloc | apply pw_below_drewN | apply below_drew1) | exact HB.out)⟩⟩
        ·rw [if_neg c8] at H
         exact absurd H (by simp)
       ·rw [if_neg c7] at H
        have c7b0 : decide (x6_2 < (t507.length : Int)) = false := decide_eq_false c7
        clear c7
        have H' := Aside0.mk H
        clear H
        go_wp2
        go_roundg k2
        case measure => have := HK1.out; have := HK2.out; omega
        case rel => exact ⟨((x5_2 * 2) % 4294967296), (wrap64 (x6_2 - 1)), (by first | rfl | (simp; done) | (simp [*]; done) | (refine congrArg (Value.int _) ?_; omega) | (refine congrArg Value.bool ?_; generalize ByteArray.toList _ = z_; cases z_ <;> rfl)), (by first | rfl | (simp; done) | (simp [*]; done) | (refine congrArg (Value.int _) ?_; omega) | (refine congrArg Value.bool ?_; generalize ByteArray.toList _ = z_; cases z_ <;> rfl)), H', ⟨by have := HK1.out; have := HK2.out; omega⟩, ⟨by (with_reducible repeat (first | apply Kd.R_alloc | apply Kd.R_drewN | apply Kd.R_drew)); exact HO_0.out⟩, ⟨by (with_reducible repeat (first | apply Kd.R_alloc | apply Kd.R_drewN | apply Kd.R_drew)); exact HO_3.out⟩, ⟨by repeat (first | (with_reducible first | exact HB.out | apply below_alloc | apply pw_below_drewN | apply below_drew1) | exact HB.out)⟩⟩
      ·rw [if_neg c6] at H
       have c6b0 : decide (x4_1 ≤ x6_2) = false := decide_eq_false c6
       clear c6
       by_cases c11 : x3_1.length < 35184372088832
       ·rw [if_pos c11] at H
        have LMc11 := Aside0.mk c11
        clear c11
        obtain ⟨y511, hy511⟩ : ∃ y_ : List Int, y_ = (x3_1 ++ [x5_2]) := ⟨_, rfl⟩
        replace H : (gudgeonref01_Limbs.l0 k2 t507 y511 (wrap64 (x4_1 + 32))) = some r := by first | (rw [hy511]; with_reducible exact H) | (have H2_ := (Option.bind_some _ _).symm.trans H; rw [hy511]; with_reducible exact H2_) | (have H2_ := (Option.bind_some _ _).symm.trans H; with_reducible exact H2_) | with_reducible exact H | (rw [hy511]; exact H) | exact H
        have Ny511 := Aside0.mk hy511
        clear hy511
        have H' := Aside0.mk H
        clear H
        go_wp2_with (first | ((with_reducible refine gate_builtin (b := .append) (xs := #[.tmp 36, .tmp 38]) rfl ?_); at_builtin; refine Kd.R_append (Kd.int .u32) (w0 := w) w.heap.size rfl (.tmp 36) (.tmp 38) 22 51 (.int .u32 0) 4 rfl Tryd.underlying22 info51 rfl (by decide) (by omega) u3 x3_1 x5_2 [.int .u32 x5_2] (fun _ => True) (fun _ => False) rfl rfl ?aP (fun _ hk => hk.elim) ?aF ?aO ?aB ?aS ?aL ?_; (case aP => exact rfl); (case aB => exact HB.out); (case aF => exact (fun _ _ => trivial)); (case aO => exact HO_3.out); (case aS => exact (below_size HB.out)); (case aL => have := LMc11.out; omega); intro v512 w12 ho hb hg hat; rw [← Ny511.out] at ho; have n0_ := Aside0.mk (Kd.R_over' HO_0.out (Kd.R_typed HO_3.out) (by decide) hg); have n1_ := Aside0.mk (hb); have n2_ := Aside0.mk (ho); clear HO_0; clear HB; clear HO_3; have HO_0 := n0_; have HB := n1_; have HO513 := n2_; clear n0_ n1_ n2_; clear ho hb hg hat))
        go_roundg k2
        case measure => have := HK1.out; have := HK2.out; omega
        case rel => exact ⟨(y511), (wrap64 (x4_1 + 32)), (by first | rfl | (simp; done) | (simp [*]; done) | (refine congrArg (Value.int _) ?_; omega) | (refine congrArg Value.bool ?_; generalize ByteArray.toList _ = z_; cases z_ <;> rfl)), H', ⟨by have := HK1.out; have := HK2.out; omega⟩, ⟨by (with_reducible repeat (first | apply Kd.R_alloc | apply Kd.R_drewN | apply Kd.R_drew)); exact HO_0.out⟩, ⟨by (with_reducible repeat (first | apply Kd.R_alloc | apply Kd.R_drewN | apply Kd.R_drew)); exact HO513.out⟩, ⟨by repeat (first | (with_reducible first | exact HB.out | apply below_alloc | apply pw_below_drewN | apply below_drew1) | exact HB.out)⟩⟩
       ·rw [if_neg c11] at H
        exact absurd H (by simp)
   ·rw [if_neg c4] at H
    have c4b0 : decide (x4_1 < (t507.length : Int)) = false := decide_eq_false c4
    clear c4
    obtain rfl := Option.some.inj H
    obtain ⟨Ao13, co13, eo13⟩ := Kd.R_slice HO_0.out
    subst eo13
    go_wp2
    go_ret
    exact ⟨_, by first | rfl | (simp [errW_none, errW_some] <;> rfl) | (simp [*, errW_none, errW_some] <;> rfl), by (with_reducible repeat (first | apply Kd.R_alloc | apply Kd.R_drewN | apply Kd.R_drew)); exact HO_3.out, by repeat (first | (with_reducible first | exact HB.out | apply below_alloc | apply pw_below_drewN | apply below_drew1) | exact HB.out)⟩

/-! ### gudgeonref01_Norm: function 46 -/
def gudgeonref01_Norm.f (k : Nat) (l0 : List Int) : Option (List Int) := (gudgeonref01_Bits.f k l0).bind fun t514 => ((gudgeonref01_Limbs.f k t514).bind fun t517 => (some t517))
set_option maxHeartbeats 8000000 in
set_option maxRecDepth 100000 in
theorem gudgeonref01_Norm.calls (k : Nat) (A0 : Option Addr) (c0 : Nat) (l0 : List Int) (r : List Int) (w : World) (hr0 : Kd.C (Kd.int .u32) w A0 l0.length l0) (hc0 : l0.length ≤ c0) (h : gudgeonref01_Norm.f k l0 = some r) :
  Calls Tryd.prog 46 #[.slice A0 l0.length c0] w fun e w' => ∃ v0_ : Value, e = .returned (v0_) ∧ Kd.R (Kd.int .u32) 51 w' w.heap.size (fun _ => True) v0_ r ∧ Below w.heap.size w w' := by
 have HR0 := Aside0.mk hr0
 have HC0 := Aside0.mk hc0
 clear hr0 hc0
 have HB := Aside0.mk (Below.refl w.heap.size w)
 have H : ((gudgeonref01_Bits.f k l0).bind fun t514 => ((gudgeonref01_Limbs.f k t514).bind fun t517 => (some t517))) = some r := h
 clear h
 replace H := Option.bind_eq_some_iff.mp H
 obtain ⟨t514, A20, H⟩ := H
 replace H : ((gudgeonref01_Limbs.f k t514).bind fun t517 => (some t517)) = some r := H
 have A2 := Aside0.mk A20
 clear A20
 replace H := Option.bind_eq_some_iff.mp H
 obtain ⟨t517, A30, H⟩ := H
 replace H : (some t517) = some r := H
 have A3 := Aside0.mk A30
 clear A30
 obtain rfl := Option.some.inj H
 go_enter Tryd.func46, Tryd.ntmps46
 go_wp2_with (first | ((with_reducible refine gate_callee (f := 67) rfl ?_); refine goL (some 4) Tryd.func67 [.slice A0 l0.length c0] ?_; (with_reducible refine (gudgeonref01_Bits.calls k _ _ l0 t514 _ ?side1 ?side2 A2.out).mono ?_); (case side1 => exact HR0.out); (case side2 => exact HC0.out); rintro e w4 ⟨v515, rfl, ho0, hb⟩; refine ⟨_, rfl, ?_⟩; have HO516 := Aside0.mk (Kd.R_lower ho0 (below_size HB.out)); replace HB := Aside0.mk (below_step HB.out hb); obtain ⟨Ao5, co5, eo5⟩ := Kd.R_slice HO516.out; subst eo5) | ((with_reducible refine gate_callee (f := 69) rfl ?_); refine goL (some 5) Tryd.func69 [.slice Ao5 t514.length co5] ?_; (with_reducible refine (gudgeonref01_Limbs.calls k _ _ t514 t517 _ ?side1 ?side2 A3.out).mono ?_); (case side1 => exact (Kd.R_reads' HO516.out).2.2); (case side2 => exact (Kd.R_reads' HO516.out).2.1); rintro e w6 ⟨v518, rfl, ho0, hb⟩; refine ⟨_, rfl, ?_⟩; replace HO516 := Aside0.mk (Kd.R_below HO516.out hb); have HO519 := Aside0.mk (Kd.R_lower ho0 (below_size HB.out)); replace HB := Aside0.mk (below_step HB.out hb)))
 go_ret
 exact ⟨_, by first | rfl | (simp [errW_none, errW_some] <;> rfl) | (simp [*, errW_none, errW_some] <;> rfl), by (with_reducible repeat (first | apply Kd.R_alloc | apply Kd.R_drewN | apply Kd.R_drew)); exact HO519.out, by repeat (first | (with_reducible first | exact HB.out | apply below_alloc | apply pw_below_drewN | apply below_drew1) | exact HB.out)⟩

/-! ### gudgeonref02_Norm: function 17 -/
def gudgeonref02_Norm.f (k : Nat) (a0_0 : Bool) (l0_1 : List Int) : Option (Bool × List Int) := (gudgeonref01_Norm.f k l0_1).bind fun t522 => (if a0_0 = true then (some (decide ((t522.length : Int) > 0), t522)) else (some (false, t522)))
set_option maxHeartbeats 8000000 in
set_option maxRecDepth 100000 in
theorem gudgeonref02_Norm.calls (k : Nat) (a0_0 : Bool) (A0_1 : Option Addr) (c0_1 : Nat) (l0_1 : List Int) (r1 : Bool) (r2 : List Int) (w : World) (hr0_1 : Kd.C (Kd.int .u32) w A0_1 l0_1.length l0_1) (hc0_1 : l0_1.length ≤ c0_1) (h : gudgeonref02_Norm.f k a0_0 l0_1 = some (r1, r2)) :
  Calls Tryd.prog 17 #[.agg #[.bool a0_0, .slice A0_1 l0_1.length c0_1]] w fun e w' => ∃ v1_ : Value, e = .returned (.agg #[.bool r1, v1_]) ∧ Kd.R (Kd.int .u32) 51 w' w.heap.size (fun _ => True) v1_ r2 ∧ Below w.heap.size w w' := by
 have hu24 := Tryd.underlying24
 have HR0_1 := Aside0.mk hr0_1
 have HC0_1 := Aside0.mk hc0_1
 clear hr0_1 hc0_1
 have HB := Aside0.mk (Below.refl w.heap.size w)
 have H : ((gudgeonref01_Norm.f k l0_1).bind fun t522 => (if a0_0 = true then (some (decide ((t522.length : Int) > 0), t522)) else (some (false, t522)))) = some (r1, r2) := h
 clear h
 replace H := Option.bind_eq_some_iff.mp H
 obtain ⟨t522, A20, H⟩ := H
 replace H : (if a0_0 = true then (some (decide ((t522.length : Int) > 0), t522)) else (some (false, t522))) = some (r1, r2) := H
 have A2 := Aside0.mk A20
 clear A20
 by_cases c3 : a0_0 = true
 ·subst c3
  have H1 : (some (decide ((t522.length : Int) > 0), t522)) = some (r1, r2) := by rw [if_pos rfl] at H; exact H
  clear H
  have H := H1
  clear H1
  rw [show decide ((t522.length : Int) > 0) = decide (0 < t522.length) from decide_eq_decide.mpr (by omega)] at H
  simp only [Option.some.injEq, Prod.mk.injEq] at H
  obtain ⟨rfl, rfl⟩ := H
  go_enter Tryd.func17, Tryd.ntmps17
  go_wp2_with (first | ((with_reducible refine gate_dst (N := 1) rfl ?_); (try (refine gate_guard (by rfl) ?_; dsimp only)); refine box_event ?hg (N := 1) ?hd (cs := #[.bool true, .slice A0_1 l0_1.length c0_1]) (t := 24) ?hr ?_; (case hd => rfl); (case hg => rfl); (case hr => first | (go_simp; done) | (go_simp; rfl)); intro gb520 hg w4 hbox hb; have BK520 := Aside0.mk (hbox); have GW520 := Aside0.mk (bxLe HB.out hg); have GE520 := GW520; replace HB := Aside0.mk (below_step HB.out hb); clear hb hbox hg) | ((with_reducible refine gate_dst (N := 2) rfl ?_); (try (refine gate_guard (by rfl) ?_; dsimp only)); refine box_event ?hg (N := 2) ?hd (cs := #[.bool false, .slice none 0 0]) (t := 24) ?hr ?_; (case hd => rfl); (case hg => rfl); (case hr => first | (go_simp; done) | (go_simp; rfl)); intro gb521 hg w5 hbox hb; have BK521 := Aside0.mk (hbox); have GW521 := Aside0.mk (bxLe HB.out hg); have GE521 := GW521; replace HB := Aside0.mk (below_step HB.out hb); have NB520_521 := Aside0.mk (neL BK520.out hg); have NB521_520 := Aside0.mk (neR BK520.out hg); replace BK520 := Aside0.mk (blk_below BK520.out hb); clear hb hbox hg; have hnb6 := NB520_521.out; have hnc6 := NB521_520.out; have hcz7_0 := bc0 BK520.out; have hcz7_1 := bc1 BK520.out; have hfz7_0 := blk_frozen BK520.out 0; have hfz7_1 := blk_frozen BK520.out 1) | ((with_reducible refine gate_callee (f := 46) rfl ?_); refine goL (some 6) Tryd.func46 [.slice A0_1 l0_1.length c0_1] ?_; (with_reducible refine (gudgeonref01_Norm.calls k _ _ l0_1 t522 _ ?side1 ?side2 A2.out).mono ?_); (case side1 => exact (Kd.C_below HR0_1.out HB.out)); (case side2 => exact HC0_1.out); rintro e w8 ⟨v523, rfl, ho0, hb⟩; refine ⟨_, rfl, ?_⟩; have HO524 := Aside0.mk (Kd.R_lower ho0 (below_size HB.out)); replace BK520 := Aside0.mk (blk_below BK520.out hb); replace BK521 := Aside0.mk (blk_below BK521.out hb); replace HB := Aside0.mk (below_step HB.out hb); have hcz9_0 := bc0 BK520.out; have hcz9_1 := bc1 BK520.out; have hfz9_0 := blk_frozen BK520.out 0; have hfz9_1 := blk_frozen BK520.out 1; obtain ⟨Ao10, co10, eo10⟩ := Kd.R_slice HO524.out; subst eo10; have hcz11_0 := bc0 BK521.out; have hcz11_1 := bc1 BK521.out; have hfz11_0 := blk_frozen BK521.out 0; have hfz11_1 := blk_frozen BK521.out 1))
  refine bodyPost_ret (results_cell_row rfl _ _ gb521 24 #[.bool (decide (0 < t522.length)), .slice Ao10 t522.length co10] (0, 0) _ rfl (by refine blk_put (cs := #[.bool (decide (0 < t522.length)), .slice none 0 0]) ?_ 1 _ rfl; refine blk_put (cs := #[.bool false, .slice none 0 0]) ?_ 0 _ rfl; exact BK521.out) Tryd.underlying24 rfl (by kernel_rfl)) rfl ?_
  exact ⟨_, by first | rfl | (simp [errW_none, errW_some] <;> rfl) | (simp [*, errW_none, errW_some] <;> rfl), by (with_reducible repeat (first | apply Kd.R_alloc | apply Kd.R_drewN | apply Kd.R_drew)); exact Kd.R_mono (Kd.R_far (p := ⟨gb521, 1, none⟩) (Kd.R_far (p := ⟨gb521, 0, none⟩) (Kd.R_types HO524.out BK521.out (by decide)) (fun _ hk => hk.2) (.bool (decide (0 < t522.length)))) (fun _ hk => hk.2) (.slice Ao10 t522.length co10)) (fun _ hk => trivial), by repeat (first | (with_reducible first | exact HB.out | apply below_alloc | apply pw_below_drewN | apply below_drew1 | refine below_set ?_ GE520.out | refine below_set ?_ GE521.out) | exact HB.out)⟩
 ·replace c3 := Bool.eq_false_iff.mpr c3
  subst c3
  have H1 : (some (false, t522)) = some (r1, r2) := by rw [if_neg (show ¬ (false = true) by decide)] at H; exact H
  clear H
  have H := H1
  clear H1
  simp only [Option.some.injEq, Prod.mk.injEq] at H
  obtain ⟨rfl, rfl⟩ := H
  go_enter Tryd.func17, Tryd.ntmps17
  go_wp2_with (first | ((with_reducible refine gate_dst (N := 1) rfl ?_); (try (refine gate_guard (by rfl) ?_; dsimp only)); refine box_event ?hg (N := 1) ?hd (cs := #[.bool false, .slice A0_1 l0_1.length c0_1]) (t := 24) ?hr ?_; (case hd => rfl); (case hg => rfl); (case hr => first | (go_simp; done) | (go_simp; rfl)); intro gb520 hg w12 hbox hb; have BK520 := Aside0.mk (hbox); have GW520 := Aside0.mk (bxLe HB.out hg); have GE520 := GW520; replace HB := Aside0.mk (below_step HB.out hb); clear hb hbox hg) | ((with_reducible refine gate_dst (N := 2) rfl ?_); (try (refine gate_guard (by rfl) ?_; dsimp only)); refine box_event ?hg (N := 2) ?hd (cs := #[.bool false, .slice none 0 0]) (t := 24) ?hr ?_; (case hd => rfl); (case hg => rfl); (case hr => first | (go_simp; done) | (go_simp; rfl)); intro gb521 hg w13 hbox hb; have BK521 := Aside0.mk (hbox); have GW521 := Aside0.mk (bxLe HB.out hg); have GE521 := GW521; replace HB := Aside0.mk (below_step HB.out hb); have NB520_521 := Aside0.mk (neL BK520.out hg); have NB521_520 := Aside0.mk (neR BK520.out hg); replace BK520 := Aside0.mk (blk_below BK520.out hb); clear hb hbox hg; have hnb14 := NB520_521.out; have hnc14 := NB521_520.out; have hcz15_0 := bc0 BK520.out; have hcz15_1 := bc1 BK520.out; have hfz15_0 := blk_frozen BK520.out 0; have hfz15_1 := blk_frozen BK520.out 1) | ((with_reducible refine gate_callee (f := 46) rfl ?_); refine goL (some 6) Tryd.func46 [.slice A0_1 l0_1.length c0_1] ?_; (with_reducible refine (gudgeonref01_Norm.calls k _ _ l0_1 t522 _ ?side1 ?side2 A2.out).mono ?_); (case side1 => exact (Kd.C_below HR0_1.out HB.out)); (case side2 => exact HC0_1.out); rintro e w16 ⟨v523, rfl, ho0, hb⟩; refine ⟨_, rfl, ?_⟩; have HO524 := Aside0.mk (Kd.R_lower ho0 (below_size HB.out)); replace BK520 := Aside0.mk (blk_below BK520.out hb); replace BK521 := Aside0.mk (blk_below BK521.out hb); replace HB := Aside0.mk (below_step HB.out hb); have hcz17_0 := bc0 BK520.out; have hcz17_1 := bc1 BK520.out; have hfz17_0 := blk_frozen BK520.out 0; have hfz17_1 := blk_frozen BK520.out 1; obtain ⟨Ao18, co18, eo18⟩ := Kd.R_slice HO524.out; subst eo18; have hcz19_0 := bc0 BK521.out; have hcz19_1 := bc1 BK521.out; have hfz19_0 := blk_frozen BK521.out 0; have hfz19_1 := blk_frozen BK521.out 1))
  refine bodyPost_ret (results_cell_row rfl _ _ gb521 24 #[.bool false, .slice Ao18 t522.length co18] (0, 0) _ rfl (by refine blk_put (cs := #[.bool false, .slice none 0 0]) ?_ 1 _ rfl; refine blk_put (cs := #[.bool false, .slice none 0 0]) ?_ 0 _ rfl; exact BK521.out) Tryd.underlying24 rfl (by kernel_rfl)) rfl ?_
  exact ⟨_, by first | rfl | (simp [errW_none, errW_some] <;> rfl) | (simp [*, errW_none, errW_some] <;> rfl), by (with_reducible repeat (first | apply Kd.R_alloc | apply Kd.R_drewN | apply Kd.R_drew)); exact Kd.R_mono (Kd.R_far (p := ⟨gb521, 1, none⟩) (Kd.R_far (p := ⟨gb521, 0, none⟩) (Kd.R_types HO524.out BK521.out (by decide)) (fun _ hk => hk.2) (.bool false)) (fun _ hk => hk.2) (.slice Ao18 t522.length co18)) (fun _ hk => trivial), by repeat (first | (with_reducible first | exact HB.out | apply below_alloc | apply pw_below_drewN | apply below_drew1 | refine below_set ?_ GE520.out | refine below_set ?_ GE521.out) | exact HB.out)⟩

/-! ### gudgeonref02_Neg: function 19 -/
def gudgeonref02_Neg.f (k : Nat) (a0_0 : Bool) (l0_1 : List Int) : Option (Bool × List Int) := (gudgeonref02_Norm.f k (!a0_0) l0_1).bind fun bt527 => (some (bt527.1, bt527.2))
set_option maxHeartbeats 8000000 in
set_option maxRecDepth 100000 in
theorem gudgeonref02_Neg.calls (k : Nat) (a0_0 : Bool) (A0_1 : Option Addr) (c0_1 : Nat) (l0_1 : List Int) (r1 : Bool) (r2 : List Int) (w : World) (hr0_1 : Kd.C (Kd.int .u32) w A0_1 l0_1.length l0_1) (hc0_1 : l0_1.length ≤ c0_1) (h : gudgeonref02_Neg.f k a0_0 l0_1 = some (r1, r2)) :
  Calls Tryd.prog 19 #[.agg #[.bool a0_0, .slice A0_1 l0_1.length c0_1]] w fun e w' => ∃ v1_ : Value, e = .returned (.agg #[.bool r1, v1_]) ∧ Kd.R (Kd.int .u32) 51 w' w.heap.size (fun _ => True) v1_ r2 ∧ Below w.heap.size w w' := by
 have hu24 := Tryd.underlying24
 have HR0_1 := Aside0.mk hr0_1
 have HC0_1 := Aside0.mk hc0_1
 clear hr0_1 hc0_1
 have HB := Aside0.mk (Below.refl w.heap.size w)
 have H : ((gudgeonref02_Norm.f k (!a0_0) l0_1).bind fun bt527 => (some (bt527.1, bt527.2))) = some (r1, r2) := h
 clear h
 replace H := Option.bind_eq_some_iff.mp H
 obtain ⟨⟨t527, t528⟩, A20, H⟩ := H
 replace H : (some (t527, t528)) = some (r1, r2) := H
 have A2 := Aside0.mk A20
 clear A20
 simp only [Option.some.injEq, Prod.mk.injEq] at H
 obtain ⟨rfl, rfl⟩ := H
 go_enter Tryd.func19, Tryd.ntmps19
 go_wp2_with (first | ((with_reducible refine gate_dst (N := 1) rfl ?_); refine box_event ?hg (N := 1) ?hd (cs := #[.bool a0_0, .slice A0_1 l0_1.length c0_1]) (t := 24) ?hr ?_; (case hd => rfl); (case hg => rfl); (case hr => first | (go_simp; done) | (go_simp; rfl)); intro gb525 hg w3 hbox hb; have BK525 := Aside0.mk (hbox); have GW525 := Aside0.mk (bxLe HB.out hg); have GE525 := GW525; replace HB := Aside0.mk (below_step HB.out hb); clear hb hbox hg) | ((with_reducible refine gate_dst (N := 2) rfl ?_); refine box_event ?hg (N := 2) ?hd (cs := #[.bool false, .slice none 0 0]) (t := 24) ?hr ?_; (case hd => rfl); (case hg => rfl); (case hr => first | (go_simp; done) | (go_simp; rfl)); intro gb526 hg w4 hbox hb; have BK526 := Aside0.mk (hbox); have GW526 := Aside0.mk (bxLe HB.out hg); have GE526 := GW526; replace HB := Aside0.mk (below_step HB.out hb); have NB525_526 := Aside0.mk (neL BK525.out hg); have NB526_525 := Aside0.mk (neR BK525.out hg); replace BK525 := Aside0.mk (blk_below BK525.out hb); clear hb hbox hg; have hnb5 := NB525_526.out; have hnc5 := NB526_525.out; have hcz6_0 := bc0 BK525.out; have hcz6_1 := bc1 BK525.out; have hfz6_0 := blk_frozen BK525.out 0; have hfz6_1 := blk_frozen BK525.out 1) | ((with_reducible refine gate_callee (f := 17) rfl ?_); refine goL (some 9) Tryd.func17 [.agg #[.bool (!a0_0), .slice A0_1 l0_1.length c0_1]] ?_; (with_reducible refine (gudgeonref02_Norm.calls k (!a0_0) _ _ l0_1 t527 t528 _ ?side1 ?side2 A2.out).mono ?_); (case side1 => exact (Kd.C_below HR0_1.out HB.out)); (case side2 => exact HC0_1.out); rintro e w7 ⟨v529, rfl, ho0, hb⟩; refine ⟨_, rfl, ?_⟩; have HO530 := Aside0.mk (Kd.R_lower ho0 (below_size HB.out)); replace BK525 := Aside0.mk (blk_below BK525.out hb); replace BK526 := Aside0.mk (blk_below BK526.out hb); replace HB := Aside0.mk (below_step HB.out hb); have hcz8_0 := bc0 BK526.out; have hcz8_1 := bc1 BK526.out; have hfz8_0 := blk_frozen BK526.out 0; have hfz8_1 := blk_frozen BK526.out 1; obtain ⟨Ao9, co9, eo9⟩ := Kd.R_slice HO530.out; subst eo9))
 refine bodyPost_ret (results_cell_row rfl _ _ gb526 24 #[.bool t527, .slice Ao9 t528.length co9] (0, 0) _ rfl (by refine blk_put (cs := #[.bool t527, .slice none 0 0]) ?_ 1 _ rfl; refine blk_put (cs := #[.bool false, .slice none 0 0]) ?_ 0 _ rfl; exact BK526.out) Tryd.underlying24 rfl (by kernel_rfl)) rfl ?_
 exact ⟨_, by first | rfl | (simp [errW_none, errW_some] <;> rfl) | (simp [*, errW_none, errW_some] <;> rfl), by (with_reducible repeat (first | apply Kd.R_alloc | apply Kd.R_drewN | apply Kd.R_drew)); exact Kd.R_mono (Kd.R_far (p := ⟨gb526, 1, none⟩) (Kd.R_far (p := ⟨gb526, 0, none⟩) (Kd.R_types HO530.out BK526.out (by decide)) (fun _ hk => hk.2) (.bool t527)) (fun _ hk => hk.2) (.slice Ao9 t528.length co9)) (fun _ hk => trivial), by repeat (first | (with_reducible first | exact HB.out | apply below_alloc | apply pw_below_drewN | apply below_drew1 | refine below_set ?_ GE525.out | refine below_set ?_ GE526.out) | exact HB.out)⟩

end Go.Proofs.YthnfmmaolkenkaaDoor.PA
/- Written by a program of this session, wip/tools/patch_print.py, over the kit's print of the loaded functions. -/
namespace Go.Proofs.YthnfmmaolkenkaaDoor.H
end Go.Proofs.YthnfmmaolkenkaaDoor.H
namespace Go.Proofs.YthnfmmaolkenkaaDoor.PA
open Go.RowKit Go.Proofs.YthnfmmaolkenkaaDoorW.PrintWords Go.Proofs.YthnfmmaolkenkaaDoorW.PrintLast Go.Proofs.YthnfmmaolkenkaaDoorW.PrintMore Go.Proofs.YthnfmmaolkenkaaDoor.H
attribute [local go_sem] max2_int min2_int max_two min_two max_three min_three max_four min_four   -- for this text's walks alone
attribute [local go_sem] box_twice
set_option linter.unusedVariables false
set_option linter.unusedSimpArgs false

/-! ### whole_Add: function 20 -/
/-! ### gudgeonref01_at: function 82 -/
def gudgeonref01_at.f (l0 : List Bool) (a1 : Int) : Option (Bool) := if a1 < (l0.length : Int) then (if 0 ≤ a1 then (some (rdOf false l0 a1)) else (none)) else (some false)
set_option maxHeartbeats 8000000 in
set_option maxRecDepth 100000 in
theorem gudgeonref01_at.calls (A0 : Option Addr) (c0 : Nat) (l0 : List Bool) (a1 : Int) (r : Bool) (w : World) (hr0 : Kd.C Kd.bool w A0 l0.length l0) (hc0 : l0.length ≤ c0) (h : gudgeonref01_at.f l0 a1 = some r) :
  Calls Tryd.prog 82 #[.slice A0 l0.length c0, .int .i64 a1] w fun e w' => e = .returned (.bool r) ∧ Drawn0 w w' := by
 have HR0 := Aside0.mk hr0
 have HC0 := Aside0.mk hc0
 clear hr0 hc0
 have H : (if a1 < (l0.length : Int) then (if 0 ≤ a1 then (some (rdOf false l0 a1)) else (none)) else (some false)) = some r := h
 clear h
 by_cases c3 : a1 < (l0.length : Int)
 ·rw [if_pos c3] at H
  have c3b0 : decide (a1 < (l0.length : Int)) = true := decide_eq_true c3
  clear c3
  by_cases c4 : 0 ≤ a1
  ·rw [if_pos c4] at H
   have c4b0 : decide (0 ≤ a1) = true := decide_eq_true c4
   clear c4
   obtain rfl := Option.some.inj H
   have p558 : 0 ≤ (a1 : Int) := of_decide_eq_true (by first | (with_reducible assumption) | assumption)
   have q558 : a1 < (l0.length : Int) := of_decide_eq_true (by first | (with_reducible assumption) | assumption)
   obtain ⟨ad558, e558, hx558_0⟩ := Kd.at_bool HR0.out a1 p558 q558
   cases e558
   replace p558 := eq_true p558
   replace q558 := eq_true q558
   go_enter Tryd.func82, Tryd.ntmps82
   go_wp2
   go_ret
   exact ⟨by first | rfl | (simp; done), by repeat (first | exact Drawn0.refl _ | apply Drawn0.step)⟩
  ·rw [if_neg c4] at H
   exact absurd H (by simp)
 ·rw [if_neg c3] at H
  have c3b0 : decide (a1 < (l0.length : Int)) = false := decide_eq_false c3
  clear c3
  obtain rfl := Option.some.inj H
  go_enter Tryd.func82, Tryd.ntmps82
  go_wp2
  go_ret
  exact ⟨by first | rfl | (simp; done), by repeat (first | exact Drawn0.refl _ | apply Drawn0.step)⟩

/-! ### gudgeonref01_add: function 70 -/
mutual
def gudgeonref01_add.l0 : Nat → List Bool → List Bool → List Bool → Bool → Int → Option (List Bool)
 | 0, _, _, _, _, _ => none
 | k + 1, x0, x1, x5, x6, x7 => if x7 < (x0.length : Int) then (gudgeonref01_add.j1 k x0 x1 x5 x6 x7 true) else (if x7 < (x1.length : Int) then (gudgeonref01_add.j1 k x0 x1 x5 x6 x7 true) else (gudgeonref01_add.j1 k x0 x1 x5 x6 x7 x6))
def gudgeonref01_add.j1 : Nat → List Bool → List Bool → List Bool → Bool → Int → Bool → Option (List Bool)
 | 0, _, _, _, _, _, _ => none
 | k + 1, x0, x1, x5, x6, x7, x23 => if x23 = true then ((gudgeonref01_at.f x0 x7).bind fun t562 => ((gudgeonref01_at.f x1 x7).bind fun t563 => (if t562 = true then (gudgeonref01_add.j2 k x0 x1 x5 x6 x7 t563 (0 + 1)) else (gudgeonref01_add.j2 k x0 x1 x5 x6 x7 t563 0)))) else ((gudgeonref01_trim.f k x5).bind fun t559 => (some t559))
def gudgeonref01_add.j2 : Nat → List Bool → List Bool → List Bool → Bool → Int → Bool → Int → Option (List Bool)
 | 0, _, _, _, _, _, _, _ => none
 | k + 1, x0, x1, x5, x6, x7, x9, x10 => if x9 = true then (if x6 = true then (if x5.length < 140737488355328 then (gudgeonref01_add.l0 k x0 x1 (x5 ++ [((Int.tmod (wrap64 ((wrap64 (x10 + 1)) + 1)) 2) == 1)]) (decide ((wrap64 ((wrap64 (x10 + 1)) + 1)) > 1)) (wrap64 (x7 + 1))) else (none)) else (if x5.length < 140737488355328 then (gudgeonref01_add.l0 k x0 x1 (x5 ++ [((Int.tmod (wrap64 (x10 + 1)) 2) == 1)]) (decide ((wrap64 (x10 + 1)) > 1)) (wrap64 (x7 + 1))) else (none))) else (if x6 = true then (if x5.length < 140737488355328 then (gudgeonref01_add.l0 k x0 x1 (x5 ++ [((Int.tmod (wrap64 (x10 + 1)) 2) == 1)]) (decide ((wrap64 (x10 + 1)) > 1)) (wrap64 (x7 + 1))) else (none)) else (if x5.length < 140737488355328 then (gudgeonref01_add.l0 k x0 x1 (x5 ++ [((Int.tmod x10 2) == 1)]) (decide (x10 > 1)) (wrap64 (x7 + 1))) else (none)))
end
def gudgeonref01_add.f (k : Nat) (l0 : List Bool) (l1 : List Bool) : Option (List Bool) := gudgeonref01_add.l0 k l0 l1 ([] : List Bool) false 0
set_option maxHeartbeats 8000000 in
set_option maxRecDepth 100000 in
theorem gudgeonref01_add.calls (k : Nat) (A0 : Option Addr) (c0 : Nat) (l0 : List Bool) (A1 : Option Addr) (c1 : Nat) (l1 : List Bool) (r : List Bool) (w : World) (hr0 : Kd.C Kd.bool w A0 l0.length l0) (hc0 : l0.length ≤ c0) (hr1 : Kd.C Kd.bool w A1 l1.length l1) (hc1 : l1.length ≤ c1) (h : gudgeonref01_add.f k l0 l1 = some r) :
  Calls Tryd.prog 70 #[.slice A0 l0.length c0, .slice A1 l1.length c1] w fun e w' => ∃ v0_ : Value, e = .returned (v0_) ∧ Kd.R Kd.bool 4 w' w.heap.size (fun _ => True) v0_ r ∧ Below w.heap.size w w' := by
 have HR0 := Aside0.mk hr0
 have HC0 := Aside0.mk hc0
 clear hr0 hc0
 have HR1 := Aside0.mk hr1
 have HC1 := Aside0.mk hc1
 clear hr1 hc1
 have HB := Aside0.mk (Below.refl w.heap.size w)
 have H : (gudgeonref01_add.l0 k l0 l1 ([] : List Bool) false 0) = some r := h
 clear h
 have H' := Aside0.mk H
 clear H
 go_enter Tryd.func70, Tryd.ntmps70
 go_wp2
 go_loopg [5, 6, 7] k (fun kq v5 v6 v7 w' => ∃ (x5_1 : List Bool) (x6_1 : Bool) (x7_1 : Int), v6 = .bool x6_1 ∧ v7 = .int .i64 x7_1 ∧ Aside0 (gudgeonref01_add.l0 kq l0 l1 x5_1 x6_1 x7_1 = some r) ∧ Aside0 (kq ≤ k) ∧ Aside0 (Kd.R Kd.bool 4 w' w.heap.size (fun _ => True) v5 x5_1) ∧ Aside0 (Below w.heap.size w w'))
 case atStart => exact ⟨(([] : List Bool)), (false), (0), (by first | rfl | (simp; done)), (by first | rfl | (simp; done)), H', ⟨Nat.le_refl _⟩, ⟨by first | exact Kd.R_nil _ _ _ _ _ | exact Kd.N_nil _ _ _ _ _ | exact Kd.V_nil _ _ _ _ _ | exact Kd.Q_nil _ _ _ _ _ | exact Kd.S_nil _ _ _ _ _⟩, ⟨HB.out⟩⟩
 case round =>
  clear H'
  try clear c1
  try clear p2
  obtain ⟨x5_1, x6_1, x7_1, rfl, rfl, HA, HK1, HO_5, HB⟩ := hrel
  cases gk with
  | zero => exact absurd HA.out (by simp [gudgeonref01_add.l0])
  | succ k1 =>
   have H := HA.out
   clear HA
   simp only [gudgeonref01_add.l0] at H
   have HC3 := Aside0.mk H
   clear H
   go_upto_region 4 with (fail)
   go_cut [23] (fun v23 wc => ∃ (kq : Nat) (x23_2 : Bool), v23 = .bool x23_2 ∧ Aside0 (gudgeonref01_add.j1 kq l0 l1 x5_1 x6_1 x7_1 x23_2 = some r) ∧ Aside0 (kq ≤ k1) ∧ Aside0 (Kd.R Kd.bool 4 wc w.heap.size (fun _ => True) u5 x5_1) ∧ Aside0 (Below w.heap.size w wc))
   case first =>
    have H := HC3.out
    clear HC3
    by_cases c4 : x7_1 < (l0.length : Int)
    ·rw [if_pos c4] at H
     have c4b0 : decide (x7_1 < (l0.length : Int)) = true := decide_eq_true c4
     clear c4
     (first | rw [c4b0] | rw [c4b1] | (simp only [i64_w, i32_w]; rw [c4b0]) | skip)
     have H' := Aside0.mk H
     clear H
     go_wp2
     go_meet
     case rel => exact ⟨_, (true), (by first | rfl | (simp; done)), H', ⟨by have := HK1.out; first | omega | exact Nat.le_refl _⟩, ⟨HO_5.out⟩, ⟨HB.out⟩⟩
    ·rw [if_neg c4] at H
     have c4b0 : decide (x7_1 < (l0.length : Int)) = false := decide_eq_false c4
     clear c4
     (first | rw [c4b0] | rw [c4b1] | (simp only [i64_w, i32_w]; rw [c4b0]) | skip)
     by_cases c5 : x7_1 < (l1.length : Int)
     ·rw [if_pos c5] at H
      have c5b0 : decide (x7_1 < (l1.length : Int)) = true := decide_eq_true c5
      clear c5
      have H' := Aside0.mk H
      clear H
      go_wp2
      go_meet
      case rel => exact ⟨_, (true), (by first | rfl | (simp; done)), H', ⟨by have := HK1.out; first | omega | exact Nat.le_refl _⟩, ⟨HO_5.out⟩, ⟨HB.out⟩⟩
     ·rw [if_neg c5] at H
      have c5b0 : decide (x7_1 < (l1.length : Int)) = false := decide_eq_false c5
      clear c5
      have H' := Aside0.mk H
      clear H
      go_wp2
      go_meet
      case rel => exact ⟨_, (x6_1), (by first | rfl | (simp; done)), H', ⟨by have := HK1.out; first | omega | exact Nat.le_refl _⟩, ⟨HO_5.out⟩, ⟨HB.out⟩⟩
   case rest =>
    clear HC3
    try clear c1
    try clear p2
    try clear c4
    try clear c4b0
    try clear c5
    try clear c5b0
    try clear p2
    obtain ⟨kq, x23_2, rfl, HA, HJ2, HO_5, HB⟩ := hcut
    cases kq with
    | zero => exact absurd HA.out (by simp [gudgeonref01_add.j1])
    | succ kj2 =>
     have H := HA.out
     clear HA
     simp only [gudgeonref01_add.j1] at H
     by_cases c6 : x23_2 = true
     ·subst c6
      rw [if_pos rfl] at H
      obtain ⟨t562, A70, H⟩ := Option.bind_eq_some_iff.mp H
      try dsimp only at H
      have A7 := Aside0.mk A70
      clear A70
      obtain ⟨t563, A80, H⟩ := Option.bind_eq_some_iff.mp H
      try dsimp only at H
      have A8 := Aside0.mk A80
      clear A80
      have HC9 := Aside0.mk H
      clear H
      go_upto_if 32 with (first | ((with_reducible refine gate_callee (f := 82) rfl ?_); refine goL (some 28) Tryd.func82 [.slice A0 l0.length c0, .int .i64 x7_1] ?_; (with_reducible refine (gudgeonref01_at.calls _ _ l0 x7_1 t562 _ ?side1 ?side2 A7.out).mono ?_); (case side1 => repeat (first | exact (Kd.C_below HR0.out HB.out) | (with_reducible refine Kd.C_alloc ?_ _) | (with_reducible refine Kd.C_drewN ?_ _) | (with_reducible refine Kd.C_drew ?_))); (case side2 => exact HC0.out); rintro e w' ⟨rfl, ⟨nd, rfl⟩⟩; refine ⟨_, rfl, ?_⟩) | ((with_reducible refine gate_callee (f := 82) rfl ?_); refine goL (some 31) Tryd.func82 [.slice A1 l1.length c1, .int .i64 x7_1] ?_; (with_reducible refine (gudgeonref01_at.calls _ _ l1 x7_1 t563 _ ?side1 ?side2 A8.out).mono ?_); (case side1 => repeat (first | exact (Kd.C_below HR1.out (by repeat first | exact HB.out | refine bxSet ?_ (by assumption) | apply below_alloc | apply pw_below_drewN)) | (with_reducible refine Kd.C_alloc ?_ _) | (with_reducible refine Kd.C_drewN ?_ _) | (with_reducible refine Kd.C_drew ?_))); (case side2 => exact HC1.out); rintro e w' ⟨rfl, ⟨nd, rfl⟩⟩; refine ⟨_, rfl, ?_⟩))
      (try simp only [Act.put, List.setIfInBounds_toArray, List.set_cons_zero, List.set_cons_succ])
      go_cut [10] (fun v10 wc => ∃ (kq : Nat) (x10_8 : Int), v10 = .int .i64 x10_8 ∧ Aside0 (gudgeonref01_add.j2 kq l0 l1 x5_1 x6_1 x7_1 t563 x10_8 = some r) ∧ Aside0 (kq ≤ kj2) ∧ Aside0 (Kd.R Kd.bool 4 wc w.heap.size (fun _ => True) u5 x5_1) ∧ Aside0 (Below w.heap.size w wc))
      case first =>
       have H := HC9.out
       clear HC9
       by_cases c10 : t562 = true
       ·subst c10
        rw [if_pos rfl] at H
        have H' := Aside0.mk H
        clear H
        go_wp2
        go_meet
        case rel => exact ⟨_, (0 + 1), (by first | rfl | (simp; done) | (simp [*]; done) | (refine congrArg (Value.int _) ?_; omega) | (refine congrArg Value.bool ?_; generalize ByteArray.toList _ = z_; cases z_ <;> rfl)), H', ⟨by have := HK1.out; have := HJ2.out; first | omega | exact Nat.le_refl _⟩, ⟨by (with_reducible repeat (first | apply Kd.R_alloc | apply Kd.R_drewN | apply Kd.R_drew)); exact HO_5.out⟩, ⟨by repeat first | exact HB.out | refine bxSet ?_ (by assumption) | apply below_alloc | apply pw_below_drewN⟩⟩
       ·replace c10 := Bool.eq_false_iff.mpr c10
        subst c10
        rw [if_neg (show ¬ (false = true) by decide)] at H
        have H' := Aside0.mk H
        clear H
        go_wp2
        go_meet
        case rel => exact ⟨_, (0), (by first | rfl | (simp; done) | (simp [*]; done) | (refine congrArg (Value.int _) ?_; omega) | (refine congrArg Value.bool ?_; generalize ByteArray.toList _ = z_; cases z_ <;> rfl)), H', ⟨by have := HK1.out; have := HJ2.out; first | omega | exact Nat.le_refl _⟩, ⟨by (with_reducible repeat (first | apply Kd.R_alloc | apply Kd.R_drewN | apply Kd.R_drew)); exact HO_5.out⟩, ⟨by repeat first | exact HB.out | refine bxSet ?_ (by assumption) | apply below_alloc | apply pw_below_drewN⟩⟩
      case rest =>
       clear HC9
       try clear c1
       try clear p2
       try clear c4
       try clear c4b0
       try clear c5
       try clear c5b0
       try clear c6
       try clear c7
       try clear c8
       try clear c10
       try clear p2
       obtain ⟨kq, x10_8, rfl, HA, HJ8, HO_5, HB⟩ := hcut
       cases kq with
       | zero => exact absurd HA.out (by simp [gudgeonref01_add.j2])
       | succ kj8 =>
        have H := HA.out
        clear HA
        simp only [gudgeonref01_add.j2] at H
        by_cases c11 : t563 = true
        ·subst c11
         rw [if_pos rfl] at H
         by_cases c12 : x6_1 = true
         ·subst c12
          rw [if_pos rfl] at H
          by_cases c13 : x5_1.length < 140737488355328
          ·rw [if_pos c13] at H
           have LMc13 := Aside0.mk c13
           clear c13
           obtain ⟨y564, hy564⟩ : ∃ y_ : List Bool, y_ = (x5_1 ++ [((Int.tmod (wrap64 ((wrap64 (x10_8 + 1)) + 1)) 2) == 1)]) := ⟨_, rfl⟩
           replace H : (gudgeonref01_add.l0 kj8 l0 l1 y564 (decide ((wrap64 ((wrap64 (x10_8 + 1)) + 1)) > 1)) (wrap64 (x7_1 + 1))) = some r := by first | (rw [hy564]; with_reducible exact H) | (have H2_ := (Option.bind_some _ _).symm.trans H; rw [hy564]; with_reducible exact H2_) | (have H2_ := (Option.bind_some _ _).symm.trans H; with_reducible exact H2_) | with_reducible exact H | (rw [hy564]; exact H) | exact H
           have Ny564 := Aside0.mk hy564
           clear hy564
           have H' := Aside0.mk H
           clear H
           go_wp2_with (first | ((with_reducible refine gate_builtin (b := .append) (xs := #[.tmp 41, .tmp 45]) rfl ?_); (try (refine gate_guard (by rfl) ?_; dsimp only)); at_builtin; refine Kd.R_append Kd.bool (w0 := w) w.heap.size rfl (.tmp 41) (.tmp 45) 69 4 (.bool false) 1 rfl Tryd.underlying69 info4 rfl (by decide) (by omega) u5 x5_1 ((Int.tmod (wrap64 ((wrap64 (x10_8 + 1)) + 1)) 2) == 1) [.bool ((Int.tmod (wrap64 ((wrap64 (x10_8 + 1)) + 1)) 2) == 1)] (fun _ => True) (fun _ => False) rfl rfl ?aP (fun _ hk => hk.elim) ?aF ?aO ?aB ?aS ?aL ?_; (case aP => exact rfl); (case aB => exact HB.out); (case aF => exact (fun _ _ => trivial)); (case aO => exact HO_5.out); (case aS => exact (below_size HB.out)); (case aL => have := LMc13.out; omega); intro v565 w14 ho hb hg hat; rw [← Ny564.out] at ho; have n0_ := Aside0.mk (hb); have n1_ := Aside0.mk (ho); clear HB; clear HO_5; have HB := n0_; have HO566 := n1_; clear n0_ n1_; clear ho hb hg hat))
           go_roundg kj8
           case measure => have := HK1.out; have := HJ2.out; have := HJ8.out; omega
           case rel => exact ⟨(y564), (decide ((wrap64 ((wrap64 (x10_8 + 1)) + 1)) > 1)), (wrap64 (x7_1 + 1)), (by first | rfl | (simp; done)), (by first | rfl | (simp; done)), H', ⟨by have := HK1.out; have := HJ2.out; have := HJ8.out; omega⟩, ⟨HO566.out⟩, ⟨HB.out⟩⟩
          ·rw [if_neg c13] at H
           exact absurd H (by simp)
         ·replace c12 := Bool.eq_false_iff.mpr c12
          subst c12
          rw [if_neg (show ¬ (false = true) by decide)] at H
          by_cases c15 : x5_1.length < 140737488355328
          ·rw [if_pos c15] at H
           have LMc15 := Aside0.mk c15
           clear c15
           obtain ⟨y567, hy567⟩ : ∃ y_ : List Bool, y_ = (x5_1 ++ [((Int.tmod (wrap64 (x10_8 + 1)) 2) == 1)]) := ⟨_, rfl⟩
           replace H : (gudgeonref01_add.l0 kj8 l0 l1 y567 (decide ((wrap64 (x10_8 + 1)) > 1)) (wrap64 (x7_1 + 1))) = some r := by first | (rw [hy567]; with_reducible exact H) | (have H2_ := (Option.bind_some _ _).symm.trans H; rw [hy567]; with_reducible exact H2_) | (have H2_ := (Option.bind_some _ _).symm.trans H; with_reducible exact H2_) | with_reducible exact H | (rw [hy567]; exact H) | exact H
           have Ny567 := Aside0.mk hy567
           clear hy567
           have H' := Aside0.mk H
           clear H
           go_wp2_with (first | ((with_reducible refine gate_builtin (b := .append) (xs := #[.tmp 41, .tmp 45]) rfl ?_); (try (refine gate_guard (by rfl) ?_; dsimp only)); at_builtin; refine Kd.R_append Kd.bool (w0 := w) w.heap.size rfl (.tmp 41) (.tmp 45) 69 4 (.bool false) 1 rfl Tryd.underlying69 info4 rfl (by decide) (by omega) u5 x5_1 ((Int.tmod (wrap64 (x10_8 + 1)) 2) == 1) [.bool ((Int.tmod (wrap64 (x10_8 + 1)) 2) == 1)] (fun _ => True) (fun _ => False) rfl rfl ?aP (fun _ hk => hk.elim) ?aF ?aO ?aB ?aS ?aL ?_; (case aP => exact rfl); (case aB => exact HB.out); (case aF => exact (fun _ _ => trivial)); (case aO => exact HO_5.out); (case aS => exact (below_size HB.out)); (case aL => have := LMc15.out; omega); intro v568 w16 ho hb hg hat; rw [← Ny567.out] at ho; have n0_ := Aside0.mk (hb); have n1_ := Aside0.mk (ho); clear HB; clear HO_5; have HB := n0_; have HO569 := n1_; clear n0_ n1_; clear ho hb hg hat))
           go_roundg kj8
           case measure => have := HK1.out; have := HJ2.out; have := HJ8.out; omega
           case rel => exact ⟨(y567), (decide ((wrap64 (x10_8 + 1)) > 1)), (wrap64 (x7_1 + 1)), (by first | rfl | (simp; done)), (by first | rfl | (simp; done)), H', ⟨by have := HK1.out; have := HJ2.out; have := HJ8.out; omega⟩, ⟨HO569.out⟩, ⟨HB.out⟩⟩
          ·rw [if_neg c15] at H
           exact absurd H (by simp)
        ·replace c11 := Bool.eq_false_iff.mpr c11
         subst c11
         rw [if_neg (show ¬ (false = true) by decide)] at H
         by_cases c17 : x6_1 = true
         ·subst c17
          rw [if_pos rfl] at H
          by_cases c18 : x5_1.length < 140737488355328
          ·rw [if_pos c18] at H
           have LMc18 := Aside0.mk c18
           clear c18
           obtain ⟨y570, hy570⟩ : ∃ y_ : List Bool, y_ = (x5_1 ++ [((Int.tmod (wrap64 (x10_8 + 1)) 2) == 1)]) := ⟨_, rfl⟩
           replace H : (gudgeonref01_add.l0 kj8 l0 l1 y570 (decide ((wrap64 (x10_8 + 1)) > 1)) (wrap64 (x7_1 + 1))) = some r := by first | (rw [hy570]; with_reducible exact H) | (have H2_ := (Option.bind_some _ _).symm.trans H; rw [hy570]; with_reducible exact H2_) | (have H2_ := (Option.bind_some _ _).symm.trans H; with_reducible exact H2_) | with_reducible exact H | (rw [hy570]; exact H) | exact H
           have Ny570 := Aside0.mk hy570
           clear hy570
           have H' := Aside0.mk H
           clear H
           go_wp2_with (first | ((with_reducible refine gate_builtin (b := .append) (xs := #[.tmp 41, .tmp 45]) rfl ?_); (try (refine gate_guard (by rfl) ?_; dsimp only)); at_builtin; refine Kd.R_append Kd.bool (w0 := w) w.heap.size rfl (.tmp 41) (.tmp 45) 69 4 (.bool false) 1 rfl Tryd.underlying69 info4 rfl (by decide) (by omega) u5 x5_1 ((Int.tmod (wrap64 (x10_8 + 1)) 2) == 1) [.bool ((Int.tmod (wrap64 (x10_8 + 1)) 2) == 1)] (fun _ => True) (fun _ => False) rfl rfl ?aP (fun _ hk => hk.elim) ?aF ?aO ?aB ?aS ?aL ?_; (case aP => exact rfl); (case aB => exact HB.out); (case aF => exact (fun _ _ => trivial)); (case aO => exact HO_5.out); (case aS => exact (below_size HB.out)); (case aL => have := LMc18.out; omega); intro v571 w19 ho hb hg hat; rw [← Ny570.out] at ho; have n0_ := Aside0.mk (hb); have n1_ := Aside0.mk (ho); clear HB; clear HO_5; have HB := n0_; have HO572 := n1_; clear n0_ n1_; clear ho hb hg hat))
           go_roundg kj8
           case measure => have := HK1.out; have := HJ2.out; have := HJ8.out; omega
           case rel => exact ⟨(y570), (decide ((wrap64 (x10_8 + 1)) > 1)), (wrap64 (x7_1 + 1)), (by first | rfl | (simp; done)), (by first | rfl | (simp; done)), H', ⟨by have := HK1.out; have := HJ2.out; have := HJ8.out; omega⟩, ⟨HO572.out⟩, ⟨HB.out⟩⟩
          ·rw [if_neg c18] at H
           exact absurd H (by simp)
         ·replace c17 := Bool.eq_false_iff.mpr c17
          subst c17
          rw [if_neg (show ¬ (false = true) by decide)] at H
          by_cases c20 : x5_1.length < 140737488355328
          ·rw [if_pos c20] at H
           have LMc20 := Aside0.mk c20
           clear c20
           obtain ⟨y573, hy573⟩ : ∃ y_ : List Bool, y_ = (x5_1 ++ [((Int.tmod x10_8 2) == 1)]) := ⟨_, rfl⟩
           replace H : (gudgeonref01_add.l0 kj8 l0 l1 y573 (decide (x10_8 > 1)) (wrap64 (x7_1 + 1))) = some r := by first | (rw [hy573]; with_reducible exact H) | (have H2_ := (Option.bind_some _ _).symm.trans H; rw [hy573]; with_reducible exact H2_) | (have H2_ := (Option.bind_some _ _).symm.trans H; with_reducible exact H2_) | with_reducible exact H | (rw [hy573]; exact H) | exact H
           have Ny573 := Aside0.mk hy573
           clear hy573
           have H' := Aside0.mk H
           clear H
           go_wp2_with (first | ((with_reducible refine gate_builtin (b := .append) (xs := #[.tmp 41, .tmp 45]) rfl ?_); (try (refine gate_guard (by rfl) ?_; dsimp only)); at_builtin; refine Kd.R_append Kd.bool (w0 := w) w.heap.size rfl (.tmp 41) (.tmp 45) 69 4 (.bool false) 1 rfl Tryd.underlying69 info4 rfl (by decide) (by omega) u5 x5_1 ((Int.tmod x10_8 2) == 1) [.bool ((Int.tmod x10_8 2) == 1)] (fun _ => True) (fun _ => False) rfl rfl ?aP (fun _ hk => hk.elim) ?aF ?aO ?aB ?aS ?aL ?_; (case aP => exact rfl); (case aB => exact HB.out); (case aF => exact (fun _ _ => trivial)); (case aO => exact HO_5.out); (case aS => exact (below_size HB.out)); (case aL => have := LMc20.out; omega); intro v574 w21 ho hb hg hat; rw [← Ny573.out] at ho; have n0_ := Aside0.mk (hb); have n1_ := Aside0.mk (ho); clear HB; clear HO_5; have HB := n0_; have HO575 := n1_; clear n0_ n1_; clear ho hb hg hat))
           go_roundg kj8
           case measure => have := HK1.out; have := HJ2.out; have := HJ8.out; omega
           case rel => exact ⟨(y573), (decide (x10_8 > 1)), (wrap64 (x7_1 + 1)), (by first | rfl | (simp; done)), (by first | rfl | (simp; done)), H', ⟨by have := HK1.out; have := HJ2.out; have := HJ8.out; omega⟩, ⟨HO575.out⟩, ⟨HB.out⟩⟩
          ·rw [if_neg c20] at H
           exact absurd H (by simp)
     ·replace c6 := Bool.eq_false_iff.mpr c6
      subst c6
      rw [if_neg (show ¬ (false = true) by decide)] at H
      obtain ⟨t559, A220, H⟩ := Option.bind_eq_some_iff.mp H
      try dsimp only at H
      have A22 := Aside0.mk A220
      clear A220
      obtain rfl := Option.some.inj H
      obtain ⟨Ao23, co23, eo23⟩ := Kd.R_slice HO_5.out
      subst eo23
      go_wp2_with (first | ((with_reducible refine gate_callee (f := 81) rfl ?_); refine goL (some 50) Tryd.func81 [.slice Ao23 x5_1.length co23] ?_; (with_reducible refine (gudgeonref01_trim.calls kj2 _ _ x5_1 t559 _ ?side1 ?side2 A22.out).mono ?_); (case side1 => exact (Kd.R_reads' HO_5.out).2.2); (case side2 => exact (Kd.R_reads' HO_5.out).2.1); rintro e w24 ⟨v560, rfl, ho0, hb⟩; refine ⟨_, rfl, ?_⟩; have HO561 := Aside0.mk (Kd.R_lower (Kd.R_new' ho0 (Kd.R_lt HO_5.out)) (below_size HB.out)); replace HB := Aside0.mk (below_step HB.out hb)))
      go_ret
      exact ⟨_, rfl, Kd.R_mono HO561.out (fun _ hk => trivial), HB.out⟩

/-! ### gudgeonref01_Add: function 44 -/
def gudgeonref01_Add.f (k : Nat) (l0 : List Int) (l1 : List Int) : Option (List Int) := (gudgeonref01_Bits.f k l0).bind fun t576 => ((gudgeonref01_Bits.f k l1).bind fun t579 => ((gudgeonref01_add.f k t576 t579).bind fun t582 => ((gudgeonref01_Limbs.f k t582).bind fun t585 => (some t585))))
set_option maxHeartbeats 8000000 in
set_option maxRecDepth 100000 in
theorem gudgeonref01_Add.calls (k : Nat) (A0 : Option Addr) (c0 : Nat) (l0 : List Int) (A1 : Option Addr) (c1 : Nat) (l1 : List Int) (r : List Int) (w : World) (hr0 : Kd.C (Kd.int .u32) w A0 l0.length l0) (hc0 : l0.length ≤ c0) (hr1 : Kd.C (Kd.int .u32) w A1 l1.length l1) (hc1 : l1.length ≤ c1) (h : gudgeonref01_Add.f k l0 l1 = some r) :
  Calls Tryd.prog 44 #[.slice A0 l0.length c0, .slice A1 l1.length c1] w fun e w' => ∃ v0_ : Value, e = .returned (v0_) ∧ Kd.R (Kd.int .u32) 51 w' w.heap.size (fun _ => True) v0_ r ∧ Below w.heap.size w w' := by
 have HR0 := Aside0.mk hr0
 have HC0 := Aside0.mk hc0
 clear hr0 hc0
 have HR1 := Aside0.mk hr1
 have HC1 := Aside0.mk hc1
 clear hr1 hc1
 have HB := Aside0.mk (Below.refl w.heap.size w)
 have H : ((gudgeonref01_Bits.f k l0).bind fun t576 => ((gudgeonref01_Bits.f k l1).bind fun t579 => ((gudgeonref01_add.f k t576 t579).bind fun t582 => ((gudgeonref01_Limbs.f k t582).bind fun t585 => (some t585))))) = some r := h
 clear h
 obtain ⟨t576, A30, H⟩ := Option.bind_eq_some_iff.mp H
 try dsimp only at H
 have A3 := Aside0.mk A30
 clear A30
 obtain ⟨t579, A40, H⟩ := Option.bind_eq_some_iff.mp H
 try dsimp only at H
 have A4 := Aside0.mk A40
 clear A40
 obtain ⟨t582, A50, H⟩ := Option.bind_eq_some_iff.mp H
 try dsimp only at H
 have A5 := Aside0.mk A50
 clear A50
 obtain ⟨t585, A60, H⟩ := Option.bind_eq_some_iff.mp H
 try dsimp only at H
 have A6 := Aside0.mk A60
 clear A60
 obtain rfl := Option.some.inj H
 go_enter Tryd.func44, Tryd.ntmps44
 go_wp2_with (first | ((with_reducible refine gate_callee (f := 67) rfl ?_); refine goL (some 6) Tryd.func67 [.slice A0 l0.length c0] ?_; (with_reducible refine (gudgeonref01_Bits.calls k _ _ l0 t576 _ ?side1 ?side2 A3.out).mono ?_); (case side1 => exact HR0.out); (case side2 => exact HC0.out); rintro e w7 ⟨v577, rfl, ho0, hb⟩; refine ⟨_, rfl, ?_⟩; have HO578 := Aside0.mk (Kd.R_lower ho0 (below_size HB.out)); replace HB := Aside0.mk (below_step HB.out hb)) | ((with_reducible refine gate_callee (f := 67) rfl ?_); refine goL (some 8) Tryd.func67 [.slice A1 l1.length c1] ?_; (with_reducible refine (gudgeonref01_Bits.calls k _ _ l1 t579 _ ?side1 ?side2 A4.out).mono ?_); (case side1 => exact (Kd.C_below HR1.out HB.out)); (case side2 => exact HC1.out); rintro e w8 ⟨v580, rfl, ho0, hb⟩; refine ⟨_, rfl, ?_⟩; have HO581 := Aside0.mk (Kd.R_lower (Kd.R_new' ho0 (Kd.R_lt HO578.out)) (below_size HB.out)); replace HO578 := Aside0.mk (Kd.R_elder' HO578.out (Kd.R_base ho0) hb); replace HB := Aside0.mk (below_step HB.out hb); obtain ⟨Ao9, co9, eo9⟩ := Kd.R_slice HO578.out; subst eo9; obtain ⟨Ao10, co10, eo10⟩ := Kd.R_slice HO581.out; subst eo10) | ((with_reducible refine gate_callee (f := 70) rfl ?_); refine goL (some 9) Tryd.func70 [.slice Ao9 t576.length co9, .slice Ao10 t579.length co10] ?_; (with_reducible refine (gudgeonref01_add.calls k _ _ t576 _ _ t579 t582 _ ?side1 ?side2 ?side3 ?side4 A5.out).mono ?_); (case side1 => exact (Kd.R_reads' HO578.out).2.2); (case side2 => exact (Kd.R_reads' HO578.out).2.1); (case side3 => exact (Kd.R_reads' HO581.out).2.2); (case side4 => exact (Kd.R_reads' HO581.out).2.1); rintro e w11 ⟨v583, rfl, ho0, hb⟩; refine ⟨_, rfl, ?_⟩; have HO584 := Aside0.mk (Kd.R_lower (Kd.R_new' (Kd.R_new' ho0 (Kd.R_lt HO578.out)) (Kd.R_lt HO581.out)) (below_size HB.out)); replace HB := Aside0.mk (below_step HB.out hb); obtain ⟨Ao12, co12, eo12⟩ := Kd.R_slice HO584.out; subst eo12) | ((with_reducible refine gate_callee (f := 69) rfl ?_); refine goL (some 10) Tryd.func69 [.slice Ao12 t582.length co12] ?_; (with_reducible refine (gudgeonref01_Limbs.calls k _ _ t582 t585 _ ?side1 ?side2 A6.out).mono ?_); (case side1 => exact (Kd.R_reads' HO584.out).2.2); (case side2 => exact (Kd.R_reads' HO584.out).2.1); rintro e w13 ⟨v586, rfl, ho0, hb⟩; refine ⟨_, rfl, ?_⟩; have HO587 := Aside0.mk (Kd.R_lower ho0 (below_size HB.out)); replace HB := Aside0.mk (below_step HB.out hb)))
 go_ret
 exact ⟨_, rfl, HO587.out, HB.out⟩

end Go.Proofs.YthnfmmaolkenkaaDoor.PA
/- Written by a program of this session, wip/tools/patch_print.py, over the kit's print of the loaded functions. -/
namespace Go.Proofs.YthnfmmaolkenkaaDoor.H
end Go.Proofs.YthnfmmaolkenkaaDoor.H
namespace Go.Proofs.YthnfmmaolkenkaaDoor.PA
open Go.RowKit Go.Proofs.YthnfmmaolkenkaaDoorW.PrintWords Go.Proofs.YthnfmmaolkenkaaDoorW.PrintLast Go.Proofs.YthnfmmaolkenkaaDoorW.PrintMore Go.Proofs.YthnfmmaolkenkaaDoor.H
attribute [local go_sem] max2_int min2_int max_two min_two max_three min_three max_four min_four   -- for this text's walks alone
set_option linter.unusedVariables false
set_option linter.unusedSimpArgs false

/-! ### gudgeonref01_cmp: function 72 -/
mutual
def gudgeonref01_cmp.j0 : Nat → List Bool → List Bool → Int → Option (Int)
 | 0, _, _, _ => none
 | k + 1, x0, x1, x5 => gudgeonref01_cmp.l0 k x0 x1 (wrap64 (x5 - 1))
def gudgeonref01_cmp.l0 : Nat → List Bool → List Bool → Int → Option (Int)
 | 0, _, _, _ => none
 | k + 1, x0, x1, x6 => if x6 ≥ 0 then ((gudgeonref01_at.f x0 x6).bind fun t588 => ((gudgeonref01_at.f x1 x6).bind fun t589 => (if (t588 != t589) = true then (gudgeonref01_cmp.j2 k x0 x1 x6 t588 t589 t588) else (gudgeonref01_cmp.j2 k x0 x1 x6 t588 t589 false)))) else (some 0)
def gudgeonref01_cmp.j2 : Nat → List Bool → List Bool → Int → Bool → Bool → Bool → Option (Int)
 | 0, _, _, _, _, _, _ => none
 | k + 1, x0, x1, x6, x7, x8, x34 => if x34 = true then (some 1) else (if (x7 != x8) = true then (some (-1)) else (gudgeonref01_cmp.l0 k x0 x1 (wrap64 (x6 - 1))))
end
def gudgeonref01_cmp.f (k : Nat) (l0 : List Bool) (l1 : List Bool) : Option (Int) := if (l1.length : Int) > (l0.length : Int) then (gudgeonref01_cmp.j0 k l0 l1 (l1.length : Int)) else (gudgeonref01_cmp.j0 k l0 l1 (l0.length : Int))
set_option maxHeartbeats 8000000 in
set_option maxRecDepth 100000 in
theorem gudgeonref01_cmp.calls (k : Nat) (A0 : Option Addr) (c0 : Nat) (l0 : List Bool) (A1 : Option Addr) (c1 : Nat) (l1 : List Bool) (r : Int) (w : World) (hr0 : Kd.C Kd.bool w A0 l0.length l0) (hc0 : l0.length ≤ c0) (hr1 : Kd.C Kd.bool w A1 l1.length l1) (hc1 : l1.length ≤ c1) (h : gudgeonref01_cmp.f k l0 l1 = some r) :
  Calls Tryd.prog 72 #[.slice A0 l0.length c0, .slice A1 l1.length c1] w fun e w' => e = .returned (.int .i64 r) ∧ Drawn0 w w' := by
 have HR0 := Aside0.mk hr0
 have HC0 := Aside0.mk hc0
 clear hr0 hc0
 have HR1 := Aside0.mk hr1
 have HC1 := Aside0.mk hc1
 clear hr1 hc1
 have H : (if (l1.length : Int) > (l0.length : Int) then (gudgeonref01_cmp.j0 k l0 l1 (l1.length : Int)) else (gudgeonref01_cmp.j0 k l0 l1 (l0.length : Int))) = some r := h
 clear h
 have HC3 := Aside0.mk H
 clear H
 go_enter Tryd.func72, Tryd.ntmps72
 go_upto_if 14 with (fail)
 go_cut [5] (fun v5 wc => ∃ (kq : Nat) (x5_2 : Int), v5 = .int .i64 x5_2 ∧ Aside0 (gudgeonref01_cmp.j0 kq l0 l1 x5_2 = some r) ∧ Aside0 (kq ≤ k) ∧ Drawn0 w wc)
 case first =>
  have H := HC3.out
  clear HC3
  by_cases c4 : (l1.length : Int) > (l0.length : Int)
  ·rw [if_pos c4] at H
   have c4b0 : decide ((l0.length : Int) < (l1.length : Int)) = true := decide_eq_true c4
   have c4b1 : decide (l0.length < l1.length) = true := decide_eq_true (Int.ofNat_lt.mp c4)
   clear c4
   (first | rw [c4b0] | rw [c4b1] | (simp only [i64_w, i32_w]; rw [c4b0]) | skip)
   have H' := Aside0.mk H
   clear H
   go_wp2
   go_meet
   case rel => exact ⟨_, ((l1.length : Int)), (by first | rfl | (simp; done)), H', ⟨by first | omega | exact Nat.le_refl _⟩, by repeat (first | exact Drawn0.refl _ | apply Drawn0.step)⟩
  ·rw [if_neg c4] at H
   have c4b0 : decide ((l0.length : Int) < (l1.length : Int)) = false := decide_eq_false c4
   have c4b1 : decide (l0.length < l1.length) = false := decide_eq_false (fun h => c4 (Int.ofNat_lt.mpr h))
   clear c4
   (first | rw [c4b0] | rw [c4b1] | (simp only [i64_w, i32_w]; rw [c4b0]) | skip)
   have H' := Aside0.mk H
   clear H
   go_wp2
   go_meet
   case rel => exact ⟨_, ((l0.length : Int)), (by first | rfl | (simp; done)), H', ⟨by first | omega | exact Nat.le_refl _⟩, by repeat (first | exact Drawn0.refl _ | apply Drawn0.step)⟩
 case rest =>
  clear HC3
  try clear c1
  try clear p2
  try clear c4
  try clear c4b0
  try clear c4b1
  obtain ⟨kq, x5_2, rfl, HA, HJ2, ⟨mc2, rfl⟩⟩ := hcut
  cases kq with
  | zero => exact absurd HA.out (by simp [gudgeonref01_cmp.j0])
  | succ kj2 =>
   have H := HA.out
   clear HA
   simp only [gudgeonref01_cmp.j0] at H
   have H' := Aside0.mk H
   clear H
   go_wp2
   go_loopg [6] kj2 (fun kq v6 w' => ∃ (x6_2 : Int), v6 = .int .i64 x6_2 ∧ Aside0 (gudgeonref01_cmp.l0 kq l0 l1 x6_2 = some r) ∧ Aside0 (kq ≤ kj2) ∧ Drawn0 w w')
   case atStart => exact ⟨(wrap64 (x5_2 - 1)), (by first | rfl | (simp; done)), H', ⟨Nat.le_refl _⟩, by repeat (first | exact Drawn0.refl _ | apply Drawn0.step)⟩
   case round =>
    clear H'
    try clear c1
    try clear c2
    try clear p2
    try clear c4
    try clear c4b0
    try clear c4b1
    try clear p2
    obtain ⟨x6_2, rfl, HA, HK2, ⟨m2, rfl⟩⟩ := hrel
    cases gk with
    | zero => exact absurd HA.out (by simp [gudgeonref01_cmp.l0])
    | succ k2 =>
     have H := HA.out
     clear HA
     simp only [gudgeonref01_cmp.l0] at H
     by_cases c5 : x6_2 ≥ 0
     ·rw [if_pos c5] at H
      have c5b0 : decide (0 ≤ x6_2) = true := decide_eq_true c5
      clear c5
      obtain ⟨t588, A60, H⟩ := Option.bind_eq_some_iff.mp H
      try dsimp only at H
      have A6 := Aside0.mk A60
      clear A60
      obtain ⟨t589, A70, H⟩ := Option.bind_eq_some_iff.mp H
      try dsimp only at H
      have A7 := Aside0.mk A70
      clear A70
      have HC8 := Aside0.mk H
      clear H
      go_upto_region 9 with (first | ((with_reducible refine gate_callee (f := 82) rfl ?_); refine goL (some 25) Tryd.func82 [.slice A0 l0.length c0, .int .i64 x6_2] ?_; (with_reducible refine (gudgeonref01_at.calls _ _ l0 x6_2 t588 _ ?side1 ?side2 A6.out).mono ?_); (case side1 => exact HR0.out); (case side2 => exact HC0.out); rintro e w' ⟨rfl, ⟨nd, rfl⟩⟩; refine ⟨_, rfl, ?_⟩) | ((with_reducible refine gate_callee (f := 82) rfl ?_); refine goL (some 28) Tryd.func82 [.slice A1 l1.length c1, .int .i64 x6_2] ?_; (with_reducible refine (gudgeonref01_at.calls _ _ l1 x6_2 t589 _ ?side1 ?side2 A7.out).mono ?_); (case side1 => exact HR1.out); (case side2 => exact HC1.out); rintro e w' ⟨rfl, ⟨nd, rfl⟩⟩; refine ⟨_, rfl, ?_⟩))
      (try simp only [Act.put, List.setIfInBounds_toArray, List.set_cons_zero, List.set_cons_succ])
      go_cut [34] (fun v34 wc => ∃ (kq : Nat) (x34_7 : Bool), v34 = .bool x34_7 ∧ Aside0 (gudgeonref01_cmp.j2 kq l0 l1 x6_2 t588 t589 x34_7 = some r) ∧ Aside0 (kq ≤ k2) ∧ Drawn0 w wc)
      case first =>
       have H := HC8.out
       clear HC8
       by_cases c9 : (t588 != t589) = true
       ·rw [if_pos c9] at H
        have c9b0 : (t588 != t589) = true := c9
        (try (have c9b1 : decide (t588 = t589) = false := by simpa using c9))
        (try (have c9b2 : (t588 == t589) = false := by simpa using c9))
        (try (have c9b3 : ¬ (t588 = t589) := by simpa using c9))
        clear c9
        (first | rw [c9b0] | rw [c9b1] | (simp only [i64_w, i32_w]; rw [c9b0]) | skip)
        have H' := Aside0.mk H
        clear H
        go_wp2
        go_meet
        case rel => exact ⟨_, (t588), (by first | rfl | (simp; done)), H', ⟨by have := HJ2.out; have := HK2.out; first | omega | exact Nat.le_refl _⟩, by repeat (first | exact Drawn0.refl _ | apply Drawn0.step)⟩
       ·rw [if_neg c9] at H
        have c9b0 : (t588 != t589) = false := by simpa using c9
        (try (have c9b1 : decide (t588 = t589) = true := by simpa using c9))
        (try (have c9b2 : (t588 == t589) = true := by simpa using c9))
        clear c9
        (first | rw [c9b0] | rw [c9b1] | (simp only [i64_w, i32_w]; rw [c9b0]) | skip)
        have H' := Aside0.mk H
        clear H
        go_wp2
        go_meet
        case rel => exact ⟨_, (false), (by first | rfl | (simp; done)), H', ⟨by have := HJ2.out; have := HK2.out; first | omega | exact Nat.le_refl _⟩, by repeat (first | exact Drawn0.refl _ | apply Drawn0.step)⟩
      case rest =>
       clear HC8
       try clear c1
       try clear c2
       try clear p2
       try clear c4
       try clear c4b0
       try clear c4b1
       try clear c5
       try clear c5b0
       try clear p6
       try clear c7
       try clear c8
       try clear c9
       try clear c9b0
       try clear c9b1
       try clear c9b2
       try clear p2
       obtain ⟨kq, x34_7, rfl, HA, HJ7, ⟨mc7, rfl⟩⟩ := hcut
       cases kq with
       | zero => exact absurd HA.out (by simp [gudgeonref01_cmp.j2])
       | succ kj7 =>
        have H := HA.out
        clear HA
        simp only [gudgeonref01_cmp.j2] at H
        by_cases c10 : x34_7 = true
        ·subst c10
         rw [if_pos rfl] at H
         obtain rfl := Option.some.inj H
         go_wp2
         go_ret
         exact ⟨by first | rfl | (simp; done), by repeat (first | exact Drawn0.refl _ | apply Drawn0.step)⟩
        ·replace c10 := Bool.eq_false_iff.mpr c10
         subst c10
         rw [if_neg (show ¬ (false = true) by decide)] at H
         by_cases c11 : (t588 != t589) = true
         ·rw [if_pos c11] at H
          have c11b0 : (t588 != t589) = true := c11
          (try (have c11b1 : decide (t588 = t589) = false := by simpa using c11))
          (try (have c11b2 : (t588 == t589) = false := by simpa using c11))
          (try (have c11b3 : ¬ (t588 = t589) := by simpa using c11))
          clear c11
          obtain rfl := Option.some.inj H
          go_wp2
          go_ret
          exact ⟨by first | rfl | (simp; done), by repeat (first | exact Drawn0.refl _ | apply Drawn0.step)⟩
         ·rw [if_neg c11] at H
          have c11b0 : (t588 != t589) = false := by simpa using c11
          (try (have c11b1 : decide (t588 = t589) = true := by simpa using c11))
          (try (have c11b2 : (t588 == t589) = true := by simpa using c11))
          clear c11
          have H' := Aside0.mk H
          clear H
          go_wp2
          go_roundg kj7
          case measure => have := HJ2.out; have := HK2.out; have := HJ7.out; omega
          case rel => exact ⟨(wrap64 (x6_2 - 1)), (by first | rfl | (simp; done)), H', ⟨by have := HJ2.out; have := HK2.out; have := HJ7.out; omega⟩, by repeat (first | exact Drawn0.refl _ | apply Drawn0.step)⟩
     ·rw [if_neg c5] at H
      have c5b0 : decide (0 ≤ x6_2) = false := decide_eq_false c5
      clear c5
      obtain rfl := Option.some.inj H
      go_wp2
      go_ret
      exact ⟨by first | rfl | (simp; done), by repeat (first | exact Drawn0.refl _ | apply Drawn0.step)⟩

/-! ### gudgeonref01_sub: function 73 -/
mutual
def gudgeonref01_sub.l0 : Nat → List Bool → List Bool → List Bool → Bool → Int → Option (List Bool)
 | 0, _, _, _, _, _ => none
 | k + 1, x0, x1, x5, x6, x7 => if x7 < (x0.length : Int) then (if 0 ≤ x7 then (if rdOf false x0 x7 = true then (gudgeonref01_sub.j1 k x0 x1 x5 x6 x7 (0 + 1)) else (gudgeonref01_sub.j1 k x0 x1 x5 x6 x7 0)) else (none)) else ((gudgeonref01_trim.f k x5).bind fun t590 => (some t590))
def gudgeonref01_sub.j1 : Nat → List Bool → List Bool → List Bool → Bool → Int → Int → Option (List Bool)
 | 0, _, _, _, _, _, _ => none
 | k + 1, x0, x1, x5, x6, x7, x8 => (gudgeonref01_at.f x1 x7).bind fun t594 => (if t594 = true then (if x6 = true then (if (wrap64 ((wrap64 (x8 - 1)) - 1)) = 1 then (if x5.length < 140737488355328 then (gudgeonref01_sub.l0 k x0 x1 (x5 ++ [true]) (decide ((wrap64 ((wrap64 (x8 - 1)) - 1)) < 0)) (wrap64 (x7 + 1))) else (none)) else (if x5.length < 140737488355328 then (gudgeonref01_sub.l0 k x0 x1 (x5 ++ [((wrap64 ((wrap64 (x8 - 1)) - 1)) == (-1))]) (decide ((wrap64 ((wrap64 (x8 - 1)) - 1)) < 0)) (wrap64 (x7 + 1))) else (none))) else (if (wrap64 (x8 - 1)) = 1 then (if x5.length < 140737488355328 then (gudgeonref01_sub.l0 k x0 x1 (x5 ++ [true]) (decide ((wrap64 (x8 - 1)) < 0)) (wrap64 (x7 + 1))) else (none)) else (if x5.length < 140737488355328 then (gudgeonref01_sub.l0 k x0 x1 (x5 ++ [((wrap64 (x8 - 1)) == (-1))]) (decide ((wrap64 (x8 - 1)) < 0)) (wrap64 (x7 + 1))) else (none)))) else (if x6 = true then (if (wrap64 (x8 - 1)) = 1 then (if x5.length < 140737488355328 then (gudgeonref01_sub.l0 k x0 x1 (x5 ++ [true]) (decide ((wrap64 (x8 - 1)) < 0)) (wrap64 (x7 + 1))) else (none)) else (if x5.length < 140737488355328 then (gudgeonref01_sub.l0 k x0 x1 (x5 ++ [((wrap64 (x8 - 1)) == (-1))]) (decide ((wrap64 (x8 - 1)) < 0)) (wrap64 (x7 + 1))) else (none))) else (if x8 = 1 then (if x5.length < 140737488355328 then (gudgeonref01_sub.l0 k x0 x1 (x5 ++ [true]) (decide (x8 < 0)) (wrap64 (x7 + 1))) else (none)) else (if x5.length < 140737488355328 then (gudgeonref01_sub.l0 k x0 x1 (x5 ++ [(x8 == (-1))]) (decide (x8 < 0)) (wrap64 (x7 + 1))) else (none)))))
end
def gudgeonref01_sub.f (k : Nat) (l0 : List Bool) (l1 : List Bool) : Option (List Bool) := gudgeonref01_sub.l0 k l0 l1 ([] : List Bool) false 0
set_option maxHeartbeats 8000000 in
set_option maxRecDepth 100000 in
theorem gudgeonref01_sub.calls (k : Nat) (A0 : Option Addr) (c0 : Nat) (l0 : List Bool) (A1 : Option Addr) (c1 : Nat) (l1 : List Bool) (r : List Bool) (w : World) (hr0 : Kd.C Kd.bool w A0 l0.length l0) (hc0 : l0.length ≤ c0) (hr1 : Kd.C Kd.bool w A1 l1.length l1) (hc1 : l1.length ≤ c1) (h : gudgeonref01_sub.f k l0 l1 = some r) :
  Calls Tryd.prog 73 #[.slice A0 l0.length c0, .slice A1 l1.length c1] w fun e w' => ∃ v0_ : Value, e = .returned (v0_) ∧ Kd.R Kd.bool 4 w' w.heap.size (fun _ => True) v0_ r ∧ Below w.heap.size w w' := by
 have HR0 := Aside0.mk hr0
 have HC0 := Aside0.mk hc0
 clear hr0 hc0
 have HR1 := Aside0.mk hr1
 have HC1 := Aside0.mk hc1
 clear hr1 hc1
 have HB := Aside0.mk (Below.refl w.heap.size w)
 have H : (gudgeonref01_sub.l0 k l0 l1 ([] : List Bool) false 0) = some r := h
 clear h
 have H' := Aside0.mk H
 clear H
 go_enter Tryd.func73, Tryd.ntmps73
 go_wp2
 go_loopg [5, 6, 7] k (fun kq v5 v6 v7 w' => ∃ (x5_1 : List Bool) (x6_1 : Bool) (x7_1 : Int), v6 = .bool x6_1 ∧ v7 = .int .i64 x7_1 ∧ Aside0 (gudgeonref01_sub.l0 kq l0 l1 x5_1 x6_1 x7_1 = some r) ∧ Aside0 (kq ≤ k) ∧ Aside0 (Kd.R Kd.bool 4 w' w.heap.size (fun _ => True) v5 x5_1) ∧ Aside0 (Below w.heap.size w w'))
 case atStart => exact ⟨(([] : List Bool)), (false), (0), (by first | rfl | (simp; done)), (by first | rfl | (simp; done)), H', ⟨Nat.le_refl _⟩, ⟨by first | exact Kd.R_nil _ _ _ _ _ | exact Kd.N_nil _ _ _ _ _ | exact Kd.V_nil _ _ _ _ _ | exact Kd.Q_nil _ _ _ _ _ | exact Kd.S_nil _ _ _ _ _⟩, ⟨HB.out⟩⟩
 case round =>
  clear H'
  try clear c1
  try clear p2
  obtain ⟨x5_1, x6_1, x7_1, rfl, rfl, HA, HK1, HO_5, HB⟩ := hrel
  cases gk with
  | zero => exact absurd HA.out (by simp [gudgeonref01_sub.l0])
  | succ k1 =>
   have H := HA.out
   clear HA
   simp only [gudgeonref01_sub.l0] at H
   by_cases c3 : x7_1 < (l0.length : Int)
   ·rw [if_pos c3] at H
    have c3b0 : decide (x7_1 < (l0.length : Int)) = true := decide_eq_true c3
    clear c3
    by_cases c4 : 0 ≤ x7_1
    ·rw [if_pos c4] at H
     have c4b0 : decide (0 ≤ x7_1) = true := decide_eq_true c4
     clear c4
     have HC5 := Aside0.mk H
     clear H
     have p593 : 0 ≤ (x7_1 : Int) := of_decide_eq_true (by first | (with_reducible assumption) | assumption)
     have q593 : x7_1 < (l0.length : Int) := of_decide_eq_true (by first | (with_reducible assumption) | assumption)
     obtain ⟨ad593, e593, hx593_0⟩ := Kd.at_bool HR0.out x7_1 p593 q593
     cases e593
     replace hx593_0 := (HB.out.cell (World.block_lt_of_cell? w _ hx593_0)).trans hx593_0
     replace p593 := eq_true p593
     replace q593 := eq_true q593
     go_upto_if 18 with (fail)
     go_cut [8] (fun v8 wc => ∃ (kq : Nat) (x8_4 : Int), v8 = .int .i64 x8_4 ∧ Aside0 (gudgeonref01_sub.j1 kq l0 l1 x5_1 x6_1 x7_1 x8_4 = some r) ∧ Aside0 (kq ≤ k1) ∧ Aside0 (Kd.R Kd.bool 4 wc w.heap.size (fun _ => True) u5 x5_1) ∧ Aside0 (Below w.heap.size w wc))
     case first =>
      have H := HC5.out
      clear HC5
      obtain ⟨bq6, hbq6⟩ : ∃ b_ : Bool, b_ = (rdOf false l0 x7_1) := ⟨_, rfl⟩
      replace H : (if bq6 = true then (gudgeonref01_sub.j1 k1 l0 l1 x5_1 x6_1 x7_1 (0 + 1)) else (gudgeonref01_sub.j1 k1 l0 l1 x5_1 x6_1 x7_1 0)) = some r := by rw [← hbq6] at H; exact H
      have Nbq6 := Aside0.mk hbq6
      clear hbq6
      (try rw [← Nbq6.out])
      by_cases c7 : bq6 = true
      ·subst c7
       rw [if_pos rfl] at H
       have H' := Aside0.mk H
       clear H
       go_wp2
       go_meet
       case rel => exact ⟨_, (0 + 1), (by first | rfl | (simp; done)), H', ⟨by have := HK1.out; first | omega | exact Nat.le_refl _⟩, ⟨HO_5.out⟩, ⟨HB.out⟩⟩
      ·replace c7 := Bool.eq_false_iff.mpr c7
       subst c7
       rw [if_neg (show ¬ (false = true) by decide)] at H
       have H' := Aside0.mk H
       clear H
       go_wp2
       go_meet
       case rel => exact ⟨_, (0), (by first | rfl | (simp; done)), H', ⟨by have := HK1.out; first | omega | exact Nat.le_refl _⟩, ⟨HO_5.out⟩, ⟨HB.out⟩⟩
     case rest =>
      clear HC5
      try clear c1
      try clear p2
      try clear c3
      try clear c3b0
      try clear c4
      try clear c4b0
      try clear p5
      try clear q5
      try clear hx5
      try clear q6
      try clear c7
      try clear hx593_0
      try clear p2
      try clear p593
      try clear q593
      obtain ⟨kq, x8_4, rfl, HA, HJ4, HO_5, HB⟩ := hcut
      cases kq with
      | zero => exact absurd HA.out (by simp [gudgeonref01_sub.j1])
      | succ kj4 =>
       have H := HA.out
       clear HA
       simp only [gudgeonref01_sub.j1] at H
       obtain ⟨t594, A80, H⟩ := Option.bind_eq_some_iff.mp H
       try dsimp only at H
       have A8 := Aside0.mk A80
       clear A80
       by_cases c9 : t594 = true
       ·subst c9
        rw [if_pos rfl] at H
        by_cases c10 : x6_1 = true
        ·subst c10
         rw [if_pos rfl] at H
         by_cases c11 : (wrap64 ((wrap64 (x8_4 - 1)) - 1)) = 1
         ·rw [if_pos c11] at H
          have c11b0 : ((wrap64 ((wrap64 (x8_4 - 1)) - 1)) == 1) = true := beq_iff_eq.mpr c11
          have c11b1 : ((wrap64 ((wrap64 (x8_4 - 1)) - 1)) != 1) = false := bne_eq_false_iff_eq.mpr c11
          clear c11
          by_cases c12 : x5_1.length < 140737488355328
          ·rw [if_pos c12] at H
           have LMc12 := Aside0.mk c12
           clear c12
           obtain ⟨y595, hy595⟩ : ∃ y_ : List Bool, y_ = (x5_1 ++ [true]) := ⟨_, rfl⟩
           replace H : (gudgeonref01_sub.l0 kj4 l0 l1 y595 (decide ((wrap64 ((wrap64 (x8_4 - 1)) - 1)) < 0)) (wrap64 (x7_1 + 1))) = some r := by first | (rw [hy595]; with_reducible exact H) | (have H2_ := (Option.bind_some _ _).symm.trans H; rw [hy595]; with_reducible exact H2_) | (have H2_ := (Option.bind_some _ _).symm.trans H; with_reducible exact H2_) | with_reducible exact H | (rw [hy595]; exact H) | exact H
           have Ny595 := Aside0.mk hy595
           clear hy595
           have H' := Aside0.mk H
           clear H
           go_wp2_with (first | ((with_reducible refine gate_callee (f := 82) rfl ?_); refine goL (some 23) Tryd.func82 [.slice A1 l1.length c1, .int .i64 x7_1] ?_; (with_reducible refine (gudgeonref01_at.calls _ _ l1 x7_1 true _ ?side1 ?side2 A8.out).mono ?_); (case side1 => repeat (first | exact (Kd.C_below HR1.out HB.out) | (with_reducible refine Kd.C_alloc ?_ _) | (with_reducible refine Kd.C_drewN ?_ _) | (with_reducible refine Kd.C_drew ?_))); (case side2 => exact HC1.out); rintro e w' ⟨rfl, ⟨nd, rfl⟩⟩; refine ⟨_, rfl, ?_⟩) | ((with_reducible refine gate_builtin (b := .append) (xs := #[.tmp 29, .tmp 36]) rfl ?_); at_builtin; refine Kd.R_append Kd.bool (w0 := w) w.heap.size rfl (.tmp 29) (.tmp 36) 69 4 (.bool false) 1 rfl Tryd.underlying69 info4 rfl (by decide) (by omega) u5 x5_1 true [.bool true] (fun _ => True) (fun _ => False) rfl rfl ?aP (fun _ hk => hk.elim) ?aF ?aO ?aB ?aS ?aL ?_; (case aP => exact rfl); (case aB => exact (by repeat first | exact HB.out | refine bxSet ?_ (by assumption) | apply below_alloc | apply pw_below_drewN)); (case aF => exact (fun _ _ => trivial)); (case aO => exact (by (with_reducible repeat (first | apply Kd.R_alloc | apply Kd.R_drewN | apply Kd.R_drew)); exact HO_5.out)); (case aS => exact (below_size (by repeat first | exact HB.out | refine bxSet ?_ (by assumption) | apply below_alloc | apply pw_below_drewN))); (case aL => have := LMc12.out; omega); intro v596 w13 ho hb hg hat; rw [← Ny595.out] at ho; have n0_ := Aside0.mk (hb); have n1_ := Aside0.mk (ho); clear HB; clear HO_5; have HB := n0_; have HO597 := n1_; clear n0_ n1_; clear ho hb hg hat))
           go_roundg kj4
           case measure => have := HK1.out; have := HJ4.out; omega
           case rel => exact ⟨(y595), (decide ((wrap64 ((wrap64 (x8_4 - 1)) - 1)) < 0)), (wrap64 (x7_1 + 1)), (by first | rfl | (simp; done)), (by first | rfl | (simp; done)), H', ⟨by have := HK1.out; have := HJ4.out; omega⟩, ⟨HO597.out⟩, ⟨HB.out⟩⟩
          ·rw [if_neg c12] at H
           exact absurd H (by simp)
         ·rw [if_neg c11] at H
          have c11b0 : ((wrap64 ((wrap64 (x8_4 - 1)) - 1)) == 1) = false := beq_eq_false_iff_ne.mpr c11
          have c11b1 : ((wrap64 ((wrap64 (x8_4 - 1)) - 1)) != 1) = true := bne_iff_ne.mpr c11
          by_cases c14 : x5_1.length < 140737488355328
          ·rw [if_pos c14] at H
           have LMc14 := Aside0.mk c14
           clear c14
           obtain ⟨y598, hy598⟩ : ∃ y_ : List Bool, y_ = (x5_1 ++ [((wrap64 ((wrap64 (x8_4 - 1)) - 1)) == (-1))]) := ⟨_, rfl⟩
           replace H : (gudgeonref01_sub.l0 kj4 l0 l1 y598 (decide ((wrap64 ((wrap64 (x8_4 - 1)) - 1)) < 0)) (wrap64 (x7_1 + 1))) = some r := by first | (rw [hy598]; with_reducible exact H) | (have H2_ := (Option.bind_some _ _).symm.trans H; rw [hy598]; with_reducible exact H2_) | (have H2_ := (Option.bind_some _ _).symm.trans H; with_reducible exact H2_) | with_reducible exact H | (rw [hy598]; exact H) | exact H
           have Ny598 := Aside0.mk hy598
           clear hy598
           have H' := Aside0.mk H
           clear H
           go_wp2_with (first | ((with_reducible refine gate_callee (f := 82) rfl ?_); refine goL (some 23) Tryd.func82 [.slice A1 l1.length c1, .int .i64 x7_1] ?_; (with_reducible refine (gudgeonref01_at.calls _ _ l1 x7_1 true _ ?side1 ?side2 A8.out).mono ?_); (case side1 => repeat (first | exact (Kd.C_below HR1.out HB.out) | (with_reducible refine Kd.C_alloc ?_ _) | (with_reducible refine Kd.C_drewN ?_ _) | (with_reducible refine Kd.C_drew ?_))); (case side2 => exact HC1.out); rintro e w' ⟨rfl, ⟨nd, rfl⟩⟩; refine ⟨_, rfl, ?_⟩) | ((with_reducible refine gate_builtin (b := .append) (xs := #[.tmp 29, .tmp 36]) rfl ?_); at_builtin; refine Kd.R_append Kd.bool (w0 := w) w.heap.size rfl (.tmp 29) (.tmp 36) 69 4 (.bool false) 1 rfl Tryd.underlying69 info4 rfl (by decide) (by omega) u5 x5_1 ((wrap64 ((wrap64 (x8_4 - 1)) - 1)) == (-1)) [.bool ((wrap64 ((wrap64 (x8_4 - 1)) - 1)) == (-1))] (fun _ => True) (fun _ => False) rfl rfl ?aP (fun _ hk => hk.elim) ?aF ?aO ?aB ?aS ?aL ?_; (case aP => exact rfl); (case aB => exact (by repeat first | exact HB.out | refine bxSet ?_ (by assumption) | apply below_alloc | apply pw_below_drewN)); (case aF => exact (fun _ _ => trivial)); (case aO => exact (by (with_reducible repeat (first | apply Kd.R_alloc | apply Kd.R_drewN | apply Kd.R_drew)); exact HO_5.out)); (case aS => exact (below_size (by repeat first | exact HB.out | refine bxSet ?_ (by assumption) | apply below_alloc | apply pw_below_drewN))); (case aL => have := LMc14.out; omega); intro v599 w15 ho hb hg hat; rw [← Ny598.out] at ho; have n0_ := Aside0.mk (hb); have n1_ := Aside0.mk (ho); clear HB; clear HO_5; have HB := n0_; have HO600 := n1_; clear n0_ n1_; clear ho hb hg hat))
           go_roundg kj4
           case measure => have := HK1.out; have := HJ4.out; omega
           case rel => exact ⟨(y598), (decide ((wrap64 ((wrap64 (x8_4 - 1)) - 1)) < 0)), (wrap64 (x7_1 + 1)), (by first | rfl | (simp; done)), (by first | rfl | (simp; done)), H', ⟨by have := HK1.out; have := HJ4.out; omega⟩, ⟨HO600.out⟩, ⟨HB.out⟩⟩
          ·rw [if_neg c14] at H
           exact absurd H (by simp)
        ·replace c10 := Bool.eq_false_iff.mpr c10
         subst c10
         rw [if_neg (show ¬ (false = true) by decide)] at H
         by_cases c16 : (wrap64 (x8_4 - 1)) = 1
         ·rw [if_pos c16] at H
          have c16b0 : ((wrap64 (x8_4 - 1)) == 1) = true := beq_iff_eq.mpr c16
          have c16b1 : ((wrap64 (x8_4 - 1)) != 1) = false := bne_eq_false_iff_eq.mpr c16
          clear c16
          by_cases c17 : x5_1.length < 140737488355328
          ·rw [if_pos c17] at H
           have LMc17 := Aside0.mk c17
           clear c17
           obtain ⟨y601, hy601⟩ : ∃ y_ : List Bool, y_ = (x5_1 ++ [true]) := ⟨_, rfl⟩
           replace H : (gudgeonref01_sub.l0 kj4 l0 l1 y601 (decide ((wrap64 (x8_4 - 1)) < 0)) (wrap64 (x7_1 + 1))) = some r := by first | (rw [hy601]; with_reducible exact H) | (have H2_ := (Option.bind_some _ _).symm.trans H; rw [hy601]; with_reducible exact H2_) | (have H2_ := (Option.bind_some _ _).symm.trans H; with_reducible exact H2_) | with_reducible exact H | (rw [hy601]; exact H) | exact H
           have Ny601 := Aside0.mk hy601
           clear hy601
           have H' := Aside0.mk H
           clear H
           go_wp2_with (first | ((with_reducible refine gate_callee (f := 82) rfl ?_); refine goL (some 23) Tryd.func82 [.slice A1 l1.length c1, .int .i64 x7_1] ?_; (with_reducible refine (gudgeonref01_at.calls _ _ l1 x7_1 true _ ?side1 ?side2 A8.out).mono ?_); (case side1 => repeat (first | exact (Kd.C_below HR1.out HB.out) | (with_reducible refine Kd.C_alloc ?_ _) | (with_reducible refine Kd.C_drewN ?_ _) | (with_reducible refine Kd.C_drew ?_))); (case side2 => exact HC1.out); rintro e w' ⟨rfl, ⟨nd, rfl⟩⟩; refine ⟨_, rfl, ?_⟩) | ((with_reducible refine gate_builtin (b := .append) (xs := #[.tmp 29, .tmp 36]) rfl ?_); at_builtin; refine Kd.R_append Kd.bool (w0 := w) w.heap.size rfl (.tmp 29) (.tmp 36) 69 4 (.bool false) 1 rfl Tryd.underlying69 info4 rfl (by decide) (by omega) u5 x5_1 true [.bool true] (fun _ => True) (fun _ => False) rfl rfl ?aP (fun _ hk => hk.elim) ?aF ?aO ?aB ?aS ?aL ?_; (case aP => exact rfl); (case aB => exact (by repeat first | exact HB.out | refine bxSet ?_ (by assumption) | apply below_alloc | apply pw_below_drewN)); (case aF => exact (fun _ _ => trivial)); (case aO => exact (by (with_reducible repeat (first | apply Kd.R_alloc | apply Kd.R_drewN | apply Kd.R_drew)); exact HO_5.out)); (case aS => exact (below_size (by repeat first | exact HB.out | refine bxSet ?_ (by assumption) | apply below_alloc | apply pw_below_drewN))); (case aL => have := LMc17.out; omega); intro v602 w18 ho hb hg hat; rw [← Ny601.out] at ho; have n0_ := Aside0.mk (hb); have n1_ := Aside0.mk (ho); clear HB; clear HO_5; have HB := n0_; have HO603 := n1_; clear n0_ n1_; clear ho hb hg hat))
           go_roundg kj4
           case measure => have := HK1.out; have := HJ4.out; omega
           case rel => exact ⟨(y601), (decide ((wrap64 (x8_4 - 1)) < 0)), (wrap64 (x7_1 + 1)), (by first | rfl | (simp; done)), (by first | rfl | (simp; done)), H', ⟨by have := HK1.out; have := HJ4.out; omega⟩, ⟨HO603.out⟩, ⟨HB.out⟩⟩
          ·rw [if_neg c17] at H
           exact absurd H (by simp)
         ·rw [if_neg c16] at H
          have c16b0 : ((wrap64 (x8_4 - 1)) == 1) = false := beq_eq_false_iff_ne.mpr c16
          have c16b1 : ((wrap64 (x8_4 - 1)) != 1) = true := bne_iff_ne.mpr c16
          by_cases c19 : x5_1.length < 140737488355328
          ·rw [if_pos c19] at H
           have LMc19 := Aside0.mk c19
           clear c19
           obtain ⟨y604, hy604⟩ : ∃ y_ : List Bool, y_ = (x5_1 ++ [((wrap64 (x8_4 - 1)) == (-1))]) := ⟨_, rfl⟩
           replace H : (gudgeonref01_sub.l0 kj4 l0 l1 y604 (decide ((wrap64 (x8_4 - 1)) < 0)) (wrap64 (x7_1 + 1))) = some r := by first | (rw [hy604]; with_reducible exact H) | (have H2_ := (Option.bind_some _ _).symm.trans H; rw [hy604]; with_reducible exact H2_) | (have H2_ := (Option.bind_some _ _).symm.trans H; with_reducible exact H2_) | with_reducible exact H | (rw [hy604]; exact H) | exact H
           have Ny604 := Aside0.mk hy604
           clear hy604
           have H' := Aside0.mk H
           clear H
           go_wp2_with (first | ((with_reducible refine gate_callee (f := 82) rfl ?_); refine goL (some 23) Tryd.func82 [.slice A1 l1.length c1, .int .i64 x7_1] ?_; (with_reducible refine (gudgeonref01_at.calls _ _ l1 x7_1 true _ ?side1 ?side2 A8.out).mono ?_); (case side1 => repeat (first | exact (Kd.C_below HR1.out HB.out) | (with_reducible refine Kd.C_alloc ?_ _) | (with_reducible refine Kd.C_drewN ?_ _) | (with_reducible refine Kd.C_drew ?_))); (case side2 => exact HC1.out); rintro e w' ⟨rfl, ⟨nd, rfl⟩⟩; refine ⟨_, rfl, ?_⟩) | ((with_reducible refine gate_builtin (b := .append) (xs := #[.tmp 29, .tmp 36]) rfl ?_); at_builtin; refine Kd.R_append Kd.bool (w0 := w) w.heap.size rfl (.tmp 29) (.tmp 36) 69 4 (.bool false) 1 rfl Tryd.underlying69 info4 rfl (by decide) (by omega) u5 x5_1 ((wrap64 (x8_4 - 1)) == (-1)) [.bool ((wrap64 (x8_4 - 1)) == (-1))] (fun _ => True) (fun _ => False) rfl rfl ?aP (fun _ hk => hk.elim) ?aF ?aO ?aB ?aS ?aL ?_; (case aP => exact rfl); (case aB => exact (by repeat first | exact HB.out | refine bxSet ?_ (by assumption) | apply below_alloc | apply pw_below_drewN)); (case aF => exact (fun _ _ => trivial)); (case aO => exact (by (with_reducible repeat (first | apply Kd.R_alloc | apply Kd.R_drewN | apply Kd.R_drew)); exact HO_5.out)); (case aS => exact (below_size (by repeat first | exact HB.out | refine bxSet ?_ (by assumption) | apply below_alloc | apply pw_below_drewN))); (case aL => have := LMc19.out; omega); intro v605 w20 ho hb hg hat; rw [← Ny604.out] at ho; have n0_ := Aside0.mk (hb); have n1_ := Aside0.mk (ho); clear HB; clear HO_5; have HB := n0_; have HO606 := n1_; clear n0_ n1_; clear ho hb hg hat))
           go_roundg kj4
           case measure => have := HK1.out; have := HJ4.out; omega
           case rel => exact ⟨(y604), (decide ((wrap64 (x8_4 - 1)) < 0)), (wrap64 (x7_1 + 1)), (by first | rfl | (simp; done)), (by first | rfl | (simp; done)), H', ⟨by have := HK1.out; have := HJ4.out; omega⟩, ⟨HO606.out⟩, ⟨HB.out⟩⟩
          ·rw [if_neg c19] at H
           exact absurd H (by simp)
       ·replace c9 := Bool.eq_false_iff.mpr c9
        subst c9
        rw [if_neg (show ¬ (false = true) by decide)] at H
        by_cases c21 : x6_1 = true
        ·subst c21
         rw [if_pos rfl] at H
         by_cases c22 : (wrap64 (x8_4 - 1)) = 1
         ·rw [if_pos c22] at H
          have c22b0 : ((wrap64 (x8_4 - 1)) == 1) = true := beq_iff_eq.mpr c22
          have c22b1 : ((wrap64 (x8_4 - 1)) != 1) = false := bne_eq_false_iff_eq.mpr c22
          clear c22
          by_cases c23 : x5_1.length < 140737488355328
          ·rw [if_pos c23] at H
           have LMc23 := Aside0.mk c23
           clear c23
           obtain ⟨y607, hy607⟩ : ∃ y_ : List Bool, y_ = (x5_1 ++ [true]) := ⟨_, rfl⟩
           replace H : (gudgeonref01_sub.l0 kj4 l0 l1 y607 (decide ((wrap64 (x8_4 - 1)) < 0)) (wrap64 (x7_1 + 1))) = some r := by first | (rw [hy607]; with_reducible exact H) | (have H2_ := (Option.bind_some _ _).symm.trans H; rw [hy607]; with_reducible exact H2_) | (have H2_ := (Option.bind_some _ _).symm.trans H; with_reducible exact H2_) | with_reducible exact H | (rw [hy607]; exact H) | exact H
           have Ny607 := Aside0.mk hy607
           clear hy607
           have H' := Aside0.mk H
           clear H
           go_wp2_with (first | ((with_reducible refine gate_callee (f := 82) rfl ?_); refine goL (some 23) Tryd.func82 [.slice A1 l1.length c1, .int .i64 x7_1] ?_; (with_reducible refine (gudgeonref01_at.calls _ _ l1 x7_1 false _ ?side1 ?side2 A8.out).mono ?_); (case side1 => repeat (first | exact (Kd.C_below HR1.out HB.out) | (with_reducible refine Kd.C_alloc ?_ _) | (with_reducible refine Kd.C_drewN ?_ _) | (with_reducible refine Kd.C_drew ?_))); (case side2 => exact HC1.out); rintro e w' ⟨rfl, ⟨nd, rfl⟩⟩; refine ⟨_, rfl, ?_⟩) | ((with_reducible refine gate_builtin (b := .append) (xs := #[.tmp 29, .tmp 36]) rfl ?_); at_builtin; refine Kd.R_append Kd.bool (w0 := w) w.heap.size rfl (.tmp 29) (.tmp 36) 69 4 (.bool false) 1 rfl Tryd.underlying69 info4 rfl (by decide) (by omega) u5 x5_1 true [.bool true] (fun _ => True) (fun _ => False) rfl rfl ?aP (fun _ hk => hk.elim) ?aF ?aO ?aB ?aS ?aL ?_; (case aP => exact rfl); (case aB => exact (by repeat first | exact HB.out | refine bxSet ?_ (by assumption) | apply below_alloc | apply pw_below_drewN)); (case aF => exact (fun _ _ => trivial)); (case aO => exact (by (with_reducible repeat (first | apply Kd.R_alloc | apply Kd.R_drewN | apply Kd.R_drew)); exact HO_5.out)); (case aS => exact (below_size (by repeat first | exact HB.out | refine bxSet ?_ (by assumption) | apply below_alloc | apply pw_below_drewN))); (case aL => have := LMc23.out; omega); intro v608 w24 ho hb hg hat; rw [← Ny607.out] at ho; have n0_ := Aside0.mk (hb); have n1_ := Aside0.mk (ho); clear HB; clear HO_5; have HB := n0_; have HO609 := n1_; clear n0_ n1_; clear ho hb hg hat))
           go_roundg kj4
           case measure => have := HK1.out; have := HJ4.out; omega
           case rel => exact ⟨(y607), (decide ((wrap64 (x8_4 - 1)) < 0)), (wrap64 (x7_1 + 1)), (by first | rfl | (simp; done)), (by first | rfl | (simp; done)), H', ⟨by have := HK1.out; have := HJ4.out; omega⟩, ⟨HO609.out⟩, ⟨HB.out⟩⟩
          ·rw [if_neg c23] at H
           exact absurd H (by simp)
         ·rw [if_neg c22] at H
          have c22b0 : ((wrap64 (x8_4 - 1)) == 1) = false := beq_eq_false_iff_ne.mpr c22
          have c22b1 : ((wrap64 (x8_4 - 1)) != 1) = true := bne_iff_ne.mpr c22
          by_cases c25 : x5_1.length < 140737488355328
          ·rw [if_pos c25] at H
           have LMc25 := Aside0.mk c25
           clear c25
           obtain ⟨y610, hy610⟩ : ∃ y_ : List Bool, y_ = (x5_1 ++ [((wrap64 (x8_4 - 1)) == (-1))]) := ⟨_, rfl⟩
           replace H : (gudgeonref01_sub.l0 kj4 l0 l1 y610 (decide ((wrap64 (x8_4 - 1)) < 0)) (wrap64 (x7_1 + 1))) = some r := by first | (rw [hy610]; with_reducible exact H) | (have H2_ := (Option.bind_some _ _).symm.trans H; rw [hy610]; with_reducible exact H2_) | (have H2_ := (Option.bind_some _ _).symm.trans H; with_reducible exact H2_) | with_reducible exact H | (rw [hy610]; exact H) | exact H
           have Ny610 := Aside0.mk hy610
           clear hy610
           have H' := Aside0.mk H
           clear H
           go_wp2_with (first | ((with_reducible refine gate_callee (f := 82) rfl ?_); refine goL (some 23) Tryd.func82 [.slice A1 l1.length c1, .int .i64 x7_1] ?_; (with_reducible refine (gudgeonref01_at.calls _ _ l1 x7_1 false _ ?side1 ?side2 A8.out).mono ?_); (case side1 => repeat (first | exact (Kd.C_below HR1.out HB.out) | (with_reducible refine Kd.C_alloc ?_ _) | (with_reducible refine Kd.C_drewN ?_ _) | (with_reducible refine Kd.C_drew ?_))); (case side2 => exact HC1.out); rintro e w' ⟨rfl, ⟨nd, rfl⟩⟩; refine ⟨_, rfl, ?_⟩) | ((with_reducible refine gate_builtin (b := .append) (xs := #[.tmp 29, .tmp 36]) rfl ?_); at_builtin; refine Kd.R_append Kd.bool (w0 := w) w.heap.size rfl (.tmp 29) (.tmp 36) 69 4 (.bool false) 1 rfl Tryd.underlying69 info4 rfl (by decide) (by omega) u5 x5_1 ((wrap64 (x8_4 - 1)) == (-1)) [.bool ((wrap64 (x8_4 - 1)) == (-1))] (fun _ => True) (fun _ => False) rfl rfl ?aP (fun _ hk => hk.elim) ?aF ?aO ?aB ?aS ?aL ?_; (case aP => exact rfl); (case aB => exact (by repeat first | exact HB.out | refine bxSet ?_ (by assumption) | apply below_alloc | apply pw_below_drewN)); (case aF => exact (fun _ _ => trivial)); (case aO => exact (by (with_reducible repeat (first | apply Kd.R_alloc | apply Kd.R_drewN | apply Kd.R_drew)); exact HO_5.out)); (case aS => exact (below_size (by repeat first | exact HB.out | refine bxSet ?_ (by assumption) | apply below_alloc | apply pw_below_drewN))); (case aL => have := LMc25.out; omega); intro v611 w26 ho hb hg hat; rw [← Ny610.out] at ho; have n0_ := Aside0.mk (hb); have n1_ := Aside0.mk (ho); clear HB; clear HO_5; have HB := n0_; have HO612 := n1_; clear n0_ n1_; clear ho hb hg hat))
           go_roundg kj4
           case measure => have := HK1.out; have := HJ4.out; omega
           case rel => exact ⟨(y610), (decide ((wrap64 (x8_4 - 1)) < 0)), (wrap64 (x7_1 + 1)), (by first | rfl | (simp; done)), (by first | rfl | (simp; done)), H', ⟨by have := HK1.out; have := HJ4.out; omega⟩, ⟨HO612.out⟩, ⟨HB.out⟩⟩
          ·rw [if_neg c25] at H
           exact absurd H (by simp)
        ·replace c21 := Bool.eq_false_iff.mpr c21
         subst c21
         rw [if_neg (show ¬ (false = true) by decide)] at H
         by_cases c27 : x8_4 = 1
         ·rw [if_pos c27] at H
          have c27b0 : (x8_4 == 1) = true := beq_iff_eq.mpr c27
          have c27b1 : (x8_4 != 1) = false := bne_eq_false_iff_eq.mpr c27
          clear c27
          by_cases c28 : x5_1.length < 140737488355328
          ·rw [if_pos c28] at H
           have LMc28 := Aside0.mk c28
           clear c28
           obtain ⟨y613, hy613⟩ : ∃ y_ : List Bool, y_ = (x5_1 ++ [true]) := ⟨_, rfl⟩
           replace H : (gudgeonref01_sub.l0 kj4 l0 l1 y613 (decide (x8_4 < 0)) (wrap64 (x7_1 + 1))) = some r := by first | (rw [hy613]; with_reducible exact H) | (have H2_ := (Option.bind_some _ _).symm.trans H; rw [hy613]; with_reducible exact H2_) | (have H2_ := (Option.bind_some _ _).symm.trans H; with_reducible exact H2_) | with_reducible exact H | (rw [hy613]; exact H) | exact H
           have Ny613 := Aside0.mk hy613
           clear hy613
           have H' := Aside0.mk H
           clear H
           go_wp2_with (first | ((with_reducible refine gate_callee (f := 82) rfl ?_); refine goL (some 23) Tryd.func82 [.slice A1 l1.length c1, .int .i64 x7_1] ?_; (with_reducible refine (gudgeonref01_at.calls _ _ l1 x7_1 false _ ?side1 ?side2 A8.out).mono ?_); (case side1 => repeat (first | exact (Kd.C_below HR1.out HB.out) | (with_reducible refine Kd.C_alloc ?_ _) | (with_reducible refine Kd.C_drewN ?_ _) | (with_reducible refine Kd.C_drew ?_))); (case side2 => exact HC1.out); rintro e w' ⟨rfl, ⟨nd, rfl⟩⟩; refine ⟨_, rfl, ?_⟩) | ((with_reducible refine gate_builtin (b := .append) (xs := #[.tmp 29, .tmp 36]) rfl ?_); at_builtin; refine Kd.R_append Kd.bool (w0 := w) w.heap.size rfl (.tmp 29) (.tmp 36) 69 4 (.bool false) 1 rfl Tryd.underlying69 info4 rfl (by decide) (by omega) u5 x5_1 true [.bool true] (fun _ => True) (fun _ => False) rfl rfl ?aP (fun _ hk => hk.elim) ?aF ?aO ?aB ?aS ?aL ?_; (case aP => exact rfl); (case aB => exact (by repeat first | exact HB.out | refine bxSet ?_ (by assumption) | apply below_alloc | apply pw_below_drewN)); (case aF => exact (fun _ _ => trivial)); (case aO => exact (by (with_reducible repeat (first | apply Kd.R_alloc | apply Kd.R_drewN | apply Kd.R_drew)); exact HO_5.out)); (case aS => exact (below_size (by repeat first | exact HB.out | refine bxSet ?_ (by assumption) | apply below_alloc | apply pw_below_drewN))); (case aL => have := LMc28.out; omega); intro v614 w29 ho hb hg hat; rw [← Ny613.out] at ho; have n0_ := Aside0.mk (hb); have n1_ := Aside0.mk (ho); clear HB; clear HO_5; have HB := n0_; have HO615 := n1_; clear n0_ n1_; clear ho hb hg hat))
           go_roundg kj4
           case measure => have := HK1.out; have := HJ4.out; omega
           case rel => exact ⟨(y613), (decide (x8_4 < 0)), (wrap64 (x7_1 + 1)), (by first | rfl | (simp; done)), (by first | rfl | (simp; done)), H', ⟨by have := HK1.out; have := HJ4.out; omega⟩, ⟨HO615.out⟩, ⟨HB.out⟩⟩
          ·rw [if_neg c28] at H
           exact absurd H (by simp)
         ·rw [if_neg c27] at H
          have c27b0 : (x8_4 == 1) = false := beq_eq_false_iff_ne.mpr c27
          have c27b1 : (x8_4 != 1) = true := bne_iff_ne.mpr c27
          by_cases c30 : x5_1.length < 140737488355328
          ·rw [if_pos c30] at H
           have LMc30 := Aside0.mk c30
           clear c30
           obtain ⟨y616, hy616⟩ : ∃ y_ : List Bool, y_ = (x5_1 ++ [(x8_4 == (-1))]) := ⟨_, rfl⟩
           replace H : (gudgeonref01_sub.l0 kj4 l0 l1 y616 (decide (x8_4 < 0)) (wrap64 (x7_1 + 1))) = some r := by first | (rw [hy616]; with_reducible exact H) | (have H2_ := (Option.bind_some _ _).symm.trans H; rw [hy616]; with_reducible exact H2_) | (have H2_ := (Option.bind_some _ _).symm.trans H; with_reducible exact H2_) | with_reducible exact H | (rw [hy616]; exact H) | exact H
           have Ny616 := Aside0.mk hy616
           clear hy616
           have H' := Aside0.mk H
           clear H
           go_wp2_with (first | ((with_reducible refine gate_callee (f := 82) rfl ?_); refine goL (some 23) Tryd.func82 [.slice A1 l1.length c1, .int .i64 x7_1] ?_; (with_reducible refine (gudgeonref01_at.calls _ _ l1 x7_1 false _ ?side1 ?side2 A8.out).mono ?_); (case side1 => repeat (first | exact (Kd.C_below HR1.out HB.out) | (with_reducible refine Kd.C_alloc ?_ _) | (with_reducible refine Kd.C_drewN ?_ _) | (with_reducible refine Kd.C_drew ?_))); (case side2 => exact HC1.out); rintro e w' ⟨rfl, ⟨nd, rfl⟩⟩; refine ⟨_, rfl, ?_⟩) | ((with_reducible refine gate_builtin (b := .append) (xs := #[.tmp 29, .tmp 36]) rfl ?_); at_builtin; refine Kd.R_append Kd.bool (w0 := w) w.heap.size rfl (.tmp 29) (.tmp 36) 69 4 (.bool false) 1 rfl Tryd.underlying69 info4 rfl (by decide) (by omega) u5 x5_1 (x8_4 == (-1)) [.bool (x8_4 == (-1))] (fun _ => True) (fun _ => False) rfl rfl ?aP (fun _ hk => hk.elim) ?aF ?aO ?aB ?aS ?aL ?_; (case aP => exact rfl); (case aB => exact (by repeat first | exact HB.out | refine bxSet ?_ (by assumption) | apply below_alloc | apply pw_below_drewN)); (case aF => exact (fun _ _ => trivial)); (case aO => exact (by (with_reducible repeat (first | apply Kd.R_alloc | apply Kd.R_drewN | apply Kd.R_drew)); exact HO_5.out)); (case aS => exact (below_size (by repeat first | exact HB.out | refine bxSet ?_ (by assumption) | apply below_alloc | apply pw_below_drewN))); (case aL => have := LMc30.out; omega); intro v617 w31 ho hb hg hat; rw [← Ny616.out] at ho; have n0_ := Aside0.mk (hb); have n1_ := Aside0.mk (ho); clear HB; clear HO_5; have HB := n0_; have HO618 := n1_; clear n0_ n1_; clear ho hb hg hat))
           go_roundg kj4
           case measure => have := HK1.out; have := HJ4.out; omega
           case rel => exact ⟨(y616), (decide (x8_4 < 0)), (wrap64 (x7_1 + 1)), (by first | rfl | (simp; done)), (by first | rfl | (simp; done)), H', ⟨by have := HK1.out; have := HJ4.out; omega⟩, ⟨HO618.out⟩, ⟨HB.out⟩⟩
          ·rw [if_neg c30] at H
           exact absurd H (by simp)
    ·rw [if_neg c4] at H
     exact absurd H (by simp)
   ·rw [if_neg c3] at H
    have c3b0 : decide (x7_1 < (l0.length : Int)) = false := decide_eq_false c3
    clear c3
    obtain ⟨t590, A320, H⟩ := Option.bind_eq_some_iff.mp H
    try dsimp only at H
    have A32 := Aside0.mk A320
    clear A320
    obtain rfl := Option.some.inj H
    obtain ⟨Ao33, co33, eo33⟩ := Kd.R_slice HO_5.out
    subst eo33
    go_wp2_with (first | ((with_reducible refine gate_callee (f := 81) rfl ?_); refine goL (some 41) Tryd.func81 [.slice Ao33 x5_1.length co33] ?_; (with_reducible refine (gudgeonref01_trim.calls k1 _ _ x5_1 t590 _ ?side1 ?side2 A32.out).mono ?_); (case side1 => exact (Kd.R_reads' HO_5.out).2.2); (case side2 => exact (Kd.R_reads' HO_5.out).2.1); rintro e w34 ⟨v591, rfl, ho0, hb⟩; refine ⟨_, rfl, ?_⟩; have HO592 := Aside0.mk (Kd.R_lower (Kd.R_new' ho0 (Kd.R_lt HO_5.out)) (below_size HB.out)); replace HB := Aside0.mk (below_step HB.out hb)))
    go_ret
    exact ⟨_, rfl, Kd.R_mono HO592.out (fun _ hk => trivial), HB.out⟩

/-! ### gudgeonref01_Sub: function 48 -/
def gudgeonref01_Sub.f (k : Nat) (l0 : List Int) (l1 : List Int) : Option (List Int × Int) := (gudgeonref01_Bits.f k l0).bind fun t619 => ((gudgeonref01_Bits.f k l1).bind fun t622 => ((gudgeonref01_cmp.f k t619 t622).bind fun t625 => (if t625 < 0 then (some (([] : List Int), 6)) else ((gudgeonref01_sub.f k t619 t622).bind fun t626 => ((gudgeonref01_Limbs.f k t626).bind fun t629 => (some (t629, 0)))))))
set_option maxHeartbeats 8000000 in
set_option maxRecDepth 100000 in
theorem gudgeonref01_Sub.calls (k : Nat) (A0 : Option Addr) (c0 : Nat) (l0 : List Int) (A1 : Option Addr) (c1 : Nat) (l1 : List Int) (r1 : List Int) (r2 : Int) (w : World) (hr0 : Kd.C (Kd.int .u32) w A0 l0.length l0) (hc0 : l0.length ≤ c0) (hr1 : Kd.C (Kd.int .u32) w A1 l1.length l1) (hc1 : l1.length ≤ c1) (h : gudgeonref01_Sub.f k l0 l1 = some (r1, r2)) :
  Calls Tryd.prog 48 #[.slice A0 l0.length c0, .slice A1 l1.length c1] w fun e w' => ∃ v0_ : Value, e = .returned (.tuple #[v0_, .int .i64 r2]) ∧ Kd.R (Kd.int .u32) 51 w' w.heap.size (fun _ => True) v0_ r1 ∧ Below w.heap.size w w' := by
 have HR0 := Aside0.mk hr0
 have HC0 := Aside0.mk hc0
 clear hr0 hc0
 have HR1 := Aside0.mk hr1
 have HC1 := Aside0.mk hc1
 clear hr1 hc1
 have HB := Aside0.mk (Below.refl w.heap.size w)
 have H : ((gudgeonref01_Bits.f k l0).bind fun t619 => ((gudgeonref01_Bits.f k l1).bind fun t622 => ((gudgeonref01_cmp.f k t619 t622).bind fun t625 => (if t625 < 0 then (some (([] : List Int), 6)) else ((gudgeonref01_sub.f k t619 t622).bind fun t626 => ((gudgeonref01_Limbs.f k t626).bind fun t629 => (some (t629, 0)))))))) = some (r1, r2) := h
 clear h
 obtain ⟨t619, A30, H⟩ := Option.bind_eq_some_iff.mp H
 try dsimp only at H
 have A3 := Aside0.mk A30
 clear A30
 obtain ⟨t622, A40, H⟩ := Option.bind_eq_some_iff.mp H
 try dsimp only at H
 have A4 := Aside0.mk A40
 clear A40
 obtain ⟨t625, A50, H⟩ := Option.bind_eq_some_iff.mp H
 try dsimp only at H
 have A5 := Aside0.mk A50
 clear A50
 by_cases c6 : t625 < 0
 ·rw [if_pos c6] at H
  have c6b0 : decide (t625 < 0) = true := decide_eq_true c6
  clear c6
  simp only [Option.some.injEq, Prod.mk.injEq] at H
  obtain ⟨rfl, rfl⟩ := H
  go_enter Tryd.func48, Tryd.ntmps48
  go_wp2_with (first | ((with_reducible refine gate_callee (f := 67) rfl ?_); refine goL (some 9) Tryd.func67 [.slice A0 l0.length c0] ?_; (with_reducible refine (gudgeonref01_Bits.calls k _ _ l0 t619 _ ?side1 ?side2 A3.out).mono ?_); (case side1 => exact HR0.out); (case side2 => exact HC0.out); rintro e w7 ⟨v620, rfl, ho0, hb⟩; refine ⟨_, rfl, ?_⟩; have HO621 := Aside0.mk (Kd.R_lower ho0 (below_size HB.out)); replace HB := Aside0.mk (below_step HB.out hb)) | ((with_reducible refine gate_callee (f := 67) rfl ?_); refine goL (some 11) Tryd.func67 [.slice A1 l1.length c1] ?_; (with_reducible refine (gudgeonref01_Bits.calls k _ _ l1 t622 _ ?side1 ?side2 A4.out).mono ?_); (case side1 => exact (Kd.C_below HR1.out HB.out)); (case side2 => exact HC1.out); rintro e w8 ⟨v623, rfl, ho0, hb⟩; refine ⟨_, rfl, ?_⟩; have HO624 := Aside0.mk (Kd.R_lower (Kd.R_new' ho0 (Kd.R_lt HO621.out)) (below_size HB.out)); replace HO621 := Aside0.mk (Kd.R_elder' HO621.out (Kd.R_base ho0) hb); replace HB := Aside0.mk (below_step HB.out hb); obtain ⟨Ao9, co9, eo9⟩ := Kd.R_slice HO621.out; subst eo9; obtain ⟨Ao10, co10, eo10⟩ := Kd.R_slice HO624.out; subst eo10) | ((with_reducible refine gate_callee (f := 72) rfl ?_); refine goL (some 14) Tryd.func72 [.slice Ao9 t619.length co9, .slice Ao10 t622.length co10] ?_; (with_reducible refine (gudgeonref01_cmp.calls k _ _ t619 _ _ t622 t625 _ ?side1 ?side2 ?side3 ?side4 A5.out).mono ?_); (case side1 => exact (Kd.R_reads' HO621.out).2.2); (case side2 => exact (Kd.R_reads' HO621.out).2.1); (case side3 => exact (Kd.R_reads' HO624.out).2.2); (case side4 => exact (Kd.R_reads' HO624.out).2.1); rintro e w' ⟨rfl, ⟨nd, rfl⟩⟩; refine ⟨_, rfl, ?_⟩))
  go_ret2
  exact ⟨_, by first | rfl | (simp [errW_none, errW_some] <;> rfl), by first | exact Kd.R_nil _ _ _ _ _ | exact Kd.N_nil _ _ _ _ _ | exact Kd.V_nil _ _ _ _ _ | exact Kd.Q_nil _ _ _ _ _ | exact Kd.S_nil _ _ _ _ _, by repeat first | exact HB.out | refine bxSet ?_ (by assumption) | apply below_alloc | apply pw_below_drewN⟩
 ·rw [if_neg c6] at H
  have c6b0 : decide (t625 < 0) = false := decide_eq_false c6
  clear c6
  obtain ⟨t626, A110, H⟩ := Option.bind_eq_some_iff.mp H
  try dsimp only at H
  have A11 := Aside0.mk A110
  clear A110
  obtain ⟨t629, A120, H⟩ := Option.bind_eq_some_iff.mp H
  try dsimp only at H
  have A12 := Aside0.mk A120
  clear A120
  simp only [Option.some.injEq, Prod.mk.injEq] at H
  obtain ⟨rfl, rfl⟩ := H
  go_enter Tryd.func48, Tryd.ntmps48
  go_wp2_with (first | ((with_reducible refine gate_callee (f := 67) rfl ?_); refine goL (some 9) Tryd.func67 [.slice A0 l0.length c0] ?_; (with_reducible refine (gudgeonref01_Bits.calls k _ _ l0 t619 _ ?side1 ?side2 A3.out).mono ?_); (case side1 => repeat (first | exact HR0.out | (with_reducible refine Kd.C_alloc ?_ _) | (with_reducible refine Kd.C_drewN ?_ _) | (with_reducible refine Kd.C_drew ?_))); (case side2 => exact HC0.out); rintro e w13 ⟨v620, rfl, ho0, hb⟩; refine ⟨_, rfl, ?_⟩; have HO621 := Aside0.mk (Kd.R_lower ho0 (below_size (by repeat first | exact HB.out | refine bxSet ?_ (by assumption) | apply below_alloc | apply pw_below_drewN))); replace HB := Aside0.mk (below_step (by repeat first | exact HB.out | refine bxSet ?_ (by assumption) | apply below_alloc | apply pw_below_drewN) hb)) | ((with_reducible refine gate_callee (f := 67) rfl ?_); refine goL (some 11) Tryd.func67 [.slice A1 l1.length c1] ?_; (with_reducible refine (gudgeonref01_Bits.calls k _ _ l1 t622 _ ?side1 ?side2 A4.out).mono ?_); (case side1 => repeat (first | exact (Kd.C_below HR1.out HB.out) | (with_reducible refine Kd.C_alloc ?_ _) | (with_reducible refine Kd.C_drewN ?_ _) | (with_reducible refine Kd.C_drew ?_))); (case side2 => exact HC1.out); rintro e w14 ⟨v623, rfl, ho0, hb⟩; refine ⟨_, rfl, ?_⟩; have HO624 := Aside0.mk (Kd.R_lower (Kd.R_new' ho0 (Kd.R_lt (by (with_reducible repeat (first | apply Kd.R_alloc | apply Kd.R_drewN | apply Kd.R_drew)); exact HO621.out))) (below_size (by repeat first | exact HB.out | refine bxSet ?_ (by assumption) | apply below_alloc | apply pw_below_drewN))); replace HO621 := Aside0.mk (Kd.R_elder' (by (with_reducible repeat (first | apply Kd.R_alloc | apply Kd.R_drewN | apply Kd.R_drew)); exact HO621.out) (Kd.R_base ho0) hb); replace HB := Aside0.mk (below_step (by repeat first | exact HB.out | refine bxSet ?_ (by assumption) | apply below_alloc | apply pw_below_drewN) hb); obtain ⟨Ao15, co15, eo15⟩ := Kd.R_slice HO621.out; subst eo15; obtain ⟨Ao16, co16, eo16⟩ := Kd.R_slice HO624.out; subst eo16) | ((with_reducible refine gate_callee (f := 72) rfl ?_); refine goL (some 14) Tryd.func72 [.slice Ao15 t619.length co15, .slice Ao16 t622.length co16] ?_; (with_reducible refine (gudgeonref01_cmp.calls k _ _ t619 _ _ t622 t625 _ ?side1 ?side2 ?side3 ?side4 A5.out).mono ?_); (case side1 => repeat (first | exact (Kd.R_reads' HO621.out).2.2 | (with_reducible refine Kd.C_alloc ?_ _) | (with_reducible refine Kd.C_drewN ?_ _) | (with_reducible refine Kd.C_drew ?_))); (case side2 => exact (Kd.R_reads' HO621.out).2.1); (case side3 => repeat (first | exact (Kd.R_reads' HO624.out).2.2 | (with_reducible refine Kd.C_alloc ?_ _) | (with_reducible refine Kd.C_drewN ?_ _) | (with_reducible refine Kd.C_drew ?_))); (case side4 => exact (Kd.R_reads' HO624.out).2.1); rintro e w' ⟨rfl, ⟨nd, rfl⟩⟩; refine ⟨_, rfl, ?_⟩) | ((with_reducible refine gate_callee (f := 73) rfl ?_); refine goL (some 18) Tryd.func73 [.slice Ao15 t619.length co15, .slice Ao16 t622.length co16] ?_; (with_reducible refine (gudgeonref01_sub.calls k _ _ t619 _ _ t622 t626 _ ?side1 ?side2 ?side3 ?side4 A11.out).mono ?_); (case side1 => repeat (first | exact (Kd.R_reads' HO621.out).2.2 | (with_reducible refine Kd.C_alloc ?_ _) | (with_reducible refine Kd.C_drewN ?_ _) | (with_reducible refine Kd.C_drew ?_))); (case side2 => exact (Kd.R_reads' HO621.out).2.1); (case side3 => repeat (first | exact (Kd.R_reads' HO624.out).2.2 | (with_reducible refine Kd.C_alloc ?_ _) | (with_reducible refine Kd.C_drewN ?_ _) | (with_reducible refine Kd.C_drew ?_))); (case side4 => exact (Kd.R_reads' HO624.out).2.1); rintro e w17 ⟨v627, rfl, ho0, hb⟩; refine ⟨_, rfl, ?_⟩; have HO628 := Aside0.mk (Kd.R_lower (Kd.R_new' (Kd.R_new' ho0 (Kd.R_lt (by (with_reducible repeat (first | apply Kd.R_alloc | apply Kd.R_drewN | apply Kd.R_drew)); exact HO621.out))) (Kd.R_lt (by (with_reducible repeat (first | apply Kd.R_alloc | apply Kd.R_drewN | apply Kd.R_drew)); exact HO624.out))) (below_size (by repeat first | exact HB.out | refine bxSet ?_ (by assumption) | apply below_alloc | apply pw_below_drewN))); replace HB := Aside0.mk (below_step (by repeat first | exact HB.out | refine bxSet ?_ (by assumption) | apply below_alloc | apply pw_below_drewN) hb); obtain ⟨Ao18, co18, eo18⟩ := Kd.R_slice HO628.out; subst eo18) | ((with_reducible refine gate_callee (f := 69) rfl ?_); refine goL (some 19) Tryd.func69 [.slice Ao18 t626.length co18] ?_; (with_reducible refine (gudgeonref01_Limbs.calls k _ _ t626 t629 _ ?side1 ?side2 A12.out).mono ?_); (case side1 => repeat (first | exact (Kd.R_reads' HO628.out).2.2 | (with_reducible refine Kd.C_alloc ?_ _) | (with_reducible refine Kd.C_drewN ?_ _) | (with_reducible refine Kd.C_drew ?_))); (case side2 => exact (Kd.R_reads' HO628.out).2.1); rintro e w19 ⟨v630, rfl, ho0, hb⟩; refine ⟨_, rfl, ?_⟩; have HO631 := Aside0.mk (Kd.R_lower ho0 (below_size (by repeat first | exact HB.out | refine bxSet ?_ (by assumption) | apply below_alloc | apply pw_below_drewN))); replace HB := Aside0.mk (below_step (by repeat first | exact HB.out | refine bxSet ?_ (by assumption) | apply below_alloc | apply pw_below_drewN) hb)))
  go_ret2
  exact ⟨_, rfl, HO631.out, HB.out⟩

end Go.Proofs.YthnfmmaolkenkaaDoor.PA
/- Written by a program of this session, wip/tools/patch_print.py, over the kit's print of the loaded functions. -/
namespace Go.Proofs.YthnfmmaolkenkaaDoor.H
end Go.Proofs.YthnfmmaolkenkaaDoor.H
namespace Go.Proofs.YthnfmmaolkenkaaDoor.PA
open Go.RowKit Go.Proofs.YthnfmmaolkenkaaDoorW.PrintWords Go.Proofs.YthnfmmaolkenkaaDoorW.PrintLast Go.Proofs.YthnfmmaolkenkaaDoorW.PrintMore Go.Proofs.YthnfmmaolkenkaaDoor.H
attribute [local go_sem] max2_int min2_int max_two min_two max_three min_three max_four min_four   -- for this text's walks alone
attribute [local go_sem] box_twice
set_option linter.unusedVariables false
set_option linter.unusedSimpArgs false

/-! ### gudgeonref02_Add: function 21 -/
def gudgeonref02_Add.f (k : Nat) (a0_0 : Bool) (l0_1 : List Int) (a1_0 : Bool) (l1_1 : List Int) : Option (Bool × List Int) := if (a0_0 == a1_0) = true then ((gudgeonref01_Add.f k l0_1 l1_1).bind fun t635 => ((gudgeonref02_Norm.f k a0_0 t635).bind fun bt638 => (some (bt638.1, bt638.2)))) else ((gudgeonref01_Sub.f k l0_1 l1_1).bind fun bt642 => (if bt642.2 = 0 then ((gudgeonref02_Norm.f k a0_0 bt642.1).bind fun bt646 => (some (bt646.1, bt646.2))) else ((gudgeonref01_Sub.f k l1_1 l0_1).bind fun bt650 => ((gudgeonref02_Norm.f k a1_0 bt650.1).bind fun bt654 => (some (bt654.1, bt654.2))))))
def gudgeonref02_Add.T2 : Bool × List (List Nat × List Nat) := (true, [([], []), ([0], [0]), ([], []), ([2], [2]), ([], []), ([4], [4]), ([3, 5], [3, 5]), ([1, 6], [1, 6]), ([7, 6], [7]), ([8, 8, 0, 1, 2, 3, 4, 5, 6, 7, 8], [8])])
def gudgeonref02_Add.B2 : List Nat := [0, 1, 0, 4, 0, 16, 60, 127, 255, 511]
theorem gudgeonref02_Add.tab2 : rtab .any (opsOf Tryd.f21 2) = gudgeonref02_Add.T2 := by kernel_rfl
theorem gudgeonref02_Add.bits2 : waitsOk gudgeonref02_Add.T2.2 gudgeonref02_Add.B2 = true := by kernel_rfl
set_option maxHeartbeats 8000000 in
set_option maxRecDepth 100000 in
theorem gudgeonref02_Add.calls (k : Nat) (a0_0 : Bool) (A0_1 : Option Addr) (c0_1 : Nat) (l0_1 : List Int) (a1_0 : Bool) (A1_1 : Option Addr) (c1_1 : Nat) (l1_1 : List Int) (r1 : Bool) (r2 : List Int) (w : World) (hr0_1 : Kd.C (Kd.int .u32) w A0_1 l0_1.length l0_1) (hc0_1 : l0_1.length ≤ c0_1) (hr1_1 : Kd.C (Kd.int .u32) w A1_1 l1_1.length l1_1) (hc1_1 : l1_1.length ≤ c1_1) (h : gudgeonref02_Add.f k a0_0 l0_1 a1_0 l1_1 = some (r1, r2)) :
  Calls Tryd.prog 21 #[.agg #[.bool a0_0, .slice A0_1 l0_1.length c0_1], .agg #[.bool a1_0, .slice A1_1 l1_1.length c1_1]] w fun e w' => ∃ v1_ : Value, e = .returned (.agg #[.bool r1, v1_]) ∧ Kd.R (Kd.int .u32) 51 w' w.heap.size (fun _ => True) v1_ r2 ∧ Below w.heap.size w w' := by
 have hu24 := Tryd.underlying24
 have HR0_1 := Aside0.mk hr0_1
 have HC0_1 := Aside0.mk hc0_1
 clear hr0_1 hc0_1
 have HR1_1 := Aside0.mk hr1_1
 have HC1_1 := Aside0.mk hc1_1
 clear hr1_1 hc1_1
 have HB := Aside0.mk (Below.refl w.heap.size w)
 have H : (if (a0_0 == a1_0) = true then ((gudgeonref01_Add.f k l0_1 l1_1).bind fun t635 => ((gudgeonref02_Norm.f k a0_0 t635).bind fun bt638 => (some (bt638.1, bt638.2)))) else ((gudgeonref01_Sub.f k l0_1 l1_1).bind fun bt642 => (if bt642.2 = 0 then ((gudgeonref02_Norm.f k a0_0 bt642.1).bind fun bt646 => (some (bt646.1, bt646.2))) else ((gudgeonref01_Sub.f k l1_1 l0_1).bind fun bt650 => ((gudgeonref02_Norm.f k a1_0 bt650.1).bind fun bt654 => (some (bt654.1, bt654.2))))))) = some (r1, r2) := h
 clear h
 by_cases c3 : (a0_0 == a1_0) = true
 ·rw [if_pos c3] at H
  have c3b0 : (a0_0 == a1_0) = true := c3
  (try (have c3b1 : decide (a0_0 = a1_0) = true := by simpa using c3))
  (try (have c3b2 : (a0_0 == a1_0) = true := by simpa using c3))
  clear c3
  obtain ⟨t635, A40, H⟩ := Option.bind_eq_some_iff.mp H
  try dsimp only at H
  have A4 := Aside0.mk A40
  clear A40
  obtain ⟨⟨t638, t639⟩, A50, H⟩ := Option.bind_eq_some_iff.mp H
  try dsimp only at H
  have A5 := Aside0.mk A50
  clear A50
  simp only [Option.some.injEq, Prod.mk.injEq] at H
  obtain ⟨rfl, rfl⟩ := H
  go_enter Tryd.func21, Tryd.ntmps21
  try go_wp2_with (first | ((with_reducible refine gate_dst (N := 2) rfl ?_); refine box_event ?hg (N := 2) ?hd (cs := #[.bool a0_0, .slice A0_1 l0_1.length c0_1]) (t := 24) ?hr ?_; (case hd => rfl); (case hg => rfl); (case hr => first | (go_simp; done) | (go_simp; rfl)); intro gb632 hg w6 hbox hb; have BK632 := Aside0.mk (hbox); have GW632 := Aside0.mk (bxLe HB.out hg); have GE632 := GW632; replace HB := Aside0.mk (below_step HB.out hb); clear hb hbox hg) | ((with_reducible refine gate_dst (N := 3) rfl ?_); refine box_event ?hg (N := 3) ?hd (cs := #[.bool a1_0, .slice A1_1 l1_1.length c1_1]) (t := 24) ?hr ?_; (case hd => rfl); (case hg => rfl); (case hr => first | (go_simp; done) | (go_simp; rfl)); intro gb633 hg w7 hbox hb; have BK633 := Aside0.mk (hbox); have GW633 := Aside0.mk (bxLe HB.out hg); have GE633 := GW633; replace HB := Aside0.mk (below_step HB.out hb); have NB632_633 := Aside0.mk (neL BK632.out hg); have NB633_632 := Aside0.mk (neR BK632.out hg); replace BK632 := Aside0.mk (blk_below BK632.out hb); clear hb hbox hg) | ((with_reducible refine gate_dst (N := 4) rfl ?_); refine box_event ?hg (N := 4) ?hd (cs := #[.bool false, .slice none 0 0]) (t := 24) ?hr ?_; (case hd => rfl); (case hg => rfl); (case hr => first | (go_simp; done) | (go_simp; rfl)); intro gb634 hg w8 hbox hb; have BK634 := Aside0.mk (hbox); have GW634 := Aside0.mk (bxLe HB.out hg); have GE634 := GW634; replace HB := Aside0.mk (below_step HB.out hb); have NB632_634 := Aside0.mk (neL BK632.out hg); have NB634_632 := Aside0.mk (neR BK632.out hg); replace BK632 := Aside0.mk (blk_below BK632.out hb); have NB633_634 := Aside0.mk (neL BK633.out hg); have NB634_633 := Aside0.mk (neR BK633.out hg); replace BK633 := Aside0.mk (blk_below BK633.out hb); clear hb hbox hg; have hnb9 := NB632_633.out; have hnc9 := NB633_632.out; have hnb10 := NB632_634.out; have hnc10 := NB634_632.out; have hcz11_0 : w8.cell? ⟨gb632, 0, none⟩ = some (.bool a0_0) := bc0 BK632.out; have hcz11_1 : w8.cell? ⟨gb632, 1, none⟩ = some (.slice A0_1 l0_1.length c0_1) := bc1 BK632.out; have hfz11_0 := blk_frozen BK632.out 0; have hfz11_1 := blk_frozen BK632.out 1; have hnb12 := NB633_634.out; have hnc12 := NB634_633.out; have hcz13_0 : w8.cell? ⟨gb633, 0, none⟩ = some (.bool a1_0) := bc0 BK633.out; have hcz13_1 : w8.cell? ⟨gb633, 1, none⟩ = some (.slice A1_1 l1_1.length c1_1) := bc1 BK633.out; have hfz13_0 := blk_frozen BK633.out 0; have hfz13_1 := blk_frozen BK633.out 1))
  replace BK632 := Aside0.mk (blk_drew BK632.out)
  replace BK633 := Aside0.mk (blk_drew BK633.out)
  replace BK634 := Aside0.mk (blk_drew BK634.out)
  replace HB := Aside0.mk (below_drew1 HB.out)
  refine start_ (n := 10) (S := fun w' => w'.cell? ⟨gb632, 0, none⟩ = some (.bool a0_0) ∧ w'.cell? ⟨gb632, 1, none⟩ = some (.slice A0_1 l0_1.length c0_1) ∧ w'.cell? ⟨gb633, 0, none⟩ = some (.bool a1_0) ∧ w'.cell? ⟨gb633, 1, none⟩ = some (.slice A1_1 l1_1.length c1_1)) (ds := []) #[false, false, false, false, false, false, false, false, false, false] (by kernel_rfl) rfl rfl ⟨bc0 BK632.out, bc1 BK632.out, bc0 BK633.out, bc1 BK633.out⟩ (fun hHeld => ?_); refine with_tabW gudgeonref02_Add.tab2 gudgeonref02_Add.bits2 (fun HT_ HW_ => ?_)
  generalize w8.drew = w14 at BK632 BK633 BK634 HB hHeld ⊢
  refine pure_ (i := 0) (N := some 14) (v := ?_) (a' := ?_) #[true, false, false, false, false, false, false, false, false, false] rfl rfl (any_of HT_.out (by kernel_rfl)) (fun _ _ _ h => h) (Or.inl ⟨by rfl, ?_⟩) ?_ ?_
  rotate_left
  ·intro w'
   go_simp
   with_reducible rfl
  rotate_left
  ·simp only [Act.put, List.setIfInBounds_toArray, List.set_cons_zero, List.set_cons_succ, i64_w, i32_w]
   rfl
  refine pure_ (i := 2) (N := some 16) (v := ?_) (a' := ?_) #[true, false, true, false, false, false, false, false, false, false] rfl rfl (any_of HT_.out (by kernel_rfl)) (fun _ _ _ h => h) (Or.inl ⟨by rfl, ?_⟩) ?_ ?_
  rotate_left
  ·intro w'
   go_simp
   with_reducible rfl
  rotate_left
  ·simp only [Act.put, List.setIfInBounds_toArray, List.set_cons_zero, List.set_cons_succ, i64_w, i32_w]
   rfl
  refine pure_ (i := 4) (N := some 18) (v := ?_) (a' := ?_) #[true, false, true, false, true, false, false, false, false, false] rfl rfl (any_of HT_.out (by kernel_rfl)) (fun _ _ _ h => h) (Or.inl ⟨by rfl, ?_⟩) ?_ ?_
  rotate_left
  ·intro w'
   go_simp
   with_reducible rfl
  rotate_left
  ·simp only [Act.put, List.setIfInBounds_toArray, List.set_cons_zero, List.set_cons_succ, i64_w, i32_w]
   rfl
  refine take_ (i := 1) (N := some 15) (v := ?_) (a' := ?_) #[true, true, true, false, true, false, false, false, false, false] rfl rfl (take_ofW HT_.out HW_.out (by kernel_rfl)) (fun _ _ _ h => h) (Or.inl ⟨by rfl, ?_⟩) hHeld ?_ ?_
  rotate_left
  ·rintro w' ⟨s0, s1, s2, s3⟩
   go_simp
   with_reducible rfl
  rotate_left
  ·simp only [Act.put, List.setIfInBounds_toArray, List.set_cons_zero, List.set_cons_succ, i64_w, i32_w]
   rfl
  refine take_ (i := 3) (N := some 17) (v := ?_) (a' := ?_) #[true, true, true, true, true, false, false, false, false, false] rfl rfl (take_ofW HT_.out HW_.out (by kernel_rfl)) (fun _ _ _ h => h) (Or.inl ⟨by rfl, ?_⟩) hHeld ?_ ?_
  rotate_left
  ·rintro w' ⟨s0, s1, s2, s3⟩
   go_simp
   with_reducible rfl
  rotate_left
  ·simp only [Act.put, List.setIfInBounds_toArray, List.set_cons_zero, List.set_cons_succ, i64_w, i32_w]
   rfl
  refine take_ (i := 5) (N := some 19) (v := ?_) (a' := ?_) #[true, true, true, true, true, true, false, false, false, false] rfl rfl (take_ofW HT_.out HW_.out (by kernel_rfl)) (fun _ _ _ h => h) (Or.inl ⟨by rfl, ?_⟩) hHeld ?_ ?_
  rotate_left
  ·rintro w' ⟨s0, s1, s2, s3⟩
   go_simp
   with_reducible rfl
  rotate_left
  ·simp only [Act.put, List.setIfInBounds_toArray, List.set_cons_zero, List.set_cons_succ, i64_w, i32_w]
   rfl
  refine one_ (i := 6) (N := some 20) #[true, true, true, true, true, true, true, false, false, false] rfl rfl (one_of HT_.out (by kernel_rfl)) (by decide) (fun K hK => ?_)
  refine goR Tryd.func44 [.slice A0_1 l0_1.length c0_1, .slice A1_1 l1_1.length c1_1] ?_
  with_reducible refine (gudgeonref01_Add.calls k _ _ l0_1 _ _ l1_1 t635 _ ?side1 ?side2 ?side3 ?side4 A4.out).mono ?_
  (case side1 => exact (Kd.C_below HR0_1.out HB.out))
  (case side2 => exact HC0_1.out)
  (case side3 => exact (Kd.C_below HR1_1.out HB.out))
  (case side4 => exact HC1_1.out)
  rintro e w15 ⟨v636, rfl, ho0, hb⟩
  refine ⟨_, rfl, ?_⟩
  have HO637 := Aside0.mk (Kd.R_lower ho0 (below_size HB.out))
  replace BK632 := Aside0.mk (blk_below BK632.out hb)
  replace BK633 := Aside0.mk (blk_below BK633.out hb)
  replace BK634 := Aside0.mk (blk_below BK634.out hb)
  replace HB := Aside0.mk (below_step HB.out hb)
  (try clear hb)
  (try clear hb2)
  (try clear hk)
  (try clear hi)
  (try clear ho0)
  obtain ⟨Ao16, co16, eo16⟩ := Kd.R_slice HO637.out
  subst eo16
  refine hK.out _ _ ⟨bc0 BK632.out, bc1 BK632.out, bc0 BK633.out, bc1 BK633.out⟩ (fun hHeld => ?_)
  clear hK K
  refine norm_ (a' := ?_) ?_ ?_
  rotate_left
  ·show Act.put _ (some 20) _ = _
   simp only [Act.put, List.setIfInBounds_toArray, List.set_cons_zero, List.set_cons_succ, i64_w, i32_w]
   rfl
  refine pure_ (i := 7) (N := some 21) (v := ?_) (a' := ?_) #[true, true, true, true, true, true, true, true, false, false] rfl rfl (any_of HT_.out (by kernel_rfl)) (fun _ _ _ h => h) (Or.inl ⟨by rfl, ?_⟩) ?_ ?_
  rotate_left
  ·intro w'
   go_simp
   with_reducible rfl
  rotate_left
  ·simp only [Act.put, List.setIfInBounds_toArray, List.set_cons_zero, List.set_cons_succ, i64_w, i32_w]
   rfl
  refine one_ (i := 8) (N := some 22) #[true, true, true, true, true, true, true, true, true, false] rfl rfl (one_of HT_.out (by kernel_rfl)) (by decide) (fun K hK => ?_)
  refine goR Tryd.func17 [.agg #[.bool a0_0, .slice Ao16 t635.length co16]] ?_
  with_reducible refine (gudgeonref02_Norm.calls k a0_0 _ _ t635 t638 t639 _ ?side1 ?side2 A5.out).mono ?_
  (case side1 => exact (Kd.R_reads' HO637.out).2.2)
  (case side2 => exact (Kd.R_reads' HO637.out).2.1)
  rintro e w17 ⟨v640, rfl, ho0, hb⟩
  refine ⟨_, rfl, ?_⟩
  have HO641 := Aside0.mk (Kd.R_lower (Kd.R_new' ho0 (Kd.R_lt HO637.out)) (below_size HB.out))
  replace BK632 := Aside0.mk (blk_below BK632.out hb)
  replace BK633 := Aside0.mk (blk_below BK633.out hb)
  replace BK634 := Aside0.mk (blk_below BK634.out hb)
  replace HB := Aside0.mk (below_step HB.out hb)
  (try clear hb)
  (try clear hb2)
  (try clear hk)
  (try clear hi)
  (try clear ho0)
  obtain ⟨Ao19, co19, eo19⟩ := Kd.R_slice HO641.out
  subst eo19
  refine hK.out _ _ ⟨bc0 BK632.out, bc1 BK632.out, bc0 BK633.out, bc1 BK633.out⟩ (fun hHeld => ?_)
  clear hK K
  refine norm_ (a' := ?_) ?_ ?_
  rotate_left
  ·show Act.put _ (some 22) _ = _
   simp only [Act.put, List.setIfInBounds_toArray, List.set_cons_zero, List.set_cons_succ, i64_w, i32_w]
   rfl
  refine one_ (i := 9) (N := none) #[true, true, true, true, true, true, true, true, true, true] rfl rfl (one_of HT_.out (by kernel_rfl)) (by decide) (fun K hK => ?_)
  have hs18 : w17.cell? ⟨gb634, 0, none⟩ = some (.bool false) := bc0 BK634.out
  have hfs18 := blk_frozen BK634.out 0
  have hns18_0 := NB632_634.out
  have hns18_1 := NB633_634.out
  have hms18_0 := NB634_632.out
  have hms18_1 := NB634_633.out
  have hs20 : w17.cell? ⟨gb634, 1, none⟩ = some (.slice none 0 0) := bc1 BK634.out
  have hfs20 := blk_frozen BK634.out 1
  have hns20_0 := NB632_634.out
  have hns20_1 := NB633_634.out
  have hms20_0 := NB634_632.out
  have hms20_1 := NB634_633.out
  refine skip_ (w1 := ?_) (by rfl) rfl ?_ ?_
  rotate_left
  ·go_simp
   rfl
  refine hK.out _ _ ⟨((cell_far (p := ⟨gb634, _, none⟩) NB632_634.out _).trans (((cell_far (p := ⟨gb634, _, none⟩) NB632_634.out _).trans (hHeld.1)))), ((cell_far (p := ⟨gb634, _, none⟩) NB632_634.out _).trans (((cell_far (p := ⟨gb634, _, none⟩) NB632_634.out _).trans (hHeld.2.1)))), ((cell_far (p := ⟨gb634, _, none⟩) NB633_634.out _).trans (((cell_far (p := ⟨gb634, _, none⟩) NB633_634.out _).trans (hHeld.2.2.1)))), ((cell_far (p := ⟨gb634, _, none⟩) NB633_634.out _).trans (((cell_far (p := ⟨gb634, _, none⟩) NB633_634.out _).trans (hHeld.2.2.2))))⟩ (fun hHeld => ?_)
  clear hK K
  refine done_ (done_of HT_.out (by kernel_rfl)) ?_
  try go_wp2
  refine bodyPost_ret (results_cell_row rfl _ _ gb634 24 #[.bool t638, .slice Ao19 t639.length co19] (0, 0) _ rfl (by refine blk_put (cs := #[.bool t638, .slice none 0 0]) ?_ 1 _ rfl; refine blk_put (cs := #[.bool false, .slice none 0 0]) ?_ 0 _ rfl; exact BK634.out) Tryd.underlying24 rfl (by kernel_rfl)) rfl ?_
  exact ⟨_, rfl, Kd.R_mono (Kd.R_far (p := ⟨gb634, 1, none⟩) (Kd.R_far (p := ⟨gb634, 0, none⟩) (Kd.R_types HO641.out BK634.out (by decide)) (fun _ hk => hk.2) (.bool t638)) (fun _ hk => hk.2) (.slice Ao19 t639.length co19)) (fun _ hk => trivial), by repeat first | exact HB.out | refine bxSet ?_ (by assumption) | apply below_alloc | apply pw_below_drewN⟩
 ·rw [if_neg c3] at H
  have c3b0 : (a0_0 == a1_0) = false := by simpa using c3
  (try (have c3b1 : decide (a0_0 = a1_0) = false := by simpa using c3))
  (try (have c3b2 : (a0_0 == a1_0) = false := by simpa using c3))
  (try (have c3b3 : ¬ (a0_0 = a1_0) := by simpa using c3))
  clear c3
  obtain ⟨⟨t642, t643⟩, A210, H⟩ := Option.bind_eq_some_iff.mp H
  try dsimp only at H
  have A21 := Aside0.mk A210
  clear A210
  by_cases c22 : t643 = 0
  ·rw [if_pos c22] at H
   have c22b0 : (t643 == 0) = true := beq_iff_eq.mpr c22
   have c22b1 : (t643 != 0) = false := bne_eq_false_iff_eq.mpr c22
   clear c22
   obtain ⟨⟨t646, t647⟩, A230, H⟩ := Option.bind_eq_some_iff.mp H
   try dsimp only at H
   have A23 := Aside0.mk A230
   clear A230
   simp only [Option.some.injEq, Prod.mk.injEq] at H
   obtain ⟨rfl, rfl⟩ := H
   go_enter Tryd.func21, Tryd.ntmps21
   go_wp2_with (first | ((with_reducible refine gate_dst (N := 2) rfl ?_); refine box_event ?hg (N := 2) ?hd (cs := #[.bool a0_0, .slice A0_1 l0_1.length c0_1]) (t := 24) ?hr ?_; (case hd => rfl); (case hg => rfl); (case hr => first | (go_simp; done) | (go_simp; rfl)); intro gb632 hg w24 hbox hb; have BK632 := Aside0.mk (hbox); have GW632 := Aside0.mk (bxLe HB.out hg); have GE632 := GW632; replace HB := Aside0.mk (below_step HB.out hb); clear hb hbox hg) | ((with_reducible refine gate_dst (N := 3) rfl ?_); refine box_event ?hg (N := 3) ?hd (cs := #[.bool a1_0, .slice A1_1 l1_1.length c1_1]) (t := 24) ?hr ?_; (case hd => rfl); (case hg => rfl); (case hr => first | (go_simp; done) | (go_simp; rfl)); intro gb633 hg w25 hbox hb; have BK633 := Aside0.mk (hbox); have GW633 := Aside0.mk (bxLe HB.out hg); have GE633 := GW633; replace HB := Aside0.mk (below_step HB.out hb); have NB632_633 := Aside0.mk (neL BK632.out hg); have NB633_632 := Aside0.mk (neR BK632.out hg); replace BK632 := Aside0.mk (blk_below BK632.out hb); clear hb hbox hg) | ((with_reducible refine gate_dst (N := 4) rfl ?_); refine box_event ?hg (N := 4) ?hd (cs := #[.bool false, .slice none 0 0]) (t := 24) ?hr ?_; (case hd => rfl); (case hg => rfl); (case hr => first | (go_simp; done) | (go_simp; rfl)); intro gb634 hg w26 hbox hb; have BK634 := Aside0.mk (hbox); have GW634 := Aside0.mk (bxLe HB.out hg); have GE634 := GW634; replace HB := Aside0.mk (below_step HB.out hb); have NB632_634 := Aside0.mk (neL BK632.out hg); have NB634_632 := Aside0.mk (neR BK632.out hg); replace BK632 := Aside0.mk (blk_below BK632.out hb); have NB633_634 := Aside0.mk (neL BK633.out hg); have NB634_633 := Aside0.mk (neR BK633.out hg); replace BK633 := Aside0.mk (blk_below BK633.out hb); clear hb hbox hg; have hnb27 := NB632_633.out; have hnc27 := NB633_632.out; have hnb28 := NB632_634.out; have hnc28 := NB634_632.out; have hcz29_0 : w26.cell? ⟨gb632, 0, none⟩ = some (.bool a0_0) := bc0 BK632.out; have hcz29_1 : w26.cell? ⟨gb632, 1, none⟩ = some (.slice A0_1 l0_1.length c0_1) := bc1 BK632.out; have hfz29_0 := blk_frozen BK632.out 0; have hfz29_1 := blk_frozen BK632.out 1; have hnb30 := NB633_634.out; have hnc30 := NB634_633.out; have hcz31_0 : w26.cell? ⟨gb633, 0, none⟩ = some (.bool a1_0) := bc0 BK633.out; have hcz31_1 : w26.cell? ⟨gb633, 1, none⟩ = some (.slice A1_1 l1_1.length c1_1) := bc1 BK633.out; have hfz31_0 := blk_frozen BK633.out 0; have hfz31_1 := blk_frozen BK633.out 1) | ((with_reducible refine gate_callee (f := 48) rfl ?_); refine goL (some 28) Tryd.func48 [.slice A0_1 l0_1.length c0_1, .slice A1_1 l1_1.length c1_1] ?_; (with_reducible refine (gudgeonref01_Sub.calls k _ _ l0_1 _ _ l1_1 t642 t643 _ ?side1 ?side2 ?side3 ?side4 A21.out).mono ?_); (case side1 => exact (Kd.C_below HR0_1.out HB.out)); (case side2 => exact HC0_1.out); (case side3 => exact (Kd.C_below HR1_1.out HB.out)); (case side4 => exact HC1_1.out); rintro e w32 ⟨v644, rfl, ho0, hb⟩; refine ⟨_, rfl, ?_⟩; have HO645 := Aside0.mk (Kd.R_lower ho0 (below_size HB.out)); replace BK632 := Aside0.mk (blk_below BK632.out hb); replace BK634 := Aside0.mk (blk_below BK634.out hb); replace HB := Aside0.mk (below_step HB.out hb); have hcz33_0 : w32.cell? ⟨gb632, 0, none⟩ = some (.bool a0_0) := bc0 BK632.out; have hcz33_1 : w32.cell? ⟨gb632, 1, none⟩ = some (.slice A0_1 l0_1.length c0_1) := bc1 BK632.out; have hfz33_0 := blk_frozen BK632.out 0; have hfz33_1 := blk_frozen BK632.out 1; obtain ⟨Ao34, co34, eo34⟩ := Kd.R_slice HO645.out; subst eo34) | ((with_reducible refine gate_callee (f := 17) rfl ?_); refine goL (some 37) Tryd.func17 [.agg #[.bool a0_0, .slice Ao34 t642.length co34]] ?_; (with_reducible refine (gudgeonref02_Norm.calls k a0_0 _ _ t642 t646 t647 _ ?side1 ?side2 A23.out).mono ?_); (case side1 => exact (Kd.R_reads' HO645.out).2.2); (case side2 => exact (Kd.R_reads' HO645.out).2.1); rintro e w35 ⟨v648, rfl, ho0, hb⟩; refine ⟨_, rfl, ?_⟩; have HO649 := Aside0.mk (Kd.R_lower (Kd.R_new' ho0 (Kd.R_lt HO645.out)) (below_size HB.out)); replace BK634 := Aside0.mk (blk_below BK634.out hb); replace HB := Aside0.mk (below_step HB.out hb); have hcz36_0 : w35.cell? ⟨gb634, 0, none⟩ = some (.bool false) := bc0 BK634.out; have hcz36_1 : w35.cell? ⟨gb634, 1, none⟩ = some (.slice none 0 0) := bc1 BK634.out; have hfz36_0 := blk_frozen BK634.out 0; have hfz36_1 := blk_frozen BK634.out 1; obtain ⟨Ao37, co37, eo37⟩ := Kd.R_slice HO649.out; subst eo37))
   refine bodyPost_ret (results_cell_row rfl _ _ gb634 24 #[.bool t646, .slice Ao37 t647.length co37] (0, 0) _ rfl (by refine blk_put (cs := #[.bool t646, .slice none 0 0]) ?_ 1 _ rfl; refine blk_put (cs := #[.bool false, .slice none 0 0]) ?_ 0 _ rfl; exact BK634.out) Tryd.underlying24 rfl (by kernel_rfl)) rfl ?_
   exact ⟨_, rfl, Kd.R_mono (Kd.R_far (p := ⟨gb634, 1, none⟩) (Kd.R_far (p := ⟨gb634, 0, none⟩) (Kd.R_types HO649.out BK634.out (by decide)) (fun _ hk => hk.2) (.bool t646)) (fun _ hk => hk.2) (.slice Ao37 t647.length co37)) (fun _ hk => trivial), by repeat first | exact HB.out | refine bxSet ?_ (by assumption) | apply below_alloc | apply pw_below_drewN⟩
  ·rw [if_neg c22] at H
   have c22b0 : (t643 == 0) = false := beq_eq_false_iff_ne.mpr c22
   have c22b1 : (t643 != 0) = true := bne_iff_ne.mpr c22
   obtain ⟨⟨t650, t651⟩, A380, H⟩ := Option.bind_eq_some_iff.mp H
   try dsimp only at H
   have A38 := Aside0.mk A380
   clear A380
   obtain ⟨⟨t654, t655⟩, A390, H⟩ := Option.bind_eq_some_iff.mp H
   try dsimp only at H
   have A39 := Aside0.mk A390
   clear A390
   simp only [Option.some.injEq, Prod.mk.injEq] at H
   obtain ⟨rfl, rfl⟩ := H
   go_enter Tryd.func21, Tryd.ntmps21
   go_wp2_with (first | ((with_reducible refine gate_dst (N := 2) rfl ?_); refine box_event ?hg (N := 2) ?hd (cs := #[.bool a0_0, .slice A0_1 l0_1.length c0_1]) (t := 24) ?hr ?_; (case hd => rfl); (case hg => rfl); (case hr => first | (go_simp; done) | (go_simp; rfl)); intro gb632 hg w40 hbox hb; have BK632 := Aside0.mk (hbox); have GW632 := Aside0.mk (bxLe HB.out hg); have GE632 := GW632; replace HB := Aside0.mk (below_step HB.out hb); clear hb hbox hg) | ((with_reducible refine gate_dst (N := 3) rfl ?_); refine box_event ?hg (N := 3) ?hd (cs := #[.bool a1_0, .slice A1_1 l1_1.length c1_1]) (t := 24) ?hr ?_; (case hd => rfl); (case hg => rfl); (case hr => first | (go_simp; done) | (go_simp; rfl)); intro gb633 hg w41 hbox hb; have BK633 := Aside0.mk (hbox); have GW633 := Aside0.mk (bxLe HB.out hg); have GE633 := GW633; replace HB := Aside0.mk (below_step HB.out hb); have NB632_633 := Aside0.mk (neL BK632.out hg); have NB633_632 := Aside0.mk (neR BK632.out hg); replace BK632 := Aside0.mk (blk_below BK632.out hb); clear hb hbox hg) | ((with_reducible refine gate_dst (N := 4) rfl ?_); refine box_event ?hg (N := 4) ?hd (cs := #[.bool false, .slice none 0 0]) (t := 24) ?hr ?_; (case hd => rfl); (case hg => rfl); (case hr => first | (go_simp; done) | (go_simp; rfl)); intro gb634 hg w42 hbox hb; have BK634 := Aside0.mk (hbox); have GW634 := Aside0.mk (bxLe HB.out hg); have GE634 := GW634; replace HB := Aside0.mk (below_step HB.out hb); have NB632_634 := Aside0.mk (neL BK632.out hg); have NB634_632 := Aside0.mk (neR BK632.out hg); replace BK632 := Aside0.mk (blk_below BK632.out hb); have NB633_634 := Aside0.mk (neL BK633.out hg); have NB634_633 := Aside0.mk (neR BK633.out hg); replace BK633 := Aside0.mk (blk_below BK633.out hb); clear hb hbox hg; have hnb43 := NB632_633.out; have hnc43 := NB633_632.out; have hnb44 := NB632_634.out; have hnc44 := NB634_632.out; have hcz45_0 : w42.cell? ⟨gb632, 0, none⟩ = some (.bool a0_0) := bc0 BK632.out; have hcz45_1 : w42.cell? ⟨gb632, 1, none⟩ = some (.slice A0_1 l0_1.length c0_1) := bc1 BK632.out; have hfz45_0 := blk_frozen BK632.out 0; have hfz45_1 := blk_frozen BK632.out 1; have hnb46 := NB633_634.out; have hnc46 := NB634_633.out; have hcz47_0 : w42.cell? ⟨gb633, 0, none⟩ = some (.bool a1_0) := bc0 BK633.out; have hcz47_1 : w42.cell? ⟨gb633, 1, none⟩ = some (.slice A1_1 l1_1.length c1_1) := bc1 BK633.out; have hfz47_0 := blk_frozen BK633.out 0; have hfz47_1 := blk_frozen BK633.out 1) | ((with_reducible refine gate_callee (f := 48) rfl ?_); refine goL (some 28) Tryd.func48 [.slice A0_1 l0_1.length c0_1, .slice A1_1 l1_1.length c1_1] ?_; (with_reducible refine (gudgeonref01_Sub.calls k _ _ l0_1 _ _ l1_1 t642 t643 _ ?side1 ?side2 ?side3 ?side4 A21.out).mono ?_); (case side1 => exact (Kd.C_below HR0_1.out HB.out)); (case side2 => exact HC0_1.out); (case side3 => exact (Kd.C_below HR1_1.out HB.out)); (case side4 => exact HC1_1.out); rintro e w48 ⟨v644, rfl, ho0, hb⟩; refine ⟨_, rfl, ?_⟩; have HO645 := Aside0.mk (Kd.R_lower ho0 (below_size HB.out)); replace BK632 := Aside0.mk (blk_below BK632.out hb); replace BK633 := Aside0.mk (blk_below BK633.out hb); replace BK634 := Aside0.mk (blk_below BK634.out hb); replace HB := Aside0.mk (below_step HB.out hb); have hcz49_0 : w48.cell? ⟨gb633, 0, none⟩ = some (.bool a1_0) := bc0 BK633.out; have hcz49_1 : w48.cell? ⟨gb633, 1, none⟩ = some (.slice A1_1 l1_1.length c1_1) := bc1 BK633.out; have hfz49_0 := blk_frozen BK633.out 0; have hfz49_1 := blk_frozen BK633.out 1; have hcz50_0 : w48.cell? ⟨gb632, 0, none⟩ = some (.bool a0_0) := bc0 BK632.out; have hcz50_1 : w48.cell? ⟨gb632, 1, none⟩ = some (.slice A0_1 l0_1.length c0_1) := bc1 BK632.out; have hfz50_0 := blk_frozen BK632.out 0; have hfz50_1 := blk_frozen BK632.out 1) | ((with_reducible refine gate_callee (f := 48) rfl ?_); refine goL (some 43) Tryd.func48 [.slice A1_1 l1_1.length c1_1, .slice A0_1 l0_1.length c0_1] ?_; (with_reducible refine (gudgeonref01_Sub.calls k _ _ l1_1 _ _ l0_1 t650 t651 _ ?side1 ?side2 ?side3 ?side4 A38.out).mono ?_); (case side1 => exact (Kd.C_below HR1_1.out HB.out)); (case side2 => exact HC1_1.out); (case side3 => exact (Kd.C_below HR0_1.out HB.out)); (case side4 => exact HC0_1.out); rintro e w51 ⟨v652, rfl, ho0, hb⟩; refine ⟨_, rfl, ?_⟩; have HO653 := Aside0.mk (Kd.R_lower (Kd.R_new' ho0 (Kd.R_lt HO645.out)) (below_size HB.out)); replace HO645 := Aside0.mk (Kd.R_elder' HO645.out (Kd.R_base ho0) hb); replace BK633 := Aside0.mk (blk_below BK633.out hb); replace BK634 := Aside0.mk (blk_below BK634.out hb); replace HB := Aside0.mk (below_step HB.out hb); have hcz52_0 : w51.cell? ⟨gb633, 0, none⟩ = some (.bool a1_0) := bc0 BK633.out; have hcz52_1 : w51.cell? ⟨gb633, 1, none⟩ = some (.slice A1_1 l1_1.length c1_1) := bc1 BK633.out; have hfz52_0 := blk_frozen BK633.out 0; have hfz52_1 := blk_frozen BK633.out 1; obtain ⟨Ao53, co53, eo53⟩ := Kd.R_slice HO653.out; subst eo53) | ((with_reducible refine gate_callee (f := 17) rfl ?_); refine goL (some 50) Tryd.func17 [.agg #[.bool a1_0, .slice Ao53 t650.length co53]] ?_; (with_reducible refine (gudgeonref02_Norm.calls k a1_0 _ _ t650 t654 t655 _ ?side1 ?side2 A39.out).mono ?_); (case side1 => exact (Kd.R_reads' HO653.out).2.2); (case side2 => exact (Kd.R_reads' HO653.out).2.1); rintro e w54 ⟨v656, rfl, ho0, hb⟩; refine ⟨_, rfl, ?_⟩; have HO657 := Aside0.mk (Kd.R_lower (Kd.R_new' (Kd.R_new' ho0 (Kd.R_lt HO645.out)) (Kd.R_lt HO653.out)) (below_size HB.out)); replace BK634 := Aside0.mk (blk_below BK634.out hb); replace HB := Aside0.mk (below_step HB.out hb); have hcz55_0 : w54.cell? ⟨gb634, 0, none⟩ = some (.bool false) := bc0 BK634.out; have hcz55_1 : w54.cell? ⟨gb634, 1, none⟩ = some (.slice none 0 0) := bc1 BK634.out; have hfz55_0 := blk_frozen BK634.out 0; have hfz55_1 := blk_frozen BK634.out 1; obtain ⟨Ao56, co56, eo56⟩ := Kd.R_slice HO657.out; subst eo56))
   refine bodyPost_ret (results_cell_row rfl _ _ gb634 24 #[.bool t654, .slice Ao56 t655.length co56] (0, 0) _ rfl (by refine blk_put (cs := #[.bool t654, .slice none 0 0]) ?_ 1 _ rfl; refine blk_put (cs := #[.bool false, .slice none 0 0]) ?_ 0 _ rfl; exact BK634.out) Tryd.underlying24 rfl (by kernel_rfl)) rfl ?_
   exact ⟨_, rfl, Kd.R_mono (Kd.R_far (p := ⟨gb634, 1, none⟩) (Kd.R_far (p := ⟨gb634, 0, none⟩) (Kd.R_types HO657.out BK634.out (by decide)) (fun _ hk => hk.2) (.bool t654)) (fun _ hk => hk.2) (.slice Ao56 t655.length co56)) (fun _ hk => trivial), by repeat first | exact HB.out | refine bxSet ?_ (by assumption) | apply below_alloc | apply pw_below_drewN⟩

/-! ### whole_Sub: function 22 -/
/-! ### gudgeonref02_Sub: function 23 -/
def gudgeonref02_Sub.f (k : Nat) (a0_0 : Bool) (l0_1 : List Int) (a1_0 : Bool) (l1_1 : List Int) : Option (Bool × List Int) := (gudgeonref02_Neg.f k a1_0 l1_1).bind fun bt672 => ((gudgeonref02_Add.f k a0_0 l0_1 bt672.1 bt672.2).bind fun bt676 => (some (bt676.1, bt676.2)))
set_option maxHeartbeats 8000000 in
set_option maxRecDepth 100000 in
theorem gudgeonref02_Sub.calls (k : Nat) (a0_0 : Bool) (A0_1 : Option Addr) (c0_1 : Nat) (l0_1 : List Int) (a1_0 : Bool) (A1_1 : Option Addr) (c1_1 : Nat) (l1_1 : List Int) (r1 : Bool) (r2 : List Int) (w : World) (hr0_1 : Kd.C (Kd.int .u32) w A0_1 l0_1.length l0_1) (hc0_1 : l0_1.length ≤ c0_1) (hr1_1 : Kd.C (Kd.int .u32) w A1_1 l1_1.length l1_1) (hc1_1 : l1_1.length ≤ c1_1) (h : gudgeonref02_Sub.f k a0_0 l0_1 a1_0 l1_1 = some (r1, r2)) :
  Calls Tryd.prog 23 #[.agg #[.bool a0_0, .slice A0_1 l0_1.length c0_1], .agg #[.bool a1_0, .slice A1_1 l1_1.length c1_1]] w fun e w' => ∃ v1_ : Value, e = .returned (.agg #[.bool r1, v1_]) ∧ Kd.R (Kd.int .u32) 51 w' w.heap.size (fun _ => True) v1_ r2 ∧ Below w.heap.size w w' := by
 have hu24 := Tryd.underlying24
 have HR0_1 := Aside0.mk hr0_1
 have HC0_1 := Aside0.mk hc0_1
 clear hr0_1 hc0_1
 have HR1_1 := Aside0.mk hr1_1
 have HC1_1 := Aside0.mk hc1_1
 clear hr1_1 hc1_1
 have HB := Aside0.mk (Below.refl w.heap.size w)
 have H : ((gudgeonref02_Neg.f k a1_0 l1_1).bind fun bt672 => ((gudgeonref02_Add.f k a0_0 l0_1 bt672.1 bt672.2).bind fun bt676 => (some (bt676.1, bt676.2)))) = some (r1, r2) := h
 clear h
 obtain ⟨⟨t672, t673⟩, A30, H⟩ := Option.bind_eq_some_iff.mp H
 try dsimp only at H
 have A3 := Aside0.mk A30
 clear A30
 obtain ⟨⟨t676, t677⟩, A40, H⟩ := Option.bind_eq_some_iff.mp H
 try dsimp only at H
 have A4 := Aside0.mk A40
 clear A40
 simp only [Option.some.injEq, Prod.mk.injEq] at H
 obtain ⟨rfl, rfl⟩ := H
 go_enter Tryd.func23, Tryd.ntmps23
 try go_wp2_with (first | ((with_reducible refine gate_dst (N := 2) rfl ?_); refine box_event ?hg (N := 2) ?hd (cs := #[.bool a0_0, .slice A0_1 l0_1.length c0_1]) (t := 24) ?hr ?_; (case hd => rfl); (case hg => rfl); (case hr => first | (go_simp; done) | (go_simp; rfl)); intro gb669 hg w5 hbox hb; have BK669 := Aside0.mk (hbox); have GW669 := Aside0.mk (bxLe HB.out hg); have GE669 := GW669; replace HB := Aside0.mk (below_step HB.out hb); clear hb hbox hg) | ((with_reducible refine gate_dst (N := 3) rfl ?_); refine box_event ?hg (N := 3) ?hd (cs := #[.bool a1_0, .slice A1_1 l1_1.length c1_1]) (t := 24) ?hr ?_; (case hd => rfl); (case hg => rfl); (case hr => first | (go_simp; done) | (go_simp; rfl)); intro gb670 hg w6 hbox hb; have BK670 := Aside0.mk (hbox); have GW670 := Aside0.mk (bxLe HB.out hg); have GE670 := GW670; replace HB := Aside0.mk (below_step HB.out hb); have NB669_670 := Aside0.mk (neL BK669.out hg); have NB670_669 := Aside0.mk (neR BK669.out hg); replace BK669 := Aside0.mk (blk_below BK669.out hb); clear hb hbox hg) | ((with_reducible refine gate_dst (N := 4) rfl ?_); refine box_event ?hg (N := 4) ?hd (cs := #[.bool false, .slice none 0 0]) (t := 24) ?hr ?_; (case hd => rfl); (case hg => rfl); (case hr => first | (go_simp; done) | (go_simp; rfl)); intro gb671 hg w7 hbox hb; have BK671 := Aside0.mk (hbox); have GW671 := Aside0.mk (bxLe HB.out hg); have GE671 := GW671; replace HB := Aside0.mk (below_step HB.out hb); have NB669_671 := Aside0.mk (neL BK669.out hg); have NB671_669 := Aside0.mk (neR BK669.out hg); replace BK669 := Aside0.mk (blk_below BK669.out hb); have NB670_671 := Aside0.mk (neL BK670.out hg); have NB671_670 := Aside0.mk (neR BK670.out hg); replace BK670 := Aside0.mk (blk_below BK670.out hb); clear hb hbox hg))
 replace BK669 := Aside0.mk (blk_drew BK669.out)
 replace BK670 := Aside0.mk (blk_drew BK670.out)
 replace BK671 := Aside0.mk (blk_drew BK671.out)
 replace HB := Aside0.mk (below_drew1 HB.out)
 refine start_ (n := 5) (S := fun w' => w'.cell? ⟨gb669, 0, none⟩ = some (.bool a0_0) ∧ w'.cell? ⟨gb669, 1, none⟩ = some (.slice A0_1 l0_1.length c0_1) ∧ w'.cell? ⟨gb670, 0, none⟩ = some (.bool a1_0) ∧ w'.cell? ⟨gb670, 1, none⟩ = some (.slice A1_1 l1_1.length c1_1)) (ds := []) #[false, false, false, false, false] (by kernel_rfl) rfl rfl ⟨bc0 BK669.out, bc1 BK669.out, bc0 BK670.out, bc1 BK670.out⟩ (fun hHeld => ?_)
 generalize w7.drew = w8 at BK669 BK670 BK671 HB hHeld ⊢
 refine take_ (i := 0) (N := some 5) (v := ?_) (a' := ?_) #[true, false, false, false, false] rfl rfl (by kernel_rfl) (fun _ _ _ h => h) (Or.inl ⟨by rfl, ?_⟩) hHeld ?_ ?_
 rotate_left
 ·rintro w' ⟨s0, s1, s2, s3⟩
  go_simp
  with_reducible rfl
 rotate_left
 ·simp only [Act.put, List.setIfInBounds_toArray, List.set_cons_zero, List.set_cons_succ, i64_w, i32_w]
  rfl
 refine take_ (i := 1) (N := some 6) (v := ?_) (a' := ?_) #[true, true, false, false, false] rfl rfl (by kernel_rfl) (fun _ _ _ h => h) (Or.inl ⟨by rfl, ?_⟩) hHeld ?_ ?_
 rotate_left
 ·rintro w' ⟨s0, s1, s2, s3⟩
  go_simp
  with_reducible rfl
 rotate_left
 ·simp only [Act.put, List.setIfInBounds_toArray, List.set_cons_zero, List.set_cons_succ, i64_w, i32_w]
  rfl
 refine one_ (i := 2) (N := some 7) #[true, true, true, false, false] rfl rfl (by kernel_rfl) (by decide) (fun K hK => ?_)
 refine goR Tryd.func19 [.agg #[.bool a1_0, .slice A1_1 l1_1.length c1_1]] ?_
 with_reducible refine (gudgeonref02_Neg.calls k a1_0 _ _ l1_1 t672 t673 _ ?side1 ?side2 A3.out).mono ?_
 (case side1 => exact (Kd.C_below HR1_1.out HB.out))
 (case side2 => exact HC1_1.out)
 rintro e w9 ⟨v674, rfl, ho0, hb⟩
 refine ⟨_, rfl, ?_⟩
 have HO675 := Aside0.mk (Kd.R_lower ho0 (below_size HB.out))
 replace BK669 := Aside0.mk (blk_below BK669.out hb)
 replace BK670 := Aside0.mk (blk_below BK670.out hb)
 replace BK671 := Aside0.mk (blk_below BK671.out hb)
 replace HB := Aside0.mk (below_step HB.out hb)
 (try clear hb)
 (try clear hb2)
 (try clear hk)
 (try clear hi)
 (try clear ho0)
 obtain ⟨Ao10, co10, eo10⟩ := Kd.R_slice HO675.out
 subst eo10
 refine hK.out _ _ ⟨bc0 BK669.out, bc1 BK669.out, bc0 BK670.out, bc1 BK670.out⟩ (fun hHeld => ?_)
 clear hK K
 refine norm_ (a' := ?_) ?_ ?_
 rotate_left
 ·show Act.put _ (some 7) _ = _
  simp only [Act.put, List.setIfInBounds_toArray, List.set_cons_zero, List.set_cons_succ, i64_w, i32_w]
  rfl
 refine one_ (i := 3) (N := some 8) #[true, true, true, true, false] rfl rfl (by kernel_rfl) (by decide) (fun K hK => ?_)
 refine goR Tryd.func21 [.agg #[.bool a0_0, .slice A0_1 l0_1.length c0_1], .agg #[.bool t672, .slice Ao10 t673.length co10]] ?_
 with_reducible refine (gudgeonref02_Add.calls k a0_0 _ _ l0_1 t672 _ _ t673 t676 t677 _ ?side1 ?side2 ?side3 ?side4 A4.out).mono ?_
 (case side1 => exact (Kd.C_below HR0_1.out HB.out))
 (case side2 => exact HC0_1.out)
 (case side3 => exact (Kd.R_reads' HO675.out).2.2)
 (case side4 => exact (Kd.R_reads' HO675.out).2.1)
 rintro e w11 ⟨v678, rfl, ho0, hb⟩
 refine ⟨_, rfl, ?_⟩
 have HO679 := Aside0.mk (Kd.R_lower (Kd.R_new' ho0 (Kd.R_lt HO675.out)) (below_size HB.out))
 replace BK669 := Aside0.mk (blk_below BK669.out hb)
 replace BK670 := Aside0.mk (blk_below BK670.out hb)
 replace BK671 := Aside0.mk (blk_below BK671.out hb)
 replace HB := Aside0.mk (below_step HB.out hb)
 (try clear hb)
 (try clear hb2)
 (try clear hk)
 (try clear hi)
 (try clear ho0)
 obtain ⟨Ao13, co13, eo13⟩ := Kd.R_slice HO679.out
 subst eo13
 refine hK.out _ _ ⟨bc0 BK669.out, bc1 BK669.out, bc0 BK670.out, bc1 BK670.out⟩ (fun hHeld => ?_)
 clear hK K
 refine norm_ (a' := ?_) ?_ ?_
 rotate_left
 ·show Act.put _ (some 8) _ = _
  simp only [Act.put, List.setIfInBounds_toArray, List.set_cons_zero, List.set_cons_succ, i64_w, i32_w]
  rfl
 refine one_ (i := 4) (N := none) #[true, true, true, true, true] rfl rfl (by kernel_rfl) (by decide) (fun K hK => ?_)
 have hs12 : w11.cell? ⟨gb671, 0, none⟩ = some (.bool false) := bc0 BK671.out
 have hfs12 := blk_frozen BK671.out 0
 have hns12_0 := NB669_671.out
 have hns12_1 := NB670_671.out
 have hms12_0 := NB671_669.out
 have hms12_1 := NB671_670.out
 have hs14 : w11.cell? ⟨gb671, 1, none⟩ = some (.slice none 0 0) := bc1 BK671.out
 have hfs14 := blk_frozen BK671.out 1
 have hns14_0 := NB669_671.out
 have hns14_1 := NB670_671.out
 have hms14_0 := NB671_669.out
 have hms14_1 := NB671_670.out
 refine skip_ (w1 := ?_) (by rfl) rfl ?_ ?_
 rotate_left
 ·go_simp
  rfl
 refine hK.out _ _ ⟨((cell_far (p := ⟨gb671, _, none⟩) NB669_671.out _).trans (((cell_far (p := ⟨gb671, _, none⟩) NB669_671.out _).trans (hHeld.1)))), ((cell_far (p := ⟨gb671, _, none⟩) NB669_671.out _).trans (((cell_far (p := ⟨gb671, _, none⟩) NB669_671.out _).trans (hHeld.2.1)))), ((cell_far (p := ⟨gb671, _, none⟩) NB670_671.out _).trans (((cell_far (p := ⟨gb671, _, none⟩) NB670_671.out _).trans (hHeld.2.2.1)))), ((cell_far (p := ⟨gb671, _, none⟩) NB670_671.out _).trans (((cell_far (p := ⟨gb671, _, none⟩) NB670_671.out _).trans (hHeld.2.2.2))))⟩ (fun hHeld => ?_)
 clear hK K
 refine done_ (by kernel_rfl) ?_
 try go_wp2
 refine bodyPost_ret (results_cell_row rfl _ _ gb671 24 #[.bool t676, .slice Ao13 t677.length co13] (0, 0) _ rfl (by refine blk_put (cs := #[.bool t676, .slice none 0 0]) ?_ 1 _ rfl; refine blk_put (cs := #[.bool false, .slice none 0 0]) ?_ 0 _ rfl; exact BK671.out) Tryd.underlying24 rfl (by kernel_rfl)) rfl ?_
 exact ⟨_, rfl, Kd.R_mono (Kd.R_far (p := ⟨gb671, 1, none⟩) (Kd.R_far (p := ⟨gb671, 0, none⟩) (Kd.R_types HO679.out BK671.out (by decide)) (fun _ hk => hk.2) (.bool t676)) (fun _ hk => hk.2) (.slice Ao13 t677.length co13)) (fun _ hk => trivial), by repeat first | exact HB.out | refine bxSet ?_ (by assumption) | apply below_alloc | apply pw_below_drewN⟩

/-! ### whole_Mul: function 24 -/
end Go.Proofs.YthnfmmaolkenkaaDoor.PA
/- Written by a program of this session, wip/tools/patch_print.py, over the kit's print of the loaded functions. -/
namespace Go.Proofs.YthnfmmaolkenkaaDoor.H
end Go.Proofs.YthnfmmaolkenkaaDoor.H
namespace Go.Proofs.YthnfmmaolkenkaaDoor.PA
open Go.RowKit Go.Proofs.YthnfmmaolkenkaaDoorW.PrintWords Go.Proofs.YthnfmmaolkenkaaDoorW.PrintLast Go.Proofs.YthnfmmaolkenkaaDoorW.PrintMore Go.Proofs.YthnfmmaolkenkaaDoor.H
attribute [local go_sem] max2_int min2_int max_two min_two max_three min_three max_four min_four   -- for this text's walks alone
attribute [local go_sem] box_twice
set_option linter.unusedVariables false
set_option linter.unusedSimpArgs false

/-! ### gudgeonref01_mul: function 74 -/
def gudgeonref01_mul.l0 : Nat → List Bool → List Bool → List Bool → Int → Option (List Bool)
 | 0, _, _, _, _ => none
 | k + 1, x0, x1, x5, x6 => if x6 ≥ 0 then ((some (([false] : List Bool) : List Bool)).bind fun y690 => (if y690.length + x5.length < 140737488355328 then ((some (y690 ++ x5 : List Bool)).bind fun y693 => (if 0 ≤ x6 then (if x6 < (x0.length : Int) then (if rdOf false x0 x6 = true then ((gudgeonref01_add.f k y693 x1).bind fun t697 => (gudgeonref01_mul.l0 k x0 x1 t697 (wrap64 (x6 - 1)))) else (gudgeonref01_mul.l0 k x0 x1 y693 (wrap64 (x6 - 1)))) else (none)) else (none))) else (none))) else ((gudgeonref01_trim.f k x5).bind fun t700 => (some t700))
def gudgeonref01_mul.f (k : Nat) (l0 : List Bool) (l1 : List Bool) : Option (List Bool) := gudgeonref01_mul.l0 k l0 l1 ([] : List Bool) (wrap64 ((l0.length : Int) - 1))
set_option maxHeartbeats 8000000 in
set_option maxRecDepth 100000 in
theorem gudgeonref01_mul.calls (k : Nat) (A0 : Option Addr) (c0 : Nat) (l0 : List Bool) (A1 : Option Addr) (c1 : Nat) (l1 : List Bool) (r : List Bool) (w : World) (hr0 : Kd.C Kd.bool w A0 l0.length l0) (hc0 : l0.length ≤ c0) (hr1 : Kd.C Kd.bool w A1 l1.length l1) (hc1 : l1.length ≤ c1) (h : gudgeonref01_mul.f k l0 l1 = some r) :
  Calls Tryd.prog 74 #[.slice A0 l0.length c0, .slice A1 l1.length c1] w fun e w' => ∃ v0_ : Value, e = .returned (v0_) ∧ Kd.R Kd.bool 4 w' w.heap.size (fun _ => True) v0_ r ∧ Below w.heap.size w w' := by
 have HR0 := Aside0.mk hr0
 have HC0 := Aside0.mk hc0
 clear hr0 hc0
 have HR1 := Aside0.mk hr1
 have HC1 := Aside0.mk hc1
 clear hr1 hc1
 have HB := Aside0.mk (Below.refl w.heap.size w)
 have H : (gudgeonref01_mul.l0 k l0 l1 ([] : List Bool) (wrap64 ((l0.length : Int) - 1))) = some r := h
 clear h
 have H' := Aside0.mk H
 clear H
 go_enter Tryd.func74, Tryd.ntmps74
 go_wp2
 go_loopg [5, 6] k (fun kq v5 v6 w' => ∃ (x5_1 : List Bool) (x6_1 : Int), v6 = .int .i64 x6_1 ∧ Aside0 (gudgeonref01_mul.l0 kq l0 l1 x5_1 x6_1 = some r) ∧ Aside0 (kq ≤ k) ∧ Aside0 (Kd.R Kd.bool 4 w' w.heap.size (fun _ => True) v5 x5_1) ∧ Aside0 (Below w.heap.size w w'))
 case atStart => exact ⟨(([] : List Bool)), (wrap64 ((l0.length : Int) - 1)), (by first | rfl | (simp; done) | (simp [*]; done) | (refine congrArg (Value.int _) ?_; omega) | (refine congrArg Value.bool ?_; generalize ByteArray.toList _ = z_; cases z_ <;> rfl)), H', ⟨Nat.le_refl _⟩, ⟨by first | exact Kd.R_nil _ _ _ _ _ | exact Kd.N_nil _ _ _ _ _ | exact Kd.V_nil _ _ _ _ _ | exact Kd.Q_nil _ _ _ _ _ | exact Kd.S_nil _ _ _ _ _⟩, ⟨by repeat (first | (with_reducible first | exact HB.out | apply below_alloc | apply pw_below_drewN | apply below_drew1) | exact HB.out)⟩⟩
 case round =>
  clear H'
  try clear c1
  try clear p2
  obtain ⟨x5_1, x6_1, rfl, HA, HK1, HO_5, HB⟩ := hrel
  cases gk with
  | zero => exact absurd HA.out (by simp [gudgeonref01_mul.l0])
  | succ k1 =>
   have H := HA.out
   clear HA
   simp only [gudgeonref01_mul.l0] at H
   by_cases c3 : x6_1 ≥ 0
   ·rw [if_pos c3] at H
    have c3b0 : decide (0 ≤ x6_1) = true := decide_eq_true c3
    clear c3
    obtain ⟨y690, hy690⟩ : ∃ y_ : List Bool, y_ = (([false] : List Bool)) := ⟨_, rfl⟩
    replace H : (if y690.length + x5_1.length < 140737488355328 then ((some (y690 ++ x5_1 : List Bool)).bind fun y693 => (if 0 ≤ x6_1 then (if x6_1 < (l0.length : Int) then (if rdOf false l0 x6_1 = true then ((gudgeonref01_add.f k1 y693 l1).bind fun t697 => (gudgeonref01_mul.l0 k1 l0 l1 t697 (wrap64 (x6_1 - 1)))) else (gudgeonref01_mul.l0 k1 l0 l1 y693 (wrap64 (x6_1 - 1)))) else (none)) else (none))) else (none)) = some r := by first | (rw [hy690]; with_reducible exact H) | (have H2_ := (Option.bind_some _ _).symm.trans H; rw [hy690]; with_reducible exact H2_) | (have H2_ := (Option.bind_some _ _).symm.trans H; with_reducible exact H2_) | with_reducible exact H | (rw [hy690]; exact H) | exact H
    have Ny690 := Aside0.mk hy690
    clear hy690
    by_cases c4 : y690.length + x5_1.length < 140737488355328
    ·rw [if_pos c4] at H
     have LMc4 := Aside0.mk c4
     clear c4
     obtain ⟨y693, hy693⟩ : ∃ y_ : List Bool, y_ = (y690 ++ x5_1) := ⟨_, rfl⟩
     replace H : (if 0 ≤ x6_1 then (if x6_1 < (l0.length : Int) then (if rdOf false l0 x6_1 = true then ((gudgeonref01_add.f k1 y693 l1).bind fun t697 => (gudgeonref01_mul.l0 k1 l0 l1 t697 (wrap64 (x6_1 - 1)))) else (gudgeonref01_mul.l0 k1 l0 l1 y693 (wrap64 (x6_1 - 1)))) else (none)) else (none)) = some r := by first | (rw [hy693]; with_reducible exact H) | (have H2_ := (Option.bind_some _ _).symm.trans H; rw [hy693]; with_reducible exact H2_) | (have H2_ := (Option.bind_some _ _).symm.trans H; with_reducible exact H2_) | with_reducible exact H | (rw [hy693]; exact H) | exact H
     have Ny693 := Aside0.mk hy693
     clear hy693
     by_cases c5 : 0 ≤ x6_1
     ·rw [if_pos c5] at H
      have c5b0 : decide (0 ≤ x6_1) = true := decide_eq_true c5
      clear c5
      by_cases c6 : x6_1 < (l0.length : Int)
      ·rw [if_pos c6] at H
       have c6b0 : decide (x6_1 < (l0.length : Int)) = true := decide_eq_true c6
       clear c6
       obtain ⟨bq7, hbq7⟩ : ∃ b_ : Bool, b_ = (rdOf false l0 x6_1) := ⟨_, rfl⟩
       replace H : (if bq7 = true then ((gudgeonref01_add.f k1 y693 l1).bind fun t697 => (gudgeonref01_mul.l0 k1 l0 l1 t697 (wrap64 (x6_1 - 1)))) else (gudgeonref01_mul.l0 k1 l0 l1 y693 (wrap64 (x6_1 - 1)))) = some r := by rw [← hbq7] at H; exact H
       have Nbq7 := Aside0.mk hbq7
       clear hbq7
       by_cases c8 : bq7 = true
       ·subst c8
        have H1 : ((gudgeonref01_add.f k1 y693 l1).bind fun t697 => (gudgeonref01_mul.l0 k1 l0 l1 t697 (wrap64 (x6_1 - 1)))) = some r := by rw [if_pos rfl] at H; exact H
        clear H
        have H := H1
        clear H1
        replace H := Option.bind_eq_some_iff.mp H
        obtain ⟨t697, A90, H⟩ := H
        replace H : (gudgeonref01_mul.l0 k1 l0 l1 t697 (wrap64 (x6_1 - 1))) = some r := H
        have A9 := Aside0.mk A90
        clear A90
        have H' := Aside0.mk H
        clear H
        go_wp2_with (first | ((with_reducible refine gate_dst (N := 14) rfl ?_); refine Kd.R_lit Kd.bool _ 4 ?hg (N := 14) ?hd (xs := ([false] : List Bool)) (inner := [.bool false]) (ok := fun _ => True) (okp := fun _ => True) ?hr ?hp (fun _ hk => hk) trivial (Below.refl _ _) (Nat.le_refl _) (by simp) ?_; (case hd => rfl); (case hg => rfl); (case hr => first | (go_simp; done) | (go_simp; rfl)); (case hp => exact (Reps.one (show Kd.M Kd.bool _ _ _ false [.bool false] from rfl) (Reps.none _ _))); intro v691 w10 ho11 hb hg_ hnew_; clear hg_ hnew_; (first | rw [← Ny690.out] at ho11 | (simp only [Int.reduceToNat] at ho11; rw [← Ny690.out] at ho11)); have HO692 := Aside0.mk (Kd.R_lower (Kd.R_new' ho11 (Kd.R_lt HO_5.out)) (below_size HB.out)); replace HO_5 := Aside0.mk (Kd.R_elder' HO_5.out (Kd.R_base ho11) hb); replace HB := Aside0.mk (below_step HB.out hb); clear hb ho11; obtain ⟨Ao13, co13, eo13⟩ := Kd.R_slice HO_5.out; subst eo13) | ((with_reducible refine gate_builtin (b := .append) (xs := #[.tmp 14, .tmp 15]) rfl ?_); at_builtin; refine Kd.R_append_rows Kd.bool (w0 := w) w.heap.size rfl (.tmp 14) (.tmp 15) 69 4 (.bool false) 1 rfl Tryd.underlying69 info4 rfl (by decide) (by omega) v691 y690 x5_1 _ _ _ (fun k_ => some k_ ≠ (.slice Ao13 x5_1.length co13 : Value).ownBlock) (fun _ => False) rfl rfl ?aO ?aR (fun _ _ h => h) (fun _ h => h.elim) ?aF ?aB ?aS ?aL ?_; (case aR => repeat (first | exact (Kd.R_reads' HO_5.out).2.2 | (with_reducible refine Kd.C_alloc ?_ _) | (with_reducible refine Kd.C_drewN ?_ _) | (with_reducible refine Kd.C_drew ?_))); (case aB => exact HB.out); (case aF => exact (fun k_ hk => Kd.fresh' (Kd.R_lt HO_5.out) k_ hk)); (case aO => exact (Kd.R_mono HO692.out (fun _ hk => hk.2))); (case aS => exact (below_size HB.out)); (case aL => have := LMc4.out; omega); intro v694 w12 ho hb hg hat; rw [← Ny693.out] at ho; have n0_ := Aside0.mk (Kd.R_after (ok := (fun _ => True)) HO_5.out hg hat); have n1_ := Aside0.mk (hb); have n2_ := Aside0.mk (ho); clear HO_5; clear HB; clear HO692; have HO_5 := n0_; have HB := n1_; have HO695 := n2_; clear n0_ n1_ n2_; clear ho hb hg hat; have p696 : 0 ≤ (x6_1 : Int) := of_decide_eq_true (by first | (with_reducible assumption) | assumption); have q696 : x6_1 < (l0.length : Int) := of_decide_eq_true (by first | (with_reducible assumption) | assumption); obtain ⟨ad696, e696, hx696_0⟩ := Kd.at_bool HR0.out x6_1 p696 q696; (try rw [← Nbq7.out] at hx696_0); cases e696; replace hx696_0 := (HB.out.cell (World.block_lt_of_cell? w _ hx696_0)).trans hx696_0; replace p696 := eq_true p696; replace q696 := eq_true q696; obtain ⟨Ao14, co14, eo14⟩ := Kd.R_slice HO695.out; subst eo14) | ((with_reducible refine gate_callee (f := 70) rfl ?_); refine goL (some 23) Tryd.func70 [.slice Ao14 y693.length co14, .slice A1 l1.length c1] ?_; (with_reducible refine (gudgeonref01_add.calls k1 _ _ y693 _ _ l1 t697 _ ?side1 ?side2 ?side3 ?side4 A9.out).mono ?_); (case side1 => exact (Kd.R_reads' HO695.out).2.2); (case side2 => exact (Kd.R_reads' HO695.out).2.1); (case side3 => exact (Kd.C_below HR1.out HB.out)); (case side4 => exact HC1.out); rintro e w15 ⟨v698, rfl, ho0, hb⟩; refine ⟨_, rfl, ?_⟩; have HO699 := Aside0.mk (Kd.R_lower (Kd.R_new' (Kd.R_new' ho0 (Kd.R_lt HO_5.out)) (Kd.R_lt HO695.out)) (below_size HB.out)); replace HO_5 := Aside0.mk (Kd.R_elder' HO_5.out (Kd.R_base ho0) hb); replace HO695 := Aside0.mk (Kd.R_elder' HO695.out (Kd.R_base ho0) hb); replace HB := Aside0.mk (below_step HB.out hb)))
        go_roundg k1
        case measure => have := HK1.out; omega
        case rel => exact ⟨(t697), (wrap64 (x6_1 - 1)), (by first | rfl | (simp; done) | (simp [*]; done) | (refine congrArg (Value.int _) ?_; omega) | (refine congrArg Value.bool ?_; generalize ByteArray.toList _ = z_; cases z_ <;> rfl)), H', ⟨by have := HK1.out; omega⟩, ⟨by (with_reducible repeat (first | apply Kd.R_alloc | apply Kd.R_drewN | apply Kd.R_drew)); exact Kd.R_mono HO699.out (fun _ hk => trivial)⟩, ⟨by repeat (first | (with_reducible first | exact HB.out | apply below_alloc | apply pw_below_drewN | apply below_drew1) | exact HB.out)⟩⟩
       ·replace c8 := Bool.eq_false_iff.mpr c8
        subst c8
        have H1 : (gudgeonref01_mul.l0 k1 l0 l1 y693 (wrap64 (x6_1 - 1))) = some r := by rw [if_neg (show ¬ (false = true) by decide)] at H; exact H
        clear H
        have H := H1
        clear H1
        have H' := Aside0.mk H
        clear H
        go_wp2_with (first | ((with_reducible refine gate_dst (N := 14) rfl ?_); refine Kd.R_lit Kd.bool _ 4 ?hg (N := 14) ?hd (xs := ([false] : List Bool)) (inner := [.bool false]) (ok := fun _ => True) (okp := fun _ => True) ?hr ?hp (fun _ hk => hk) trivial (Below.refl _ _) (Nat.le_refl _) (by simp) ?_; (case hd => rfl); (case hg => rfl); (case hr => first | (go_simp; done) | (go_simp; rfl)); (case hp => exact (Reps.one (show Kd.M Kd.bool _ _ _ false [.bool false] from rfl) (Reps.none _ _))); intro v691 w16 ho17 hb hg_ hnew_; clear hg_ hnew_; (first | rw [← Ny690.out] at ho17 | (simp only [Int.reduceToNat] at ho17; rw [← Ny690.out] at ho17)); have HO692 := Aside0.mk (Kd.R_lower (Kd.R_new' ho17 (Kd.R_lt HO_5.out)) (below_size HB.out)); replace HO_5 := Aside0.mk (Kd.R_elder' HO_5.out (Kd.R_base ho17) hb); replace HB := Aside0.mk (below_step HB.out hb); clear hb ho17; obtain ⟨Ao19, co19, eo19⟩ := Kd.R_slice HO_5.out; subst eo19) | ((with_reducible refine gate_builtin (b := .append) (xs := #[.tmp 14, .tmp 15]) rfl ?_); at_builtin; refine Kd.R_append_rows Kd.bool (w0 := w) w.heap.size rfl (.tmp 14) (.tmp 15) 69 4 (.bool false) 1 rfl Tryd.underlying69 info4 rfl (by decide) (by omega) v691 y690 x5_1 _ _ _ (fun k_ => some k_ ≠ (.slice Ao19 x5_1.length co19 : Value).ownBlock) (fun _ => False) rfl rfl ?aO ?aR (fun _ _ h => h) (fun _ h => h.elim) ?aF ?aB ?aS ?aL ?_; (case aR => repeat (first | exact (Kd.R_reads' HO_5.out).2.2 | (with_reducible refine Kd.C_alloc ?_ _) | (with_reducible refine Kd.C_drewN ?_ _) | (with_reducible refine Kd.C_drew ?_))); (case aB => exact HB.out); (case aF => exact (fun k_ hk => Kd.fresh' (Kd.R_lt HO_5.out) k_ hk)); (case aO => exact (Kd.R_mono HO692.out (fun _ hk => hk.2))); (case aS => exact (below_size HB.out)); (case aL => have := LMc4.out; omega); intro v694 w18 ho hb hg hat; rw [← Ny693.out] at ho; have n0_ := Aside0.mk (Kd.R_after (ok := (fun _ => True)) HO_5.out hg hat); have n1_ := Aside0.mk (hb); have n2_ := Aside0.mk (ho); clear HO_5; clear HB; clear HO692; have HO_5 := n0_; have HB := n1_; have HO695 := n2_; clear n0_ n1_ n2_; clear ho hb hg hat; have p696 : 0 ≤ (x6_1 : Int) := of_decide_eq_true (by first | (with_reducible assumption) | assumption); have q696 : x6_1 < (l0.length : Int) := of_decide_eq_true (by first | (with_reducible assumption) | assumption); obtain ⟨ad696, e696, hx696_0⟩ := Kd.at_bool HR0.out x6_1 p696 q696; (try rw [← Nbq7.out] at hx696_0); cases e696; replace hx696_0 := (HB.out.cell (World.block_lt_of_cell? w _ hx696_0)).trans hx696_0; replace p696 := eq_true p696; replace q696 := eq_true q696))
        go_roundg k1
        case measure => have := HK1.out; omega
        case rel => exact ⟨(y693), (wrap64 (x6_1 - 1)), (by first | rfl | (simp; done) | (simp [*]; done) | (refine congrArg (Value.int _) ?_; omega) | (refine congrArg Value.bool ?_; generalize ByteArray.toList _ = z_; cases z_ <;> rfl)), H', ⟨by have := HK1.out; omega⟩, ⟨by (with_reducible repeat (first | apply Kd.R_alloc | apply Kd.R_drewN | apply Kd.R_drew)); exact Kd.R_mono HO695.out (fun _ hk => trivial)⟩, ⟨by repeat (first | (with_reducible first | exact HB.out | apply below_alloc | apply pw_below_drewN | apply below_drew1) | exact HB.out)⟩⟩
      ·rw [if_neg c6] at H
       exact absurd H (by simp)
     ·rw [if_neg c5] at H
      exact absurd H (by simp)
    ·rw [if_neg c4] at H
     exact absurd H (by simp)
   ·rw [if_neg c3] at H
    have c3b0 : decide (0 ≤ x6_1) = false := decide_eq_false c3
    clear c3
    replace H := Option.bind_eq_some_iff.mp H
    obtain ⟨t700, A200, H⟩ := H
    replace H : (some t700) = some r := H
    have A20 := Aside0.mk A200
    clear A200
    obtain rfl := Option.some.inj H
    obtain ⟨Ao21, co21, eo21⟩ := Kd.R_slice HO_5.out
    subst eo21
    go_wp2_with (first | ((with_reducible refine gate_callee (f := 81) rfl ?_); refine goL (some 25) Tryd.func81 [.slice Ao21 x5_1.length co21] ?_; (with_reducible refine (gudgeonref01_trim.calls k1 _ _ x5_1 t700 _ ?side1 ?side2 A20.out).mono ?_); (case side1 => exact (Kd.R_reads' HO_5.out).2.2); (case side2 => exact (Kd.R_reads' HO_5.out).2.1); rintro e w22 ⟨v701, rfl, ho0, hb⟩; refine ⟨_, rfl, ?_⟩; have HO702 := Aside0.mk (Kd.R_lower (Kd.R_new' ho0 (Kd.R_lt HO_5.out)) (below_size HB.out)); replace HO_5 := Aside0.mk (Kd.R_elder' HO_5.out (Kd.R_base ho0) hb); replace HB := Aside0.mk (below_step HB.out hb)))
    go_ret
    exact ⟨_, by first | rfl | (simp [errW_none, errW_some] <;> rfl) | (simp [*, errW_none, errW_some] <;> rfl), by (with_reducible repeat (first | apply Kd.R_alloc | apply Kd.R_drewN | apply Kd.R_drew)); exact Kd.R_mono HO702.out (fun _ hk => trivial), by repeat (first | (with_reducible first | exact HB.out | apply below_alloc | apply pw_below_drewN | apply below_drew1) | exact HB.out)⟩

/-! ### gudgeonref01_Mul: function 50 -/
def gudgeonref01_Mul.f (k : Nat) (l0 : List Int) (l1 : List Int) : Option (List Int) := (gudgeonref01_Bits.f k l0).bind fun t703 => ((gudgeonref01_Bits.f k l1).bind fun t706 => ((gudgeonref01_mul.f k t703 t706).bind fun t709 => ((gudgeonref01_Limbs.f k t709).bind fun t712 => (some t712))))
set_option maxHeartbeats 8000000 in
set_option maxRecDepth 100000 in
theorem gudgeonref01_Mul.calls (k : Nat) (A0 : Option Addr) (c0 : Nat) (l0 : List Int) (A1 : Option Addr) (c1 : Nat) (l1 : List Int) (r : List Int) (w : World) (hr0 : Kd.C (Kd.int .u32) w A0 l0.length l0) (hc0 : l0.length ≤ c0) (hr1 : Kd.C (Kd.int .u32) w A1 l1.length l1) (hc1 : l1.length ≤ c1) (h : gudgeonref01_Mul.f k l0 l1 = some r) :
  Calls Tryd.prog 50 #[.slice A0 l0.length c0, .slice A1 l1.length c1] w fun e w' => ∃ v0_ : Value, e = .returned (v0_) ∧ Kd.R (Kd.int .u32) 51 w' w.heap.size (fun _ => True) v0_ r ∧ Below w.heap.size w w' := by
 have HR0 := Aside0.mk hr0
 have HC0 := Aside0.mk hc0
 clear hr0 hc0
 have HR1 := Aside0.mk hr1
 have HC1 := Aside0.mk hc1
 clear hr1 hc1
 have HB := Aside0.mk (Below.refl w.heap.size w)
 have H : ((gudgeonref01_Bits.f k l0).bind fun t703 => ((gudgeonref01_Bits.f k l1).bind fun t706 => ((gudgeonref01_mul.f k t703 t706).bind fun t709 => ((gudgeonref01_Limbs.f k t709).bind fun t712 => (some t712))))) = some r := h
 clear h
 replace H := Option.bind_eq_some_iff.mp H
 obtain ⟨t703, A30, H⟩ := H
 replace H : ((gudgeonref01_Bits.f k l1).bind fun t706 => ((gudgeonref01_mul.f k t703 t706).bind fun t709 => ((gudgeonref01_Limbs.f k t709).bind fun t712 => (some t712)))) = some r := H
 have A3 := Aside0.mk A30
 clear A30
 replace H := Option.bind_eq_some_iff.mp H
 obtain ⟨t706, A40, H⟩ := H
 replace H : ((gudgeonref01_mul.f k t703 t706).bind fun t709 => ((gudgeonref01_Limbs.f k t709).bind fun t712 => (some t712))) = some r := H
 have A4 := Aside0.mk A40
 clear A40
 replace H := Option.bind_eq_some_iff.mp H
 obtain ⟨t709, A50, H⟩ := H
 replace H : ((gudgeonref01_Limbs.f k t709).bind fun t712 => (some t712)) = some r := H
 have A5 := Aside0.mk A50
 clear A50
 replace H := Option.bind_eq_some_iff.mp H
 obtain ⟨t712, A60, H⟩ := H
 replace H : (some t712) = some r := H
 have A6 := Aside0.mk A60
 clear A60
 obtain rfl := Option.some.inj H
 go_enter Tryd.func50, Tryd.ntmps50
 go_wp2_with (first | ((with_reducible refine gate_callee (f := 67) rfl ?_); refine goL (some 6) Tryd.func67 [.slice A0 l0.length c0] ?_; (with_reducible refine (gudgeonref01_Bits.calls k _ _ l0 t703 _ ?side1 ?side2 A3.out).mono ?_); (case side1 => exact HR0.out); (case side2 => exact HC0.out); rintro e w7 ⟨v704, rfl, ho0, hb⟩; refine ⟨_, rfl, ?_⟩; have HO705 := Aside0.mk (Kd.R_lower ho0 (below_size HB.out)); replace HB := Aside0.mk (below_step HB.out hb)) | ((with_reducible refine gate_callee (f := 67) rfl ?_); refine goL (some 8) Tryd.func67 [.slice A1 l1.length c1] ?_; (with_reducible refine (gudgeonref01_Bits.calls k _ _ l1 t706 _ ?side1 ?side2 A4.out).mono ?_); (case side1 => exact (Kd.C_below HR1.out HB.out)); (case side2 => exact HC1.out); rintro e w8 ⟨v707, rfl, ho0, hb⟩; refine ⟨_, rfl, ?_⟩; have HO708 := Aside0.mk (Kd.R_lower (Kd.R_new' ho0 (Kd.R_lt HO705.out)) (below_size HB.out)); replace HO705 := Aside0.mk (Kd.R_elder' HO705.out (Kd.R_base ho0) hb); replace HB := Aside0.mk (below_step HB.out hb); obtain ⟨Ao9, co9, eo9⟩ := Kd.R_slice HO705.out; subst eo9; obtain ⟨Ao10, co10, eo10⟩ := Kd.R_slice HO708.out; subst eo10) | ((with_reducible refine gate_callee (f := 74) rfl ?_); refine goL (some 9) Tryd.func74 [.slice Ao9 t703.length co9, .slice Ao10 t706.length co10] ?_; (with_reducible refine (gudgeonref01_mul.calls k _ _ t703 _ _ t706 t709 _ ?side1 ?side2 ?side3 ?side4 A5.out).mono ?_); (case side1 => exact (Kd.R_reads' HO705.out).2.2); (case side2 => exact (Kd.R_reads' HO705.out).2.1); (case side3 => exact (Kd.R_reads' HO708.out).2.2); (case side4 => exact (Kd.R_reads' HO708.out).2.1); rintro e w11 ⟨v710, rfl, ho0, hb⟩; refine ⟨_, rfl, ?_⟩; have HO711 := Aside0.mk (Kd.R_lower (Kd.R_new' (Kd.R_new' ho0 (Kd.R_lt HO705.out)) (Kd.R_lt HO708.out)) (below_size HB.out)); replace HO705 := Aside0.mk (Kd.R_elder' HO705.out (Kd.R_base ho0) hb); replace HO708 := Aside0.mk (Kd.R_elder' HO708.out (Kd.R_base ho0) hb); replace HB := Aside0.mk (below_step HB.out hb); obtain ⟨Ao12, co12, eo12⟩ := Kd.R_slice HO711.out; subst eo12) | ((with_reducible refine gate_callee (f := 69) rfl ?_); refine goL (some 10) Tryd.func69 [.slice Ao12 t709.length co12] ?_; (with_reducible refine (gudgeonref01_Limbs.calls k _ _ t709 t712 _ ?side1 ?side2 A6.out).mono ?_); (case side1 => exact (Kd.R_reads' HO711.out).2.2); (case side2 => exact (Kd.R_reads' HO711.out).2.1); rintro e w13 ⟨v713, rfl, ho0, hb⟩; refine ⟨_, rfl, ?_⟩; replace HO705 := Aside0.mk (Kd.R_below HO705.out hb); replace HO708 := Aside0.mk (Kd.R_below HO708.out hb); replace HO711 := Aside0.mk (Kd.R_below HO711.out hb); have HO714 := Aside0.mk (Kd.R_lower ho0 (below_size HB.out)); replace HB := Aside0.mk (below_step HB.out hb)))
 go_ret
 exact ⟨_, by first | rfl | (simp [errW_none, errW_some] <;> rfl) | (simp [*, errW_none, errW_some] <;> rfl), by (with_reducible repeat (first | apply Kd.R_alloc | apply Kd.R_drewN | apply Kd.R_drew)); exact HO714.out, by repeat (first | (with_reducible first | exact HB.out | apply below_alloc | apply pw_below_drewN | apply below_drew1) | exact HB.out)⟩

/-! ### gudgeonref02_Mul: function 25 -/
def gudgeonref02_Mul.f (k : Nat) (a0_0 : Bool) (l0_1 : List Int) (a1_0 : Bool) (l1_1 : List Int) : Option (Bool × List Int) := (gudgeonref01_Mul.f k l0_1 l1_1).bind fun t718 => ((gudgeonref02_Norm.f k (a0_0 != a1_0) t718).bind fun bt721 => (some (bt721.1, bt721.2)))
def gudgeonref02_Mul.T1 : Bool × List (List Nat × List Nat) := (true, [([], []), ([0], [0]), ([], []), ([2], [2]), ([1, 3], [1, 3]), ([], []), ([5], [5]), ([], []), ([7], [7]), ([6, 8], [6, 8]), ([4, 9], [4, 9]), ([10, 9], [10]), ([11, 11, 0, 1, 2, 3, 4, 5, 6, 7, 8, 9, 10, 11], [11])])
def gudgeonref02_Mul.B1 : List Nat := [0, 1, 0, 4, 15, 0, 32, 0, 128, 480, 1023, 2047, 4095]
theorem gudgeonref02_Mul.tab1 : rtab .any (opsOf Tryd.f25 1) = gudgeonref02_Mul.T1 := by kernel_rfl
theorem gudgeonref02_Mul.bits1 : waitsOk gudgeonref02_Mul.T1.2 gudgeonref02_Mul.B1 = true := by kernel_rfl
set_option maxHeartbeats 8000000 in
set_option maxRecDepth 100000 in
theorem gudgeonref02_Mul.calls (k : Nat) (a0_0 : Bool) (A0_1 : Option Addr) (c0_1 : Nat) (l0_1 : List Int) (a1_0 : Bool) (A1_1 : Option Addr) (c1_1 : Nat) (l1_1 : List Int) (r1 : Bool) (r2 : List Int) (w : World) (hr0_1 : Kd.C (Kd.int .u32) w A0_1 l0_1.length l0_1) (hc0_1 : l0_1.length ≤ c0_1) (hr1_1 : Kd.C (Kd.int .u32) w A1_1 l1_1.length l1_1) (hc1_1 : l1_1.length ≤ c1_1) (h : gudgeonref02_Mul.f k a0_0 l0_1 a1_0 l1_1 = some (r1, r2)) :
  Calls Tryd.prog 25 #[.agg #[.bool a0_0, .slice A0_1 l0_1.length c0_1], .agg #[.bool a1_0, .slice A1_1 l1_1.length c1_1]] w fun e w' => ∃ v1_ : Value, e = .returned (.agg #[.bool r1, v1_]) ∧ Kd.R (Kd.int .u32) 51 w' w.heap.size (fun _ => True) v1_ r2 ∧ Below w.heap.size w w' := by
 have hu24 := Tryd.underlying24
 have HR0_1 := Aside0.mk hr0_1
 have HC0_1 := Aside0.mk hc0_1
 clear hr0_1 hc0_1
 have HR1_1 := Aside0.mk hr1_1
 have HC1_1 := Aside0.mk hc1_1
 clear hr1_1 hc1_1
 have HB := Aside0.mk (Below.refl w.heap.size w)
 have H : ((gudgeonref01_Mul.f k l0_1 l1_1).bind fun t718 => ((gudgeonref02_Norm.f k (a0_0 != a1_0) t718).bind fun bt721 => (some (bt721.1, bt721.2)))) = some (r1, r2) := h
 clear h
 replace H := Option.bind_eq_some_iff.mp H
 obtain ⟨t718, A30, H⟩ := H
 replace H : ((gudgeonref02_Norm.f k (a0_0 != a1_0) t718).bind fun bt721 => (some (bt721.1, bt721.2))) = some (r1, r2) := H
 have A3 := Aside0.mk A30
 clear A30
 replace H := Option.bind_eq_some_iff.mp H
 obtain ⟨⟨t721, t722⟩, A40, H⟩ := H
 replace H : (some (t721, t722)) = some (r1, r2) := H
 have A4 := Aside0.mk A40
 clear A40
 simp only [Option.some.injEq, Prod.mk.injEq] at H
 obtain ⟨rfl, rfl⟩ := H
 go_enter Tryd.func25, Tryd.ntmps25
 try go_wp2_with (first | ((with_reducible refine gate_dst (N := 2) rfl ?_); refine box_event ?hg (N := 2) ?hd (cs := #[.bool a0_0, .slice A0_1 l0_1.length c0_1]) (t := 24) ?hr ?_; (case hd => rfl); (case hg => rfl); (case hr => first | (go_simp; done) | (go_simp; rfl)); intro gb715 hg w5 hbox hb; have BK715 := Aside0.mk (hbox); have GW715 := Aside0.mk (bxLe HB.out hg); have GE715 := GW715; replace HB := Aside0.mk (below_step HB.out hb); clear hb hbox hg) | ((with_reducible refine gate_dst (N := 3) rfl ?_); refine box_event ?hg (N := 3) ?hd (cs := #[.bool a1_0, .slice A1_1 l1_1.length c1_1]) (t := 24) ?hr ?_; (case hd => rfl); (case hg => rfl); (case hr => first | (go_simp; done) | (go_simp; rfl)); intro gb716 hg w6 hbox hb; have BK716 := Aside0.mk (hbox); have GW716 := Aside0.mk (bxLe HB.out hg); have GE716 := GW716; replace HB := Aside0.mk (below_step HB.out hb); have NB715_716 := Aside0.mk (neL BK715.out hg); have NB716_715 := Aside0.mk (neR BK715.out hg); replace BK715 := Aside0.mk (blk_below BK715.out hb); clear hb hbox hg) | ((with_reducible refine gate_dst (N := 4) rfl ?_); refine box_event ?hg (N := 4) ?hd (cs := #[.bool false, .slice none 0 0]) (t := 24) ?hr ?_; (case hd => rfl); (case hg => rfl); (case hr => first | (go_simp; done) | (go_simp; rfl)); intro gb717 hg w7 hbox hb; have BK717 := Aside0.mk (hbox); have GW717 := Aside0.mk (bxLe HB.out hg); have GE717 := GW717; replace HB := Aside0.mk (below_step HB.out hb); have NB715_717 := Aside0.mk (neL BK715.out hg); have NB717_715 := Aside0.mk (neR BK715.out hg); replace BK715 := Aside0.mk (blk_below BK715.out hb); have NB716_717 := Aside0.mk (neL BK716.out hg); have NB717_716 := Aside0.mk (neR BK716.out hg); replace BK716 := Aside0.mk (blk_below BK716.out hb); clear hb hbox hg))
 replace BK715 := Aside0.mk (blk_drew BK715.out)
 replace BK716 := Aside0.mk (blk_drew BK716.out)
 replace BK717 := Aside0.mk (blk_drew BK717.out)
 replace HB := Aside0.mk (below_drew1 HB.out)
 refine start_ (n := 13) (S := fun w' => w'.cell? ⟨gb715, 0, none⟩ = some (.bool a0_0) ∧ w'.cell? ⟨gb715, 1, none⟩ = some (.slice A0_1 l0_1.length c0_1) ∧ w'.cell? ⟨gb716, 0, none⟩ = some (.bool a1_0) ∧ w'.cell? ⟨gb716, 1, none⟩ = some (.slice A1_1 l1_1.length c1_1)) (ds := []) #[false, false, false, false, false, false, false, false, false, false, false, false, false] (by kernel_rfl) rfl rfl ⟨(blk_cell BK715.out 0).trans rfl, (blk_cell BK715.out 1).trans rfl, (blk_cell BK716.out 0).trans rfl, (blk_cell BK716.out 1).trans rfl⟩ (fun hHeld => ?_); refine with_tabW gudgeonref02_Mul.tab1 gudgeonref02_Mul.bits1 (fun HT_ HW_ => ?_)
 generalize w7.drew = w8 at BK715 BK716 BK717 HB hHeld ⊢
 refine pure_ (i := 0) (N := some 5) (v := ?_) (a' := ?_) #[true, false, false, false, false, false, false, false, false, false, false, false, false] rfl rfl (any_of HT_.out (by kernel_rfl)) (fun _ _ _ h => h) (Or.inl ⟨by rfl, ?_⟩) ?_ ?_
 rotate_left
 ·intro w'
  go_simp
  with_reducible rfl
 rotate_left
 ·simp only [Act.put, List.setIfInBounds_toArray, List.set_cons_zero, List.set_cons_succ, i64_w, i32_w]
  rfl
 refine pure_ (i := 2) (N := some 7) (v := ?_) (a' := ?_) #[true, false, true, false, false, false, false, false, false, false, false, false, false] rfl rfl (any_of HT_.out (by kernel_rfl)) (fun _ _ _ h => h) (Or.inl ⟨by rfl, ?_⟩) ?_ ?_
 rotate_left
 ·intro w'
  go_simp
  with_reducible rfl
 rotate_left
 ·simp only [Act.put, List.setIfInBounds_toArray, List.set_cons_zero, List.set_cons_succ, i64_w, i32_w]
  rfl
 refine pure_ (i := 5) (N := some 10) (v := ?_) (a' := ?_) #[true, false, true, false, false, true, false, false, false, false, false, false, false] rfl rfl (any_of HT_.out (by kernel_rfl)) (fun _ _ _ h => h) (Or.inl ⟨by rfl, ?_⟩) ?_ ?_
 rotate_left
 ·intro w'
  go_simp
  with_reducible rfl
 rotate_left
 ·simp only [Act.put, List.setIfInBounds_toArray, List.set_cons_zero, List.set_cons_succ, i64_w, i32_w]
  rfl
 refine pure_ (i := 7) (N := some 12) (v := ?_) (a' := ?_) #[true, false, true, false, false, true, false, true, false, false, false, false, false] rfl rfl (any_of HT_.out (by kernel_rfl)) (fun _ _ _ h => h) (Or.inl ⟨by rfl, ?_⟩) ?_ ?_
 rotate_left
 ·intro w'
  go_simp
  with_reducible rfl
 rotate_left
 ·simp only [Act.put, List.setIfInBounds_toArray, List.set_cons_zero, List.set_cons_succ, i64_w, i32_w]
  rfl
 refine take_ (i := 1) (N := some 6) (v := ?_) (a' := ?_) #[true, true, true, false, false, true, false, true, false, false, false, false, false] rfl rfl (take_ofW HT_.out HW_.out (by kernel_rfl)) (fun _ _ _ h => h) (Or.inl ⟨by rfl, ?_⟩) hHeld ?_ ?_
 rotate_left
 ·rintro w' ⟨s0, s1, s2, s3⟩
  go_simp
  with_reducible rfl
 rotate_left
 ·simp only [Act.put, List.setIfInBounds_toArray, List.set_cons_zero, List.set_cons_succ, i64_w, i32_w]
  rfl
 refine take_ (i := 3) (N := some 8) (v := ?_) (a' := ?_) #[true, true, true, true, false, true, false, true, false, false, false, false, false] rfl rfl (take_ofW HT_.out HW_.out (by kernel_rfl)) (fun _ _ _ h => h) (Or.inl ⟨by rfl, ?_⟩) hHeld ?_ ?_
 rotate_left
 ·rintro w' ⟨s0, s1, s2, s3⟩
  go_simp
  with_reducible rfl
 rotate_left
 ·simp only [Act.put, List.setIfInBounds_toArray, List.set_cons_zero, List.set_cons_succ, i64_w, i32_w]
  rfl
 refine pure_ (i := 4) (N := some 9) (v := ?_) (a' := ?_) #[true, true, true, true, true, true, false, true, false, false, false, false, false] rfl rfl (any_of HT_.out (by kernel_rfl)) (fun _ _ _ h => h) (Or.inl ⟨by rfl, ?_⟩) ?_ ?_
 rotate_left
 ·intro w'
  go_simp
  with_reducible rfl
 rotate_left
 ·simp only [Act.put, List.setIfInBounds_toArray, List.set_cons_zero, List.set_cons_succ, i64_w, i32_w]
  rfl
 refine take_ (i := 6) (N := some 11) (v := ?_) (a' := ?_) #[true, true, true, true, true, true, true, true, false, false, false, false, false] rfl rfl (take_ofW HT_.out HW_.out (by kernel_rfl)) (fun _ _ _ h => h) (Or.inl ⟨by rfl, ?_⟩) hHeld ?_ ?_
 rotate_left
 ·rintro w' ⟨s0, s1, s2, s3⟩
  go_simp
  with_reducible rfl
 rotate_left
 ·simp only [Act.put, List.setIfInBounds_toArray, List.set_cons_zero, List.set_cons_succ, i64_w, i32_w]
  rfl
 refine take_ (i := 8) (N := some 13) (v := ?_) (a' := ?_) #[true, true, true, true, true, true, true, true, true, false, false, false, false] rfl rfl (take_ofW HT_.out HW_.out (by kernel_rfl)) (fun _ _ _ h => h) (Or.inl ⟨by rfl, ?_⟩) hHeld ?_ ?_
 rotate_left
 ·rintro w' ⟨s0, s1, s2, s3⟩
  go_simp
  with_reducible rfl
 rotate_left
 ·simp only [Act.put, List.setIfInBounds_toArray, List.set_cons_zero, List.set_cons_succ, i64_w, i32_w]
  rfl
 refine one_ (i := 9) (N := some 14) #[true, true, true, true, true, true, true, true, true, true, false, false, false] rfl rfl (one_of HT_.out (by kernel_rfl)) (by decide) (fun K hK => ?_)
 refine goR Tryd.func50 [.slice A0_1 l0_1.length c0_1, .slice A1_1 l1_1.length c1_1] ?_
 with_reducible refine (gudgeonref01_Mul.calls k _ _ l0_1 _ _ l1_1 t718 _ ?side1 ?side2 ?side3 ?side4 A3.out).mono ?_
 (case side1 => exact (Kd.C_below HR0_1.out HB.out))
 (case side2 => exact HC0_1.out)
 (case side3 => exact (Kd.C_below HR1_1.out HB.out))
 (case side4 => exact HC1_1.out)
 rintro e w9 ⟨v719, rfl, ho0, hb⟩
 refine ⟨_, rfl, ?_⟩
 have HO720 := Aside0.mk (Kd.R_lower ho0 (below_size HB.out))
 replace BK715 := Aside0.mk (blk_below BK715.out hb)
 replace BK716 := Aside0.mk (blk_below BK716.out hb)
 replace BK717 := Aside0.mk (blk_below BK717.out hb)
 replace HB := Aside0.mk (below_step HB.out hb)
 (try clear hb)
 (try clear hb2)
 (try clear hk)
 (try clear hi)
 (try clear ho0)
 obtain ⟨Ao10, co10, eo10⟩ := Kd.R_slice HO720.out
 subst eo10
 refine hK.out _ _ ⟨(blk_cell BK715.out 0).trans rfl, (blk_cell BK715.out 1).trans rfl, (blk_cell BK716.out 0).trans rfl, (blk_cell BK716.out 1).trans rfl⟩ (fun hHeld => ?_)
 clear hK K
 refine norm_ (a' := ?_) ?_ ?_
 rotate_left
 ·show Act.put _ (some 14) _ = _
  simp only [Act.put, List.setIfInBounds_toArray, List.set_cons_zero, List.set_cons_succ, i64_w, i32_w]
  rfl
 refine pure_ (i := 10) (N := some 15) (v := ?_) (a' := ?_) #[true, true, true, true, true, true, true, true, true, true, true, false, false] rfl rfl (any_of HT_.out (by kernel_rfl)) (fun _ _ _ h => h) (Or.inl ⟨by rfl, ?_⟩) ?_ ?_
 rotate_left
 ·intro w'
  go_simp
  with_reducible rfl
 rotate_left
 ·simp only [Act.put, List.setIfInBounds_toArray, List.set_cons_zero, List.set_cons_succ, i64_w, i32_w]
  rfl
 refine one_ (i := 11) (N := some 16) #[true, true, true, true, true, true, true, true, true, true, true, true, false] rfl rfl (one_of HT_.out (by kernel_rfl)) (by decide) (fun K hK => ?_)
 refine goR Tryd.func17 [.agg #[.bool (a0_0 != a1_0), .slice Ao10 t718.length co10]] ?_
 with_reducible refine (gudgeonref02_Norm.calls k (a0_0 != a1_0) _ _ t718 t721 t722 _ ?side1 ?side2 A4.out).mono ?_
 (case side1 => exact (Kd.R_reads' HO720.out).2.2)
 (case side2 => exact (Kd.R_reads' HO720.out).2.1)
 rintro e w11 ⟨v723, rfl, ho0, hb⟩
 refine ⟨_, rfl, ?_⟩
 have HO724 := Aside0.mk (Kd.R_lower (Kd.R_new' ho0 (Kd.R_lt HO720.out)) (below_size HB.out))
 replace HO720 := Aside0.mk (Kd.R_elder' HO720.out (Kd.R_base ho0) hb)
 replace BK715 := Aside0.mk (blk_below BK715.out hb)
 replace BK716 := Aside0.mk (blk_below BK716.out hb)
 replace BK717 := Aside0.mk (blk_below BK717.out hb)
 replace HB := Aside0.mk (below_step HB.out hb)
 (try clear hb)
 (try clear hb2)
 (try clear hk)
 (try clear hi)
 (try clear ho0)
 obtain ⟨Ao13, co13, eo13⟩ := Kd.R_slice HO724.out
 subst eo13
 refine hK.out _ _ ⟨(blk_cell BK715.out 0).trans rfl, (blk_cell BK715.out 1).trans rfl, (blk_cell BK716.out 0).trans rfl, (blk_cell BK716.out 1).trans rfl⟩ (fun hHeld => ?_)
 clear hK K
 refine norm_ (a' := ?_) ?_ ?_
 rotate_left
 ·show Act.put _ (some 16) _ = _
  simp only [Act.put, List.setIfInBounds_toArray, List.set_cons_zero, List.set_cons_succ, i64_w, i32_w]
  rfl
 refine one_ (i := 12) (N := none) #[true, true, true, true, true, true, true, true, true, true, true, true, true] rfl rfl (one_of HT_.out (by kernel_rfl)) (by decide) (fun K hK => ?_)
 have hs12 : w11.cell? ⟨gb717, 0, none⟩ = some (.bool false) := (blk_cell BK717.out 0).trans rfl
 have hfs12 := blk_frozen BK717.out 0
 have hns12_0 := NB715_717.out
 have hns12_1 := NB716_717.out
 have hms12_0 := NB717_715.out
 have hms12_1 := NB717_716.out
 have hs14 : w11.cell? ⟨gb717, 1, none⟩ = some (.slice none 0 0) := (blk_cell BK717.out 1).trans rfl
 have hfs14 := blk_frozen BK717.out 1
 have hns14_0 := NB715_717.out
 have hns14_1 := NB716_717.out
 have hms14_0 := NB717_715.out
 have hms14_1 := NB717_716.out
 refine skip_ (w1 := ?_) (by rfl) rfl ?_ ?_
 rotate_left
 ·go_simp
  rfl
 refine hK.out _ _ ⟨((cell_far (p := ⟨gb717, _, none⟩) NB715_717.out _).trans (((cell_far (p := ⟨gb717, _, none⟩) NB715_717.out _).trans (hHeld.1)))), ((cell_far (p := ⟨gb717, _, none⟩) NB715_717.out _).trans (((cell_far (p := ⟨gb717, _, none⟩) NB715_717.out _).trans (hHeld.2.1)))), ((cell_far (p := ⟨gb717, _, none⟩) NB716_717.out _).trans (((cell_far (p := ⟨gb717, _, none⟩) NB716_717.out _).trans (hHeld.2.2.1)))), ((cell_far (p := ⟨gb717, _, none⟩) NB716_717.out _).trans (((cell_far (p := ⟨gb717, _, none⟩) NB716_717.out _).trans (hHeld.2.2.2))))⟩ (fun hHeld => ?_)
 clear hK K
 refine done_ (done_of HT_.out (by kernel_rfl)) ?_
 try go_wp2
 refine bodyPost_ret (results_cell_row rfl _ _ gb717 24 #[.bool t721, .slice Ao13 t722.length co13] (0, 0) _ rfl (by refine blk_put (cs := #[.bool t721, .slice none 0 0]) ?_ 1 _ rfl; refine blk_put (cs := #[.bool false, .slice none 0 0]) ?_ 0 _ rfl; exact BK717.out) Tryd.underlying24 rfl (by kernel_rfl)) rfl ?_
 exact ⟨_, by first | rfl | (simp [errW_none, errW_some] <;> rfl) | (simp [*, errW_none, errW_some] <;> rfl), by (with_reducible repeat (first | apply Kd.R_alloc | apply Kd.R_drewN | apply Kd.R_drew)); exact Kd.R_mono (Kd.R_far (p := ⟨gb717, 1, none⟩) (Kd.R_far (p := ⟨gb717, 0, none⟩) (Kd.R_types HO724.out BK717.out (by decide)) (fun _ hk => hk.2) (.bool t721)) (fun _ hk => hk.2) (.slice Ao13 t722.length co13)) (fun _ hk => trivial), by repeat (first | (with_reducible first | exact HB.out | apply below_alloc | apply pw_below_drewN | apply below_drew1 | refine below_set ?_ GE715.out | refine below_set ?_ GE716.out | refine below_set ?_ GE717.out) | exact HB.out)⟩

/-! ### whole_Cmp: function 26 -/
/-! ### gudgeonref02_Sign: function 29 -/
def gudgeonref02_Sign.f (k : Nat) (a0_0 : Bool) (l0_1 : List Int) : Option (Int) := (gudgeonref02_Norm.f k a0_0 l0_1).bind fun bt733 => (if (bt733.2.length : Int) = 0 then (some 0) else (if bt733.1 = true then (some (-1)) else (some 1)))
set_option maxHeartbeats 8000000 in
set_option maxRecDepth 100000 in
theorem gudgeonref02_Sign.calls (k : Nat) (a0_0 : Bool) (A0_1 : Option Addr) (c0_1 : Nat) (l0_1 : List Int) (r : Int) (w : World) (hr0_1 : Kd.C (Kd.int .u32) w A0_1 l0_1.length l0_1) (hc0_1 : l0_1.length ≤ c0_1) (h : gudgeonref02_Sign.f k a0_0 l0_1 = some r) :
  Calls Tryd.prog 29 #[.agg #[.bool a0_0, .slice A0_1 l0_1.length c0_1]] w fun e w' => e = .returned (.int .i64 r) ∧ Below w.heap.size w w' := by
 have hu24 := Tryd.underlying24
 have HR0_1 := Aside0.mk hr0_1
 have HC0_1 := Aside0.mk hc0_1
 clear hr0_1 hc0_1
 have HB := Aside0.mk (Below.refl w.heap.size w)
 have H : ((gudgeonref02_Norm.f k a0_0 l0_1).bind fun bt733 => (if (bt733.2.length : Int) = 0 then (some 0) else (if bt733.1 = true then (some (-1)) else (some 1)))) = some r := h
 clear h
 replace H := Option.bind_eq_some_iff.mp H
 obtain ⟨⟨t733, t734⟩, A20, H⟩ := H
 replace H : (if (t734.length : Int) = 0 then (some 0) else (if t733 = true then (some (-1)) else (some 1))) = some r := H
 have A2 := Aside0.mk A20
 clear A20
 by_cases c3 : (t734.length : Int) = 0
 ·rw [if_pos c3] at H
  have c3b0 : ((t734.length : Int) == 0) = true := beq_iff_eq.mpr c3
  have c3b1 : ((t734.length : Int) != 0) = false := bne_eq_false_iff_eq.mpr c3
  clear c3
  obtain rfl := Option.some.inj H
  go_enter Tryd.func29, Tryd.ntmps29
  go_wp2_with (first | ((with_reducible refine gate_dst (N := 1) rfl ?_); refine box_event ?hg (N := 1) ?hd (cs := #[.bool a0_0, .slice A0_1 l0_1.length c0_1]) (t := 24) ?hr ?_; (case hd => rfl); (case hg => rfl); (case hr => first | (go_simp; done) | (go_simp; rfl)); intro gb732 hg w4 hbox hb; have BK732 := Aside0.mk (hbox); have GW732 := Aside0.mk (bxLe HB.out hg); have GE732 := GW732; replace HB := Aside0.mk (below_step HB.out hb); clear hb hbox hg; have hcz5_0 := bc0 BK732.out; have hcz5_1 := bc1 BK732.out; have hfz5_0 := blk_frozen BK732.out 0; have hfz5_1 := blk_frozen BK732.out 1) | ((with_reducible refine gate_callee (f := 17) rfl ?_); refine goL (some 5) Tryd.func17 [.agg #[.bool a0_0, .slice A0_1 l0_1.length c0_1]] ?_; (with_reducible refine (gudgeonref02_Norm.calls k a0_0 _ _ l0_1 t733 t734 _ ?side1 ?side2 A2.out).mono ?_); (case side1 => exact (Kd.C_below HR0_1.out HB.out)); (case side2 => exact HC0_1.out); rintro e w6 ⟨v735, rfl, ho0, hb⟩; refine ⟨_, rfl, ?_⟩; have HO736 := Aside0.mk (Kd.R_lower ho0 (below_size HB.out)); replace BK732 := Aside0.mk (blk_below BK732.out hb); replace HB := Aside0.mk (below_step HB.out hb)) | ((with_reducible refine gate_dst (N := 3) rfl ?_); refine box_event ?hg (N := 3) ?hd (cs := #[.bool false, .slice none 0 0]) (t := 24) ?hr ?_; (case hd => rfl); (case hg => rfl); (case hr => first | (go_simp; done) | (go_simp; rfl)); intro gb737 hg w7 hbox hb; replace HO736 := Aside0.mk (Kd.R_below HO736.out hb); have BK737 := Aside0.mk (hbox); have GW737 := Aside0.mk (bxLe HB.out hg); have GE737 := GW737; replace HB := Aside0.mk (below_step HB.out hb); have NB732_737 := Aside0.mk (neL BK732.out hg); have NB737_732 := Aside0.mk (neR BK732.out hg); replace BK732 := Aside0.mk (blk_below BK732.out hb); clear hb hbox hg; have hnb8 := NB737_732.out; have hnc8 := NB732_737.out; have hcz9_0 := bc0 BK737.out; have hcz9_1 := bc1 BK737.out; have hfz9_0 := blk_frozen BK737.out 0; have hfz9_1 := blk_frozen BK737.out 1; obtain ⟨Ao10, co10, eo10⟩ := Kd.R_slice HO736.out; subst eo10))
  go_ret
  exact ⟨by first | rfl | (simp [errW_none, errW_some] <;> rfl) | (refine congrArg (fun z_ => Ending.returned (Value.bool z_)) (decide_eq_decide.mpr ?_); unfold wrap64; omega) | (simp [*, errW_none, errW_some] <;> rfl), by repeat (first | (with_reducible first | exact HB.out | apply below_alloc | apply pw_below_drewN | apply below_drew1 | refine below_set ?_ GE732.out | refine below_set ?_ GE737.out) | exact HB.out)⟩
 ·rw [if_neg c3] at H
  have c3b0 : ((t734.length : Int) == 0) = false := beq_eq_false_iff_ne.mpr c3
  have c3b1 : ((t734.length : Int) != 0) = true := bne_iff_ne.mpr c3
  have c3b2 : ¬ (t734 = []) := fun h_ => c3 (by rw [h_]; rfl)
  by_cases c11 : t733 = true
  ·subst c11
   have H1 : (some (-1)) = some r := by rw [if_pos rfl] at H; exact H
   clear H
   have H := H1
   clear H1
   obtain rfl := Option.some.inj H
   go_enter Tryd.func29, Tryd.ntmps29
   go_wp2_with (first | ((with_reducible refine gate_dst (N := 1) rfl ?_); refine box_event ?hg (N := 1) ?hd (cs := #[.bool a0_0, .slice A0_1 l0_1.length c0_1]) (t := 24) ?hr ?_; (case hd => rfl); (case hg => rfl); (case hr => first | (go_simp; done) | (go_simp; rfl)); intro gb732 hg w12 hbox hb; have BK732 := Aside0.mk (hbox); have GW732 := Aside0.mk (bxLe HB.out hg); have GE732 := GW732; replace HB := Aside0.mk (below_step HB.out hb); clear hb hbox hg; have hcz13_0 := bc0 BK732.out; have hcz13_1 := bc1 BK732.out; have hfz13_0 := blk_frozen BK732.out 0; have hfz13_1 := blk_frozen BK732.out 1) | ((with_reducible refine gate_callee (f := 17) rfl ?_); refine goL (some 5) Tryd.func17 [.agg #[.bool a0_0, .slice A0_1 l0_1.length c0_1]] ?_; (with_reducible refine (gudgeonref02_Norm.calls k a0_0 _ _ l0_1 true t734 _ ?side1 ?side2 A2.out).mono ?_); (case side1 => exact (Kd.C_below HR0_1.out HB.out)); (case side2 => exact HC0_1.out); rintro e w14 ⟨v735, rfl, ho0, hb⟩; refine ⟨_, rfl, ?_⟩; have HO736 := Aside0.mk (Kd.R_lower ho0 (below_size HB.out)); replace BK732 := Aside0.mk (blk_below BK732.out hb); replace HB := Aside0.mk (below_step HB.out hb)) | ((with_reducible refine gate_dst (N := 3) rfl ?_); refine box_event ?hg (N := 3) ?hd (cs := #[.bool false, .slice none 0 0]) (t := 24) ?hr ?_; (case hd => rfl); (case hg => rfl); (case hr => first | (go_simp; done) | (go_simp; rfl)); intro gb737 hg w15 hbox hb; replace HO736 := Aside0.mk (Kd.R_below HO736.out hb); have BK737 := Aside0.mk (hbox); have GW737 := Aside0.mk (bxLe HB.out hg); have GE737 := GW737; replace HB := Aside0.mk (below_step HB.out hb); have NB732_737 := Aside0.mk (neL BK732.out hg); have NB737_732 := Aside0.mk (neR BK732.out hg); replace BK732 := Aside0.mk (blk_below BK732.out hb); clear hb hbox hg; have hnb16 := NB737_732.out; have hnc16 := NB732_737.out; have hcz17_0 := bc0 BK737.out; have hcz17_1 := bc1 BK737.out; have hfz17_0 := blk_frozen BK737.out 0; have hfz17_1 := blk_frozen BK737.out 1; obtain ⟨Ao18, co18, eo18⟩ := Kd.R_slice HO736.out; subst eo18))
   go_ret
   exact ⟨by first | rfl | (simp [errW_none, errW_some] <;> rfl) | (refine congrArg (fun z_ => Ending.returned (Value.bool z_)) (decide_eq_decide.mpr ?_); unfold wrap64; omega) | (simp [*, errW_none, errW_some] <;> rfl), by repeat (first | (with_reducible first | exact HB.out | apply below_alloc | apply pw_below_drewN | apply below_drew1 | refine below_set ?_ GE732.out | refine below_set ?_ GE737.out) | exact HB.out)⟩
  ·replace c11 := Bool.eq_false_iff.mpr c11
   subst c11
   have H1 : (some 1) = some r := by rw [if_neg (show ¬ (false = true) by decide)] at H; exact H
   clear H
   have H := H1
   clear H1
   obtain rfl := Option.some.inj H
   go_enter Tryd.func29, Tryd.ntmps29
   go_wp2_with (first | ((with_reducible refine gate_dst (N := 1) rfl ?_); refine box_event ?hg (N := 1) ?hd (cs := #[.bool a0_0, .slice A0_1 l0_1.length c0_1]) (t := 24) ?hr ?_; (case hd => rfl); (case hg => rfl); (case hr => first | (go_simp; done) | (go_simp; rfl)); intro gb732 hg w19 hbox hb; have BK732 := Aside0.mk (hbox); have GW732 := Aside0.mk (bxLe HB.out hg); have GE732 := GW732; replace HB := Aside0.mk (below_step HB.out hb); clear hb hbox hg; have hcz20_0 := bc0 BK732.out; have hcz20_1 := bc1 BK732.out; have hfz20_0 := blk_frozen BK732.out 0; have hfz20_1 := blk_frozen BK732.out 1) | ((with_reducible refine gate_callee (f := 17) rfl ?_); refine goL (some 5) Tryd.func17 [.agg #[.bool a0_0, .slice A0_1 l0_1.length c0_1]] ?_; (with_reducible refine (gudgeonref02_Norm.calls k a0_0 _ _ l0_1 false t734 _ ?side1 ?side2 A2.out).mono ?_); (case side1 => exact (Kd.C_below HR0_1.out HB.out)); (case side2 => exact HC0_1.out); rintro e w21 ⟨v735, rfl, ho0, hb⟩; refine ⟨_, rfl, ?_⟩; have HO736 := Aside0.mk (Kd.R_lower ho0 (below_size HB.out)); replace BK732 := Aside0.mk (blk_below BK732.out hb); replace HB := Aside0.mk (below_step HB.out hb)) | ((with_reducible refine gate_dst (N := 3) rfl ?_); refine box_event ?hg (N := 3) ?hd (cs := #[.bool false, .slice none 0 0]) (t := 24) ?hr ?_; (case hd => rfl); (case hg => rfl); (case hr => first | (go_simp; done) | (go_simp; rfl)); intro gb737 hg w22 hbox hb; replace HO736 := Aside0.mk (Kd.R_below HO736.out hb); have BK737 := Aside0.mk (hbox); have GW737 := Aside0.mk (bxLe HB.out hg); have GE737 := GW737; replace HB := Aside0.mk (below_step HB.out hb); have NB732_737 := Aside0.mk (neL BK732.out hg); have NB737_732 := Aside0.mk (neR BK732.out hg); replace BK732 := Aside0.mk (blk_below BK732.out hb); clear hb hbox hg; have hnb23 := NB737_732.out; have hnc23 := NB732_737.out; have hcz24_0 := bc0 BK737.out; have hcz24_1 := bc1 BK737.out; have hfz24_0 := blk_frozen BK737.out 0; have hfz24_1 := blk_frozen BK737.out 1; obtain ⟨Ao25, co25, eo25⟩ := Kd.R_slice HO736.out; subst eo25))
   go_ret
   exact ⟨by first | rfl | (simp [errW_none, errW_some] <;> rfl) | (refine congrArg (fun z_ => Ending.returned (Value.bool z_)) (decide_eq_decide.mpr ?_); unfold wrap64; omega) | (simp [*, errW_none, errW_some] <;> rfl), by repeat (first | (with_reducible first | exact HB.out | apply below_alloc | apply pw_below_drewN | apply below_drew1 | refine below_set ?_ GE732.out | refine below_set ?_ GE737.out) | exact HB.out)⟩

/-! ### gudgeonref02_Cmp: function 27 -/
end Go.Proofs.YthnfmmaolkenkaaDoor.PA
/- Written by a program of this session, wip/tools/patch_print.py, over the kit's print of the loaded functions. -/
namespace Go.Proofs.YthnfmmaolkenkaaDoor.H
end Go.Proofs.YthnfmmaolkenkaaDoor.H
namespace Go.Proofs.YthnfmmaolkenkaaDoor.PA
open Go.RowKit Go.Proofs.YthnfmmaolkenkaaDoorW.PrintWords Go.Proofs.YthnfmmaolkenkaaDoorW.PrintLast Go.Proofs.YthnfmmaolkenkaaDoorW.PrintMore Go.Proofs.YthnfmmaolkenkaaDoor.H
attribute [local go_sem] max2_int min2_int max_two min_two max_three min_three max_four min_four   -- for this text's walks alone
set_option linter.unusedVariables false
set_option linter.unusedSimpArgs false

/-! ### gudgeonref01_divmod: function 68 -/
def gudgeonref01_divmod.l0 : Nat → List Bool → List Bool → List Bool → List Bool → Int → Option (List Bool × List Bool)
 | 0, _, _, _, _, _ => none
 | k + 1, x0, x1, x6, x7, x8 => if x8 ≥ 0 then (if 0 ≤ x8 then (if x8 < (x0.length : Int) then ((some (([rdOf false x0 x8] : List Bool) : List Bool)).bind fun y805 => (if y805.length + x7.length < 140737488355328 then ((gudgeonref01_trim.f k (y805 ++ x7)).bind fun t811 => ((gudgeonref01_cmp.f k t811 x1).bind fun t814 => (if t814 ≥ 0 then ((gudgeonref01_sub.f k t811 x1).bind fun t815 => (if x8 < (x6.length : Int) then (gudgeonref01_divmod.l0 k x0 x1 (x6.set (x8 : Int).toNat true) t815 (wrap64 (x8 - 1))) else (none))) else (gudgeonref01_divmod.l0 k x0 x1 x6 t811 (wrap64 (x8 - 1)))))) else (none))) else (none)) else (none)) else ((gudgeonref01_trim.f k x6).bind fun t801 => (some (t801, x7)))
def gudgeonref01_divmod.f (k : Nat) (l0 : List Bool) (l1 : List Bool) : Option (List Bool × List Bool) := if 0 ≤ (l0.length : Int) then (if ((l0.length : Int) : Int).toNat ≤ 281474976710656 then (gudgeonref01_divmod.l0 k l0 l1 (List.replicate ((l0.length : Int) : Int).toNat false) ([] : List Bool) (wrap64 ((l0.length : Int) - 1))) else (none)) else (none)
set_option maxHeartbeats 8000000 in
set_option maxRecDepth 100000 in
theorem gudgeonref01_divmod.calls (k : Nat) (A0 : Option Addr) (c0 : Nat) (l0 : List Bool) (A1 : Option Addr) (c1 : Nat) (l1 : List Bool) (r1 : List Bool) (r2 : List Bool) (w : World) (hr0 : Kd.C Kd.bool w A0 l0.length l0) (hc0 : l0.length ≤ c0) (hr1 : Kd.C Kd.bool w A1 l1.length l1) (hc1 : l1.length ≤ c1) (h : gudgeonref01_divmod.f k l0 l1 = some (r1, r2)) :
  Calls Tryd.prog 68 #[.slice A0 l0.length c0, .slice A1 l1.length c1] w fun e w' => ∃ v0_ v1_ : Value, e = .returned (.tuple #[v0_, v1_]) ∧ Kd.R Kd.bool 4 w' w.heap.size (fun k_ => some k_ ≠ (v1_ : Value).ownBlock) v0_ r1 ∧ Kd.R Kd.bool 4 w' w.heap.size (fun k_ => some k_ ≠ (v0_ : Value).ownBlock) v1_ r2 ∧ Below w.heap.size w w' := by
 have HR0 := Aside0.mk hr0
 have HC0 := Aside0.mk hc0
 clear hr0 hc0
 have HR1 := Aside0.mk hr1
 have HC1 := Aside0.mk hc1
 clear hr1 hc1
 have HB := Aside0.mk (Below.refl w.heap.size w)
 have H : (if 0 ≤ (l0.length : Int) then (if ((l0.length : Int) : Int).toNat ≤ 281474976710656 then (gudgeonref01_divmod.l0 k l0 l1 (List.replicate ((l0.length : Int) : Int).toNat false) ([] : List Bool) (wrap64 ((l0.length : Int) - 1))) else (none)) else (none)) = some (r1, r2) := h
 clear h
 by_cases c3 : 0 ≤ (l0.length : Int)
 ·rw [if_pos c3] at H
  have c3b0 := eq_true c3
  have c3b1 : decide (0 ≤ (l0.length : Int)) = true := decide_eq_true c3
  clear c3
  by_cases c4 : ((l0.length : Int) : Int).toNat ≤ 281474976710656
  ·rw [if_pos c4] at H
   have c4b0 := eq_true c4
   have c4b1 : decide (((l0.length : Int) : Int).toNat ≤ 281474976710656) = true := decide_eq_true c4
   clear c4
   obtain ⟨y798, hy798⟩ : ∃ y_ : List Bool, y_ = (List.replicate ((l0.length : Int) : Int).toNat false) := ⟨_, rfl⟩
   replace H : (gudgeonref01_divmod.l0 k l0 l1 y798 ([] : List Bool) (wrap64 ((l0.length : Int) - 1))) = some (r1, r2) := by first | (rw [hy798]; with_reducible exact H) | (have H2_ := (Option.bind_some _ _).symm.trans H; rw [hy798]; with_reducible exact H2_) | (have H2_ := (Option.bind_some _ _).symm.trans H; with_reducible exact H2_) | with_reducible exact H | (rw [hy798]; exact H) | exact H
   have Ny798 := Aside0.mk hy798
   clear hy798
   have H' := Aside0.mk H
   clear H
   go_enter Tryd.func68, Tryd.ntmps68
   go_wp2_with (first | ((with_reducible refine gate_dst (N := 11) rfl ?_); refine Kd.R_make Kd.bool _ 4 rfl (N := 11) rfl 69 _ _ rfl (l0.length : Int) rfl rfl Tryd.underlying69 (.bool false) 1 info4 rfl (by decide) (by omega) false (ok := fun _ => True) (okp := fun _ => True) rfl (fun _ hk => hk) trivial (of_decide_eq_true (by first | (with_reducible assumption) | assumption)) (Nat.le_trans (Nat.mul_le_mul_right _ (of_decide_eq_true (by first | (with_reducible assumption) | assumption) : (l0.length : Int).toNat ≤ 281474976710656)) (by omega)) (Below.refl _ _) (Nat.le_refl _) ?_; intro v799 w5 ho6 hb hg_ hnew_; clear hg_ hnew_; (first | rw [← Ny798.out] at ho6 | (simp only [Int.reduceToNat] at ho6; rw [← Ny798.out] at ho6)); have HO800 := Aside0.mk (Kd.R_lower ho6 (below_size HB.out)); replace HB := Aside0.mk (below_step HB.out hb); clear hb ho6))
   go_loopg [7, 8] k (fun kq v7 v8 w' => ∃ (x6_1 : List Bool) (x7_1 : List Bool) (x8_1 : Int), v8 = .int .i64 x8_1 ∧ Aside0 (gudgeonref01_divmod.l0 kq l0 l1 x6_1 x7_1 x8_1 = some (r1, r2)) ∧ Aside0 (kq ≤ k) ∧ Aside0 (Kd.R Kd.bool 4 w' w.heap.size (fun k_ => some k_ ≠ (v7 : Value).ownBlock) v799 x6_1) ∧ Aside0 (Kd.R Kd.bool 4 w' w.heap.size (fun k_ => some k_ ≠ (v799 : Value).ownBlock) v7 x7_1) ∧ Aside0 (Below w.heap.size w w'))
   case atStart => exact ⟨(y798), (([] : List Bool)), (wrap64 ((l0.length : Int) - 1)), (by first | rfl | (simp; done) | (simp [*]; done) | (refine congrArg (Value.int _) ?_; omega) | (refine congrArg Value.bool ?_; generalize ByteArray.toList _ = z_; cases z_ <;> rfl)), H', ⟨Nat.le_refl _⟩, ⟨by (with_reducible repeat (first | apply Kd.R_alloc | apply Kd.R_drewN | apply Kd.R_drew)); exact Kd.R_mono HO800.out (fun _ hk => (by simp [Value.ownBlock]))⟩, ⟨by first | exact Kd.R_nil _ _ _ _ _ | exact Kd.N_nil _ _ _ _ _ | exact Kd.V_nil _ _ _ _ _ | exact Kd.Q_nil _ _ _ _ _ | exact Kd.S_nil _ _ _ _ _⟩, ⟨by repeat (first | (with_reducible first | exact HB.out | apply below_alloc | apply pw_below_drewN | apply below_drew1) | exact HB.out)⟩⟩
   case round =>
    clear H'
    try clear c1
    try clear p2
    try clear c3
    try clear c3b0
    try clear c3b1
    try clear c4
    try clear c4b0
    try clear c4b1
    try clear c6
    try clear p6
    obtain ⟨x6_1, x7_1, x8_1, rfl, HA, HK1, HO_6, HO_7, HB⟩ := hrel
    cases gk with
    | zero => exact absurd HA.out (by simp [gudgeonref01_divmod.l0])
    | succ k1 =>
     have H := HA.out
     clear HA
     simp only [gudgeonref01_divmod.l0] at H
     by_cases c7 : x8_1 ≥ 0
     ·rw [if_pos c7] at H
      have c7b0 : decide (0 ≤ x8_1) = true := decide_eq_true c7
      clear c7
      by_cases c8 : 0 ≤ x8_1
      ·rw [if_pos c8] at H
       have c8b0 : decide (0 ≤ x8_1) = true := decide_eq_true c8
       clear c8
       by_cases c9 : x8_1 < (l0.length : Int)
       ·rw [if_pos c9] at H
        have c9b0 : decide (x8_1 < (l0.length : Int)) = true := decide_eq_true c9
        clear c9
        obtain ⟨y805, hy805⟩ : ∃ y_ : List Bool, y_ = (([rdOf false l0 x8_1] : List Bool)) := ⟨_, rfl⟩
        replace H : (if y805.length + x7_1.length < 140737488355328 then ((gudgeonref01_trim.f k1 (y805 ++ x7_1)).bind fun t811 => ((gudgeonref01_cmp.f k1 t811 l1).bind fun t814 => (if t814 ≥ 0 then ((gudgeonref01_sub.f k1 t811 l1).bind fun t815 => (if x8_1 < (x6_1.length : Int) then (gudgeonref01_divmod.l0 k1 l0 l1 (x6_1.set (x8_1 : Int).toNat true) t815 (wrap64 (x8_1 - 1))) else (none))) else (gudgeonref01_divmod.l0 k1 l0 l1 x6_1 t811 (wrap64 (x8_1 - 1)))))) else (none)) = some (r1, r2) := by first | (rw [hy805]; with_reducible exact H) | (have H2_ := (Option.bind_some _ _).symm.trans H; rw [hy805]; with_reducible exact H2_) | (have H2_ := (Option.bind_some _ _).symm.trans H; with_reducible exact H2_) | with_reducible exact H | (rw [hy805]; exact H) | exact H
        have Ny805 := Aside0.mk hy805
        clear hy805
        by_cases c10 : y805.length + x7_1.length < 140737488355328
        ·rw [if_pos c10] at H
         have LMc10 := Aside0.mk c10
         clear c10
         obtain ⟨y808, hy808⟩ : ∃ y_ : List Bool, y_ = (y805 ++ x7_1) := ⟨_, rfl⟩
         replace H : ((gudgeonref01_trim.f k1 y808).bind fun t811 => ((gudgeonref01_cmp.f k1 t811 l1).bind fun t814 => (if t814 ≥ 0 then ((gudgeonref01_sub.f k1 t811 l1).bind fun t815 => (if x8_1 < (x6_1.length : Int) then (gudgeonref01_divmod.l0 k1 l0 l1 (x6_1.set (x8_1 : Int).toNat true) t815 (wrap64 (x8_1 - 1))) else (none))) else (gudgeonref01_divmod.l0 k1 l0 l1 x6_1 t811 (wrap64 (x8_1 - 1)))))) = some (r1, r2) := by first | (rw [hy808]; with_reducible exact H) | (have H2_ := (Option.bind_some _ _).symm.trans H; rw [hy808]; with_reducible exact H2_) | (have H2_ := (Option.bind_some _ _).symm.trans H; with_reducible exact H2_) | with_reducible exact H | (rw [hy808]; exact H) | exact H
         have Ny808 := Aside0.mk hy808
         clear hy808
         replace H := Option.bind_eq_some_iff.mp H
         obtain ⟨t811, A110, H⟩ := H
         replace H : ((gudgeonref01_cmp.f k1 t811 l1).bind fun t814 => (if t814 ≥ 0 then ((gudgeonref01_sub.f k1 t811 l1).bind fun t815 => (if x8_1 < (x6_1.length : Int) then (gudgeonref01_divmod.l0 k1 l0 l1 (x6_1.set (x8_1 : Int).toNat true) t815 (wrap64 (x8_1 - 1))) else (none))) else (gudgeonref01_divmod.l0 k1 l0 l1 x6_1 t811 (wrap64 (x8_1 - 1))))) = some (r1, r2) := H
         have A11 := Aside0.mk A110
         clear A110
         replace H := Option.bind_eq_some_iff.mp H
         obtain ⟨t814, A120, H⟩ := H
         replace H : (if t814 ≥ 0 then ((gudgeonref01_sub.f k1 t811 l1).bind fun t815 => (if x8_1 < (x6_1.length : Int) then (gudgeonref01_divmod.l0 k1 l0 l1 (x6_1.set (x8_1 : Int).toNat true) t815 (wrap64 (x8_1 - 1))) else (none))) else (gudgeonref01_divmod.l0 k1 l0 l1 x6_1 t811 (wrap64 (x8_1 - 1)))) = some (r1, r2) := H
         have A12 := Aside0.mk A120
         clear A120
         by_cases c13 : t814 ≥ 0
         ·rw [if_pos c13] at H
          have c13b0 : decide (0 ≤ t814) = true := decide_eq_true c13
          clear c13
          replace H := Option.bind_eq_some_iff.mp H
          obtain ⟨t815, A140, H⟩ := H
          replace H : (if x8_1 < (x6_1.length : Int) then (gudgeonref01_divmod.l0 k1 l0 l1 (x6_1.set (x8_1 : Int).toNat true) t815 (wrap64 (x8_1 - 1))) else (none)) = some (r1, r2) := H
          have A14 := Aside0.mk A140
          clear A140
          by_cases c15 : x8_1 < (x6_1.length : Int)
          ·rw [if_pos c15] at H
           have c15b0 : decide (x8_1 < (x6_1.length : Int)) = true := decide_eq_true c15
           clear c15
           obtain ⟨y818, hy818⟩ : ∃ y_ : List Bool, y_ = (x6_1.set (x8_1 : Int).toNat true) := ⟨_, rfl⟩
           replace H : (gudgeonref01_divmod.l0 k1 l0 l1 y818 t815 (wrap64 (x8_1 - 1))) = some (r1, r2) := by first | (rw [hy818]; with_reducible exact H) | (have H2_ := (Option.bind_some _ _).symm.trans H; rw [hy818]; with_reducible exact H2_) | (have H2_ := (Option.bind_some _ _).symm.trans H; with_reducible exact H2_) | with_reducible exact H | (rw [hy818]; exact H) | exact H
           have Ny818 := Aside0.mk hy818
           clear hy818
           have H' := Aside0.mk H
           clear H
           have p804 : 0 ≤ (x8_1 : Int) := of_decide_eq_true (by first | (with_reducible assumption) | assumption)
           have q804 : x8_1 < (l0.length : Int) := of_decide_eq_true (by first | (with_reducible assumption) | assumption)
           obtain ⟨ad804, e804, hx804_0⟩ := Kd.at_bool HR0.out x8_1 p804 q804
           cases e804
           replace hx804_0 := (HB.out.cell (World.block_lt_of_cell? w _ hx804_0)).trans hx804_0
           replace p804 := eq_true p804
           replace q804 := eq_true q804
           go_wp2_with (first | ((with_reducible refine gate_dst (N := 23) rfl ?_); refine Kd.R_lit Kd.bool _ 4 ?hg (N := 23) ?hd (xs := ([rdOf false l0 x8_1] : List Bool)) (inner := [.bool (rdOf false l0 x8_1)]) (ok := fun _ => True) (okp := fun _ => True) ?hr ?hp (fun _ hk => hk) trivial (Below.refl _ _) (Nat.le_refl _) (by simp) ?_; (case hd => rfl); (case hg => rfl); (case hr => first | (go_simp; done) | (go_simp; rfl)); (case hp => exact (Reps.one (show Kd.M Kd.bool _ _ _ (rdOf false l0 x8_1) [.bool (rdOf false l0 x8_1)] from rfl) (Reps.none _ _))); intro v806 w17 ho18 hb hg_ hnew_; clear hg_ hnew_; (first | rw [← Ny805.out] at ho18 | (simp only [Int.reduceToNat] at ho18; rw [← Ny805.out] at ho18)); have HO807 := Aside0.mk (Kd.R_lower (Kd.R_new' (Kd.R_new' ho18 (Kd.R_lt (by (with_reducible repeat (first | apply Kd.R_alloc | apply Kd.R_drewN | apply Kd.R_drew)); exact HO_6.out))) (Kd.R_lt (by (with_reducible repeat (first | apply Kd.R_alloc | apply Kd.R_drewN | apply Kd.R_drew)); exact HO_7.out))) (below_size (by repeat first | exact HB.out | refine bxSet ?_ (by assumption) | apply below_alloc | apply pw_below_drewN))); replace HO_6 := Aside0.mk (Kd.R_elder' (by (with_reducible repeat (first | apply Kd.R_alloc | apply Kd.R_drewN | apply Kd.R_drew)); exact HO_6.out) (Kd.R_base ho18) hb); replace HO_7 := Aside0.mk (Kd.R_elder' (by (with_reducible repeat (first | apply Kd.R_alloc | apply Kd.R_drewN | apply Kd.R_drew)); exact HO_7.out) (Kd.R_base ho18) hb); replace HB := Aside0.mk (below_step (by repeat first | exact HB.out | refine bxSet ?_ (by assumption) | apply below_alloc | apply pw_below_drewN) hb); clear hb ho18; obtain ⟨Ao20, co20, eo20⟩ := Kd.R_slice HO_7.out; subst eo20) | ((with_reducible refine gate_builtin (b := .append) (xs := #[.tmp 23, .tmp 24]) rfl ?_); at_builtin; refine Kd.R_append_rows Kd.bool (w0 := w) w.heap.size rfl (.tmp 23) (.tmp 24) 69 4 (.bool false) 1 rfl Tryd.underlying69 info4 rfl (by decide) (by omega) v806 y805 x7_1 _ _ _ (fun k_ => some k_ ≠ (v799 : Value).ownBlock ∧ some k_ ≠ (.slice Ao20 x7_1.length co20 : Value).ownBlock) (fun _ => False) rfl rfl ?aO ?aR (fun _ _ h => h) (fun _ h => h.elim) ?aF ?aB ?aS ?aL ?_; (case aR => repeat (first | exact (Kd.R_reads' HO_7.out).2.2 | (with_reducible refine Kd.C_alloc ?_ _) | (with_reducible refine Kd.C_drewN ?_ _) | (with_reducible refine Kd.C_drew ?_))); (case aB => exact (by repeat first | exact HB.out | refine bxSet ?_ (by assumption) | apply below_alloc | apply pw_below_drewN)); (case aF => exact (fun k_ hk => ⟨Kd.fresh' (Kd.R_lt (by (with_reducible repeat (first | apply Kd.R_alloc | apply Kd.R_drewN | apply Kd.R_drew)); exact HO_6.out)) k_ hk, Kd.fresh' (Kd.R_lt (by (with_reducible repeat (first | apply Kd.R_alloc | apply Kd.R_drewN | apply Kd.R_drew)); exact HO_7.out)) k_ hk⟩)); (case aO => exact (by (with_reducible repeat (first | apply Kd.R_alloc | apply Kd.R_drewN | apply Kd.R_drew)); exact Kd.R_mono HO807.out (fun _ hk => by first | exact ⟨hk.1.2, hk.2⟩ | ((repeat' refine ⟨?_, ?_⟩) <;> (first | exact hk.1 | exact hk.2 | exact hk.1.1 | exact hk.1.2 | exact hk.2.1 | exact hk.2.2 | exact hk.1.1.1 | exact hk.1.1.2 | exact hk.1.2.1 | exact hk.1.2.2 | exact hk.2.1.1 | exact hk.2.1.2 | exact hk.2.2.1 | exact hk.2.2.2 | exact hk.1.1.1.1 | exact hk.1.1.1.2 | exact hk.1.1.2.1 | exact hk.1.1.2.2 | exact hk.1.2.1.1 | exact hk.1.2.1.2 | exact hk.1.2.2.1 | exact hk.1.2.2.2 | exact hk.2.1.1.1 | exact hk.2.1.1.2 | exact hk.2.1.2.1 | exact hk.2.1.2.2 | exact hk.2.2.1.1 | exact hk.2.2.1.2 | exact hk.2.2.2.1 | exact hk.2.2.2.2))))); (case aS => exact (below_size (by repeat first | exact HB.out | refine bxSet ?_ (by assumption) | apply below_alloc | apply pw_below_drewN))); (case aL => have := LMc10.out; omega); intro v809 w19 ho hb hg hat; rw [← Ny808.out] at ho; have n0_ := Aside0.mk (Kd.R_after (ok := (fun k_ => some k_ ≠ (.slice Ao20 x7_1.length co20 : Value).ownBlock)) (by (with_reducible repeat (first | apply Kd.R_alloc | apply Kd.R_drewN | apply Kd.R_drew)); exact HO_6.out) hg hat); have n1_ := Aside0.mk (Kd.R_after (ok := (fun k_ => some k_ ≠ (v799 : Value).ownBlock)) (by (with_reducible repeat (first | apply Kd.R_alloc | apply Kd.R_drewN | apply Kd.R_drew)); exact HO_7.out) hg hat); have n2_ := Aside0.mk (hb); have n3_ := Aside0.mk (ho); clear HO_6; clear HO_7; clear HB; clear HO807; have HO_6 := n0_; have HO_7 := n1_; have HB := n2_; have HO810 := n3_; clear n0_ n1_ n2_ n3_; clear ho hb hg hat; obtain ⟨Ao21, co21, eo21⟩ := Kd.R_slice HO810.out; subst eo21) | ((with_reducible refine gate_callee (f := 81) rfl ?_); refine goL (some 26) Tryd.func81 [.slice Ao21 y808.length co21] ?_; (with_reducible refine (gudgeonref01_trim.calls k1 _ _ y808 t811 _ ?side1 ?side2 A11.out).mono ?_); (case side1 => repeat (first | exact (Kd.R_reads' HO810.out).2.2 | (with_reducible refine Kd.C_alloc ?_ _) | (with_reducible refine Kd.C_drewN ?_ _) | (with_reducible refine Kd.C_drew ?_))); (case side2 => exact (Kd.R_reads' HO810.out).2.1); rintro e w22 ⟨v812, rfl, ho0, hb⟩; refine ⟨_, rfl, ?_⟩; have HO813 := Aside0.mk (Kd.R_lower (Kd.R_new' (Kd.R_new' (Kd.R_new' ho0 (Kd.R_lt (by (with_reducible repeat (first | apply Kd.R_alloc | apply Kd.R_drewN | apply Kd.R_drew)); exact HO_6.out))) (Kd.R_lt (by (with_reducible repeat (first | apply Kd.R_alloc | apply Kd.R_drewN | apply Kd.R_drew)); exact HO_7.out))) (Kd.R_lt (by (with_reducible repeat (first | apply Kd.R_alloc | apply Kd.R_drewN | apply Kd.R_drew)); exact HO810.out))) (below_size (by repeat first | exact HB.out | refine bxSet ?_ (by assumption) | apply below_alloc | apply pw_below_drewN))); replace HO_6 := Aside0.mk (Kd.R_elder' (by (with_reducible repeat (first | apply Kd.R_alloc | apply Kd.R_drewN | apply Kd.R_drew)); exact HO_6.out) (Kd.R_base ho0) hb); replace HO_7 := Aside0.mk (Kd.R_elder' (by (with_reducible repeat (first | apply Kd.R_alloc | apply Kd.R_drewN | apply Kd.R_drew)); exact HO_7.out) (Kd.R_base ho0) hb); replace HO810 := Aside0.mk (Kd.R_elder' (by (with_reducible repeat (first | apply Kd.R_alloc | apply Kd.R_drewN | apply Kd.R_drew)); exact HO810.out) (Kd.R_base ho0) hb); replace HB := Aside0.mk (below_step (by repeat first | exact HB.out | refine bxSet ?_ (by assumption) | apply below_alloc | apply pw_below_drewN) hb); obtain ⟨Ao23, co23, eo23⟩ := Kd.R_slice HO813.out; subst eo23) | ((with_reducible refine gate_callee (f := 72) rfl ?_); refine goL (some 29) Tryd.func72 [.slice Ao23 t811.length co23, .slice A1 l1.length c1] ?_; (with_reducible refine (gudgeonref01_cmp.calls k1 _ _ t811 _ _ l1 t814 _ ?side1 ?side2 ?side3 ?side4 A12.out).mono ?_); (case side1 => repeat (first | exact (Kd.R_reads' HO813.out).2.2 | (with_reducible refine Kd.C_alloc ?_ _) | (with_reducible refine Kd.C_drewN ?_ _) | (with_reducible refine Kd.C_drew ?_))); (case side2 => exact (Kd.R_reads' HO813.out).2.1); (case side3 => repeat (first | exact (Kd.C_below HR1.out HB.out) | (with_reducible refine Kd.C_alloc ?_ _) | (with_reducible refine Kd.C_drewN ?_ _) | (with_reducible refine Kd.C_drew ?_))); (case side4 => exact HC1.out); rintro e w' ⟨rfl, ⟨nd, rfl⟩⟩; refine ⟨_, rfl, ?_⟩; (try (rw [drewN_self w22]; generalize hq_ : World.drewN w22 _ = w22; have n0_ : Aside0 (Kd.R Kd.bool 4 w22 w.heap.size (fun k_ => some k_ ≠ (.slice Ao23 t811.length co23 : Value).ownBlock ∧ some k_ ≠ (v799 : Value).ownBlock ∧ some k_ ≠ (.slice Ao20 x7_1.length co20 : Value).ownBlock) (.slice Ao21 y808.length co21) y808) := ⟨by rw [← hq_]; exact (by (with_reducible repeat (first | apply Kd.R_alloc | apply Kd.R_drewN | apply Kd.R_drew)); exact Kd.R_mono HO810.out (fun _ hk => by first | exact ⟨hk.2, ⟨hk.1.1, hk.1.2⟩⟩ | ((repeat' refine ⟨?_, ?_⟩) <;> (first | exact hk.1 | exact hk.2 | exact hk.1.1 | exact hk.1.2 | exact hk.2.1 | exact hk.2.2 | exact hk.1.1.1 | exact hk.1.1.2 | exact hk.1.2.1 | exact hk.1.2.2 | exact hk.2.1.1 | exact hk.2.1.2 | exact hk.2.2.1 | exact hk.2.2.2 | exact hk.1.1.1.1 | exact hk.1.1.1.2 | exact hk.1.1.2.1 | exact hk.1.1.2.2 | exact hk.1.2.1.1 | exact hk.1.2.1.2 | exact hk.1.2.2.1 | exact hk.1.2.2.2 | exact hk.2.1.1.1 | exact hk.2.1.1.2 | exact hk.2.1.2.1 | exact hk.2.1.2.2 | exact hk.2.2.1.1 | exact hk.2.2.1.2 | exact hk.2.2.2.1 | exact hk.2.2.2.2))))⟩; have n1_ : Aside0 (Kd.R Kd.bool 4 w22 w.heap.size (fun k_ => some k_ ≠ (.slice Ao21 y808.length co21 : Value).ownBlock ∧ some k_ ≠ (v799 : Value).ownBlock ∧ some k_ ≠ (.slice Ao20 x7_1.length co20 : Value).ownBlock) (.slice Ao23 t811.length co23) t811) := ⟨by rw [← hq_]; exact (by (with_reducible repeat (first | apply Kd.R_alloc | apply Kd.R_drewN | apply Kd.R_drew)); exact Kd.R_mono HO813.out (fun _ hk => by first | exact ⟨hk.2, ⟨hk.1.1.2, hk.1.2⟩⟩ | ((repeat' refine ⟨?_, ?_⟩) <;> (first | exact hk.1 | exact hk.2 | exact hk.1.1 | exact hk.1.2 | exact hk.2.1 | exact hk.2.2 | exact hk.1.1.1 | exact hk.1.1.2 | exact hk.1.2.1 | exact hk.1.2.2 | exact hk.2.1.1 | exact hk.2.1.2 | exact hk.2.2.1 | exact hk.2.2.2 | exact hk.1.1.1.1 | exact hk.1.1.1.2 | exact hk.1.1.2.1 | exact hk.1.1.2.2 | exact hk.1.2.1.1 | exact hk.1.2.1.2 | exact hk.1.2.2.1 | exact hk.1.2.2.2 | exact hk.2.1.1.1 | exact hk.2.1.1.2 | exact hk.2.1.2.1 | exact hk.2.1.2.2 | exact hk.2.2.1.1 | exact hk.2.2.1.2 | exact hk.2.2.2.1 | exact hk.2.2.2.2))))⟩; have n2_ : Aside0 (Kd.R Kd.bool 4 w22 w.heap.size (fun k_ => some k_ ≠ (.slice Ao21 y808.length co21 : Value).ownBlock ∧ some k_ ≠ (.slice Ao23 t811.length co23 : Value).ownBlock ∧ some k_ ≠ (.slice Ao20 x7_1.length co20 : Value).ownBlock) v799 x6_1) := ⟨by rw [← hq_]; exact (by (with_reducible repeat (first | apply Kd.R_alloc | apply Kd.R_drewN | apply Kd.R_drew)); exact Kd.R_mono HO_6.out (fun _ hk => by first | exact ⟨hk.1.2, ⟨hk.2, hk.1.1⟩⟩ | ((repeat' refine ⟨?_, ?_⟩) <;> (first | exact hk.1 | exact hk.2 | exact hk.1.1 | exact hk.1.2 | exact hk.2.1 | exact hk.2.2 | exact hk.1.1.1 | exact hk.1.1.2 | exact hk.1.2.1 | exact hk.1.2.2 | exact hk.2.1.1 | exact hk.2.1.2 | exact hk.2.2.1 | exact hk.2.2.2 | exact hk.1.1.1.1 | exact hk.1.1.1.2 | exact hk.1.1.2.1 | exact hk.1.1.2.2 | exact hk.1.2.1.1 | exact hk.1.2.1.2 | exact hk.1.2.2.1 | exact hk.1.2.2.2 | exact hk.2.1.1.1 | exact hk.2.1.1.2 | exact hk.2.1.2.1 | exact hk.2.1.2.2 | exact hk.2.2.1.1 | exact hk.2.2.1.2 | exact hk.2.2.2.1 | exact hk.2.2.2.2))))⟩; have n3_ : Aside0 (Kd.R Kd.bool 4 w22 w.heap.size (fun k_ => some k_ ≠ (.slice Ao21 y808.length co21 : Value).ownBlock ∧ some k_ ≠ (.slice Ao23 t811.length co23 : Value).ownBlock ∧ some k_ ≠ (v799 : Value).ownBlock) (.slice Ao20 x7_1.length co20) x7_1) := ⟨by rw [← hq_]; exact (by (with_reducible repeat (first | apply Kd.R_alloc | apply Kd.R_drewN | apply Kd.R_drew)); exact Kd.R_mono HO_7.out (fun _ hk => by first | exact ⟨hk.1.2, ⟨hk.2, hk.1.1⟩⟩ | ((repeat' refine ⟨?_, ?_⟩) <;> (first | exact hk.1 | exact hk.2 | exact hk.1.1 | exact hk.1.2 | exact hk.2.1 | exact hk.2.2 | exact hk.1.1.1 | exact hk.1.1.2 | exact hk.1.2.1 | exact hk.1.2.2 | exact hk.2.1.1 | exact hk.2.1.2 | exact hk.2.2.1 | exact hk.2.2.2 | exact hk.1.1.1.1 | exact hk.1.1.1.2 | exact hk.1.1.2.1 | exact hk.1.1.2.2 | exact hk.1.2.1.1 | exact hk.1.2.1.2 | exact hk.1.2.2.1 | exact hk.1.2.2.2 | exact hk.2.1.1.1 | exact hk.2.1.1.2 | exact hk.2.1.2.1 | exact hk.2.1.2.2 | exact hk.2.2.1.1 | exact hk.2.2.1.2 | exact hk.2.2.2.1 | exact hk.2.2.2.2))))⟩; have n4_ : Aside0 (Below w.heap.size w w22) := ⟨by rw [← hq_]; exact (by repeat first | exact HB.out | refine bxSet ?_ (by assumption) | apply below_alloc | apply pw_below_drewN)⟩; clear HO810 HO813 HO_6 HO_7 HB hq_; have HO810 := n0_; have HO813 := n1_; have HO_6 := n2_; have HO_7 := n3_; have HB := n4_; clear n0_ n1_ n2_ n3_ n4_))) | ((with_reducible refine gate_callee (f := 73) rfl ?_); refine goL (some 33) Tryd.func73 [.slice Ao23 t811.length co23, .slice A1 l1.length c1] ?_; (with_reducible refine (gudgeonref01_sub.calls k1 _ _ t811 _ _ l1 t815 _ ?side1 ?side2 ?side3 ?side4 A14.out).mono ?_); (case side1 => repeat (first | exact (Kd.R_reads' HO813.out).2.2 | (with_reducible refine Kd.C_alloc ?_ _) | (with_reducible refine Kd.C_drewN ?_ _) | (with_reducible refine Kd.C_drew ?_))); (case side2 => exact (Kd.R_reads' HO813.out).2.1); (case side3 => repeat (first | exact (Kd.C_below HR1.out HB.out) | (with_reducible refine Kd.C_alloc ?_ _) | (with_reducible refine Kd.C_drewN ?_ _) | (with_reducible refine Kd.C_drew ?_))); (case side4 => exact HC1.out); rintro e w24 ⟨v816, rfl, ho0, hb⟩; refine ⟨_, rfl, ?_⟩; have HO817 := Aside0.mk (Kd.R_lower (Kd.R_new' (Kd.R_new' (Kd.R_new' (Kd.R_new' ho0 (Kd.R_lt (by (with_reducible repeat (first | apply Kd.R_alloc | apply Kd.R_drewN | apply Kd.R_drew)); exact HO_6.out))) (Kd.R_lt (by (with_reducible repeat (first | apply Kd.R_alloc | apply Kd.R_drewN | apply Kd.R_drew)); exact HO_7.out))) (Kd.R_lt (by (with_reducible repeat (first | apply Kd.R_alloc | apply Kd.R_drewN | apply Kd.R_drew)); exact HO810.out))) (Kd.R_lt (by (with_reducible repeat (first | apply Kd.R_alloc | apply Kd.R_drewN | apply Kd.R_drew)); exact HO813.out))) (below_size (by repeat first | exact HB.out | refine bxSet ?_ (by assumption) | apply below_alloc | apply pw_below_drewN))); replace HO_6 := Aside0.mk (Kd.R_elder' (by (with_reducible repeat (first | apply Kd.R_alloc | apply Kd.R_drewN | apply Kd.R_drew)); exact HO_6.out) (Kd.R_base ho0) hb); replace HO_7 := Aside0.mk (Kd.R_elder' (by (with_reducible repeat (first | apply Kd.R_alloc | apply Kd.R_drewN | apply Kd.R_drew)); exact HO_7.out) (Kd.R_base ho0) hb); replace HO810 := Aside0.mk (Kd.R_elder' (by (with_reducible repeat (first | apply Kd.R_alloc | apply Kd.R_drewN | apply Kd.R_drew)); exact HO810.out) (Kd.R_base ho0) hb); replace HO813 := Aside0.mk (Kd.R_elder' (by (with_reducible repeat (first | apply Kd.R_alloc | apply Kd.R_drewN | apply Kd.R_drew)); exact HO813.out) (Kd.R_base ho0) hb); replace HB := Aside0.mk (below_step (by repeat first | exact HB.out | refine bxSet ?_ (by assumption) | apply below_alloc | apply pw_below_drewN) hb); have p16 : 0 ≤ (x8_1 : Int) := of_decide_eq_true (by first | (with_reducible assumption) | assumption); have q16 : (x8_1 : Int) < ((x6_1.length : Int) : Int) := of_decide_eq_true (by first | (with_reducible assumption) | assumption); obtain ⟨go16, co16, eo16, gb16, gl16, cl16, HG16⟩ := Kd.R_form HO_6.out (by omega); (first | cases eo16 | (injection eo16 with ea_ en_ ec_; (first | subst ea_ | (injection ea_ with ea_; subst ea_)); subst ec_; clear en_)); have GB16 := Aside0.mk gb16; have GG16 := Aside0.mk HG16; clear gb16 gl16 HG16; obtain ⟨hx16_0, hf16_0⟩ := Kd.R_celln false HO_6.out (x8_1 : Int) p16 q16; replace p16 := eq_true p16; replace q16 := eq_true q16; have n_ := Aside0.mk (Kd.R_mono (ok' := (fun k_ => some k_ ≠ (.slice Ao20 x7_1.length co20 : Value).ownBlock ∧ some k_ ≠ (.slice Ao21 y808.length co21 : Value).ownBlock ∧ some k_ ≠ (.slice Ao23 t811.length co23 : Value).ownBlock ∧ some k_ ≠ (v816 : Value).ownBlock)) HO_6.out (fun k_ hk => by first | exact ⟨hk.1.1.1, ⟨hk.1.1.2, ⟨hk.1.2, hk.2⟩⟩⟩ | ((repeat' refine ⟨?_, ?_⟩) <;> (first | exact hk.1 | exact hk.2 | exact hk.1.1 | exact hk.1.2 | exact hk.2.1 | exact hk.2.2 | exact hk.1.1.1 | exact hk.1.1.2 | exact hk.1.2.1 | exact hk.1.2.2 | exact hk.2.1.1 | exact hk.2.1.2 | exact hk.2.2.1 | exact hk.2.2.2 | exact hk.1.1.1.1 | exact hk.1.1.1.2 | exact hk.1.1.2.1 | exact hk.1.1.2.2 | exact hk.1.2.1.1 | exact hk.1.2.1.2 | exact hk.1.2.2.1 | exact hk.1.2.2.2 | exact hk.2.1.1.1 | exact hk.2.1.1.2 | exact hk.2.1.2.1 | exact hk.2.1.2.2 | exact hk.2.2.1.1 | exact hk.2.2.1.2 | exact hk.2.2.2.1 | exact hk.2.2.2.2)))); clear HO_6; have HO_6 := n_; clear n_; obtain ⟨hy25_, hz25_⟩ := Kd.R_celln false HO_6.out (x8_1 : Int) (of_decide_eq_true (by first | (with_reducible assumption) | assumption)) (of_decide_eq_true (by first | (with_reducible assumption) | assumption)); have HP25 := Kd.R_putg HO_6.out (x8_1 : Int) true) | ((with_reducible refine gate_store (t := 4) (p := 36) rfl ?_); refine store_event (t := 4) (p := 36) (v := ?vo_w26) (w1 := (w24.setCell ⟨go16, (x8_1 : Int).toNat, none⟩ (.bool true))) ?hg ?ho ?hn ?hr ?_; (case ho => rfl); (case hg => rfl); (case hn => rfl); (case hr => first | (go_simp; done) | (go_simp; rfl)); intro w26 hw; have hg : w24.grownBy w26 (some go16) := (by rw [hw]; exact HP25.2); have hp_ : Kd.R Kd.bool 4 w26 w.heap.size (fun k_ => some k_ ≠ (.slice Ao20 x7_1.length co20 : Value).ownBlock ∧ some k_ ≠ (.slice Ao21 y808.length co21 : Value).ownBlock ∧ some k_ ≠ (.slice Ao23 t811.length co23 : Value).ownBlock ∧ some k_ ≠ (v816 : Value).ownBlock) (.slice (some ⟨go16, 0, none⟩) x6_1.length co16) y818 := (by rw [hw, Ny818.out]; exact HP25.1); clear HP25; replace HO_6 := Aside0.mk (hp_); replace HO_7 := Aside0.mk (Kd.R_after (v := (.slice (some ⟨go16, 0, none⟩) x6_1.length co16)) (v1 := (.slice (some ⟨go16, 0, none⟩) x6_1.length co16)) (ok := (fun k_ => some k_ ≠ (.slice Ao21 y808.length co21 : Value).ownBlock ∧ some k_ ≠ (.slice Ao23 t811.length co23 : Value).ownBlock ∧ some k_ ≠ (v816 : Value).ownBlock)) (by (with_reducible repeat (first | apply Kd.R_alloc | apply Kd.R_drewN | apply Kd.R_drew)); exact Kd.R_mono HO_7.out (fun _ hk => by first | exact ⟨⟨hk.1.1.2, ⟨hk.1.2, hk.2⟩⟩, hk.1.1.1⟩ | ((repeat' refine ⟨?_, ?_⟩) <;> (first | exact hk.1 | exact hk.2 | exact hk.1.1 | exact hk.1.2 | exact hk.2.1 | exact hk.2.2 | exact hk.1.1.1 | exact hk.1.1.2 | exact hk.1.2.1 | exact hk.1.2.2 | exact hk.2.1.1 | exact hk.2.1.2 | exact hk.2.2.1 | exact hk.2.2.2 | exact hk.1.1.1.1 | exact hk.1.1.1.2 | exact hk.1.1.2.1 | exact hk.1.1.2.2 | exact hk.1.2.1.1 | exact hk.1.2.1.2 | exact hk.1.2.2.1 | exact hk.1.2.2.2 | exact hk.2.1.1.1 | exact hk.2.1.1.2 | exact hk.2.1.2.1 | exact hk.2.1.2.2 | exact hk.2.2.1.1 | exact hk.2.2.1.2 | exact hk.2.2.2.1 | exact hk.2.2.2.2)))) hg (.inl rfl)); replace HO810 := Aside0.mk (Kd.R_after (v := (.slice (some ⟨go16, 0, none⟩) x6_1.length co16)) (v1 := (.slice (some ⟨go16, 0, none⟩) x6_1.length co16)) (ok := (fun k_ => some k_ ≠ (.slice Ao20 x7_1.length co20 : Value).ownBlock ∧ some k_ ≠ (.slice Ao23 t811.length co23 : Value).ownBlock ∧ some k_ ≠ (v816 : Value).ownBlock)) (by (with_reducible repeat (first | apply Kd.R_alloc | apply Kd.R_drewN | apply Kd.R_drew)); exact Kd.R_mono HO810.out (fun _ hk => by first | exact ⟨⟨hk.1.1.2, ⟨hk.1.2, hk.2⟩⟩, hk.1.1.1⟩ | ((repeat' refine ⟨?_, ?_⟩) <;> (first | exact hk.1 | exact hk.2 | exact hk.1.1 | exact hk.1.2 | exact hk.2.1 | exact hk.2.2 | exact hk.1.1.1 | exact hk.1.1.2 | exact hk.1.2.1 | exact hk.1.2.2 | exact hk.2.1.1 | exact hk.2.1.2 | exact hk.2.2.1 | exact hk.2.2.2 | exact hk.1.1.1.1 | exact hk.1.1.1.2 | exact hk.1.1.2.1 | exact hk.1.1.2.2 | exact hk.1.2.1.1 | exact hk.1.2.1.2 | exact hk.1.2.2.1 | exact hk.1.2.2.2 | exact hk.2.1.1.1 | exact hk.2.1.1.2 | exact hk.2.1.2.1 | exact hk.2.1.2.2 | exact hk.2.2.1.1 | exact hk.2.2.1.2 | exact hk.2.2.2.1 | exact hk.2.2.2.2)))) hg (.inl rfl)); replace HO813 := Aside0.mk (Kd.R_after (v := (.slice (some ⟨go16, 0, none⟩) x6_1.length co16)) (v1 := (.slice (some ⟨go16, 0, none⟩) x6_1.length co16)) (ok := (fun k_ => some k_ ≠ (.slice Ao20 x7_1.length co20 : Value).ownBlock ∧ some k_ ≠ (.slice Ao21 y808.length co21 : Value).ownBlock ∧ some k_ ≠ (v816 : Value).ownBlock)) (by (with_reducible repeat (first | apply Kd.R_alloc | apply Kd.R_drewN | apply Kd.R_drew)); exact Kd.R_mono HO813.out (fun _ hk => by first | exact ⟨⟨hk.1.1.2, ⟨hk.1.2, hk.2⟩⟩, hk.1.1.1.2⟩ | ((repeat' refine ⟨?_, ?_⟩) <;> (first | exact hk.1 | exact hk.2 | exact hk.1.1 | exact hk.1.2 | exact hk.2.1 | exact hk.2.2 | exact hk.1.1.1 | exact hk.1.1.2 | exact hk.1.2.1 | exact hk.1.2.2 | exact hk.2.1.1 | exact hk.2.1.2 | exact hk.2.2.1 | exact hk.2.2.2 | exact hk.1.1.1.1 | exact hk.1.1.1.2 | exact hk.1.1.2.1 | exact hk.1.1.2.2 | exact hk.1.2.1.1 | exact hk.1.2.1.2 | exact hk.1.2.2.1 | exact hk.1.2.2.2 | exact hk.2.1.1.1 | exact hk.2.1.1.2 | exact hk.2.1.2.1 | exact hk.2.1.2.2 | exact hk.2.2.1.1 | exact hk.2.2.1.2 | exact hk.2.2.2.1 | exact hk.2.2.2.2)))) hg (.inl rfl)); replace HO817 := Aside0.mk (Kd.R_after (v := (.slice (some ⟨go16, 0, none⟩) x6_1.length co16)) (v1 := (.slice (some ⟨go16, 0, none⟩) x6_1.length co16)) (ok := (fun k_ => some k_ ≠ (.slice Ao20 x7_1.length co20 : Value).ownBlock ∧ some k_ ≠ (.slice Ao21 y808.length co21 : Value).ownBlock ∧ some k_ ≠ (.slice Ao23 t811.length co23 : Value).ownBlock)) (by (with_reducible repeat (first | apply Kd.R_alloc | apply Kd.R_drewN | apply Kd.R_drew)); exact Kd.R_mono HO817.out (fun _ hk => by first | exact ⟨⟨hk.1.1.2, ⟨hk.1.2, hk.2⟩⟩, hk.1.1.1.2⟩ | ((repeat' refine ⟨?_, ?_⟩) <;> (first | exact hk.1 | exact hk.2 | exact hk.1.1 | exact hk.1.2 | exact hk.2.1 | exact hk.2.2 | exact hk.1.1.1 | exact hk.1.1.2 | exact hk.1.2.1 | exact hk.1.2.2 | exact hk.2.1.1 | exact hk.2.1.2 | exact hk.2.2.1 | exact hk.2.2.2 | exact hk.1.1.1.1 | exact hk.1.1.1.2 | exact hk.1.1.2.1 | exact hk.1.1.2.2 | exact hk.1.2.1.1 | exact hk.1.2.1.2 | exact hk.1.2.2.1 | exact hk.1.2.2.2 | exact hk.2.1.1.1 | exact hk.2.1.1.2 | exact hk.2.1.2.1 | exact hk.2.1.2.2 | exact hk.2.2.1.1 | exact hk.2.2.1.2 | exact hk.2.2.2.1 | exact hk.2.2.2.2)))) hg (.inl rfl)); replace HB := Aside0.mk ((by rw [hw]; exact below_set (HB.out) GB16.out : Below w.heap.size w w26)); clear hg hw hp_))
           go_roundg k1
           case measure => have := HK1.out; omega
           case rel => exact ⟨(y818), (t815), (wrap64 (x8_1 - 1)), (by first | rfl | (simp; done) | (simp [*]; done) | (refine congrArg (Value.int _) ?_; omega) | (refine congrArg Value.bool ?_; generalize ByteArray.toList _ = z_; cases z_ <;> rfl)), H', ⟨by have := HK1.out; omega⟩, ⟨by (with_reducible repeat (first | apply Kd.R_alloc | apply Kd.R_drewN | apply Kd.R_drew)); exact Kd.R_mono HO_6.out (fun _ hk => hk.2.2.2)⟩, ⟨by (with_reducible repeat (first | apply Kd.R_alloc | apply Kd.R_drewN | apply Kd.R_drew)); exact Kd.R_mono HO817.out (fun _ hk => hk.2)⟩, ⟨by repeat (first | (with_reducible first | exact HB.out | apply below_alloc | apply pw_below_drewN | apply below_drew1) | exact HB.out)⟩⟩
          ·rw [if_neg c15] at H
           exact absurd H (by simp)
         ·rw [if_neg c13] at H
          have c13b0 : decide (0 ≤ t814) = false := decide_eq_false c13
          clear c13
          have H' := Aside0.mk H
          clear H
          have p804 : 0 ≤ (x8_1 : Int) := of_decide_eq_true (by first | (with_reducible assumption) | assumption)
          have q804 : x8_1 < (l0.length : Int) := of_decide_eq_true (by first | (with_reducible assumption) | assumption)
          obtain ⟨ad804, e804, hx804_0⟩ := Kd.at_bool HR0.out x8_1 p804 q804
          cases e804
          replace hx804_0 := (HB.out.cell (World.block_lt_of_cell? w _ hx804_0)).trans hx804_0
          replace p804 := eq_true p804
          replace q804 := eq_true q804
          go_wp2_with (first | ((with_reducible refine gate_dst (N := 23) rfl ?_); refine Kd.R_lit Kd.bool _ 4 ?hg (N := 23) ?hd (xs := ([rdOf false l0 x8_1] : List Bool)) (inner := [.bool (rdOf false l0 x8_1)]) (ok := fun _ => True) (okp := fun _ => True) ?hr ?hp (fun _ hk => hk) trivial (Below.refl _ _) (Nat.le_refl _) (by simp) ?_; (case hd => rfl); (case hg => rfl); (case hr => first | (go_simp; done) | (go_simp; rfl)); (case hp => exact (Reps.one (show Kd.M Kd.bool _ _ _ (rdOf false l0 x8_1) [.bool (rdOf false l0 x8_1)] from rfl) (Reps.none _ _))); intro v806 w27 ho28 hb hg_ hnew_; clear hg_ hnew_; (first | rw [← Ny805.out] at ho28 | (simp only [Int.reduceToNat] at ho28; rw [← Ny805.out] at ho28)); have HO807 := Aside0.mk (Kd.R_lower (Kd.R_new' (Kd.R_new' ho28 (Kd.R_lt HO_6.out)) (Kd.R_lt HO_7.out)) (below_size HB.out)); replace HO_6 := Aside0.mk (Kd.R_elder' HO_6.out (Kd.R_base ho28) hb); replace HO_7 := Aside0.mk (Kd.R_elder' HO_7.out (Kd.R_base ho28) hb); replace HB := Aside0.mk (below_step HB.out hb); clear hb ho28; obtain ⟨Ao30, co30, eo30⟩ := Kd.R_slice HO_7.out; subst eo30) | ((with_reducible refine gate_builtin (b := .append) (xs := #[.tmp 23, .tmp 24]) rfl ?_); at_builtin; refine Kd.R_append_rows Kd.bool (w0 := w) w.heap.size rfl (.tmp 23) (.tmp 24) 69 4 (.bool false) 1 rfl Tryd.underlying69 info4 rfl (by decide) (by omega) v806 y805 x7_1 _ _ _ (fun k_ => some k_ ≠ (v799 : Value).ownBlock ∧ some k_ ≠ (.slice Ao30 x7_1.length co30 : Value).ownBlock) (fun _ => False) rfl rfl ?aO ?aR (fun _ _ h => h) (fun _ h => h.elim) ?aF ?aB ?aS ?aL ?_; (case aR => repeat (first | exact (Kd.R_reads' HO_7.out).2.2 | (with_reducible refine Kd.C_alloc ?_ _) | (with_reducible refine Kd.C_drewN ?_ _) | (with_reducible refine Kd.C_drew ?_))); (case aB => exact HB.out); (case aF => exact (fun k_ hk => ⟨Kd.fresh' (Kd.R_lt HO_6.out) k_ hk, Kd.fresh' (Kd.R_lt HO_7.out) k_ hk⟩)); (case aO => exact (Kd.R_mono HO807.out (fun _ hk => by first | exact ⟨hk.1.2, hk.2⟩ | ((repeat' refine ⟨?_, ?_⟩) <;> (first | exact hk.1 | exact hk.2 | exact hk.1.1 | exact hk.1.2 | exact hk.2.1 | exact hk.2.2 | exact hk.1.1.1 | exact hk.1.1.2 | exact hk.1.2.1 | exact hk.1.2.2 | exact hk.2.1.1 | exact hk.2.1.2 | exact hk.2.2.1 | exact hk.2.2.2 | exact hk.1.1.1.1 | exact hk.1.1.1.2 | exact hk.1.1.2.1 | exact hk.1.1.2.2 | exact hk.1.2.1.1 | exact hk.1.2.1.2 | exact hk.1.2.2.1 | exact hk.1.2.2.2 | exact hk.2.1.1.1 | exact hk.2.1.1.2 | exact hk.2.1.2.1 | exact hk.2.1.2.2 | exact hk.2.2.1.1 | exact hk.2.2.1.2 | exact hk.2.2.2.1 | exact hk.2.2.2.2))))); (case aS => exact (below_size HB.out)); (case aL => have := LMc10.out; omega); intro v809 w29 ho hb hg hat; rw [← Ny808.out] at ho; have n0_ := Aside0.mk (Kd.R_after (ok := (fun k_ => some k_ ≠ (.slice Ao30 x7_1.length co30 : Value).ownBlock)) HO_6.out hg hat); have n1_ := Aside0.mk (Kd.R_after (ok := (fun k_ => some k_ ≠ (v799 : Value).ownBlock)) HO_7.out hg hat); have n2_ := Aside0.mk (hb); have n3_ := Aside0.mk (ho); clear HO_6; clear HO_7; clear HB; clear HO807; have HO_6 := n0_; have HO_7 := n1_; have HB := n2_; have HO810 := n3_; clear n0_ n1_ n2_ n3_; clear ho hb hg hat; obtain ⟨Ao31, co31, eo31⟩ := Kd.R_slice HO810.out; subst eo31) | ((with_reducible refine gate_callee (f := 81) rfl ?_); refine goL (some 26) Tryd.func81 [.slice Ao31 y808.length co31] ?_; (with_reducible refine (gudgeonref01_trim.calls k1 _ _ y808 t811 _ ?side1 ?side2 A11.out).mono ?_); (case side1 => exact (Kd.R_reads' HO810.out).2.2); (case side2 => exact (Kd.R_reads' HO810.out).2.1); rintro e w32 ⟨v812, rfl, ho0, hb⟩; refine ⟨_, rfl, ?_⟩; have HO813 := Aside0.mk (Kd.R_lower (Kd.R_new' (Kd.R_new' (Kd.R_new' ho0 (Kd.R_lt HO_6.out)) (Kd.R_lt HO_7.out)) (Kd.R_lt HO810.out)) (below_size HB.out)); replace HO_6 := Aside0.mk (Kd.R_elder' HO_6.out (Kd.R_base ho0) hb); replace HO_7 := Aside0.mk (Kd.R_elder' HO_7.out (Kd.R_base ho0) hb); replace HO810 := Aside0.mk (Kd.R_elder' HO810.out (Kd.R_base ho0) hb); replace HB := Aside0.mk (below_step HB.out hb); obtain ⟨Ao33, co33, eo33⟩ := Kd.R_slice HO813.out; subst eo33) | ((with_reducible refine gate_callee (f := 72) rfl ?_); refine goL (some 29) Tryd.func72 [.slice Ao33 t811.length co33, .slice A1 l1.length c1] ?_; (with_reducible refine (gudgeonref01_cmp.calls k1 _ _ t811 _ _ l1 t814 _ ?side1 ?side2 ?side3 ?side4 A12.out).mono ?_); (case side1 => exact (Kd.R_reads' HO813.out).2.2); (case side2 => exact (Kd.R_reads' HO813.out).2.1); (case side3 => exact (Kd.C_below HR1.out HB.out)); (case side4 => exact HC1.out); rintro e w' ⟨rfl, ⟨nd, rfl⟩⟩; refine ⟨_, rfl, ?_⟩))
          go_roundg k1
          case measure => have := HK1.out; omega
          case rel => exact ⟨(x6_1), (t811), (wrap64 (x8_1 - 1)), (by first | rfl | (simp; done) | (simp [*]; done) | (refine congrArg (Value.int _) ?_; omega) | (refine congrArg Value.bool ?_; generalize ByteArray.toList _ = z_; cases z_ <;> rfl)), H', ⟨by have := HK1.out; omega⟩, ⟨by (with_reducible repeat (first | apply Kd.R_alloc | apply Kd.R_drewN | apply Kd.R_drew)); exact Kd.R_mono HO_6.out (fun _ hk => hk.2)⟩, ⟨by (with_reducible repeat (first | apply Kd.R_alloc | apply Kd.R_drewN | apply Kd.R_drew)); exact Kd.R_mono HO813.out (fun _ hk => hk.1.1.2)⟩, ⟨by repeat (first | (with_reducible first | exact HB.out | apply below_alloc | apply pw_below_drewN | apply below_drew1) | exact HB.out)⟩⟩
        ·rw [if_neg c10] at H
         exact absurd H (by simp)
       ·rw [if_neg c9] at H
        exact absurd H (by simp)
      ·rw [if_neg c8] at H
       exact absurd H (by simp)
     ·rw [if_neg c7] at H
      have c7b0 : decide (0 ≤ x8_1) = false := decide_eq_false c7
      clear c7
      replace H := Option.bind_eq_some_iff.mp H
      obtain ⟨t801, A340, H⟩ := H
      replace H : (some (t801, x7_1)) = some (r1, r2) := H
      have A34 := Aside0.mk A340
      clear A340
      simp only [Option.some.injEq, Prod.mk.injEq] at H
      obtain ⟨rfl, rfl⟩ := H
      obtain ⟨Ao35, co35, eo35⟩ := Kd.R_slice HO_6.out
      subst eo35
      go_wp2_with (first | ((with_reducible refine gate_callee (f := 81) rfl ?_); refine goL (some 38) Tryd.func81 [.slice Ao35 x6_1.length co35] ?_; (with_reducible refine (gudgeonref01_trim.calls k1 _ _ x6_1 t801 _ ?side1 ?side2 A34.out).mono ?_); (case side1 => exact (Kd.R_reads' HO_6.out).2.2); (case side2 => exact (Kd.R_reads' HO_6.out).2.1); rintro e w36 ⟨v802, rfl, ho0, hb⟩; refine ⟨_, rfl, ?_⟩; have HO803 := Aside0.mk (Kd.R_lower (Kd.R_new' (Kd.R_new' ho0 (Kd.R_lt HO_6.out)) (Kd.R_lt HO_7.out)) (below_size HB.out)); replace HO_6 := Aside0.mk (Kd.R_elder' HO_6.out (Kd.R_base ho0) hb); replace HO_7 := Aside0.mk (Kd.R_elder' HO_7.out (Kd.R_base ho0) hb); replace HB := Aside0.mk (below_step HB.out hb)))
      go_ret2
      exact ⟨_, _, by first | rfl | (simp [errW_none, errW_some] <;> rfl) | (simp [*, errW_none, errW_some] <;> rfl), by (with_reducible repeat (first | apply Kd.R_alloc | apply Kd.R_drewN | apply Kd.R_drew)); exact Kd.R_mono HO803.out (fun _ hk => hk.2), by (with_reducible repeat (first | apply Kd.R_alloc | apply Kd.R_drewN | apply Kd.R_drew)); exact Kd.R_mono HO_7.out (fun _ hk => hk.2), by repeat (first | (with_reducible first | exact HB.out | apply below_alloc | apply pw_below_drewN | apply below_drew1) | exact HB.out)⟩
  ·rw [if_neg c4] at H
   exact absurd H (by simp)
 ·rw [if_neg c3] at H
  exact absurd H (by simp)

/-! ### gudgeonref01_DivMod: function 43 -/
def gudgeonref01_DivMod.f (k : Nat) (l0 : List Int) (l1 : List Int) : Option (List Int × List Int × Int) := (gudgeonref01_Bits.f k l1).bind fun t819 => (if (t819.length : Int) = 0 then (some (([] : List Int), ([] : List Int), 7)) else ((gudgeonref01_Bits.f k l0).bind fun t822 => ((gudgeonref01_divmod.f k t822 t819).bind fun bt825 => ((gudgeonref01_Limbs.f k bt825.1).bind fun t831 => ((gudgeonref01_Limbs.f k bt825.2).bind fun t834 => (some (t831, t834, 0)))))))
set_option maxHeartbeats 8000000 in
set_option maxRecDepth 100000 in
theorem gudgeonref01_DivMod.calls (k : Nat) (A0 : Option Addr) (c0 : Nat) (l0 : List Int) (A1 : Option Addr) (c1 : Nat) (l1 : List Int) (r1 : List Int) (r2 : List Int) (r3 : Int) (w : World) (hr0 : Kd.C (Kd.int .u32) w A0 l0.length l0) (hc0 : l0.length ≤ c0) (hr1 : Kd.C (Kd.int .u32) w A1 l1.length l1) (hc1 : l1.length ≤ c1) (h : gudgeonref01_DivMod.f k l0 l1 = some (r1, r2, r3)) :
  Calls Tryd.prog 43 #[.slice A0 l0.length c0, .slice A1 l1.length c1] w fun e w' => ∃ v0_ v1_ : Value, e = .returned (.tuple #[v0_, v1_, .int .i64 r3]) ∧ Kd.R (Kd.int .u32) 51 w' w.heap.size (fun k_ => some k_ ≠ (v1_ : Value).ownBlock) v0_ r1 ∧ Kd.R (Kd.int .u32) 51 w' w.heap.size (fun k_ => some k_ ≠ (v0_ : Value).ownBlock) v1_ r2 ∧ Below w.heap.size w w' := by
 have HR0 := Aside0.mk hr0
 have HC0 := Aside0.mk hc0
 clear hr0 hc0
 have HR1 := Aside0.mk hr1
 have HC1 := Aside0.mk hc1
 clear hr1 hc1
 have HB := Aside0.mk (Below.refl w.heap.size w)
 have H : ((gudgeonref01_Bits.f k l1).bind fun t819 => (if (t819.length : Int) = 0 then (some (([] : List Int), ([] : List Int), 7)) else ((gudgeonref01_Bits.f k l0).bind fun t822 => ((gudgeonref01_divmod.f k t822 t819).bind fun bt825 => ((gudgeonref01_Limbs.f k bt825.1).bind fun t831 => ((gudgeonref01_Limbs.f k bt825.2).bind fun t834 => (some (t831, t834, 0)))))))) = some (r1, r2, r3) := h
 clear h
 replace H := Option.bind_eq_some_iff.mp H
 obtain ⟨t819, A30, H⟩ := H
 replace H : (if (t819.length : Int) = 0 then (some (([] : List Int), ([] : List Int), 7)) else ((gudgeonref01_Bits.f k l0).bind fun t822 => ((gudgeonref01_divmod.f k t822 t819).bind fun bt825 => ((gudgeonref01_Limbs.f k bt825.1).bind fun t831 => ((gudgeonref01_Limbs.f k bt825.2).bind fun t834 => (some (t831, t834, 0))))))) = some (r1, r2, r3) := H
 have A3 := Aside0.mk A30
 clear A30
 by_cases c4 : (t819.length : Int) = 0
 ·rw [if_pos c4] at H
  have c4b0 : ((t819.length : Int) == 0) = true := beq_iff_eq.mpr c4
  have c4b1 : ((t819.length : Int) != 0) = false := bne_eq_false_iff_eq.mpr c4
  clear c4
  simp only [Option.some.injEq, Prod.mk.injEq] at H
  obtain ⟨rfl, rfl, rfl⟩ := H
  go_enter Tryd.func43, Tryd.ntmps43
  go_wp2_with (first | ((with_reducible refine gate_callee (f := 67) rfl ?_); refine goL (some 11) Tryd.func67 [.slice A1 l1.length c1] ?_; (with_reducible refine (gudgeonref01_Bits.calls k _ _ l1 t819 _ ?side1 ?side2 A3.out).mono ?_); (case side1 => exact HR1.out); (case side2 => exact HC1.out); rintro e w5 ⟨v820, rfl, ho0, hb⟩; refine ⟨_, rfl, ?_⟩; have HO821 := Aside0.mk (Kd.R_lower ho0 (below_size HB.out)); replace HB := Aside0.mk (below_step HB.out hb); obtain ⟨Ao6, co6, eo6⟩ := Kd.R_slice HO821.out; subst eo6))
  go_ret3
  exact ⟨_, _, by first | rfl | (simp [errW_none, errW_some] <;> rfl) | (simp [*, errW_none, errW_some] <;> rfl), by first | exact Kd.R_nil _ _ _ _ _ | exact Kd.N_nil _ _ _ _ _ | exact Kd.V_nil _ _ _ _ _ | exact Kd.Q_nil _ _ _ _ _ | exact Kd.S_nil _ _ _ _ _, by first | exact Kd.R_nil _ _ _ _ _ | exact Kd.N_nil _ _ _ _ _ | exact Kd.V_nil _ _ _ _ _ | exact Kd.Q_nil _ _ _ _ _ | exact Kd.S_nil _ _ _ _ _, by repeat (first | (with_reducible first | exact HB.out | apply below_alloc | apply pw_below_drewN | apply below_drew1) | exact HB.out)⟩
 ·rw [if_neg c4] at H
  have c4b0 : ((t819.length : Int) == 0) = false := beq_eq_false_iff_ne.mpr c4
  have c4b1 : ((t819.length : Int) != 0) = true := bne_iff_ne.mpr c4
  have c4b2 : ¬ (t819 = []) := fun h_ => c4 (by rw [h_]; rfl)
  replace H := Option.bind_eq_some_iff.mp H
  obtain ⟨t822, A70, H⟩ := H
  replace H : ((gudgeonref01_divmod.f k t822 t819).bind fun bt825 => ((gudgeonref01_Limbs.f k bt825.1).bind fun t831 => ((gudgeonref01_Limbs.f k bt825.2).bind fun t834 => (some (t831, t834, 0))))) = some (r1, r2, r3) := H
  have A7 := Aside0.mk A70
  clear A70
  replace H := Option.bind_eq_some_iff.mp H
  obtain ⟨⟨t825, t826⟩, A80, H⟩ := H
  replace H : ((gudgeonref01_Limbs.f k t825).bind fun t831 => ((gudgeonref01_Limbs.f k t826).bind fun t834 => (some (t831, t834, 0)))) = some (r1, r2, r3) := H
  have A8 := Aside0.mk A80
  clear A80
  replace H := Option.bind_eq_some_iff.mp H
  obtain ⟨t831, A90, H⟩ := H
  replace H : ((gudgeonref01_Limbs.f k t826).bind fun t834 => (some (t831, t834, 0))) = some (r1, r2, r3) := H
  have A9 := Aside0.mk A90
  clear A90
  replace H := Option.bind_eq_some_iff.mp H
  obtain ⟨t834, A100, H⟩ := H
  replace H : (some (t831, t834, 0)) = some (r1, r2, r3) := H
  have A10 := Aside0.mk A100
  clear A100
  simp only [Option.some.injEq, Prod.mk.injEq] at H
  obtain ⟨rfl, rfl, rfl⟩ := H
  go_enter Tryd.func43, Tryd.ntmps43
  go_wp2_with (first | ((with_reducible refine gate_callee (f := 67) rfl ?_); refine goL (some 11) Tryd.func67 [.slice A1 l1.length c1] ?_; (with_reducible refine (gudgeonref01_Bits.calls k _ _ l1 t819 _ ?side1 ?side2 A3.out).mono ?_); (case side1 => exact HR1.out); (case side2 => exact HC1.out); rintro e w11 ⟨v820, rfl, ho0, hb⟩; refine ⟨_, rfl, ?_⟩; have HO821 := Aside0.mk (Kd.R_lower ho0 (below_size HB.out)); replace HB := Aside0.mk (below_step HB.out hb); obtain ⟨Ao12, co12, eo12⟩ := Kd.R_slice HO821.out; subst eo12) | ((with_reducible refine gate_callee (f := 67) rfl ?_); refine goL (some 17) Tryd.func67 [.slice A0 l0.length c0] ?_; (with_reducible refine (gudgeonref01_Bits.calls k _ _ l0 t822 _ ?side1 ?side2 A7.out).mono ?_); (case side1 => exact (Kd.C_below HR0.out HB.out)); (case side2 => exact HC0.out); rintro e w13 ⟨v823, rfl, ho0, hb⟩; refine ⟨_, rfl, ?_⟩; have HO824 := Aside0.mk (Kd.R_lower (Kd.R_new' ho0 (Kd.R_lt HO821.out)) (below_size HB.out)); replace HO821 := Aside0.mk (Kd.R_elder' HO821.out (Kd.R_base ho0) hb); replace HB := Aside0.mk (below_step HB.out hb); obtain ⟨Ao14, co14, eo14⟩ := Kd.R_slice HO824.out; subst eo14) | ((with_reducible refine gate_callee (f := 68) rfl ?_); refine goL (some 19) Tryd.func68 [.slice Ao14 t822.length co14, .slice Ao12 t819.length co12] ?_; (with_reducible refine (gudgeonref01_divmod.calls k _ _ t822 _ _ t819 t825 t826 _ ?side1 ?side2 ?side3 ?side4 A8.out).mono ?_); (case side1 => exact (Kd.R_reads' HO824.out).2.2); (case side2 => exact (Kd.R_reads' HO824.out).2.1); (case side3 => exact (Kd.R_reads' HO821.out).2.2); (case side4 => exact (Kd.R_reads' HO821.out).2.1); rintro e w15 ⟨v827, v829, rfl, ho0, ho1, hb⟩; refine ⟨_, rfl, ?_⟩; have HO828 := Aside0.mk (Kd.R_lower (Kd.R_new' (Kd.R_new' ho0 (Kd.R_lt HO821.out)) (Kd.R_lt HO824.out)) (below_size HB.out)); have HO830 := Aside0.mk (Kd.R_lower (Kd.R_new' (Kd.R_new' ho1 (Kd.R_lt HO821.out)) (Kd.R_lt HO824.out)) (below_size HB.out)); replace HO821 := Aside0.mk (Kd.R_mono (Kd.R_told (Kd.R_told (Kd.R_old HO821.out hb) (Kd.R_base ho0)) (Kd.R_base ho1)) (fun _ h_ => h_.1)); replace HO824 := Aside0.mk (Kd.R_mono (Kd.R_told (Kd.R_told (Kd.R_old HO824.out hb) (Kd.R_base ho0)) (Kd.R_base ho1)) (fun _ h_ => h_.1)); replace HB := Aside0.mk (below_step HB.out hb); (try clear ho1); obtain ⟨Ao16, co16, eo16⟩ := Kd.R_slice HO828.out; subst eo16) | ((with_reducible refine gate_callee (f := 69) rfl ?_); refine goL (some 23) Tryd.func69 [.slice Ao16 t825.length co16] ?_; (with_reducible refine (gudgeonref01_Limbs.calls k _ _ t825 t831 _ ?side1 ?side2 A9.out).mono ?_); (case side1 => exact (Kd.R_reads' HO828.out).2.2); (case side2 => exact (Kd.R_reads' HO828.out).2.1); rintro e w17 ⟨v832, rfl, ho0, hb⟩; refine ⟨_, rfl, ?_⟩; replace HO821 := Aside0.mk (Kd.R_below HO821.out hb); replace HO824 := Aside0.mk (Kd.R_below HO824.out hb); replace HO828 := Aside0.mk (Kd.R_below HO828.out hb); replace HO830 := Aside0.mk (Kd.R_below HO830.out hb); have HO833 := Aside0.mk (Kd.R_lower ho0 (below_size HB.out)); replace HB := Aside0.mk (below_step HB.out hb); obtain ⟨Ao18, co18, eo18⟩ := Kd.R_slice HO830.out; subst eo18) | ((with_reducible refine gate_callee (f := 69) rfl ?_); refine goL (some 25) Tryd.func69 [.slice Ao18 t826.length co18] ?_; (with_reducible refine (gudgeonref01_Limbs.calls k _ _ t826 t834 _ ?side1 ?side2 A10.out).mono ?_); (case side1 => exact (Kd.R_reads' HO830.out).2.2); (case side2 => exact (Kd.R_reads' HO830.out).2.1); rintro e w19 ⟨v835, rfl, ho0, hb⟩; refine ⟨_, rfl, ?_⟩; replace HO821 := Aside0.mk (Kd.R_below HO821.out hb); replace HO824 := Aside0.mk (Kd.R_below HO824.out hb); replace HO828 := Aside0.mk (Kd.R_below HO828.out hb); replace HO830 := Aside0.mk (Kd.R_below HO830.out hb); have HO836 := Aside0.mk (Kd.R_lower (Kd.R_new' ho0 (Kd.R_lt HO833.out)) (below_size HB.out)); replace HO833 := Aside0.mk (Kd.R_elder' HO833.out (Kd.R_base ho0) hb); replace HB := Aside0.mk (below_step HB.out hb)))
  go_ret3
  exact ⟨_, _, by first | rfl | (simp [errW_none, errW_some] <;> rfl) | (simp [*, errW_none, errW_some] <;> rfl), by (with_reducible repeat (first | apply Kd.R_alloc | apply Kd.R_drewN | apply Kd.R_drew)); exact Kd.R_mono HO833.out (fun _ hk => hk.2), by (with_reducible repeat (first | apply Kd.R_alloc | apply Kd.R_drewN | apply Kd.R_drew)); exact Kd.R_mono HO836.out (fun _ hk => hk.2), by repeat (first | (with_reducible first | exact HB.out | apply below_alloc | apply pw_below_drewN | apply below_drew1) | exact HB.out)⟩

end Go.Proofs.YthnfmmaolkenkaaDoor.PA
