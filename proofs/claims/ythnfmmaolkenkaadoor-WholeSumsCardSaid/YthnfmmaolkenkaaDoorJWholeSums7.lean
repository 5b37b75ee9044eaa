/- Joined by wip/tools/shake.py for the claim of WholeSums: PAx15, PAx16, PAx17, NatV, NatB, NatC. -/
import Derived.Test.YthnfmmaolkenkaaDoorJWholeSums2
import Derived.Test.YthnfmmaolkenkaaDoorJWholeSums4
import Derived.Test.YthnfmmaolkenkaaDoorJWholeSums5
import Derived.Test.YthnfmmaolkenkaaDoorJWholeSums6
import Derived.Laws.BitsLemmas
import Derived.Laws.Bits64
import Derived.Lib.BitFns
/- Written by a program of this session, wip/tools/patch_print.py, over the kit's print of the loaded functions. -/
namespace Go.Proofs.YthnfmmaolkenkaaDoor.H
end Go.Proofs.YthnfmmaolkenkaaDoor.H
namespace Go.Proofs.YthnfmmaolkenkaaDoor.PA
open Go.RowKit Go.Proofs.YthnfmmaolkenkaaDoorW.PrintWords Go.Proofs.YthnfmmaolkenkaaDoorW.PrintLast Go.Proofs.YthnfmmaolkenkaaDoorW.PrintMore Go.Proofs.YthnfmmaolkenkaaDoor.H
attribute [local go_sem] max2_int min2_int max_two min_two max_three min_three max_four min_four   -- for this text's walks alone
attribute [local go_sem] box_twice
set_option linter.unusedVariables false
set_option linter.unusedSimpArgs false

/-! ### gudgeonref02_Add: function 21 -/
def gudgeonref02_Add.f (k : Nat) (a0_0 : Bool) (l0_1 : List Int) (a1_0 : Bool) (l1_1 : List Int) : Option (Bool × List Int) := if (a0_0 == a1_0) = true then ((gudgeonref01_Add.f k l0_1 l1_1).bind fun t635 => ((gudgeonref02_Norm.f k a0_0 t635).bind fun bt638 => (some (bt638.1, bt638.2)))) else ((gudgeonref01_Sub.f k l0_1 l1_1).bind fun bt642 => (if bt642.2 = 0 then ((gudgeonref02_Norm.f k a0_0 bt642.1).bind fun bt646 => (some (bt646.1, bt646.2))) else ((gudgeonref01_Sub.f k l1_1 l0_1).bind fun bt650 => ((gudgeonref02_Norm.f k a1_0 bt650.1).bind fun bt654 => (some (bt654.1, bt654.2))))))
def gudgeonref02_Add.T2 : Bool × List (List Nat × List Nat) := (true, [([], []), ([0], [0]), ([], []), ([2], [2]), ([], []), ([4], [4]), ([3, 5], [3, 5]), ([1, 6], [1, 6]), ([7, 6], [7]), ([8, 8, 0, 1, 2, 3, 4, 5, 6, 7, 8], [8])])
def gudgeonref02_Add.B2 : List Nat := [0, 1, 0, 4, 0, 16, 60, 127, 255, 511]
theorem gudgeonref02_Add.tab2 : rtab .any (opsOf Tryd.f21 2) = gudgeonref02_Add.T2 := by kernel_rfl
theorem gudgeonref02_Add.bits2 : waitsOk gudgeonref02_Add.T2.2 gudgeonref02_Add.B2 = true := by kernel_rfl
set_option maxHeartbeats 8000000 in
set_option maxRecDepth 100000 in
theorem gudgeonref02_Add.calls (k : Nat) (a0_0 : Bool) (A0_1 : Option Addr) (c0_1 : Nat) (l0_1 : List Int) (a1_0 : Bool) (A1_1 : Option Addr) (c1_1 : Nat) (l1_1 : List Int) (r1 : Bool) (r2 : List Int) (w : World) (hr0_1 : Kd.C (Kd.int .u32) w A0_1 l0_1.length l0_1) (hc0_1 : l0_1.length ≤ c0_1) (hr1_1 : Kd.C (Kd.int .u32) w A1_1 l1_1.length l1_1) (hc1_1 : l1_1.length ≤ c1_1) (h : gudgeonref02_Add.f k a0_0 l0_1 a1_0 l1_1 = some (r1, r2)) :
  Calls Tryd.prog 21 #[.agg #[.bool a0_0, .slice A0_1 l0_1.length c0_1], .agg #[.bool a1_0, .slice A1_1 l1_1.length c1_1]] w fun e w' => ∃ v1_ : Value, e = .returned (.agg #[.bool r1, v1_]) ∧ Kd.R (Kd.int .u32) 51 w' w.heap.size (fun _ => True) v1_ r2 ∧ Below w.heap.size w w' := by
 have hu24 := Tryd.underlying24
 have HR0_1 := Aside0.mk hr0_1
 have HC0_1 := Aside0.mk hc0_1
 clear hr0_1 hc0_1
 have HR1_1 := Aside0.mk hr1_1
 have HC1_1 := Aside0.mk hc1_1
 clear hr1_1 hc1_1
 have HB := Aside0.mk (Below.refl w.heap.size w)
 have H : (if (a0_0 == a1_0) = true then ((gudgeonref01_Add.f k l0_1 l1_1).bind fun t635 => ((gudgeonref02_Norm.f k a0_0 t635).bind fun bt638 => (some (bt638.1, bt638.2)))) else ((gudgeonref01_Sub.f k l0_1 l1_1).bind fun bt642 => (if bt642.2 = 0 then ((gudgeonref02_Norm.f k a0_0 bt642.1).bind fun bt646 => (some (bt646.1, bt646.2))) else ((gudgeonref01_Sub.f k l1_1 l0_1).bind fun bt650 => ((gudgeonref02_Norm.f k a1_0 bt650.1).bind fun bt654 => (some (bt654.1, bt654.2))))))) = some (r1, r2) := h
 clear h
 by_cases c3 : (a0_0 == a1_0) = true
 ·rw [if_pos c3] at H
  have c3b0 : (a0_0 == a1_0) = true := c3
  (try (have c3b1 : decide (a0_0 = a1_0) = true := by simpa using c3))
  (try (have c3b2 : (a0_0 == a1_0) = true := by simpa using c3))
  clear c3
  replace H := Option.bind_eq_some_iff.mp H
  obtain ⟨t635, A40, H⟩ := H
  replace H : ((gudgeonref02_Norm.f k a0_0 t635).bind fun bt638 => (some (bt638.1, bt638.2))) = some (r1, r2) := H
  have A4 := Aside0.mk A40
  clear A40
  replace H := Option.bind_eq_some_iff.mp H
  obtain ⟨⟨t638, t639⟩, A50, H⟩ := H
  replace H : (some (t638, t639)) = some (r1, r2) := H
  have A5 := Aside0.mk A50
  clear A50
  simp only [Option.some.injEq, Prod.mk.injEq] at H
  obtain ⟨rfl, rfl⟩ := H
  go_enter Tryd.func21, Tryd.ntmps21
  try go_wp2_with (first | ((with_reducible refine gate_dst (N := 2) rfl ?_); refine box_event ?hg (N := 2) ?hd (cs := #[.bool a0_0, .slice A0_1 l0_1.length c0_1]) (t := 24) ?hr ?_; (case hd => rfl); (case hg => rfl); (case hr => first | (go_simp; done) | (go_simp; rfl)); intro gb632 hg w6 hbox hb; have BK632 := Aside0.mk (hbox); have GW632 := Aside0.mk (bxLe HB.out hg); have GE632 := GW632; replace HB := Aside0.mk (below_step HB.out hb); clear hb hbox hg) | ((with_reducible refine gate_dst (N := 3) rfl ?_); refine box_event ?hg (N := 3) ?hd (cs := #[.bool a1_0, .slice A1_1 l1_1.length c1_1]) (t := 24) ?hr ?_; (case hd => rfl); (case hg => rfl); (case hr => first | (go_simp; done) | (go_simp; rfl)); intro gb633 hg w7 hbox hb; have BK633 := Aside0.mk (hbox); have GW633 := Aside0.mk (bxLe HB.out hg); have GE633 := GW633; replace HB := Aside0.mk (below_step HB.out hb); have NB632_633 := Aside0.mk (neL BK632.out hg); have NB633_632 := Aside0.mk (neR BK632.out hg); replace BK632 := Aside0.mk (blk_below BK632.out hb); clear hb hbox hg) | ((with_reducible refine gate_dst (N := 4) rfl ?_); refine box_event ?hg (N := 4) ?hd (cs := #[.bool false, .slice none 0 0]) (t := 24) ?hr ?_; (case hd => rfl); (case hg => rfl); (case hr => first | (go_simp; done) | (go_simp; rfl)); intro gb634 hg w8 hbox hb; have BK634 := Aside0.mk (hbox); have GW634 := Aside0.mk (bxLe HB.out hg); have GE634 := GW634; replace HB := Aside0.mk (below_step HB.out hb); have NB632_634 := Aside0.mk (neL BK632.out hg); have NB634_632 := Aside0.mk (neR BK632.out hg); replace BK632 := Aside0.mk (blk_below BK632.out hb); have NB633_634 := Aside0.mk (neL BK633.out hg); have NB634_633 := Aside0.mk (neR BK633.out hg); replace BK633 := Aside0.mk (blk_below BK633.out hb); clear hb hbox hg; have hnb9 := NB632_633.out; have hnc9 := NB633_632.out; have hnb10 := NB632_634.out; have hnc10 := NB634_632.out; have hcz11_0 := bc0 BK632.out; have hcz11_1 := bc1 BK632.out; have hfz11_0 := blk_frozen BK632.out 0; have hfz11_1 := blk_frozen BK632.out 1; have hnb12 := NB633_634.out; have hnc12 := NB634_633.out; have hcz13_0 := bc0 BK633.out; have hcz13_1 := bc1 BK633.out; have hfz13_0 := blk_frozen BK633.out 0; have hfz13_1 := blk_frozen BK633.out 1))
  replace BK632 := Aside0.mk (blk_drew BK632.out)
  replace BK633 := Aside0.mk (blk_drew BK633.out)
  replace BK634 := Aside0.mk (blk_drew BK634.out)
  replace HB := Aside0.mk (below_drew1 HB.out)
  refine start_ (n := 10) (S := fun w' => w'.cell? ⟨gb632, 0, none⟩ = some (.bool a0_0) ∧ w'.cell? ⟨gb632, 1, none⟩ = some (.slice A0_1 l0_1.length c0_1) ∧ w'.cell? ⟨gb633, 0, none⟩ = some (.bool a1_0) ∧ w'.cell? ⟨gb633, 1, none⟩ = some (.slice A1_1 l1_1.length c1_1)) (ds := []) #[false, false, false, false, false, false, false, false, false, false] (by kernel_rfl) rfl rfl ⟨(blk_cell BK632.out 0).trans rfl, (blk_cell BK632.out 1).trans rfl, (blk_cell BK633.out 0).trans rfl, (blk_cell BK633.out 1).trans rfl⟩ (fun hHeld => ?_); refine with_tabW gudgeonref02_Add.tab2 gudgeonref02_Add.bits2 (fun HT_ HW_ => ?_)
  generalize w8.drew = w14 at BK632 BK633 BK634 HB hHeld ⊢
  refine pure_ (i := 0) (N := some 14) (v := ?_) (a' := ?_) #[true, false, false, false, false, false, false, false, false, false] rfl rfl (any_of HT_.out (by kernel_rfl)) (fun _ _ _ h => h) (Or.inl ⟨by rfl, ?_⟩) ?_ ?_
  rotate_left
  ·intro w'
   go_simp
   with_reducible rfl
  rotate_left
  ·simp only [Act.put, List.setIfInBounds_toArray, List.set_cons_zero, List.set_cons_succ, i64_w, i32_w]
   rfl
  refine pure_ (i := 2) (N := some 16) (v := ?_) (a' := ?_) #[true, false, true, false, false, false, false, false, false, false] rfl rfl (any_of HT_.out (by kernel_rfl)) (fun _ _ _ h => h) (Or.inl ⟨by rfl, ?_⟩) ?_ ?_
  rotate_left
  ·intro w'
   go_simp
   with_reducible rfl
  rotate_left
  ·simp only [Act.put, List.setIfInBounds_toArray, List.set_cons_zero, List.set_cons_succ, i64_w, i32_w]
   rfl
  refine pure_ (i := 4) (N := some 18) (v := ?_) (a' := ?_) #[true, false, true, false, true, false, false, false, false, false] rfl rfl (any_of HT_.out (by kernel_rfl)) (fun _ _ _ h => h) (Or.inl ⟨by rfl, ?_⟩) ?_ ?_
  rotate_left
  ·intro w'
   go_simp
   with_reducible rfl
  rotate_left
  ·simp only [Act.put, List.setIfInBounds_toArray, List.set_cons_zero, List.set_cons_succ, i64_w, i32_w]
   rfl
  refine take_ (i := 1) (N := some 15) (v := ?_) (a' := ?_) #[true, true, true, false, true, false, false, false, false, false] rfl rfl (take_ofW HT_.out HW_.out (by kernel_rfl)) (fun _ _ _ h => h) (Or.inl ⟨by rfl, ?_⟩) hHeld ?_ ?_
  rotate_left
  ·rintro w' ⟨s0, s1, s2, s3⟩
   go_simp
   with_reducible rfl
  rotate_left
  ·simp only [Act.put, List.setIfInBounds_toArray, List.set_cons_zero, List.set_cons_succ, i64_w, i32_w]
   rfl
  refine take_ (i := 3) (N := some 17) (v := ?_) (a' := ?_) #[true, true, true, true, true, false, false, false, false, false] rfl rfl (take_ofW HT_.out HW_.out (by kernel_rfl)) (fun _ _ _ h => h) (Or.inl ⟨by rfl, ?_⟩) hHeld ?_ ?_
  rotate_left
  ·rintro w' ⟨s0, s1, s2, s3⟩
   go_simp
   with_reducible rfl
  rotate_left
  ·simp only [Act.put, List.setIfInBounds_toArray, List.set_cons_zero, List.set_cons_succ, i64_w, i32_w]
   rfl
  refine take_ (i := 5) (N := some 19) (v := ?_) (a' := ?_) #[true, true, true, true, true, true, false, false, false, false] rfl rfl (take_ofW HT_.out HW_.out (by kernel_rfl)) (fun _ _ _ h => h) (Or.inl ⟨by rfl, ?_⟩) hHeld ?_ ?_
  rotate_left
  ·rintro w' ⟨s0, s1, s2, s3⟩
   go_simp
   with_reducible rfl
  rotate_left
  ·simp only [Act.put, List.setIfInBounds_toArray, List.set_cons_zero, List.set_cons_succ, i64_w, i32_w]
   rfl
  refine one_ (i := 6) (N := some 20) #[true, true, true, true, true, true, true, false, false, false] rfl rfl (one_of HT_.out (by kernel_rfl)) (by decide) (fun K hK => ?_)
  refine goR Tryd.func44 [.slice A0_1 l0_1.length c0_1, .slice A1_1 l1_1.length c1_1] ?_
  with_reducible refine (gudgeonref01_Add.calls k _ _ l0_1 _ _ l1_1 t635 _ ?side1 ?side2 ?side3 ?side4 A4.out).mono ?_
  (case side1 => exact (Kd.C_below HR0_1.out HB.out))
  (case side2 => exact HC0_1.out)
  (case side3 => exact (Kd.C_below HR1_1.out HB.out))
  (case side4 => exact HC1_1.out)
  rintro e w15 ⟨v636, rfl, ho0, hb⟩
  refine ⟨_, rfl, ?_⟩
  have HO637 := Aside0.mk (Kd.R_lower ho0 (below_size HB.out))
  replace BK632 := Aside0.mk (blk_below BK632.out hb)
  replace BK633 := Aside0.mk (blk_below BK633.out hb)
  replace BK634 := Aside0.mk (blk_below BK634.out hb)
  replace HB := Aside0.mk (below_step HB.out hb)
  (try clear hb)
  (try clear hb2)
  (try clear hk)
  (try clear hi)
  (try clear ho0)
  obtain ⟨Ao16, co16, eo16⟩ := Kd.R_slice HO637.out
  subst eo16
  refine hK.out _ _ ⟨(blk_cell BK632.out 0).trans rfl, (blk_cell BK632.out 1).trans rfl, (blk_cell BK633.out 0).trans rfl, (blk_cell BK633.out 1).trans rfl⟩ (fun hHeld => ?_)
  clear hK K
  refine norm_ (a' := ?_) ?_ ?_
  rotate_left
  ·show Act.put _ (some 20) _ = _
   simp only [Act.put, List.setIfInBounds_toArray, List.set_cons_zero, List.set_cons_succ, i64_w, i32_w]
   rfl
  refine pure_ (i := 7) (N := some 21) (v := ?_) (a' := ?_) #[true, true, true, true, true, true, true, true, false, false] rfl rfl (any_of HT_.out (by kernel_rfl)) (fun _ _ _ h => h) (Or.inl ⟨by rfl, ?_⟩) ?_ ?_
  rotate_left
  ·intro w'
   go_simp
   with_reducible rfl
  rotate_left
  ·simp only [Act.put, List.setIfInBounds_toArray, List.set_cons_zero, List.set_cons_succ, i64_w, i32_w]
   rfl
  refine one_ (i := 8) (N := some 22) #[true, true, true, true, true, true, true, true, true, false] rfl rfl (one_of HT_.out (by kernel_rfl)) (by decide) (fun K hK => ?_)
  refine goR Tryd.func17 [.agg #[.bool a0_0, .slice Ao16 t635.length co16]] ?_
  with_reducible refine (gudgeonref02_Norm.calls k a0_0 _ _ t635 t638 t639 _ ?side1 ?side2 A5.out).mono ?_
  (case side1 => exact (Kd.R_reads' HO637.out).2.2)
  (case side2 => exact (Kd.R_reads' HO637.out).2.1)
  rintro e w17 ⟨v640, rfl, ho0, hb⟩
  refine ⟨_, rfl, ?_⟩
  have HO641 := Aside0.mk (Kd.R_lower (Kd.R_new' ho0 (Kd.R_lt HO637.out)) (below_size HB.out))
  replace HO637 := Aside0.mk (Kd.R_elder' HO637.out (Kd.R_base ho0) hb)
  replace BK632 := Aside0.mk (blk_below BK632.out hb)
  replace BK633 := Aside0.mk (blk_below BK633.out hb)
  replace BK634 := Aside0.mk (blk_below BK634.out hb)
  replace HB := Aside0.mk (below_step HB.out hb)
  (try clear hb)
  (try clear hb2)
  (try clear hk)
  (try clear hi)
  (try clear ho0)
  obtain ⟨Ao19, co19, eo19⟩ := Kd.R_slice HO641.out
  subst eo19
  refine hK.out _ _ ⟨(blk_cell BK632.out 0).trans rfl, (blk_cell BK632.out 1).trans rfl, (blk_cell BK633.out 0).trans rfl, (blk_cell BK633.out 1).trans rfl⟩ (fun hHeld => ?_)
  clear hK K
  refine norm_ (a' := ?_) ?_ ?_
  rotate_left
  ·show Act.put _ (some 22) _ = _
   simp only [Act.put, List.setIfInBounds_toArray, List.set_cons_zero, List.set_cons_succ, i64_w, i32_w]
   rfl
  refine one_ (i := 9) (N := none) #[true, true, true, true, true, true, true, true, true, true] rfl rfl (one_of HT_.out (by kernel_rfl)) (by decide) (fun K hK => ?_)
  have hs18 : w17.cell? ⟨gb634, 0, none⟩ = some (.bool false) := (blk_cell BK634.out 0).trans rfl
  have hfs18 := blk_frozen BK634.out 0
  have hns18_0 := NB632_634.out
  have hns18_1 := NB633_634.out
  have hms18_0 := NB634_632.out
  have hms18_1 := NB634_633.out
  have hs20 : w17.cell? ⟨gb634, 1, none⟩ = some (.slice none 0 0) := (blk_cell BK634.out 1).trans rfl
  have hfs20 := blk_frozen BK634.out 1
  have hns20_0 := NB632_634.out
  have hns20_1 := NB633_634.out
  have hms20_0 := NB634_632.out
  have hms20_1 := NB634_633.out
  refine skip_ (w1 := ?_) (by rfl) rfl ?_ ?_
  rotate_left
  ·go_simp
   rfl
  refine hK.out _ _ ⟨((cell_far (p := ⟨gb634, _, none⟩) NB632_634.out _).trans (((cell_far (p := ⟨gb634, _, none⟩) NB632_634.out _).trans (hHeld.1)))), ((cell_far (p := ⟨gb634, _, none⟩) NB632_634.out _).trans (((cell_far (p := ⟨gb634, _, none⟩) NB632_634.out _).trans (hHeld.2.1)))), ((cell_far (p := ⟨gb634, _, none⟩) NB633_634.out _).trans (((cell_far (p := ⟨gb634, _, none⟩) NB633_634.out _).trans (hHeld.2.2.1)))), ((cell_far (p := ⟨gb634, _, none⟩) NB633_634.out _).trans (((cell_far (p := ⟨gb634, _, none⟩) NB633_634.out _).trans (hHeld.2.2.2))))⟩ (fun hHeld => ?_)
  clear hK K
  refine done_ (done_of HT_.out (by kernel_rfl)) ?_
  try go_wp2
  refine bodyPost_ret (results_cell_row rfl _ _ gb634 24 #[.bool t638, .slice Ao19 t639.length co19] (0, 0) _ rfl (by refine blk_put (cs := #[.bool t638, .slice none 0 0]) ?_ 1 _ rfl; refine blk_put (cs := #[.bool false, .slice none 0 0]) ?_ 0 _ rfl; exact BK634.out) Tryd.underlying24 rfl (by kernel_rfl)) rfl ?_
  exact ⟨_, by first | rfl | (simp [errW_none, errW_some] <;> rfl) | (simp [*, errW_none, errW_some] <;> rfl), by (with_reducible repeat (first | apply Kd.R_alloc | apply Kd.R_drewN | apply Kd.R_drew)); exact Kd.R_mono (Kd.R_far (p := ⟨gb634, 1, none⟩) (Kd.R_far (p := ⟨gb634, 0, none⟩) (Kd.R_types HO641.out BK634.out (by decide)) (fun _ hk => hk.2) (.bool t638)) (fun _ hk => hk.2) (.slice Ao19 t639.length co19)) (fun _ hk => trivial), by repeat (first | (with_reducible first | exact HB.out | apply below_alloc | apply pw_below_drewN | apply below_drew1 | refine below_set ?_ GE632.out | refine below_set ?_ GE633.out | refine below_set ?_ GE634.out) | exact HB.out)⟩
 ·rw [if_neg c3] at H
  have c3b0 : (a0_0 == a1_0) = false := by simpa using c3
  (try (have c3b1 : decide (a0_0 = a1_0) = false := by simpa using c3))
  (try (have c3b2 : (a0_0 == a1_0) = false := by simpa using c3))
  (try (have c3b3 : ¬ (a0_0 = a1_0) := by simpa using c3))
  clear c3
  replace H := Option.bind_eq_some_iff.mp H
  obtain ⟨⟨t642, t643⟩, A210, H⟩ := H
  replace H : (if t643 = 0 then ((gudgeonref02_Norm.f k a0_0 t642).bind fun bt646 => (some (bt646.1, bt646.2))) else ((gudgeonref01_Sub.f k l1_1 l0_1).bind fun bt650 => ((gudgeonref02_Norm.f k a1_0 bt650.1).bind fun bt654 => (some (bt654.1, bt654.2))))) = some (r1, r2) := H
  have A21 := Aside0.mk A210
  clear A210
  by_cases c22 : t643 = 0
  ·rw [if_pos c22] at H
   have c22b0 : (t643 == 0) = true := beq_iff_eq.mpr c22
   have c22b1 : (t643 != 0) = false := bne_eq_false_iff_eq.mpr c22
   clear c22
   replace H := Option.bind_eq_some_iff.mp H
   obtain ⟨⟨t646, t647⟩, A230, H⟩ := H
   replace H : (some (t646, t647)) = some (r1, r2) := H
   have A23 := Aside0.mk A230
   clear A230
   simp only [Option.some.injEq, Prod.mk.injEq] at H
   obtain ⟨rfl, rfl⟩ := H
   go_enter Tryd.func21, Tryd.ntmps21
   go_wp2_with (first | ((with_reducible refine gate_dst (N := 2) rfl ?_); refine box_event ?hg (N := 2) ?hd (cs := #[.bool a0_0, .slice A0_1 l0_1.length c0_1]) (t := 24) ?hr ?_; (case hd => rfl); (case hg => rfl); (case hr => first | (go_simp; done) | (go_simp; rfl)); intro gb632 hg w24 hbox hb; have BK632 := Aside0.mk (hbox); have GW632 := Aside0.mk (bxLe HB.out hg); have GE632 := GW632; replace HB := Aside0.mk (below_step HB.out hb); clear hb hbox hg) | ((with_reducible refine gate_dst (N := 3) rfl ?_); refine box_event ?hg (N := 3) ?hd (cs := #[.bool a1_0, .slice A1_1 l1_1.length c1_1]) (t := 24) ?hr ?_; (case hd => rfl); (case hg => rfl); (case hr => first | (go_simp; done) | (go_simp; rfl)); intro gb633 hg w25 hbox hb; have BK633 := Aside0.mk (hbox); have GW633 := Aside0.mk (bxLe HB.out hg); have GE633 := GW633; replace HB := Aside0.mk (below_step HB.out hb); have NB632_633 := Aside0.mk (neL BK632.out hg); have NB633_632 := Aside0.mk (neR BK632.out hg); replace BK632 := Aside0.mk (blk_below BK632.out hb); clear hb hbox hg) | ((with_reducible refine gate_dst (N := 4) rfl ?_); refine box_event ?hg (N := 4) ?hd (cs := #[.bool false, .slice none 0 0]) (t := 24) ?hr ?_; (case hd => rfl); (case hg => rfl); (case hr => first | (go_simp; done) | (go_simp; rfl)); intro gb634 hg w26 hbox hb; have BK634 := Aside0.mk (hbox); have GW634 := Aside0.mk (bxLe HB.out hg); have GE634 := GW634; replace HB := Aside0.mk (below_step HB.out hb); have NB632_634 := Aside0.mk (neL BK632.out hg); have NB634_632 := Aside0.mk (neR BK632.out hg); replace BK632 := Aside0.mk (blk_below BK632.out hb); have NB633_634 := Aside0.mk (neL BK633.out hg); have NB634_633 := Aside0.mk (neR BK633.out hg); replace BK633 := Aside0.mk (blk_below BK633.out hb); clear hb hbox hg; have hnb27 := NB632_633.out; have hnc27 := NB633_632.out; have hnb28 := NB632_634.out; have hnc28 := NB634_632.out; have hcz29_0 := bc0 BK632.out; have hcz29_1 := bc1 BK632.out; have hfz29_0 := blk_frozen BK632.out 0; have hfz29_1 := blk_frozen BK632.out 1; have hnb30 := NB633_634.out; have hnc30 := NB634_633.out; have hcz31_0 := bc0 BK633.out; have hcz31_1 := bc1 BK633.out; have hfz31_0 := blk_frozen BK633.out 0; have hfz31_1 := blk_frozen BK633.out 1) | ((with_reducible refine gate_callee (f := 48) rfl ?_); refine goL (some 28) Tryd.func48 [.slice A0_1 l0_1.length c0_1, .slice A1_1 l1_1.length c1_1] ?_; (with_reducible refine (gudgeonref01_Sub.calls k _ _ l0_1 _ _ l1_1 t642 t643 _ ?side1 ?side2 ?side3 ?side4 A21.out).mono ?_); (case side1 => exact (Kd.C_below HR0_1.out HB.out)); (case side2 => exact HC0_1.out); (case side3 => exact (Kd.C_below HR1_1.out HB.out)); (case side4 => exact HC1_1.out); rintro e w32 ⟨v644, rfl, ho0, hb⟩; refine ⟨_, rfl, ?_⟩; have HO645 := Aside0.mk (Kd.R_lower ho0 (below_size HB.out)); replace BK632 := Aside0.mk (blk_below BK632.out hb); replace BK633 := Aside0.mk (blk_below BK633.out hb); replace BK634 := Aside0.mk (blk_below BK634.out hb); replace HB := Aside0.mk (below_step HB.out hb); have hcz33_0 := bc0 BK632.out; have hcz33_1 := bc1 BK632.out; have hfz33_0 := blk_frozen BK632.out 0; have hfz33_1 := blk_frozen BK632.out 1; obtain ⟨Ao34, co34, eo34⟩ := Kd.R_slice HO645.out; subst eo34) | ((with_reducible refine gate_callee (f := 17) rfl ?_); refine goL (some 37) Tryd.func17 [.agg #[.bool a0_0, .slice Ao34 t642.length co34]] ?_; (with_reducible refine (gudgeonref02_Norm.calls k a0_0 _ _ t642 t646 t647 _ ?side1 ?side2 A23.out).mono ?_); (case side1 => exact (Kd.R_reads' HO645.out).2.2); (case side2 => exact (Kd.R_reads' HO645.out).2.1); rintro e w35 ⟨v648, rfl, ho0, hb⟩; refine ⟨_, rfl, ?_⟩; have HO649 := Aside0.mk (Kd.R_lower (Kd.R_new' ho0 (Kd.R_lt HO645.out)) (below_size HB.out)); replace HO645 := Aside0.mk (Kd.R_elder' HO645.out (Kd.R_base ho0) hb); replace BK632 := Aside0.mk (blk_below BK632.out hb); replace BK633 := Aside0.mk (blk_below BK633.out hb); replace BK634 := Aside0.mk (blk_below BK634.out hb); replace HB := Aside0.mk (below_step HB.out hb); have hcz36_0 := bc0 BK634.out; have hcz36_1 := bc1 BK634.out; have hfz36_0 := blk_frozen BK634.out 0; have hfz36_1 := blk_frozen BK634.out 1; obtain ⟨Ao37, co37, eo37⟩ := Kd.R_slice HO649.out; subst eo37))
   refine bodyPost_ret (results_cell_row rfl _ _ gb634 24 #[.bool t646, .slice Ao37 t647.length co37] (0, 0) _ rfl (by refine blk_put (cs := #[.bool t646, .slice none 0 0]) ?_ 1 _ rfl; refine blk_put (cs := #[.bool false, .slice none 0 0]) ?_ 0 _ rfl; exact BK634.out) Tryd.underlying24 rfl (by kernel_rfl)) rfl ?_
   exact ⟨_, by first | rfl | (simp [errW_none, errW_some] <;> rfl) | (simp [*, errW_none, errW_some] <;> rfl), by (with_reducible repeat (first | apply Kd.R_alloc | apply Kd.R_drewN | apply Kd.R_drew)); exact Kd.R_mono (Kd.R_far (p := ⟨gb634, 1, none⟩) (Kd.R_far (p := ⟨gb634, 0, none⟩) (Kd.R_types HO649.out BK634.out (by decide)) (fun _ hk => hk.2) (.bool t646)) (fun _ hk => hk.2) (.slice Ao37 t647.length co37)) (fun _ hk => trivial), by repeat (first | (with_reducible first | exact HB.out | apply below_alloc | apply pw_below_drewN | apply below_drew1 | refine below_set ?_ GE632.out | refine below_set ?_ GE633.out | refine below_set ?_ GE634.out) | exact HB.out)⟩
  ·rw [if_neg c22] at H
   have c22b0 : (t643 == 0) = false := beq_eq_false_iff_ne.mpr c22
   have c22b1 : (t643 != 0) = true := bne_iff_ne.mpr c22
   replace H := Option.bind_eq_some_iff.mp H
   obtain ⟨⟨t650, t651⟩, A380, H⟩ := H
   replace H : ((gudgeonref02_Norm.f k a1_0 t650).bind fun bt654 => (some (bt654.1, bt654.2))) = some (r1, r2) := H
   have A38 := Aside0.mk A380
   clear A380
   replace H := Option.bind_eq_some_iff.mp H
   obtain ⟨⟨t654, t655⟩, A390, H⟩ := H
   replace H : (some (t654, t655)) = some (r1, r2) := H
   have A39 := Aside0.mk A390
   clear A390
   simp only [Option.some.injEq, Prod.mk.injEq] at H
   obtain ⟨rfl, rfl⟩ := H
   go_enter Tryd.func21, Tryd.ntmps21
   go_wp2_with (first | ((with_reducible refine gate_dst (N := 2) rfl ?_); refine box_event ?hg (N := 2) ?hd (cs := #[.bool a0_0, .slice A0_1 l0_1.length c0_1]) (t := 24) ?hr ?_; (case hd => rfl); (case hg => rfl); (case hr => first | (go_simp; done) | (go_simp; rfl)); intro gb632 hg w40 hbox hb; have BK632 := Aside0.mk (hbox); have GW632 := Aside0.mk (bxLe HB.out hg); have GE632 := GW632; replace HB := Aside0.mk (below_step HB.out hb); clear hb hbox hg) | ((with_reducible refine gate_dst (N := 3) rfl ?_); refine box_event ?hg (N := 3) ?hd (cs := #[.bool a1_0, .slice A1_1 l1_1.length c1_1]) (t := 24) ?hr ?_; (case hd => rfl); (case hg => rfl); (case hr => first | (go_simp; done) | (go_simp; rfl)); intro gb633 hg w41 hbox hb; have BK633 := Aside0.mk (hbox); have GW633 := Aside0.mk (bxLe HB.out hg); have GE633 := GW633; replace HB := Aside0.mk (below_step HB.out hb); have NB632_633 := Aside0.mk (neL BK632.out hg); have NB633_632 := Aside0.mk (neR BK632.out hg); replace BK632 := Aside0.mk (blk_below BK632.out hb); clear hb hbox hg) | ((with_reducible refine gate_dst (N := 4) rfl ?_); refine box_event ?hg (N := 4) ?hd (cs := #[.bool false, .slice none 0 0]) (t := 24) ?hr ?_; (case hd => rfl); (case hg => rfl); (case hr => first | (go_simp; done) | (go_simp; rfl)); intro gb634 hg w42 hbox hb; have BK634 := Aside0.mk (hbox); have GW634 := Aside0.mk (bxLe HB.out hg); have GE634 := GW634; replace HB := Aside0.mk (below_step HB.out hb); have NB632_634 := Aside0.mk (neL BK632.out hg); have NB634_632 := Aside0.mk (neR BK632.out hg); replace BK632 := Aside0.mk (blk_below BK632.out hb); have NB633_634 := Aside0.mk (neL BK633.out hg); have NB634_633 := Aside0.mk (neR BK633.out hg); replace BK633 := Aside0.mk (blk_below BK633.out hb); clear hb hbox hg; have hnb43 := NB632_633.out; have hnc43 := NB633_632.out; have hnb44 := NB632_634.out; have hnc44 := NB634_632.out; have hcz45_0 := bc0 BK632.out; have hcz45_1 := bc1 BK632.out; have hfz45_0 := blk_frozen BK632.out 0; have hfz45_1 := blk_frozen BK632.out 1; have hnb46 := NB633_634.out; have hnc46 := NB634_633.out; have hcz47_0 := bc0 BK633.out; have hcz47_1 := bc1 BK633.out; have hfz47_0 := blk_frozen BK633.out 0; have hfz47_1 := blk_frozen BK633.out 1) | ((with_reducible refine gate_callee (f := 48) rfl ?_); refine goL (some 28) Tryd.func48 [.slice A0_1 l0_1.length c0_1, .slice A1_1 l1_1.length c1_1] ?_; (with_reducible refine (gudgeonref01_Sub.calls k _ _ l0_1 _ _ l1_1 t642 t643 _ ?side1 ?side2 ?side3 ?side4 A21.out).mono ?_); (case side1 => exact (Kd.C_below HR0_1.out HB.out)); (case side2 => exact HC0_1.out); (case side3 => exact (Kd.C_below HR1_1.out HB.out)); (case side4 => exact HC1_1.out); rintro e w48 ⟨v644, rfl, ho0, hb⟩; refine ⟨_, rfl, ?_⟩; have HO645 := Aside0.mk (Kd.R_lower ho0 (below_size HB.out)); replace BK632 := Aside0.mk (blk_below BK632.out hb); replace BK633 := Aside0.mk (blk_below BK633.out hb); replace BK634 := Aside0.mk (blk_below BK634.out hb); replace HB := Aside0.mk (below_step HB.out hb); have hcz49_0 := bc0 BK633.out; have hcz49_1 := bc1 BK633.out; have hfz49_0 := blk_frozen BK633.out 0; have hfz49_1 := blk_frozen BK633.out 1; have hcz50_0 := bc0 BK632.out; have hcz50_1 := bc1 BK632.out; have hfz50_0 := blk_frozen BK632.out 0; have hfz50_1 := blk_frozen BK632.out 1) | ((with_reducible refine gate_callee (f := 48) rfl ?_); refine goL (some 43) Tryd.func48 [.slice A1_1 l1_1.length c1_1, .slice A0_1 l0_1.length c0_1] ?_; (with_reducible refine (gudgeonref01_Sub.calls k _ _ l1_1 _ _ l0_1 t650 t651 _ ?side1 ?side2 ?side3 ?side4 A38.out).mono ?_); (case side1 => exact (Kd.C_below HR1_1.out HB.out)); (case side2 => exact HC1_1.out); (case side3 => exact (Kd.C_below HR0_1.out HB.out)); (case side4 => exact HC0_1.out); rintro e w51 ⟨v652, rfl, ho0, hb⟩; refine ⟨_, rfl, ?_⟩; have HO653 := Aside0.mk (Kd.R_lower (Kd.R_new' ho0 (Kd.R_lt HO645.out)) (below_size HB.out)); replace HO645 := Aside0.mk (Kd.R_elder' HO645.out (Kd.R_base ho0) hb); replace BK632 := Aside0.mk (blk_below BK632.out hb); replace BK633 := Aside0.mk (blk_below BK633.out hb); replace BK634 := Aside0.mk (blk_below BK634.out hb); replace HB := Aside0.mk (below_step HB.out hb); have hcz52_0 := bc0 BK633.out; have hcz52_1 := bc1 BK633.out; have hfz52_0 := blk_frozen BK633.out 0; have hfz52_1 := blk_frozen BK633.out 1; obtain ⟨Ao53, co53, eo53⟩ := Kd.R_slice HO653.out; subst eo53) | ((with_reducible refine gate_callee (f := 17) rfl ?_); refine goL (some 50) Tryd.func17 [.agg #[.bool a1_0, .slice Ao53 t650.length co53]] ?_; (with_reducible refine (gudgeonref02_Norm.calls k a1_0 _ _ t650 t654 t655 _ ?side1 ?side2 A39.out).mono ?_); (case side1 => exact (Kd.R_reads' HO653.out).2.2); (case side2 => exact (Kd.R_reads' HO653.out).2.1); rintro e w54 ⟨v656, rfl, ho0, hb⟩; refine ⟨_, rfl, ?_⟩; have HO657 := Aside0.mk (Kd.R_lower (Kd.R_new' (Kd.R_new' ho0 (Kd.R_lt HO645.out)) (Kd.R_lt HO653.out)) (below_size HB.out)); replace HO645 := Aside0.mk (Kd.R_elder' HO645.out (Kd.R_base ho0) hb); replace HO653 := Aside0.mk (Kd.R_elder' HO653.out (Kd.R_base ho0) hb); replace BK632 := Aside0.mk (blk_below BK632.out hb); replace BK633 := Aside0.mk (blk_below BK633.out hb); replace BK634 := Aside0.mk (blk_below BK634.out hb); replace HB := Aside0.mk (below_step HB.out hb); have hcz55_0 := bc0 BK634.out; have hcz55_1 := bc1 BK634.out; have hfz55_0 := blk_frozen BK634.out 0; have hfz55_1 := blk_frozen BK634.out 1; obtain ⟨Ao56, co56, eo56⟩ := Kd.R_slice HO657.out; subst eo56))
   refine bodyPost_ret (results_cell_row rfl _ _ gb634 24 #[.bool t654, .slice Ao56 t655.length co56] (0, 0) _ rfl (by refine blk_put (cs := #[.bool t654, .slice none 0 0]) ?_ 1 _ rfl; refine blk_put (cs := #[.bool false, .slice none 0 0]) ?_ 0 _ rfl; exact BK634.out) Tryd.underlying24 rfl (by kernel_rfl)) rfl ?_
   exact ⟨_, by first | rfl | (simp [errW_none, errW_some] <;> rfl) | (simp [*, errW_none, errW_some] <;> rfl), by (with_reducible repeat (first | apply Kd.R_alloc | apply Kd.R_drewN | apply Kd.R_drew)); exact Kd.R_mono (Kd.R_far (p := ⟨gb634, 1, none⟩) (Kd.R_far (p := ⟨gb634, 0, none⟩) (Kd.R_types HO657.out BK634.out (by decide)) (fun _ hk => hk.2) (.bool t654)) (fun _ hk => hk.2) (.slice Ao56 t655.length co56)) (fun _ hk => trivial), by repeat (first | (with_reducible first | exact HB.out | apply below_alloc | apply pw_below_drewN | apply below_drew1 | refine below_set ?_ GE632.out | refine below_set ?_ GE633.out | refine below_set ?_ GE634.out) | exact HB.out)⟩

/-! ### whole_Sub: function 22 -/
def whole_Sub.f (k : Nat) (a0_0 : Bool) (l0_1 : List Int) (a1_0 : Bool) (l1_1 : List Int) : Option (Bool × List Int) := (whole_Neg.f a1_0 l1_1).bind fun bt661 => ((whole_Add.f k a0_0 l0_1 bt661.1 bt661.2).bind fun bt665 => (some (bt665.1, bt665.2)))
set_option maxHeartbeats 8000000 in
set_option maxRecDepth 100000 in
theorem whole_Sub.calls (k : Nat) (a0_0 : Bool) (A0_1 : Option Addr) (c0_1 : Nat) (l0_1 : List Int) (a1_0 : Bool) (A1_1 : Option Addr) (c1_1 : Nat) (l1_1 : List Int) (r1 : Bool) (r2 : List Int) (w : World) (hr0_1 : Kd.C (Kd.int .u32) w A0_1 l0_1.length l0_1) (hc0_1 : l0_1.length ≤ c0_1) (hr1_1 : Kd.C (Kd.int .u32) w A1_1 l1_1.length l1_1) (hc1_1 : l1_1.length ≤ c1_1) (h : whole_Sub.f k a0_0 l0_1 a1_0 l1_1 = some (r1, r2)) :
  Calls Tryd.prog 22 #[.agg #[.bool a0_0, .slice A0_1 l0_1.length c0_1], .agg #[.bool a1_0, .slice A1_1 l1_1.length c1_1]] w fun e w' => ∃ v1_ : Value, e = .returned (.agg #[.bool r1, v1_]) ∧ Kd.R (Kd.int .u32) 51 w' w.heap.size (fun _ => True) v1_ r2 ∧ Below w.heap.size w w' := by
 have hu24 := Tryd.underlying24
 have HR0_1 := Aside0.mk hr0_1
 have HC0_1 := Aside0.mk hc0_1
 clear hr0_1 hc0_1
 have HR1_1 := Aside0.mk hr1_1
 have HC1_1 := Aside0.mk hc1_1
 clear hr1_1 hc1_1
 have HB := Aside0.mk (Below.refl w.heap.size w)
 have H : ((whole_Neg.f a1_0 l1_1).bind fun bt661 => ((whole_Add.f k a0_0 l0_1 bt661.1 bt661.2).bind fun bt665 => (some (bt665.1, bt665.2)))) = some (r1, r2) := h
 clear h
 replace H := Option.bind_eq_some_iff.mp H
 obtain ⟨⟨t661, t662⟩, A30, H⟩ := H
 replace H : ((whole_Add.f k a0_0 l0_1 t661 t662).bind fun bt665 => (some (bt665.1, bt665.2))) = some (r1, r2) := H
 have A3 := Aside0.mk A30
 clear A30
 replace H := Option.bind_eq_some_iff.mp H
 obtain ⟨⟨t665, t666⟩, A40, H⟩ := H
 replace H : (some (t665, t666)) = some (r1, r2) := H
 have A4 := Aside0.mk A40
 clear A40
 simp only [Option.some.injEq, Prod.mk.injEq] at H
 obtain ⟨rfl, rfl⟩ := H
 go_enter Tryd.func22, Tryd.ntmps22
 try go_wp2_with (first | ((with_reducible refine gate_dst (N := 2) rfl ?_); refine box_event ?hg (N := 2) ?hd (cs := #[.bool a0_0, .slice A0_1 l0_1.length c0_1]) (t := 24) ?hr ?_; (case hd => rfl); (case hg => rfl); (case hr => first | (go_simp; done) | (go_simp; rfl)); intro gb658 hg w5 hbox hb; have BK658 := Aside0.mk (hbox); have GW658 := Aside0.mk (bxLe HB.out hg); have GE658 := GW658; replace HB := Aside0.mk (below_step HB.out hb); clear hb hbox hg) | ((with_reducible refine gate_dst (N := 3) rfl ?_); refine box_event ?hg (N := 3) ?hd (cs := #[.bool a1_0, .slice A1_1 l1_1.length c1_1]) (t := 24) ?hr ?_; (case hd => rfl); (case hg => rfl); (case hr => first | (go_simp; done) | (go_simp; rfl)); intro gb659 hg w6 hbox hb; have BK659 := Aside0.mk (hbox); have GW659 := Aside0.mk (bxLe HB.out hg); have GE659 := GW659; replace HB := Aside0.mk (below_step HB.out hb); have NB658_659 := Aside0.mk (neL BK658.out hg); have NB659_658 := Aside0.mk (neR BK658.out hg); replace BK658 := Aside0.mk (blk_below BK658.out hb); clear hb hbox hg) | ((with_reducible refine gate_dst (N := 4) rfl ?_); refine box_event ?hg (N := 4) ?hd (cs := #[.bool false, .slice none 0 0]) (t := 24) ?hr ?_; (case hd => rfl); (case hg => rfl); (case hr => first | (go_simp; done) | (go_simp; rfl)); intro gb660 hg w7 hbox hb; have BK660 := Aside0.mk (hbox); have GW660 := Aside0.mk (bxLe HB.out hg); have GE660 := GW660; replace HB := Aside0.mk (below_step HB.out hb); have NB658_660 := Aside0.mk (neL BK658.out hg); have NB660_658 := Aside0.mk (neR BK658.out hg); replace BK658 := Aside0.mk (blk_below BK658.out hb); have NB659_660 := Aside0.mk (neL BK659.out hg); have NB660_659 := Aside0.mk (neR BK659.out hg); replace BK659 := Aside0.mk (blk_below BK659.out hb); clear hb hbox hg))
 replace BK658 := Aside0.mk (blk_drew BK658.out)
 replace BK659 := Aside0.mk (blk_drew BK659.out)
 replace BK660 := Aside0.mk (blk_drew BK660.out)
 replace HB := Aside0.mk (below_drew1 HB.out)
 refine start_ (n := 5) (S := fun w' => w'.cell? ⟨gb658, 0, none⟩ = some (.bool a0_0) ∧ w'.cell? ⟨gb658, 1, none⟩ = some (.slice A0_1 l0_1.length c0_1) ∧ w'.cell? ⟨gb659, 0, none⟩ = some (.bool a1_0) ∧ w'.cell? ⟨gb659, 1, none⟩ = some (.slice A1_1 l1_1.length c1_1)) (ds := []) #[false, false, false, false, false] (by kernel_rfl) rfl rfl ⟨(blk_cell BK658.out 0).trans rfl, (blk_cell BK658.out 1).trans rfl, (blk_cell BK659.out 0).trans rfl, (blk_cell BK659.out 1).trans rfl⟩ (fun hHeld => ?_)
 generalize w7.drew = w8 at BK658 BK659 BK660 HB hHeld ⊢
 refine take_ (i := 0) (N := some 5) (v := ?_) (a' := ?_) #[true, false, false, false, false] rfl rfl (by kernel_rfl) (fun _ _ _ h => h) (Or.inl ⟨by rfl, ?_⟩) hHeld ?_ ?_
 rotate_left
 ·rintro w' ⟨s0, s1, s2, s3⟩
  go_simp
  with_reducible rfl
 rotate_left
 ·simp only [Act.put, List.setIfInBounds_toArray, List.set_cons_zero, List.set_cons_succ, i64_w, i32_w]
  rfl
 refine take_ (i := 1) (N := some 6) (v := ?_) (a' := ?_) #[true, true, false, false, false] rfl rfl (by kernel_rfl) (fun _ _ _ h => h) (Or.inl ⟨by rfl, ?_⟩) hHeld ?_ ?_
 rotate_left
 ·rintro w' ⟨s0, s1, s2, s3⟩
  go_simp
  with_reducible rfl
 rotate_left
 ·simp only [Act.put, List.setIfInBounds_toArray, List.set_cons_zero, List.set_cons_succ, i64_w, i32_w]
  rfl
 refine one_ (i := 2) (N := some 7) #[true, true, true, false, false] rfl rfl (by kernel_rfl) (by decide) (fun K hK => ?_)
 refine goR Tryd.func18 [.agg #[.bool a1_0, .slice A1_1 l1_1.length c1_1]] ?_
 with_reducible refine (whole_Neg.calls a1_0 _ _ l1_1 t661 t662 _ ?side1 ?side2 A3.out).mono ?_
 (case side1 => exact (Kd.C_below HR1_1.out HB.out))
 (case side2 => exact HC1_1.out)
 rintro e w9 ⟨v663, rfl, ho0, hb⟩
 refine ⟨_, rfl, ?_⟩
 have HO664 := Aside0.mk (Kd.R_lower ho0 (below_size HB.out))
 replace BK658 := Aside0.mk (blk_below BK658.out hb)
 replace BK659 := Aside0.mk (blk_below BK659.out hb)
 replace BK660 := Aside0.mk (blk_below BK660.out hb)
 replace HB := Aside0.mk (below_step HB.out hb)
 (try clear hb)
 (try clear hb2)
 (try clear hk)
 (try clear hi)
 (try clear ho0)
 obtain ⟨Ao10, co10, eo10⟩ := Kd.R_slice HO664.out
 subst eo10
 refine hK.out _ _ ⟨(blk_cell BK658.out 0).trans rfl, (blk_cell BK658.out 1).trans rfl, (blk_cell BK659.out 0).trans rfl, (blk_cell BK659.out 1).trans rfl⟩ (fun hHeld => ?_)
 clear hK K
 refine norm_ (a' := ?_) ?_ ?_
 rotate_left
 ·show Act.put _ (some 7) _ = _
  simp only [Act.put, List.setIfInBounds_toArray, List.set_cons_zero, List.set_cons_succ, i64_w, i32_w]
  rfl
 refine one_ (i := 3) (N := some 8) #[true, true, true, true, false] rfl rfl (by kernel_rfl) (by decide) (fun K hK => ?_)
 refine goR Tryd.func20 [.agg #[.bool a0_0, .slice A0_1 l0_1.length c0_1], .agg #[.bool t661, .slice Ao10 t662.length co10]] ?_
 with_reducible refine (whole_Add.calls k a0_0 _ _ l0_1 t661 _ _ t662 t665 t666 _ ?side1 ?side2 ?side3 ?side4 A4.out).mono ?_
 (case side1 => exact (Kd.C_below HR0_1.out HB.out))
 (case side2 => exact HC0_1.out)
 (case side3 => exact (Kd.R_reads' HO664.out).2.2)
 (case side4 => exact (Kd.R_reads' HO664.out).2.1)
 rintro e w11 ⟨v667, rfl, ho0, hb⟩
 refine ⟨_, rfl, ?_⟩
 have HO668 := Aside0.mk (Kd.R_lower (Kd.R_new' ho0 (Kd.R_lt HO664.out)) (below_size HB.out))
 replace HO664 := Aside0.mk (Kd.R_elder' HO664.out (Kd.R_base ho0) hb)
 replace BK658 := Aside0.mk (blk_below BK658.out hb)
 replace BK659 := Aside0.mk (blk_below BK659.out hb)
 replace BK660 := Aside0.mk (blk_below BK660.out hb)
 replace HB := Aside0.mk (below_step HB.out hb)
 (try clear hb)
 (try clear hb2)
 (try clear hk)
 (try clear hi)
 (try clear ho0)
 obtain ⟨Ao13, co13, eo13⟩ := Kd.R_slice HO668.out
 subst eo13
 refine hK.out _ _ ⟨(blk_cell BK658.out 0).trans rfl, (blk_cell BK658.out 1).trans rfl, (blk_cell BK659.out 0).trans rfl, (blk_cell BK659.out 1).trans rfl⟩ (fun hHeld => ?_)
 clear hK K
 refine norm_ (a' := ?_) ?_ ?_
 rotate_left
 ·show Act.put _ (some 8) _ = _
  simp only [Act.put, List.setIfInBounds_toArray, List.set_cons_zero, List.set_cons_succ, i64_w, i32_w]
  rfl
 refine one_ (i := 4) (N := none) #[true, true, true, true, true] rfl rfl (by kernel_rfl) (by decide) (fun K hK => ?_)
 have hs12 : w11.cell? ⟨gb660, 0, none⟩ = some (.bool false) := (blk_cell BK660.out 0).trans rfl
 have hfs12 := blk_frozen BK660.out 0
 have hns12_0 := NB658_660.out
 have hns12_1 := NB659_660.out
 have hms12_0 := NB660_658.out
 have hms12_1 := NB660_659.out
 have hs14 : w11.cell? ⟨gb660, 1, none⟩ = some (.slice none 0 0) := (blk_cell BK660.out 1).trans rfl
 have hfs14 := blk_frozen BK660.out 1
 have hns14_0 := NB658_660.out
 have hns14_1 := NB659_660.out
 have hms14_0 := NB660_658.out
 have hms14_1 := NB660_659.out
 refine skip_ (w1 := ?_) (by rfl) rfl ?_ ?_
 rotate_left
 ·go_simp
  rfl
 refine hK.out _ _ ⟨((cell_far (p := ⟨gb660, _, none⟩) NB658_660.out _).trans (((cell_far (p := ⟨gb660, _, none⟩) NB658_660.out _).trans (hHeld.1)))), ((cell_far (p := ⟨gb660, _, none⟩) NB658_660.out _).trans (((cell_far (p := ⟨gb660, _, none⟩) NB658_660.out _).trans (hHeld.2.1)))), ((cell_far (p := ⟨gb660, _, none⟩) NB659_660.out _).trans (((cell_far (p := ⟨gb660, _, none⟩) NB659_660.out _).trans (hHeld.2.2.1)))), ((cell_far (p := ⟨gb660, _, none⟩) NB659_660.out _).trans (((cell_far (p := ⟨gb660, _, none⟩) NB659_660.out _).trans (hHeld.2.2.2))))⟩ (fun hHeld => ?_)
 clear hK K
 refine done_ (by kernel_rfl) ?_
 try go_wp2
 refine bodyPost_ret (results_cell_row rfl _ _ gb660 24 #[.bool t665, .slice Ao13 t666.length co13] (0, 0) _ rfl (by refine blk_put (cs := #[.bool t665, .slice none 0 0]) ?_ 1 _ rfl; refine blk_put (cs := #[.bool false, .slice none 0 0]) ?_ 0 _ rfl; exact BK660.out) Tryd.underlying24 rfl (by kernel_rfl)) rfl ?_
 exact ⟨_, by first | rfl | (simp [errW_none, errW_some] <;> rfl) | (simp [*, errW_none, errW_some] <;> rfl), by (with_reducible repeat (first | apply Kd.R_alloc | apply Kd.R_drewN | apply Kd.R_drew)); exact Kd.R_mono (Kd.R_far (p := ⟨gb660, 1, none⟩) (Kd.R_far (p := ⟨gb660, 0, none⟩) (Kd.R_types HO668.out BK660.out (by decide)) (fun _ hk => hk.2) (.bool t665)) (fun _ hk => hk.2) (.slice Ao13 t666.length co13)) (fun _ hk => trivial), by repeat (first | (with_reducible first | exact HB.out | apply below_alloc | apply pw_below_drewN | apply below_drew1 | refine below_set ?_ GE658.out | refine below_set ?_ GE659.out | refine below_set ?_ GE660.out) | exact HB.out)⟩

/-! ### gudgeonref02_Sub: function 23 -/
def gudgeonref02_Sub.f (k : Nat) (a0_0 : Bool) (l0_1 : List Int) (a1_0 : Bool) (l1_1 : List Int) : Option (Bool × List Int) := (gudgeonref02_Neg.f k a1_0 l1_1).bind fun bt672 => ((gudgeonref02_Add.f k a0_0 l0_1 bt672.1 bt672.2).bind fun bt676 => (some (bt676.1, bt676.2)))
set_option maxHeartbeats 8000000 in
set_option maxRecDepth 100000 in
theorem gudgeonref02_Sub.calls (k : Nat) (a0_0 : Bool) (A0_1 : Option Addr) (c0_1 : Nat) (l0_1 : List Int) (a1_0 : Bool) (A1_1 : Option Addr) (c1_1 : Nat) (l1_1 : List Int) (r1 : Bool) (r2 : List Int) (w : World) (hr0_1 : Kd.C (Kd.int .u32) w A0_1 l0_1.length l0_1) (hc0_1 : l0_1.length ≤ c0_1) (hr1_1 : Kd.C (Kd.int .u32) w A1_1 l1_1.length l1_1) (hc1_1 : l1_1.length ≤ c1_1) (h : gudgeonref02_Sub.f k a0_0 l0_1 a1_0 l1_1 = some (r1, r2)) :
  Calls Tryd.prog 23 #[.agg #[.bool a0_0, .slice A0_1 l0_1.length c0_1], .agg #[.bool a1_0, .slice A1_1 l1_1.length c1_1]] w fun e w' => ∃ v1_ : Value, e = .returned (.agg #[.bool r1, v1_]) ∧ Kd.R (Kd.int .u32) 51 w' w.heap.size (fun _ => True) v1_ r2 ∧ Below w.heap.size w w' := by
 have hu24 := Tryd.underlying24
 have HR0_1 := Aside0.mk hr0_1
 have HC0_1 := Aside0.mk hc0_1
 clear hr0_1 hc0_1
 have HR1_1 := Aside0.mk hr1_1
 have HC1_1 := Aside0.mk hc1_1
 clear hr1_1 hc1_1
 have HB := Aside0.mk (Below.refl w.heap.size w)
 have H : ((gudgeonref02_Neg.f k a1_0 l1_1).bind fun bt672 => ((gudgeonref02_Add.f k a0_0 l0_1 bt672.1 bt672.2).bind fun bt676 => (some (bt676.1, bt676.2)))) = some (r1, r2) := h
 clear h
 replace H := Option.bind_eq_some_iff.mp H
 obtain ⟨⟨t672, t673⟩, A30, H⟩ := H
 replace H : ((gudgeonref02_Add.f k a0_0 l0_1 t672 t673).bind fun bt676 => (some (bt676.1, bt676.2))) = some (r1, r2) := H
 have A3 := Aside0.mk A30
 clear A30
 replace H := Option.bind_eq_some_iff.mp H
 obtain ⟨⟨t676, t677⟩, A40, H⟩ := H
 replace H : (some (t676, t677)) = some (r1, r2) := H
 have A4 := Aside0.mk A40
 clear A40
 simp only [Option.some.injEq, Prod.mk.injEq] at H
 obtain ⟨rfl, rfl⟩ := H
 go_enter Tryd.func23, Tryd.ntmps23
 try go_wp2_with (first | ((with_reducible refine gate_dst (N := 2) rfl ?_); refine box_event ?hg (N := 2) ?hd (cs := #[.bool a0_0, .slice A0_1 l0_1.length c0_1]) (t := 24) ?hr ?_; (case hd => rfl); (case hg => rfl); (case hr => first | (go_simp; done) | (go_simp; rfl)); intro gb669 hg w5 hbox hb; have BK669 := Aside0.mk (hbox); have GW669 := Aside0.mk (bxLe HB.out hg); have GE669 := GW669; replace HB := Aside0.mk (below_step HB.out hb); clear hb hbox hg) | ((with_reducible refine gate_dst (N := 3) rfl ?_); refine box_event ?hg (N := 3) ?hd (cs := #[.bool a1_0, .slice A1_1 l1_1.length c1_1]) (t := 24) ?hr ?_; (case hd => rfl); (case hg => rfl); (case hr => first | (go_simp; done) | (go_simp; rfl)); intro gb670 hg w6 hbox hb; have BK670 := Aside0.mk (hbox); have GW670 := Aside0.mk (bxLe HB.out hg); have GE670 := GW670; replace HB := Aside0.mk (below_step HB.out hb); have NB669_670 := Aside0.mk (neL BK669.out hg); have NB670_669 := Aside0.mk (neR BK669.out hg); replace BK669 := Aside0.mk (blk_below BK669.out hb); clear hb hbox hg) | ((with_reducible refine gate_dst (N := 4) rfl ?_); refine box_event ?hg (N := 4) ?hd (cs := #[.bool false, .slice none 0 0]) (t := 24) ?hr ?_; (case hd => rfl); (case hg => rfl); (case hr => first | (go_simp; done) | (go_simp; rfl)); intro gb671 hg w7 hbox hb; have BK671 := Aside0.mk (hbox); have GW671 := Aside0.mk (bxLe HB.out hg); have GE671 := GW671; replace HB := Aside0.mk (below_step HB.out hb); have NB669_671 := Aside0.mk (neL BK669.out hg); have NB671_669 := Aside0.mk (neR BK669.out hg); replace BK669 := Aside0.mk (blk_below BK669.out hb); have NB670_671 := Aside0.mk (neL BK670.out hg); have NB671_670 := Aside0.mk (neR BK670.out hg); replace BK670 := Aside0.mk (blk_below BK670.out hb); clear hb hbox hg))
 replace BK669 := Aside0.mk (blk_drew BK669.out)
 replace BK670 := Aside0.mk (blk_drew BK670.out)
 replace BK671 := Aside0.mk (blk_drew BK671.out)
 replace HB := Aside0.mk (below_drew1 HB.out)
 refine start_ (n := 5) (S := fun w' => w'.cell? ⟨gb669, 0, none⟩ = some (.bool a0_0) ∧ w'.cell? ⟨gb669, 1, none⟩ = some (.slice A0_1 l0_1.length c0_1) ∧ w'.cell? ⟨gb670, 0, none⟩ = some (.bool a1_0) ∧ w'.cell? ⟨gb670, 1, none⟩ = some (.slice A1_1 l1_1.length c1_1)) (ds := []) #[false, false, false, false, false] (by kernel_rfl) rfl rfl ⟨(blk_cell BK669.out 0).trans rfl, (blk_cell BK669.out 1).trans rfl, (blk_cell BK670.out 0).trans rfl, (blk_cell BK670.out 1).trans rfl⟩ (fun hHeld => ?_)
 generalize w7.drew = w8 at BK669 BK670 BK671 HB hHeld ⊢
 refine take_ (i := 0) (N := some 5) (v := ?_) (a' := ?_) #[true, false, false, false, false] rfl rfl (by kernel_rfl) (fun _ _ _ h => h) (Or.inl ⟨by rfl, ?_⟩) hHeld ?_ ?_
 rotate_left
 ·rintro w' ⟨s0, s1, s2, s3⟩
  go_simp
  with_reducible rfl
 rotate_left
 ·simp only [Act.put, List.setIfInBounds_toArray, List.set_cons_zero, List.set_cons_succ, i64_w, i32_w]
  rfl
 refine take_ (i := 1) (N := some 6) (v := ?_) (a' := ?_) #[true, true, false, false, false] rfl rfl (by kernel_rfl) (fun _ _ _ h => h) (Or.inl ⟨by rfl, ?_⟩) hHeld ?_ ?_
 rotate_left
 ·rintro w' ⟨s0, s1, s2, s3⟩
  go_simp
  with_reducible rfl
 rotate_left
 ·simp only [Act.put, List.setIfInBounds_toArray, List.set_cons_zero, List.set_cons_succ, i64_w, i32_w]
  rfl
 refine one_ (i := 2) (N := some 7) #[true, true, true, false, false] rfl rfl (by kernel_rfl) (by decide) (fun K hK => ?_)
 refine goR Tryd.func19 [.agg #[.bool a1_0, .slice A1_1 l1_1.length c1_1]] ?_
 with_reducible refine (gudgeonref02_Neg.calls k a1_0 _ _ l1_1 t672 t673 _ ?side1 ?side2 A3.out).mono ?_
 (case side1 => exact (Kd.C_below HR1_1.out HB.out))
 (case side2 => exact HC1_1.out)
 rintro e w9 ⟨v674, rfl, ho0, hb⟩
 refine ⟨_, rfl, ?_⟩
 have HO675 := Aside0.mk (Kd.R_lower ho0 (below_size HB.out))
 replace BK669 := Aside0.mk (blk_below BK669.out hb)
 replace BK670 := Aside0.mk (blk_below BK670.out hb)
 replace BK671 := Aside0.mk (blk_below BK671.out hb)
 replace HB := Aside0.mk (below_step HB.out hb)
 (try clear hb)
 (try clear hb2)
 (try clear hk)
 (try clear hi)
 (try clear ho0)
 obtain ⟨Ao10, co10, eo10⟩ := Kd.R_slice HO675.out
 subst eo10
 refine hK.out _ _ ⟨(blk_cell BK669.out 0).trans rfl, (blk_cell BK669.out 1).trans rfl, (blk_cell BK670.out 0).trans rfl, (blk_cell BK670.out 1).trans rfl⟩ (fun hHeld => ?_)
 clear hK K
 refine norm_ (a' := ?_) ?_ ?_
 rotate_left
 ·show Act.put _ (some 7) _ = _
  simp only [Act.put, List.setIfInBounds_toArray, List.set_cons_zero, List.set_cons_succ, i64_w, i32_w]
  rfl
 refine one_ (i := 3) (N := some 8) #[true, true, true, true, false] rfl rfl (by kernel_rfl) (by decide) (fun K hK => ?_)
 refine goR Tryd.func21 [.agg #[.bool a0_0, .slice A0_1 l0_1.length c0_1], .agg #[.bool t672, .slice Ao10 t673.length co10]] ?_
 with_reducible refine (gudgeonref02_Add.calls k a0_0 _ _ l0_1 t672 _ _ t673 t676 t677 _ ?side1 ?side2 ?side3 ?side4 A4.out).mono ?_
 (case side1 => exact (Kd.C_below HR0_1.out HB.out))
 (case side2 => exact HC0_1.out)
 (case side3 => exact (Kd.R_reads' HO675.out).2.2)
 (case side4 => exact (Kd.R_reads' HO675.out).2.1)
 rintro e w11 ⟨v678, rfl, ho0, hb⟩
 refine ⟨_, rfl, ?_⟩
 have HO679 := Aside0.mk (Kd.R_lower (Kd.R_new' ho0 (Kd.R_lt HO675.out)) (below_size HB.out))
 replace HO675 := Aside0.mk (Kd.R_elder' HO675.out (Kd.R_base ho0) hb)
 replace BK669 := Aside0.mk (blk_below BK669.out hb)
 replace BK670 := Aside0.mk (blk_below BK670.out hb)
 replace BK671 := Aside0.mk (blk_below BK671.out hb)
 replace HB := Aside0.mk (below_step HB.out hb)
 (try clear hb)
 (try clear hb2)
 (try clear hk)
 (try clear hi)
 (try clear ho0)
 obtain ⟨Ao13, co13, eo13⟩ := Kd.R_slice HO679.out
 subst eo13
 refine hK.out _ _ ⟨(blk_cell BK669.out 0).trans rfl, (blk_cell BK669.out 1).trans rfl, (blk_cell BK670.out 0).trans rfl, (blk_cell BK670.out 1).trans rfl⟩ (fun hHeld => ?_)
 clear hK K
 refine norm_ (a' := ?_) ?_ ?_
 rotate_left
 ·show Act.put _ (some 8) _ = _
  simp only [Act.put, List.setIfInBounds_toArray, List.set_cons_zero, List.set_cons_succ, i64_w, i32_w]
  rfl
 refine one_ (i := 4) (N := none) #[true, true, true, true, true] rfl rfl (by kernel_rfl) (by decide) (fun K hK => ?_)
 have hs12 : w11.cell? ⟨gb671, 0, none⟩ = some (.bool false) := (blk_cell BK671.out 0).trans rfl
 have hfs12 := blk_frozen BK671.out 0
 have hns12_0 := NB669_671.out
 have hns12_1 := NB670_671.out
 have hms12_0 := NB671_669.out
 have hms12_1 := NB671_670.out
 have hs14 : w11.cell? ⟨gb671, 1, none⟩ = some (.slice none 0 0) := (blk_cell BK671.out 1).trans rfl
 have hfs14 := blk_frozen BK671.out 1
 have hns14_0 := NB669_671.out
 have hns14_1 := NB670_671.out
 have hms14_0 := NB671_669.out
 have hms14_1 := NB671_670.out
 refine skip_ (w1 := ?_) (by rfl) rfl ?_ ?_
 rotate_left
 ·go_simp
  rfl
 refine hK.out _ _ ⟨((cell_far (p := ⟨gb671, _, none⟩) NB669_671.out _).trans (((cell_far (p := ⟨gb671, _, none⟩) NB669_671.out _).trans (hHeld.1)))), ((cell_far (p := ⟨gb671, _, none⟩) NB669_671.out _).trans (((cell_far (p := ⟨gb671, _, none⟩) NB669_671.out _).trans (hHeld.2.1)))), ((cell_far (p := ⟨gb671, _, none⟩) NB670_671.out _).trans (((cell_far (p := ⟨gb671, _, none⟩) NB670_671.out _).trans (hHeld.2.2.1)))), ((cell_far (p := ⟨gb671, _, none⟩) NB670_671.out _).trans (((cell_far (p := ⟨gb671, _, none⟩) NB670_671.out _).trans (hHeld.2.2.2))))⟩ (fun hHeld => ?_)
 clear hK K
 refine done_ (by kernel_rfl) ?_
 try go_wp2
 refine bodyPost_ret (results_cell_row rfl _ _ gb671 24 #[.bool t676, .slice Ao13 t677.length co13] (0, 0) _ rfl (by refine blk_put (cs := #[.bool t676, .slice none 0 0]) ?_ 1 _ rfl; refine blk_put (cs := #[.bool false, .slice none 0 0]) ?_ 0 _ rfl; exact BK671.out) Tryd.underlying24 rfl (by kernel_rfl)) rfl ?_
 exact ⟨_, by first | rfl | (simp [errW_none, errW_some] <;> rfl) | (simp [*, errW_none, errW_some] <;> rfl), by (with_reducible repeat (first | apply Kd.R_alloc | apply Kd.R_drewN | apply Kd.R_drew)); exact Kd.R_mono (Kd.R_far (p := ⟨gb671, 1, none⟩) (Kd.R_far (p := ⟨gb671, 0, none⟩) (Kd.R_types HO679.out BK671.out (by decide)) (fun _ hk => hk.2) (.bool t676)) (fun _ hk => hk.2) (.slice Ao13 t677.length co13)) (fun _ hk => trivial), by repeat (first | (with_reducible first | exact HB.out | apply below_alloc | apply pw_below_drewN | apply below_drew1 | refine below_set ?_ GE669.out | refine below_set ?_ GE670.out | refine below_set ?_ GE671.out) | exact HB.out)⟩

/-! ### whole_Mul: function 24 -/
def whole_Mul.f (k : Nat) (a0_0 : Bool) (l0_1 : List Int) (a1_0 : Bool) (l1_1 : List Int) : Option (Bool × List Int) := (nat_Mul.f k l0_1 l1_1).bind fun t683 => ((whole_made.f (a0_0 != a1_0) t683).bind fun bt686 => (some (bt686.1, bt686.2)))
def whole_Mul.T1 : Bool × List (List Nat × List Nat) := (true, [([], []), ([0], [0]), ([], []), ([2], [2]), ([1, 3], [1, 3]), ([], []), ([5], [5]), ([], []), ([7], [7]), ([6, 8], [6, 8]), ([4, 9, 9], [4, 9]), ([10, 10, 0, 1, 2, 3, 4, 5, 6, 7, 8, 9, 10], [10])])
def whole_Mul.B1 : List Nat := [0, 1, 0, 4, 15, 0, 32, 0, 128, 480, 1023, 2047]
theorem whole_Mul.tab1 : rtab .any (opsOf Tryd.f24 1) = whole_Mul.T1 := by kernel_rfl
theorem whole_Mul.bits1 : waitsOk whole_Mul.T1.2 whole_Mul.B1 = true := by kernel_rfl
set_option maxHeartbeats 8000000 in
set_option maxRecDepth 100000 in
theorem whole_Mul.calls (k : Nat) (a0_0 : Bool) (A0_1 : Option Addr) (c0_1 : Nat) (l0_1 : List Int) (a1_0 : Bool) (A1_1 : Option Addr) (c1_1 : Nat) (l1_1 : List Int) (r1 : Bool) (r2 : List Int) (w : World) (hr0_1 : Kd.C (Kd.int .u32) w A0_1 l0_1.length l0_1) (hc0_1 : l0_1.length ≤ c0_1) (hr1_1 : Kd.C (Kd.int .u32) w A1_1 l1_1.length l1_1) (hc1_1 : l1_1.length ≤ c1_1) (h : whole_Mul.f k a0_0 l0_1 a1_0 l1_1 = some (r1, r2)) :
  Calls Tryd.prog 24 #[.agg #[.bool a0_0, .slice A0_1 l0_1.length c0_1], .agg #[.bool a1_0, .slice A1_1 l1_1.length c1_1]] w fun e w' => ∃ v1_ : Value, e = .returned (.agg #[.bool r1, v1_]) ∧ Kd.R (Kd.int .u32) 51 w' w.heap.size (fun _ => True) v1_ r2 ∧ Below w.heap.size w w' := by
 have hu24 := Tryd.underlying24
 have HR0_1 := Aside0.mk hr0_1
 have HC0_1 := Aside0.mk hc0_1
 clear hr0_1 hc0_1
 have HR1_1 := Aside0.mk hr1_1
 have HC1_1 := Aside0.mk hc1_1
 clear hr1_1 hc1_1
 have HB := Aside0.mk (Below.refl w.heap.size w)
 have H : ((nat_Mul.f k l0_1 l1_1).bind fun t683 => ((whole_made.f (a0_0 != a1_0) t683).bind fun bt686 => (some (bt686.1, bt686.2)))) = some (r1, r2) := h
 clear h
 replace H := Option.bind_eq_some_iff.mp H
 obtain ⟨t683, A30, H⟩ := H
 replace H : ((whole_made.f (a0_0 != a1_0) t683).bind fun bt686 => (some (bt686.1, bt686.2))) = some (r1, r2) := H
 have A3 := Aside0.mk A30
 clear A30
 replace H := Option.bind_eq_some_iff.mp H
 obtain ⟨⟨t686, t687⟩, A40, H⟩ := H
 replace H : (some (t686, t687)) = some (r1, r2) := H
 have A4 := Aside0.mk A40
 clear A40
 simp only [Option.some.injEq, Prod.mk.injEq] at H
 obtain ⟨rfl, rfl⟩ := H
 go_enter Tryd.func24, Tryd.ntmps24
 try go_wp2_with (first | ((with_reducible refine gate_dst (N := 2) rfl ?_); refine box_event ?hg (N := 2) ?hd (cs := #[.bool a0_0, .slice A0_1 l0_1.length c0_1]) (t := 24) ?hr ?_; (case hd => rfl); (case hg => rfl); (case hr => first | (go_simp; done) | (go_simp; rfl)); intro gb680 hg w5 hbox hb; have BK680 := Aside0.mk (hbox); have GW680 := Aside0.mk (bxLe HB.out hg); have GE680 := GW680; replace HB := Aside0.mk (below_step HB.out hb); clear hb hbox hg) | ((with_reducible refine gate_dst (N := 3) rfl ?_); refine box_event ?hg (N := 3) ?hd (cs := #[.bool a1_0, .slice A1_1 l1_1.length c1_1]) (t := 24) ?hr ?_; (case hd => rfl); (case hg => rfl); (case hr => first | (go_simp; done) | (go_simp; rfl)); intro gb681 hg w6 hbox hb; have BK681 := Aside0.mk (hbox); have GW681 := Aside0.mk (bxLe HB.out hg); have GE681 := GW681; replace HB := Aside0.mk (below_step HB.out hb); have NB680_681 := Aside0.mk (neL BK680.out hg); have NB681_680 := Aside0.mk (neR BK680.out hg); replace BK680 := Aside0.mk (blk_below BK680.out hb); clear hb hbox hg) | ((with_reducible refine gate_dst (N := 4) rfl ?_); refine box_event ?hg (N := 4) ?hd (cs := #[.bool false, .slice none 0 0]) (t := 24) ?hr ?_; (case hd => rfl); (case hg => rfl); (case hr => first | (go_simp; done) | (go_simp; rfl)); intro gb682 hg w7 hbox hb; have BK682 := Aside0.mk (hbox); have GW682 := Aside0.mk (bxLe HB.out hg); have GE682 := GW682; replace HB := Aside0.mk (below_step HB.out hb); have NB680_682 := Aside0.mk (neL BK680.out hg); have NB682_680 := Aside0.mk (neR BK680.out hg); replace BK680 := Aside0.mk (blk_below BK680.out hb); have NB681_682 := Aside0.mk (neL BK681.out hg); have NB682_681 := Aside0.mk (neR BK681.out hg); replace BK681 := Aside0.mk (blk_below BK681.out hb); clear hb hbox hg))
 replace BK680 := Aside0.mk (blk_drew BK680.out)
 replace BK681 := Aside0.mk (blk_drew BK681.out)
 replace BK682 := Aside0.mk (blk_drew BK682.out)
 replace HB := Aside0.mk (below_drew1 HB.out)
 refine start_ (n := 12) (S := fun w' => w'.cell? ⟨gb680, 0, none⟩ = some (.bool a0_0) ∧ w'.cell? ⟨gb680, 1, none⟩ = some (.slice A0_1 l0_1.length c0_1) ∧ w'.cell? ⟨gb681, 0, none⟩ = some (.bool a1_0) ∧ w'.cell? ⟨gb681, 1, none⟩ = some (.slice A1_1 l1_1.length c1_1)) (ds := []) #[false, false, false, false, false, false, false, false, false, false, false, false] (by kernel_rfl) rfl rfl ⟨(blk_cell BK680.out 0).trans rfl, (blk_cell BK680.out 1).trans rfl, (blk_cell BK681.out 0).trans rfl, (blk_cell BK681.out 1).trans rfl⟩ (fun hHeld => ?_); refine with_tabW whole_Mul.tab1 whole_Mul.bits1 (fun HT_ HW_ => ?_)
 generalize w7.drew = w8 at BK680 BK681 BK682 HB hHeld ⊢
 refine pure_ (i := 0) (N := some 5) (v := ?_) (a' := ?_) #[true, false, false, false, false, false, false, false, false, false, false, false] rfl rfl (any_of HT_.out (by kernel_rfl)) (fun _ _ _ h => h) (Or.inl ⟨by rfl, ?_⟩) ?_ ?_
 rotate_left
 ·intro w'
  go_simp
  with_reducible rfl
 rotate_left
 ·simp only [Act.put, List.setIfInBounds_toArray, List.set_cons_zero, List.set_cons_succ, i64_w, i32_w]
  rfl
 refine pure_ (i := 2) (N := some 7) (v := ?_) (a' := ?_) #[true, false, true, false, false, false, false, false, false, false, false, false] rfl rfl (any_of HT_.out (by kernel_rfl)) (fun _ _ _ h => h) (Or.inl ⟨by rfl, ?_⟩) ?_ ?_
 rotate_left
 ·intro w'
  go_simp
  with_reducible rfl
 rotate_left
 ·simp only [Act.put, List.setIfInBounds_toArray, List.set_cons_zero, List.set_cons_succ, i64_w, i32_w]
  rfl
 refine pure_ (i := 5) (N := some 10) (v := ?_) (a' := ?_) #[true, false, true, false, false, true, false, false, false, false, false, false] rfl rfl (any_of HT_.out (by kernel_rfl)) (fun _ _ _ h => h) (Or.inl ⟨by rfl, ?_⟩) ?_ ?_
 rotate_left
 ·intro w'
  go_simp
  with_reducible rfl
 rotate_left
 ·simp only [Act.put, List.setIfInBounds_toArray, List.set_cons_zero, List.set_cons_succ, i64_w, i32_w]
  rfl
 refine pure_ (i := 7) (N := some 12) (v := ?_) (a' := ?_) #[true, false, true, false, false, true, false, true, false, false, false, false] rfl rfl (any_of HT_.out (by kernel_rfl)) (fun _ _ _ h => h) (Or.inl ⟨by rfl, ?_⟩) ?_ ?_
 rotate_left
 ·intro w'
  go_simp
  with_reducible rfl
 rotate_left
 ·simp only [Act.put, List.setIfInBounds_toArray, List.set_cons_zero, List.set_cons_succ, i64_w, i32_w]
  rfl
 refine take_ (i := 1) (N := some 6) (v := ?_) (a' := ?_) #[true, true, true, false, false, true, false, true, false, false, false, false] rfl rfl (take_ofW HT_.out HW_.out (by kernel_rfl)) (fun _ _ _ h => h) (Or.inl ⟨by rfl, ?_⟩) hHeld ?_ ?_
 rotate_left
 ·rintro w' ⟨s0, s1, s2, s3⟩
  go_simp
  with_reducible rfl
 rotate_left
 ·simp only [Act.put, List.setIfInBounds_toArray, List.set_cons_zero, List.set_cons_succ, i64_w, i32_w]
  rfl
 refine take_ (i := 3) (N := some 8) (v := ?_) (a' := ?_) #[true, true, true, true, false, true, false, true, false, false, false, false] rfl rfl (take_ofW HT_.out HW_.out (by kernel_rfl)) (fun _ _ _ h => h) (Or.inl ⟨by rfl, ?_⟩) hHeld ?_ ?_
 rotate_left
 ·rintro w' ⟨s0, s1, s2, s3⟩
  go_simp
  with_reducible rfl
 rotate_left
 ·simp only [Act.put, List.setIfInBounds_toArray, List.set_cons_zero, List.set_cons_succ, i64_w, i32_w]
  rfl
 refine pure_ (i := 4) (N := some 9) (v := ?_) (a' := ?_) #[true, true, true, true, true, true, false, true, false, false, false, false] rfl rfl (any_of HT_.out (by kernel_rfl)) (fun _ _ _ h => h) (Or.inl ⟨by rfl, ?_⟩) ?_ ?_
 rotate_left
 ·intro w'
  go_simp
  with_reducible rfl
 rotate_left
 ·simp only [Act.put, List.setIfInBounds_toArray, List.set_cons_zero, List.set_cons_succ, i64_w, i32_w]
  rfl
 refine take_ (i := 6) (N := some 11) (v := ?_) (a' := ?_) #[true, true, true, true, true, true, true, true, false, false, false, false] rfl rfl (take_ofW HT_.out HW_.out (by kernel_rfl)) (fun _ _ _ h => h) (Or.inl ⟨by rfl, ?_⟩) hHeld ?_ ?_
 rotate_left
 ·rintro w' ⟨s0, s1, s2, s3⟩
  go_simp
  with_reducible rfl
 rotate_left
 ·simp only [Act.put, List.setIfInBounds_toArray, List.set_cons_zero, List.set_cons_succ, i64_w, i32_w]
  rfl
 refine take_ (i := 8) (N := some 13) (v := ?_) (a' := ?_) #[true, true, true, true, true, true, true, true, true, false, false, false] rfl rfl (take_ofW HT_.out HW_.out (by kernel_rfl)) (fun _ _ _ h => h) (Or.inl ⟨by rfl, ?_⟩) hHeld ?_ ?_
 rotate_left
 ·rintro w' ⟨s0, s1, s2, s3⟩
  go_simp
  with_reducible rfl
 rotate_left
 ·simp only [Act.put, List.setIfInBounds_toArray, List.set_cons_zero, List.set_cons_succ, i64_w, i32_w]
  rfl
 refine one_ (i := 9) (N := some 14) #[true, true, true, true, true, true, true, true, true, true, false, false] rfl rfl (one_of HT_.out (by kernel_rfl)) (by decide) (fun K hK => ?_)
 refine goR Tryd.func49 [.slice A0_1 l0_1.length c0_1, .slice A1_1 l1_1.length c1_1] ?_
 with_reducible refine (nat_Mul.calls k _ _ l0_1 _ _ l1_1 t683 _ ?side1 ?side2 ?side3 ?side4 A3.out).mono ?_
 (case side1 => exact (Kd.C_below HR0_1.out HB.out))
 (case side2 => exact HC0_1.out)
 (case side3 => exact (Kd.C_below HR1_1.out HB.out))
 (case side4 => exact HC1_1.out)
 rintro e w9 ⟨v684, rfl, ho0, hb⟩
 refine ⟨_, rfl, ?_⟩
 have HO685 := Aside0.mk (Kd.R_lower ho0 (below_size HB.out))
 replace BK680 := Aside0.mk (blk_below BK680.out hb)
 replace BK681 := Aside0.mk (blk_below BK681.out hb)
 replace BK682 := Aside0.mk (blk_below BK682.out hb)
 replace HB := Aside0.mk (below_step HB.out hb)
 (try clear hb)
 (try clear hb2)
 (try clear hk)
 (try clear hi)
 (try clear ho0)
 obtain ⟨Ao10, co10, eo10⟩ := Kd.R_slice HO685.out
 subst eo10
 refine hK.out _ _ ⟨(blk_cell BK680.out 0).trans rfl, (blk_cell BK680.out 1).trans rfl, (blk_cell BK681.out 0).trans rfl, (blk_cell BK681.out 1).trans rfl⟩ (fun hHeld => ?_)
 clear hK K
 refine norm_ (a' := ?_) ?_ ?_
 rotate_left
 ·show Act.put _ (some 14) _ = _
  simp only [Act.put, List.setIfInBounds_toArray, List.set_cons_zero, List.set_cons_succ, i64_w, i32_w]
  rfl
 refine one_ (i := 10) (N := some 15) #[true, true, true, true, true, true, true, true, true, true, true, false] rfl rfl (one_of HT_.out (by kernel_rfl)) (by decide) (fun K hK => ?_)
 refine goR Tryd.func40 [.bool (a0_0 != a1_0), .slice Ao10 t683.length co10] ?_
 with_reducible refine (whole_made.calls (a0_0 != a1_0) _ _ t683 t686 t687 _ ?side1 ?side2 A4.out).mono ?_
 (case side1 => exact (Kd.R_reads' HO685.out).2.2)
 (case side2 => exact (Kd.R_reads' HO685.out).2.1)
 rintro e w11 ⟨v688, rfl, ho0, hb⟩
 refine ⟨_, rfl, ?_⟩
 have HO689 := Aside0.mk (Kd.R_lower (Kd.R_new' ho0 (Kd.R_lt HO685.out)) (below_size HB.out))
 replace HO685 := Aside0.mk (Kd.R_elder' HO685.out (Kd.R_base ho0) hb)
 replace BK680 := Aside0.mk (blk_below BK680.out hb)
 replace BK681 := Aside0.mk (blk_below BK681.out hb)
 replace BK682 := Aside0.mk (blk_below BK682.out hb)
 replace HB := Aside0.mk (below_step HB.out hb)
 (try clear hb)
 (try clear hb2)
 (try clear hk)
 (try clear hi)
 (try clear ho0)
 obtain ⟨Ao13, co13, eo13⟩ := Kd.R_slice HO689.out
 subst eo13
 refine hK.out _ _ ⟨(blk_cell BK680.out 0).trans rfl, (blk_cell BK680.out 1).trans rfl, (blk_cell BK681.out 0).trans rfl, (blk_cell BK681.out 1).trans rfl⟩ (fun hHeld => ?_)
 clear hK K
 refine norm_ (a' := ?_) ?_ ?_
 rotate_left
 ·show Act.put _ (some 15) _ = _
  simp only [Act.put, List.setIfInBounds_toArray, List.set_cons_zero, List.set_cons_succ, i64_w, i32_w]
  rfl
 refine one_ (i := 11) (N := none) #[true, true, true, true, true, true, true, true, true, true, true, true] rfl rfl (one_of HT_.out (by kernel_rfl)) (by decide) (fun K hK => ?_)
 have hs12 : w11.cell? ⟨gb682, 0, none⟩ = some (.bool false) := (blk_cell BK682.out 0).trans rfl
 have hfs12 := blk_frozen BK682.out 0
 have hns12_0 := NB680_682.out
 have hns12_1 := NB681_682.out
 have hms12_0 := NB682_680.out
 have hms12_1 := NB682_681.out
 have hs14 : w11.cell? ⟨gb682, 1, none⟩ = some (.slice none 0 0) := (blk_cell BK682.out 1).trans rfl
 have hfs14 := blk_frozen BK682.out 1
 have hns14_0 := NB680_682.out
 have hns14_1 := NB681_682.out
 have hms14_0 := NB682_680.out
 have hms14_1 := NB682_681.out
 refine skip_ (w1 := ?_) (by rfl) rfl ?_ ?_
 rotate_left
 ·go_simp
  rfl
 refine hK.out _ _ ⟨((cell_far (p := ⟨gb682, _, none⟩) NB680_682.out _).trans (((cell_far (p := ⟨gb682, _, none⟩) NB680_682.out _).trans (hHeld.1)))), ((cell_far (p := ⟨gb682, _, none⟩) NB680_682.out _).trans (((cell_far (p := ⟨gb682, _, none⟩) NB680_682.out _).trans (hHeld.2.1)))), ((cell_far (p := ⟨gb682, _, none⟩) NB681_682.out _).trans (((cell_far (p := ⟨gb682, _, none⟩) NB681_682.out _).trans (hHeld.2.2.1)))), ((cell_far (p := ⟨gb682, _, none⟩) NB681_682.out _).trans (((cell_far (p := ⟨gb682, _, none⟩) NB681_682.out _).trans (hHeld.2.2.2))))⟩ (fun hHeld => ?_)
 clear hK K
 refine done_ (done_of HT_.out (by kernel_rfl)) ?_
 try go_wp2
 refine bodyPost_ret (results_cell_row rfl _ _ gb682 24 #[.bool t686, .slice Ao13 t687.length co13] (0, 0) _ rfl (by refine blk_put (cs := #[.bool t686, .slice none 0 0]) ?_ 1 _ rfl; refine blk_put (cs := #[.bool false, .slice none 0 0]) ?_ 0 _ rfl; exact BK682.out) Tryd.underlying24 rfl (by kernel_rfl)) rfl ?_
 exact ⟨_, by first | rfl | (simp [errW_none, errW_some] <;> rfl) | (simp [*, errW_none, errW_some] <;> rfl), by (with_reducible repeat (first | apply Kd.R_alloc | apply Kd.R_drewN | apply Kd.R_drew)); exact Kd.R_mono (Kd.R_far (p := ⟨gb682, 1, none⟩) (Kd.R_far (p := ⟨gb682, 0, none⟩) (Kd.R_types HO689.out BK682.out (by decide)) (fun _ hk => hk.2) (.bool t686)) (fun _ hk => hk.2) (.slice Ao13 t687.length co13)) (fun _ hk => trivial), by repeat (first | (with_reducible first | exact HB.out | apply below_alloc | apply pw_below_drewN | apply below_drew1 | refine below_set ?_ GE680.out | refine below_set ?_ GE681.out | refine below_set ?_ GE682.out) | exact HB.out)⟩

end Go.Proofs.YthnfmmaolkenkaaDoor.PA
/- Written by a program of this session, wip/tools/patch_print.py, over the kit's print of the loaded functions. -/
namespace Go.Proofs.YthnfmmaolkenkaaDoor.H
end Go.Proofs.YthnfmmaolkenkaaDoor.H
namespace Go.Proofs.YthnfmmaolkenkaaDoor.PA
open Go.RowKit Go.Proofs.YthnfmmaolkenkaaDoorW.PrintWords Go.Proofs.YthnfmmaolkenkaaDoorW.PrintLast Go.Proofs.YthnfmmaolkenkaaDoorW.PrintMore Go.Proofs.YthnfmmaolkenkaaDoor.H
attribute [local go_sem] max2_int min2_int max_two min_two max_three min_three max_four min_four   -- for this text's walks alone
attribute [local go_sem] box_twice
set_option linter.unusedVariables false
set_option linter.unusedSimpArgs false

/-! ### gudgeonref01_mul: function 74 -/
def gudgeonref01_mul.l0 : Nat → List Bool → List Bool → List Bool → Int → Option (List Bool)
 | 0, _, _, _, _ => none
 | k + 1, x0, x1, x5, x6 => if x6 ≥ 0 then ((some (([false] : List Bool) : List Bool)).bind fun y690 => (if y690.length + x5.length < 140737488355328 then ((some (y690 ++ x5 : List Bool)).bind fun y693 => (if 0 ≤ x6 then (if x6 < (x0.length : Int) then (if rdOf false x0 x6 = true then ((gudgeonref01_add.f k y693 x1).bind fun t697 => (gudgeonref01_mul.l0 k x0 x1 t697 (wrap64 (x6 - 1)))) else (gudgeonref01_mul.l0 k x0 x1 y693 (wrap64 (x6 - 1)))) else (none)) else (none))) else (none))) else ((gudgeonref01_trim.f k x5).bind fun t700 => (some t700))
def gudgeonref01_mul.f (k : Nat) (l0 : List Bool) (l1 : List Bool) : Option (List Bool) := gudgeonref01_mul.l0 k l0 l1 ([] : List Bool) (wrap64 ((l0.length : Int) - 1))
set_option maxHeartbeats 8000000 in
set_option maxRecDepth 100000 in
theorem gudgeonref01_mul.calls (k : Nat) (A0 : Option Addr) (c0 : Nat) (l0 : List Bool) (A1 : Option Addr) (c1 : Nat) (l1 : List Bool) (r : List Bool) (w : World) (hr0 : Kd.C Kd.bool w A0 l0.length l0) (hc0 : l0.length ≤ c0) (hr1 : Kd.C Kd.bool w A1 l1.length l1) (hc1 : l1.length ≤ c1) (h : gudgeonref01_mul.f k l0 l1 = some r) :
  Calls Tryd.prog 74 #[.slice A0 l0.length c0, .slice A1 l1.length c1] w fun e w' => ∃ v0_ : Value, e = .returned (v0_) ∧ Kd.R Kd.bool 4 w' w.heap.size (fun _ => True) v0_ r ∧ Below w.heap.size w w' := by
 have HR0 := Aside0.mk hr0
 have HC0 := Aside0.mk hc0
 clear hr0 hc0
 have HR1 := Aside0.mk hr1
 have HC1 := Aside0.mk hc1
 clear hr1 hc1
 have HB := Aside0.mk (Below.refl w.heap.size w)
 have H : (gudgeonref01_mul.l0 k l0 l1 ([] : List Bool) (wrap64 ((l0.length : Int) - 1))) = some r := h
 clear h
 have H' := Aside0.mk H
 clear H
 go_enter Tryd.func74, Tryd.ntmps74
 go_wp2
 go_loopg [5, 6] k (fun kq v5 v6 w' => ∃ (x5_1 : List Bool) (x6_1 : Int), v6 = .int .i64 x6_1 ∧ Aside0 (gudgeonref01_mul.l0 kq l0 l1 x5_1 x6_1 = some r) ∧ Aside0 (kq ≤ k) ∧ Aside0 (Kd.R Kd.bool 4 w' w.heap.size (fun _ => True) v5 x5_1) ∧ Aside0 (Below w.heap.size w w'))
 case atStart => exact ⟨(([] : List Bool)), (wrap64 ((l0.length : Int) - 1)), (by first | rfl | (simp; done) | (simp [*]; done) | (refine congrArg (Value.int _) ?_; omega) | (refine congrArg Value.bool ?_; generalize ByteArray.toList _ = z_; cases z_ <;> rfl)), H', ⟨Nat.le_refl _⟩, ⟨by first | exact Kd.R_nil _ _ _ _ _ | exact Kd.N_nil _ _ _ _ _ | exact Kd.V_nil _ _ _ _ _ | exact Kd.Q_nil _ _ _ _ _ | exact Kd.S_nil _ _ _ _ _⟩, ⟨by repeat (first | (with_reducible first | exact HB.out | apply below_alloc | apply pw_below_drewN | apply below_drew1) | exact HB.out)⟩⟩
 case round =>
  clear H'
  try clear c1
  try clear p2
  obtain ⟨x5_1, x6_1, rfl, HA, HK1, HO_5, HB⟩ := hrel
  cases gk with
  | zero => exact absurd HA.out (by simp [gudgeonref01_mul.l0])
  | succ k1 =>
   have H := HA.out
   clear HA
   simp only [gudgeonref01_mul.l0] at H
   by_cases c3 : x6_1 ≥ 0
   ·rw [if_pos c3] at H
    have c3b0 : decide (0 ≤ x6_1) = true := decide_eq_true c3
    clear c3
    obtain ⟨y690, hy690⟩ : ∃ y_ : List Bool, y_ = (([false] : List Bool)) := ⟨_, rfl⟩
    replace H : (if y690.length + x5_1.length < 140737488355328 then ((some (y690 ++ x5_1 : List Bool)).bind fun y693 => (if 0 ≤ x6_1 then (if x6_1 < (l0.length : Int) then (if rdOf false l0 x6_1 = true then ((gudgeonref01_add.f k1 y693 l1).bind fun t697 => (gudgeonref01_mul.l0 k1 l0 l1 t697 (wrap64 (x6_1 - 1)))) else (gudgeonref01_mul.l0 k1 l0 l1 y693 (wrap64 (x6_1 - 1)))) else (none)) else (none))) else (none)) = some r := by first | (rw [hy690]; with_reducible exact H) | (have H2_ := (Option.bind_some _ _).symm.trans H; rw [hy690]; with_reducible exact H2_) | (have H2_ := (Option.bind_some _ _).symm.trans H; with_reducible exact H2_) | with_reducible exact H | (rw [hy690]; exact H) | exact H
    have Ny690 := Aside0.mk hy690
    clear hy690
    by_cases c4 : y690.length + x5_1.length < 140737488355328
    ·rw [if_pos c4] at H
     have LMc4 := Aside0.mk c4
     clear c4
     obtain ⟨y693, hy693⟩ : ∃ y_ : List Bool, y_ = (y690 ++ x5_1) := ⟨_, rfl⟩
     replace H : (if 0 ≤ x6_1 then (if x6_1 < (l0.length : Int) then (if rdOf false l0 x6_1 = true then ((gudgeonref01_add.f k1 y693 l1).bind fun t697 => (gudgeonref01_mul.l0 k1 l0 l1 t697 (wrap64 (x6_1 - 1)))) else (gudgeonref01_mul.l0 k1 l0 l1 y693 (wrap64 (x6_1 - 1)))) else (none)) else (none)) = some r := by first | (rw [hy693]; with_reducible exact H) | (have H2_ := (Option.bind_some _ _).symm.trans H; rw [hy693]; with_reducible exact H2_) | (have H2_ := (Option.bind_some _ _).symm.trans H; with_reducible exact H2_) | with_reducible exact H | (rw [hy693]; exact H) | exact H
     have Ny693 := Aside0.mk hy693
     clear hy693
     by_cases c5 : 0 ≤ x6_1
     ·rw [if_pos c5] at H
      have c5b0 : decide (0 ≤ x6_1) = true := decide_eq_true c5
      clear c5
      by_cases c6 : x6_1 < (l0.length : Int)
      ·rw [if_pos c6] at H
       have c6b0 : decide (x6_1 < (l0.length : Int)) = true := decide_eq_true c6
       clear c6
       obtain ⟨bq7, hbq7⟩ : ∃ b_ : Bool, b_ = (rdOf false l0 x6_1) := ⟨_, rfl⟩
       replace H : (if bq7 = true then ((gudgeonref01_add.f k1 y693 l1).bind fun t697 => (gudgeonref01_mul.l0 k1 l0 l1 t697 (wrap64 (x6_1 - 1)))) else (gudgeonref01_mul.l0 k1 l0 l1 y693 (wrap64 (x6_1 - 1)))) = some r := by rw [← hbq7] at H; exact H
       have Nbq7 := Aside0.mk hbq7
       clear hbq7
       by_cases c8 : bq7 = true
       ·subst c8
        have H1 : ((gudgeonref01_add.f k1 y693 l1).bind fun t697 => (gudgeonref01_mul.l0 k1 l0 l1 t697 (wrap64 (x6_1 - 1)))) = some r := by rw [if_pos rfl] at H; exact H
        clear H
        have H := H1
        clear H1
        replace H := Option.bind_eq_some_iff.mp H
        obtain ⟨t697, A90, H⟩ := H
        replace H : (gudgeonref01_mul.l0 k1 l0 l1 t697 (wrap64 (x6_1 - 1))) = some r := H
        have A9 := Aside0.mk A90
        clear A90
        have H' := Aside0.mk H
        clear H
        go_wp2_with (first | ((with_reducible refine gate_dst (N := 14) rfl ?_); refine Kd.R_lit Kd.bool _ 4 ?hg (N := 14) ?hd (xs := ([false] : List Bool)) (inner := [.bool false]) (ok := fun _ => True) (okp := fun _ => True) ?hr ?hp (fun _ hk => hk) trivial (Below.refl _ _) (Nat.le_refl _) (by simp) ?_; (case hd => rfl); (case hg => rfl); (case hr => first | (go_simp; done) | (go_simp; rfl)); (case hp => exact (Reps.one (show Kd.M Kd.bool _ _ _ false [.bool false] from rfl) (Reps.none _ _))); intro v691 w10 ho11 hb hg_ hnew_; clear hg_ hnew_; (first | rw [← Ny690.out] at ho11 | (simp only [Int.reduceToNat] at ho11; rw [← Ny690.out] at ho11)); have HO692 := Aside0.mk (Kd.R_lower (Kd.R_new' ho11 (Kd.R_lt HO_5.out)) (below_size HB.out)); replace HO_5 := Aside0.mk (Kd.R_elder' HO_5.out (Kd.R_base ho11) hb); replace HB := Aside0.mk (below_step HB.out hb); clear hb ho11; obtain ⟨Ao13, co13, eo13⟩ := Kd.R_slice HO_5.out; subst eo13) | ((with_reducible refine gate_builtin (b := .append) (xs := #[.tmp 14, .tmp 15]) rfl ?_); at_builtin; refine Kd.R_append_rows Kd.bool (w0 := w) w.heap.size rfl (.tmp 14) (.tmp 15) 69 4 (.bool false) 1 rfl Tryd.underlying69 info4 rfl (by decide) (by omega) v691 y690 x5_1 _ _ _ (fun k_ => some k_ ≠ (.slice Ao13 x5_1.length co13 : Value).ownBlock) (fun _ => False) rfl rfl ?aO ?aR (fun _ _ h => h) (fun _ h => h.elim) ?aF ?aB ?aS ?aL ?_; (case aR => repeat (first | exact (Kd.R_reads' HO_5.out).2.2 | (with_reducible refine Kd.C_alloc ?_ _) | (with_reducible refine Kd.C_drewN ?_ _) | (with_reducible refine Kd.C_drew ?_))); (case aB => exact HB.out); (case aF => exact (fun k_ hk => Kd.fresh' (Kd.R_lt HO_5.out) k_ hk)); (case aO => exact (Kd.R_mono HO692.out (fun _ hk => hk.2))); (case aS => exact (below_size HB.out)); (case aL => have := LMc4.out; omega); intro v694 w12 ho hb hg hat; rw [← Ny693.out] at ho; have n0_ := Aside0.mk (Kd.R_after (ok := (fun _ => True)) HO_5.out hg hat); have n1_ := Aside0.mk (hb); have n2_ := Aside0.mk (ho); clear HO_5; clear HB; clear HO692; have HO_5 := n0_; have HB := n1_; have HO695 := n2_; clear n0_ n1_ n2_; clear ho hb hg hat; have p696 : 0 ≤ (x6_1 : Int) := of_decide_eq_true (by first | (with_reducible assumption) | assumption); have q696 : x6_1 < (l0.length : Int) := of_decide_eq_true (by first | (with_reducible assumption) | assumption); obtain ⟨ad696, e696, hx696_0⟩ := Kd.at_bool HR0.out x6_1 p696 q696; (try rw [← Nbq7.out] at hx696_0); cases e696; replace hx696_0 := (HB.out.cell (World.block_lt_of_cell? w _ hx696_0)).trans hx696_0; replace p696 := eq_true p696; replace q696 := eq_true q696; obtain ⟨Ao14, co14, eo14⟩ := Kd.R_slice HO695.out; subst eo14) | ((with_reducible refine gate_callee (f := 70) rfl ?_); refine goL (some 23) Tryd.func70 [.slice Ao14 y693.length co14, .slice A1 l1.length c1] ?_; (with_reducible refine (gudgeonref01_add.calls k1 _ _ y693 _ _ l1 t697 _ ?side1 ?side2 ?side3 ?side4 A9.out).mono ?_); (case side1 => exact (Kd.R_reads' HO695.out).2.2); (case side2 => exact (Kd.R_reads' HO695.out).2.1); (case side3 => exact (Kd.C_below HR1.out HB.out)); (case side4 => exact HC1.out); rintro e w15 ⟨v698, rfl, ho0, hb⟩; refine ⟨_, rfl, ?_⟩; have HO699 := Aside0.mk (Kd.R_lower (Kd.R_new' (Kd.R_new' ho0 (Kd.R_lt HO_5.out)) (Kd.R_lt HO695.out)) (below_size HB.out)); replace HO_5 := Aside0.mk (Kd.R_elder' HO_5.out (Kd.R_base ho0) hb); replace HO695 := Aside0.mk (Kd.R_elder' HO695.out (Kd.R_base ho0) hb); replace HB := Aside0.mk (below_step HB.out hb)))
        go_roundg k1
        case measure => have := HK1.out; omega
        case rel => exact ⟨(t697), (wrap64 (x6_1 - 1)), (by first | rfl | (simp; done) | (simp [*]; done) | (refine congrArg (Value.int _) ?_; omega) | (refine congrArg Value.bool ?_; generalize ByteArray.toList _ = z_; cases z_ <;> rfl)), H', ⟨by have := HK1.out; omega⟩, ⟨by (with_reducible repeat (first | apply Kd.R_alloc | apply Kd.R_drewN | apply Kd.R_drew)); exact Kd.R_mono HO699.out (fun _ hk => trivial)⟩, ⟨by repeat (first | (with_reducible first | exact HB.out | apply below_alloc | apply pw_below_drewN | apply below_drew1) | exact HB.out)⟩⟩
       ·replace c8 := Bool.eq_false_iff.mpr c8
        subst c8
        have H1 : (gudgeonref01_mul.l0 k1 l0 l1 y693 (wrap64 (x6_1 - 1))) = some r := by rw [if_neg (show ¬ (false = true) by decide)] at H; exact H
        clear H
        have H := H1
        clear H1
        have H' := Aside0.mk H
        clear H
        go_wp2_with (first | ((with_reducible refine gate_dst (N := 14) rfl ?_); refine Kd.R_lit Kd.bool _ 4 ?hg (N := 14) ?hd (xs := ([false] : List Bool)) (inner := [.bool false]) (ok := fun _ => True) (okp := fun _ => True) ?hr ?hp (fun _ hk => hk) trivial (Below.refl _ _) (Nat.le_refl _) (by simp) ?_; (case hd => rfl); (case hg => rfl); (case hr => first | (go_simp; done) | (go_simp; rfl)); (case hp => exact (Reps.one (show Kd.M Kd.bool _ _ _ false [.bool false] from rfl) (Reps.none _ _))); intro v691 w16 ho17 hb hg_ hnew_; clear hg_ hnew_; (first | rw [← Ny690.out] at ho17 | (simp only [Int.reduceToNat] at ho17; rw [← Ny690.out] at ho17)); have HO692 := Aside0.mk (Kd.R_lower (Kd.R_new' ho17 (Kd.R_lt HO_5.out)) (below_size HB.out)); replace HO_5 := Aside0.mk (Kd.R_elder' HO_5.out (Kd.R_base ho17) hb); replace HB := Aside0.mk (below_step HB.out hb); clear hb ho17; obtain ⟨Ao19, co19, eo19⟩ := Kd.R_slice HO_5.out; subst eo19) | ((with_reducible refine gate_builtin (b := .append) (xs := #[.tmp 14, .tmp 15]) rfl ?_); at_builtin; refine Kd.R_append_rows Kd.bool (w0 := w) w.heap.size rfl (.tmp 14) (.tmp 15) 69 4 (.bool false) 1 rfl Tryd.underlying69 info4 rfl (by decide) (by omega) v691 y690 x5_1 _ _ _ (fun k_ => some k_ ≠ (.slice Ao19 x5_1.length co19 : Value).ownBlock) (fun _ => False) rfl rfl ?aO ?aR (fun _ _ h => h) (fun _ h => h.elim) ?aF ?aB ?aS ?aL ?_; (case aR => repeat (first | exact (Kd.R_reads' HO_5.out).2.2 | (with_reducible refine Kd.C_alloc ?_ _) | (with_reducible refine Kd.C_drewN ?_ _) | (with_reducible refine Kd.C_drew ?_))); (case aB => exact HB.out); (case aF => exact (fun k_ hk => Kd.fresh' (Kd.R_lt HO_5.out) k_ hk)); (case aO => exact (Kd.R_mono HO692.out (fun _ hk => hk.2))); (case aS => exact (below_size HB.out)); (case aL => have := LMc4.out; omega); intro v694 w18 ho hb hg hat; rw [← Ny693.out] at ho; have n0_ := Aside0.mk (Kd.R_after (ok := (fun _ => True)) HO_5.out hg hat); have n1_ := Aside0.mk (hb); have n2_ := Aside0.mk (ho); clear HO_5; clear HB; clear HO692; have HO_5 := n0_; have HB := n1_; have HO695 := n2_; clear n0_ n1_ n2_; clear ho hb hg hat; have p696 : 0 ≤ (x6_1 : Int) := of_decide_eq_true (by first | (with_reducible assumption) | assumption); have q696 : x6_1 < (l0.length : Int) := of_decide_eq_true (by first | (with_reducible assumption) | assumption); obtain ⟨ad696, e696, hx696_0⟩ := Kd.at_bool HR0.out x6_1 p696 q696; (try rw [← Nbq7.out] at hx696_0); cases e696; replace hx696_0 := (HB.out.cell (World.block_lt_of_cell? w _ hx696_0)).trans hx696_0; replace p696 := eq_true p696; replace q696 := eq_true q696))
        go_roundg k1
        case measure => have := HK1.out; omega
        case rel => exact ⟨(y693), (wrap64 (x6_1 - 1)), (by first | rfl | (simp; done) | (simp [*]; done) | (refine congrArg (Value.int _) ?_; omega) | (refine congrArg Value.bool ?_; generalize ByteArray.toList _ = z_; cases z_ <;> rfl)), H', ⟨by have := HK1.out; omega⟩, ⟨by (with_reducible repeat (first | apply Kd.R_alloc | apply Kd.R_drewN | apply Kd.R_drew)); exact Kd.R_mono HO695.out (fun _ hk => trivial)⟩, ⟨by repeat (first | (with_reducible first | exact HB.out | apply below_alloc | apply pw_below_drewN | apply below_drew1) | exact HB.out)⟩⟩
      ·rw [if_neg c6] at H
       exact absurd H (by simp)
     ·rw [if_neg c5] at H
      exact absurd H (by simp)
    ·rw [if_neg c4] at H
     exact absurd H (by simp)
   ·rw [if_neg c3] at H
    have c3b0 : decide (0 ≤ x6_1) = false := decide_eq_false c3
    clear c3
    replace H := Option.bind_eq_some_iff.mp H
    obtain ⟨t700, A200, H⟩ := H
    replace H : (some t700) = some r := H
    have A20 := Aside0.mk A200
    clear A200
    obtain rfl := Option.some.inj H
    obtain ⟨Ao21, co21, eo21⟩ := Kd.R_slice HO_5.out
    subst eo21
    go_wp2_with (first | ((with_reducible refine gate_callee (f := 81) rfl ?_); refine goL (some 25) Tryd.func81 [.slice Ao21 x5_1.length co21] ?_; (with_reducible refine (gudgeonref01_trim.calls k1 _ _ x5_1 t700 _ ?side1 ?side2 A20.out).mono ?_); (case side1 => exact (Kd.R_reads' HO_5.out).2.2); (case side2 => exact (Kd.R_reads' HO_5.out).2.1); rintro e w22 ⟨v701, rfl, ho0, hb⟩; refine ⟨_, rfl, ?_⟩; have HO702 := Aside0.mk (Kd.R_lower (Kd.R_new' ho0 (Kd.R_lt HO_5.out)) (below_size HB.out)); replace HO_5 := Aside0.mk (Kd.R_elder' HO_5.out (Kd.R_base ho0) hb); replace HB := Aside0.mk (below_step HB.out hb)))
    go_ret
    exact ⟨_, by first | rfl | (simp [errW_none, errW_some] <;> rfl) | (simp [*, errW_none, errW_some] <;> rfl), by (with_reducible repeat (first | apply Kd.R_alloc | apply Kd.R_drewN | apply Kd.R_drew)); exact Kd.R_mono HO702.out (fun _ hk => trivial), by repeat (first | (with_reducible first | exact HB.out | apply below_alloc | apply pw_below_drewN | apply below_drew1) | exact HB.out)⟩

/-! ### gudgeonref01_Mul: function 50 -/
def gudgeonref01_Mul.f (k : Nat) (l0 : List Int) (l1 : List Int) : Option (List Int) := (gudgeonref01_Bits.f k l0).bind fun t703 => ((gudgeonref01_Bits.f k l1).bind fun t706 => ((gudgeonref01_mul.f k t703 t706).bind fun t709 => ((gudgeonref01_Limbs.f k t709).bind fun t712 => (some t712))))
set_option maxHeartbeats 8000000 in
set_option maxRecDepth 100000 in
theorem gudgeonref01_Mul.calls (k : Nat) (A0 : Option Addr) (c0 : Nat) (l0 : List Int) (A1 : Option Addr) (c1 : Nat) (l1 : List Int) (r : List Int) (w : World) (hr0 : Kd.C (Kd.int .u32) w A0 l0.length l0) (hc0 : l0.length ≤ c0) (hr1 : Kd.C (Kd.int .u32) w A1 l1.length l1) (hc1 : l1.length ≤ c1) (h : gudgeonref01_Mul.f k l0 l1 = some r) :
  Calls Tryd.prog 50 #[.slice A0 l0.length c0, .slice A1 l1.length c1] w fun e w' => ∃ v0_ : Value, e = .returned (v0_) ∧ Kd.R (Kd.int .u32) 51 w' w.heap.size (fun _ => True) v0_ r ∧ Below w.heap.size w w' := by
 have HR0 := Aside0.mk hr0
 have HC0 := Aside0.mk hc0
 clear hr0 hc0
 have HR1 := Aside0.mk hr1
 have HC1 := Aside0.mk hc1
 clear hr1 hc1
 have HB := Aside0.mk (Below.refl w.heap.size w)
 have H : ((gudgeonref01_Bits.f k l0).bind fun t703 => ((gudgeonref01_Bits.f k l1).bind fun t706 => ((gudgeonref01_mul.f k t703 t706).bind fun t709 => ((gudgeonref01_Limbs.f k t709).bind fun t712 => (some t712))))) = some r := h
 clear h
 replace H := Option.bind_eq_some_iff.mp H
 obtain ⟨t703, A30, H⟩ := H
 replace H : ((gudgeonref01_Bits.f k l1).bind fun t706 => ((gudgeonref01_mul.f k t703 t706).bind fun t709 => ((gudgeonref01_Limbs.f k t709).bind fun t712 => (some t712)))) = some r := H
 have A3 := Aside0.mk A30
 clear A30
 replace H := Option.bind_eq_some_iff.mp H
 obtain ⟨t706, A40, H⟩ := H
 replace H : ((gudgeonref01_mul.f k t703 t706).bind fun t709 => ((gudgeonref01_Limbs.f k t709).bind fun t712 => (some t712))) = some r := H
 have A4 := Aside0.mk A40
 clear A40
 replace H := Option.bind_eq_some_iff.mp H
 obtain ⟨t709, A50, H⟩ := H
 replace H : ((gudgeonref01_Limbs.f k t709).bind fun t712 => (some t712)) = some r := H
 have A5 := Aside0.mk A50
 clear A50
 replace H := Option.bind_eq_some_iff.mp H
 obtain ⟨t712, A60, H⟩ := H
 replace H : (some t712) = some r := H
 have A6 := Aside0.mk A60
 clear A60
 obtain rfl := Option.some.inj H
 go_enter Tryd.func50, Tryd.ntmps50
 go_wp2_with (first | ((with_reducible refine gate_callee (f := 67) rfl ?_); refine goL (some 6) Tryd.func67 [.slice A0 l0.length c0] ?_; (with_reducible refine (gudgeonref01_Bits.calls k _ _ l0 t703 _ ?side1 ?side2 A3.out).mono ?_); (case side1 => exact HR0.out); (case side2 => exact HC0.out); rintro e w7 ⟨v704, rfl, ho0, hb⟩; refine ⟨_, rfl, ?_⟩; have HO705 := Aside0.mk (Kd.R_lower ho0 (below_size HB.out)); replace HB := Aside0.mk (below_step HB.out hb)) | ((with_reducible refine gate_callee (f := 67) rfl ?_); refine goL (some 8) Tryd.func67 [.slice A1 l1.length c1] ?_; (with_reducible refine (gudgeonref01_Bits.calls k _ _ l1 t706 _ ?side1 ?side2 A4.out).mono ?_); (case side1 => exact (Kd.C_below HR1.out HB.out)); (case side2 => exact HC1.out); rintro e w8 ⟨v707, rfl, ho0, hb⟩; refine ⟨_, rfl, ?_⟩; have HO708 := Aside0.mk (Kd.R_lower (Kd.R_new' ho0 (Kd.R_lt HO705.out)) (below_size HB.out)); replace HO705 := Aside0.mk (Kd.R_elder' HO705.out (Kd.R_base ho0) hb); replace HB := Aside0.mk (below_step HB.out hb); obtain ⟨Ao9, co9, eo9⟩ := Kd.R_slice HO705.out; subst eo9; obtain ⟨Ao10, co10, eo10⟩ := Kd.R_slice HO708.out; subst eo10) | ((with_reducible refine gate_callee (f := 74) rfl ?_); refine goL (some 9) Tryd.func74 [.slice Ao9 t703.length co9, .slice Ao10 t706.length co10] ?_; (with_reducible refine (gudgeonref01_mul.calls k _ _ t703 _ _ t706 t709 _ ?side1 ?side2 ?side3 ?side4 A5.out).mono ?_); (case side1 => exact (Kd.R_reads' HO705.out).2.2); (case side2 => exact (Kd.R_reads' HO705.out).2.1); (case side3 => exact (Kd.R_reads' HO708.out).2.2); (case side4 => exact (Kd.R_reads' HO708.out).2.1); rintro e w11 ⟨v710, rfl, ho0, hb⟩; refine ⟨_, rfl, ?_⟩; have HO711 := Aside0.mk (Kd.R_lower (Kd.R_new' (Kd.R_new' ho0 (Kd.R_lt HO705.out)) (Kd.R_lt HO708.out)) (below_size HB.out)); replace HO705 := Aside0.mk (Kd.R_elder' HO705.out (Kd.R_base ho0) hb); replace HO708 := Aside0.mk (Kd.R_elder' HO708.out (Kd.R_base ho0) hb); replace HB := Aside0.mk (below_step HB.out hb); obtain ⟨Ao12, co12, eo12⟩ := Kd.R_slice HO711.out; subst eo12) | ((with_reducible refine gate_callee (f := 69) rfl ?_); refine goL (some 10) Tryd.func69 [.slice Ao12 t709.length co12] ?_; (with_reducible refine (gudgeonref01_Limbs.calls k _ _ t709 t712 _ ?side1 ?side2 A6.out).mono ?_); (case side1 => exact (Kd.R_reads' HO711.out).2.2); (case side2 => exact (Kd.R_reads' HO711.out).2.1); rintro e w13 ⟨v713, rfl, ho0, hb⟩; refine ⟨_, rfl, ?_⟩; replace HO705 := Aside0.mk (Kd.R_below HO705.out hb); replace HO708 := Aside0.mk (Kd.R_below HO708.out hb); replace HO711 := Aside0.mk (Kd.R_below HO711.out hb); have HO714 := Aside0.mk (Kd.R_lower ho0 (below_size HB.out)); replace HB := Aside0.mk (below_step HB.out hb)))
 go_ret
 exact ⟨_, by first | rfl | (simp [errW_none, errW_some] <;> rfl) | (simp [*, errW_none, errW_some] <;> rfl), by (with_reducible repeat (first | apply Kd.R_alloc | apply Kd.R_drewN | apply Kd.R_drew)); exact HO714.out, by repeat (first | (with_reducible first | exact HB.out | apply below_alloc | apply pw_below_drewN | apply below_drew1) | exact HB.out)⟩

/-! ### gudgeonref02_Mul: function 25 -/
def gudgeonref02_Mul.f (k : Nat) (a0_0 : Bool) (l0_1 : List Int) (a1_0 : Bool) (l1_1 : List Int) : Option (Bool × List Int) := (gudgeonref01_Mul.f k l0_1 l1_1).bind fun t718 => ((gudgeonref02_Norm.f k (a0_0 != a1_0) t718).bind fun bt721 => (some (bt721.1, bt721.2)))
def gudgeonref02_Mul.T1 : Bool × List (List Nat × List Nat) := (true, [([], []), ([0], [0]), ([], []), ([2], [2]), ([1, 3], [1, 3]), ([], []), ([5], [5]), ([], []), ([7], [7]), ([6, 8], [6, 8]), ([4, 9], [4, 9]), ([10, 9], [10]), ([11, 11, 0, 1, 2, 3, 4, 5, 6, 7, 8, 9, 10, 11], [11])])
def gudgeonref02_Mul.B1 : List Nat := [0, 1, 0, 4, 15, 0, 32, 0, 128, 480, 1023, 2047, 4095]
theorem gudgeonref02_Mul.tab1 : rtab .any (opsOf Tryd.f25 1) = gudgeonref02_Mul.T1 := by kernel_rfl
theorem gudgeonref02_Mul.bits1 : waitsOk gudgeonref02_Mul.T1.2 gudgeonref02_Mul.B1 = true := by kernel_rfl
set_option maxHeartbeats 8000000 in
set_option maxRecDepth 100000 in
theorem gudgeonref02_Mul.calls (k : Nat) (a0_0 : Bool) (A0_1 : Option Addr) (c0_1 : Nat) (l0_1 : List Int) (a1_0 : Bool) (A1_1 : Option Addr) (c1_1 : Nat) (l1_1 : List Int) (r1 : Bool) (r2 : List Int) (w : World) (hr0_1 : Kd.C (Kd.int .u32) w A0_1 l0_1.length l0_1) (hc0_1 : l0_1.length ≤ c0_1) (hr1_1 : Kd.C (Kd.int .u32) w A1_1 l1_1.length l1_1) (hc1_1 : l1_1.length ≤ c1_1) (h : gudgeonref02_Mul.f k a0_0 l0_1 a1_0 l1_1 = some (r1, r2)) :
  Calls Tryd.prog 25 #[.agg #[.bool a0_0, .slice A0_1 l0_1.length c0_1], .agg #[.bool a1_0, .slice A1_1 l1_1.length c1_1]] w fun e w' => ∃ v1_ : Value, e = .returned (.agg #[.bool r1, v1_]) ∧ Kd.R (Kd.int .u32) 51 w' w.heap.size (fun _ => True) v1_ r2 ∧ Below w.heap.size w w' := by
 have hu24 := Tryd.underlying24
 have HR0_1 := Aside0.mk hr0_1
 have HC0_1 := Aside0.mk hc0_1
 clear hr0_1 hc0_1
 have HR1_1 := Aside0.mk hr1_1
 have HC1_1 := Aside0.mk hc1_1
 clear hr1_1 hc1_1
 have HB := Aside0.mk (Below.refl w.heap.size w)
 have H : ((gudgeonref01_Mul.f k l0_1 l1_1).bind fun t718 => ((gudgeonref02_Norm.f k (a0_0 != a1_0) t718).bind fun bt721 => (some (bt721.1, bt721.2)))) = some (r1, r2) := h
 clear h
 replace H := Option.bind_eq_some_iff.mp H
 obtain ⟨t718, A30, H⟩ := H
 replace H : ((gudgeonref02_Norm.f k (a0_0 != a1_0) t718).bind fun bt721 => (some (bt721.1, bt721.2))) = some (r1, r2) := H
 have A3 := Aside0.mk A30
 clear A30
 replace H := Option.bind_eq_some_iff.mp H
 obtain ⟨⟨t721, t722⟩, A40, H⟩ := H
 replace H : (some (t721, t722)) = some (r1, r2) := H
 have A4 := Aside0.mk A40
 clear A40
 simp only [Option.some.injEq, Prod.mk.injEq] at H
 obtain ⟨rfl, rfl⟩ := H
 go_enter Tryd.func25, Tryd.ntmps25
 try go_wp2_with (first | ((with_reducible refine gate_dst (N := 2) rfl ?_); refine box_event ?hg (N := 2) ?hd (cs := #[.bool a0_0, .slice A0_1 l0_1.length c0_1]) (t := 24) ?hr ?_; (case hd => rfl); (case hg => rfl); (case hr => first | (go_simp; done) | (go_simp; rfl)); intro gb715 hg w5 hbox hb; have BK715 := Aside0.mk (hbox); have GW715 := Aside0.mk (bxLe HB.out hg); have GE715 := GW715; replace HB := Aside0.mk (below_step HB.out hb); clear hb hbox hg) | ((with_reducible refine gate_dst (N := 3) rfl ?_); refine box_event ?hg (N := 3) ?hd (cs := #[.bool a1_0, .slice A1_1 l1_1.length c1_1]) (t := 24) ?hr ?_; (case hd => rfl); (case hg => rfl); (case hr => first | (go_simp; done) | (go_simp; rfl)); intro gb716 hg w6 hbox hb; have BK716 := Aside0.mk (hbox); have GW716 := Aside0.mk (bxLe HB.out hg); have GE716 := GW716; replace HB := Aside0.mk (below_step HB.out hb); have NB715_716 := Aside0.mk (neL BK715.out hg); have NB716_715 := Aside0.mk (neR BK715.out hg); replace BK715 := Aside0.mk (blk_below BK715.out hb); clear hb hbox hg) | ((with_reducible refine gate_dst (N := 4) rfl ?_); refine box_event ?hg (N := 4) ?hd (cs := #[.bool false, .slice none 0 0]) (t := 24) ?hr ?_; (case hd => rfl); (case hg => rfl); (case hr => first | (go_simp; done) | (go_simp; rfl)); intro gb717 hg w7 hbox hb; have BK717 := Aside0.mk (hbox); have GW717 := Aside0.mk (bxLe HB.out hg); have GE717 := GW717; replace HB := Aside0.mk (below_step HB.out hb); have NB715_717 := Aside0.mk (neL BK715.out hg); have NB717_715 := Aside0.mk (neR BK715.out hg); replace BK715 := Aside0.mk (blk_below BK715.out hb); have NB716_717 := Aside0.mk (neL BK716.out hg); have NB717_716 := Aside0.mk (neR BK716.out hg); replace BK716 := Aside0.mk (blk_below BK716.out hb); clear hb hbox hg))
 replace BK715 := Aside0.mk (blk_drew BK715.out)
 replace BK716 := Aside0.mk (blk_drew BK716.out)
 replace BK717 := Aside0.mk (blk_drew BK717.out)
 replace HB := Aside0.mk (below_drew1 HB.out)
 refine start_ (n := 13) (S := fun w' => w'.cell? ⟨gb715, 0, none⟩ = some (.bool a0_0) ∧ w'.cell? ⟨gb715, 1, none⟩ = some (.slice A0_1 l0_1.length c0_1) ∧ w'.cell? ⟨gb716, 0, none⟩ = some (.bool a1_0) ∧ w'.cell? ⟨gb716, 1, none⟩ = some (.slice A1_1 l1_1.length c1_1)) (ds := []) #[false, false, false, false, false, false, false, false, false, false, false, false, false] (by kernel_rfl) rfl rfl ⟨(blk_cell BK715.out 0).trans rfl, (blk_cell BK715.out 1).trans rfl, (blk_cell BK716.out 0).trans rfl, (blk_cell BK716.out 1).trans rfl⟩ (fun hHeld => ?_); refine with_tabW gudgeonref02_Mul.tab1 gudgeonref02_Mul.bits1 (fun HT_ HW_ => ?_)
 generalize w7.drew = w8 at BK715 BK716 BK717 HB hHeld ⊢
 refine pure_ (i := 0) (N := some 5) (v := ?_) (a' := ?_) #[true, false, false, false, false, false, false, false, false, false, false, false, false] rfl rfl (any_of HT_.out (by kernel_rfl)) (fun _ _ _ h => h) (Or.inl ⟨by rfl, ?_⟩) ?_ ?_
 rotate_left
 ·intro w'
  go_simp
  with_reducible rfl
 rotate_left
 ·simp only [Act.put, List.setIfInBounds_toArray, List.set_cons_zero, List.set_cons_succ, i64_w, i32_w]
  rfl
 refine pure_ (i := 2) (N := some 7) (v := ?_) (a' := ?_) #[true, false, true, false, false, false, false, false, false, false, false, false, false] rfl rfl (any_of HT_.out (by kernel_rfl)) (fun _ _ _ h => h) (Or.inl ⟨by rfl, ?_⟩) ?_ ?_
 rotate_left
 ·intro w'
  go_simp
  with_reducible rfl
 rotate_left
 ·simp only [Act.put, List.setIfInBounds_toArray, List.set_cons_zero, List.set_cons_succ, i64_w, i32_w]
  rfl
 refine pure_ (i := 5) (N := some 10) (v := ?_) (a' := ?_) #[true, false, true, false, false, true, false, false, false, false, false, false, false] rfl rfl (any_of HT_.out (by kernel_rfl)) (fun _ _ _ h => h) (Or.inl ⟨by rfl, ?_⟩) ?_ ?_
 rotate_left
 ·intro w'
  go_simp
  with_reducible rfl
 rotate_left
 ·simp only [Act.put, List.setIfInBounds_toArray, List.set_cons_zero, List.set_cons_succ, i64_w, i32_w]
  rfl
 refine pure_ (i := 7) (N := some 12) (v := ?_) (a' := ?_) #[true, false, true, false, false, true, false, true, false, false, false, false, false] rfl rfl (any_of HT_.out (by kernel_rfl)) (fun _ _ _ h => h) (Or.inl ⟨by rfl, ?_⟩) ?_ ?_
 rotate_left
 ·intro w'
  go_simp
  with_reducible rfl
 rotate_left
 ·simp only [Act.put, List.setIfInBounds_toArray, List.set_cons_zero, List.set_cons_succ, i64_w, i32_w]
  rfl
 refine take_ (i := 1) (N := some 6) (v := ?_) (a' := ?_) #[true, true, true, false, false, true, false, true, false, false, false, false, false] rfl rfl (take_ofW HT_.out HW_.out (by kernel_rfl)) (fun _ _ _ h => h) (Or.inl ⟨by rfl, ?_⟩) hHeld ?_ ?_
 rotate_left
 ·rintro w' ⟨s0, s1, s2, s3⟩
  go_simp
  with_reducible rfl
 rotate_left
 ·simp only [Act.put, List.setIfInBounds_toArray, List.set_cons_zero, List.set_cons_succ, i64_w, i32_w]
  rfl
 refine take_ (i := 3) (N := some 8) (v := ?_) (a' := ?_) #[true, true, true, true, false, true, false, true, false, false, false, false, false] rfl rfl (take_ofW HT_.out HW_.out (by kernel_rfl)) (fun _ _ _ h => h) (Or.inl ⟨by rfl, ?_⟩) hHeld ?_ ?_
 rotate_left
 ·rintro w' ⟨s0, s1, s2, s3⟩
  go_simp
  with_reducible rfl
 rotate_left
 ·simp only [Act.put, List.setIfInBounds_toArray, List.set_cons_zero, List.set_cons_succ, i64_w, i32_w]
  rfl
 refine pure_ (i := 4) (N := some 9) (v := ?_) (a' := ?_) #[true, true, true, true, true, true, false, true, false, false, false, false, false] rfl rfl (any_of HT_.out (by kernel_rfl)) (fun _ _ _ h => h) (Or.inl ⟨by rfl, ?_⟩) ?_ ?_
 rotate_left
 ·intro w'
  go_simp
  with_reducible rfl
 rotate_left
 ·simp only [Act.put, List.setIfInBounds_toArray, List.set_cons_zero, List.set_cons_succ, i64_w, i32_w]
  rfl
 refine take_ (i := 6) (N := some 11) (v := ?_) (a' := ?_) #[true, true, true, true, true, true, true, true, false, false, false, false, false] rfl rfl (take_ofW HT_.out HW_.out (by kernel_rfl)) (fun _ _ _ h => h) (Or.inl ⟨by rfl, ?_⟩) hHeld ?_ ?_
 rotate_left
 ·rintro w' ⟨s0, s1, s2, s3⟩
  go_simp
  with_reducible rfl
 rotate_left
 ·simp only [Act.put, List.setIfInBounds_toArray, List.set_cons_zero, List.set_cons_succ, i64_w, i32_w]
  rfl
 refine take_ (i := 8) (N := some 13) (v := ?_) (a' := ?_) #[true, true, true, true, true, true, true, true, true, false, false, false, false] rfl rfl (take_ofW HT_.out HW_.out (by kernel_rfl)) (fun _ _ _ h => h) (Or.inl ⟨by rfl, ?_⟩) hHeld ?_ ?_
 rotate_left
 ·rintro w' ⟨s0, s1, s2, s3⟩
  go_simp
  with_reducible rfl
 rotate_left
 ·simp only [Act.put, List.setIfInBounds_toArray, List.set_cons_zero, List.set_cons_succ, i64_w, i32_w]
  rfl
 refine one_ (i := 9) (N := some 14) #[true, true, true, true, true, true, true, true, true, true, false, false, false] rfl rfl (one_of HT_.out (by kernel_rfl)) (by decide) (fun K hK => ?_)
 refine goR Tryd.func50 [.slice A0_1 l0_1.length c0_1, .slice A1_1 l1_1.length c1_1] ?_
 with_reducible refine (gudgeonref01_Mul.calls k _ _ l0_1 _ _ l1_1 t718 _ ?side1 ?side2 ?side3 ?side4 A3.out).mono ?_
 (case side1 => exact (Kd.C_below HR0_1.out HB.out))
 (case side2 => exact HC0_1.out)
 (case side3 => exact (Kd.C_below HR1_1.out HB.out))
 (case side4 => exact HC1_1.out)
 rintro e w9 ⟨v719, rfl, ho0, hb⟩
 refine ⟨_, rfl, ?_⟩
 have HO720 := Aside0.mk (Kd.R_lower ho0 (below_size HB.out))
 replace BK715 := Aside0.mk (blk_below BK715.out hb)
 replace BK716 := Aside0.mk (blk_below BK716.out hb)
 replace BK717 := Aside0.mk (blk_below BK717.out hb)
 replace HB := Aside0.mk (below_step HB.out hb)
 (try clear hb)
 (try clear hb2)
 (try clear hk)
 (try clear hi)
 (try clear ho0)
 obtain ⟨Ao10, co10, eo10⟩ := Kd.R_slice HO720.out
 subst eo10
 refine hK.out _ _ ⟨(blk_cell BK715.out 0).trans rfl, (blk_cell BK715.out 1).trans rfl, (blk_cell BK716.out 0).trans rfl, (blk_cell BK716.out 1).trans rfl⟩ (fun hHeld => ?_)
 clear hK K
 refine norm_ (a' := ?_) ?_ ?_
 rotate_left
 ·show Act.put _ (some 14) _ = _
  simp only [Act.put, List.setIfInBounds_toArray, List.set_cons_zero, List.set_cons_succ, i64_w, i32_w]
  rfl
 refine pure_ (i := 10) (N := some 15) (v := ?_) (a' := ?_) #[true, true, true, true, true, true, true, true, true, true, true, false, false] rfl rfl (any_of HT_.out (by kernel_rfl)) (fun _ _ _ h => h) (Or.inl ⟨by rfl, ?_⟩) ?_ ?_
 rotate_left
 ·intro w'
  go_simp
  with_reducible rfl
 rotate_left
 ·simp only [Act.put, List.setIfInBounds_toArray, List.set_cons_zero, List.set_cons_succ, i64_w, i32_w]
  rfl
 refine one_ (i := 11) (N := some 16) #[true, true, true, true, true, true, true, true, true, true, true, true, false] rfl rfl (one_of HT_.out (by kernel_rfl)) (by decide) (fun K hK => ?_)
 refine goR Tryd.func17 [.agg #[.bool (a0_0 != a1_0), .slice Ao10 t718.length co10]] ?_
 with_reducible refine (gudgeonref02_Norm.calls k (a0_0 != a1_0) _ _ t718 t721 t722 _ ?side1 ?side2 A4.out).mono ?_
 (case side1 => exact (Kd.R_reads' HO720.out).2.2)
 (case side2 => exact (Kd.R_reads' HO720.out).2.1)
 rintro e w11 ⟨v723, rfl, ho0, hb⟩
 refine ⟨_, rfl, ?_⟩
 have HO724 := Aside0.mk (Kd.R_lower (Kd.R_new' ho0 (Kd.R_lt HO720.out)) (below_size HB.out))
 replace HO720 := Aside0.mk (Kd.R_elder' HO720.out (Kd.R_base ho0) hb)
 replace BK715 := Aside0.mk (blk_below BK715.out hb)
 replace BK716 := Aside0.mk (blk_below BK716.out hb)
 replace BK717 := Aside0.mk (blk_below BK717.out hb)
 replace HB := Aside0.mk (below_step HB.out hb)
 (try clear hb)
 (try clear hb2)
 (try clear hk)
 (try clear hi)
 (try clear ho0)
 obtain ⟨Ao13, co13, eo13⟩ := Kd.R_slice HO724.out
 subst eo13
 refine hK.out _ _ ⟨(blk_cell BK715.out 0).trans rfl, (blk_cell BK715.out 1).trans rfl, (blk_cell BK716.out 0).trans rfl, (blk_cell BK716.out 1).trans rfl⟩ (fun hHeld => ?_)
 clear hK K
 refine norm_ (a' := ?_) ?_ ?_
 rotate_left
 ·show Act.put _ (some 16) _ = _
  simp only [Act.put, List.setIfInBounds_toArray, List.set_cons_zero, List.set_cons_succ, i64_w, i32_w]
  rfl
 refine one_ (i := 12) (N := none) #[true, true, true, true, true, true, true, true, true, true, true, true, true] rfl rfl (one_of HT_.out (by kernel_rfl)) (by decide) (fun K hK => ?_)
 have hs12 : w11.cell? ⟨gb717, 0, none⟩ = some (.bool false) := (blk_cell BK717.out 0).trans rfl
 have hfs12 := blk_frozen BK717.out 0
 have hns12_0 := NB715_717.out
 have hns12_1 := NB716_717.out
 have hms12_0 := NB717_715.out
 have hms12_1 := NB717_716.out
 have hs14 : w11.cell? ⟨gb717, 1, none⟩ = some (.slice none 0 0) := (blk_cell BK717.out 1).trans rfl
 have hfs14 := blk_frozen BK717.out 1
 have hns14_0 := NB715_717.out
 have hns14_1 := NB716_717.out
 have hms14_0 := NB717_715.out
 have hms14_1 := NB717_716.out
 refine skip_ (w1 := ?_) (by rfl) rfl ?_ ?_
 rotate_left
 ·go_simp
  rfl
 refine hK.out _ _ ⟨((cell_far (p := ⟨gb717, _, none⟩) NB715_717.out _).trans (((cell_far (p := ⟨gb717, _, none⟩) NB715_717.out _).trans (hHeld.1)))), ((cell_far (p := ⟨gb717, _, none⟩) NB715_717.out _).trans (((cell_far (p := ⟨gb717, _, none⟩) NB715_717.out _).trans (hHeld.2.1)))), ((cell_far (p := ⟨gb717, _, none⟩) NB716_717.out _).trans (((cell_far (p := ⟨gb717, _, none⟩) NB716_717.out _).trans (hHeld.2.2.1)))), ((cell_far (p := ⟨gb717, _, none⟩) NB716_717.out _).trans (((cell_far (p := ⟨gb717, _, none⟩) NB716_717.out _).trans (hHeld.2.2.2))))⟩ (fun hHeld => ?_)
 clear hK K
 refine done_ (done_of HT_.out (by kernel_rfl)) ?_
 try go_wp2
 refine bodyPost_ret (results_cell_row rfl _ _ gb717 24 #[.bool t721, .slice Ao13 t722.length co13] (0, 0) _ rfl (by refine blk_put (cs := #[.bool t721, .slice none 0 0]) ?_ 1 _ rfl; refine blk_put (cs := #[.bool false, .slice none 0 0]) ?_ 0 _ rfl; exact BK717.out) Tryd.underlying24 rfl (by kernel_rfl)) rfl ?_
 exact ⟨_, by first | rfl | (simp [errW_none, errW_some] <;> rfl) | (simp [*, errW_none, errW_some] <;> rfl), by (with_reducible repeat (first | apply Kd.R_alloc | apply Kd.R_drewN | apply Kd.R_drew)); exact Kd.R_mono (Kd.R_far (p := ⟨gb717, 1, none⟩) (Kd.R_far (p := ⟨gb717, 0, none⟩) (Kd.R_types HO724.out BK717.out (by decide)) (fun _ hk => hk.2) (.bool t721)) (fun _ hk => hk.2) (.slice Ao13 t722.length co13)) (fun _ hk => trivial), by repeat (first | (with_reducible first | exact HB.out | apply below_alloc | apply pw_below_drewN | apply below_drew1 | refine below_set ?_ GE715.out | refine below_set ?_ GE716.out | refine below_set ?_ GE717.out) | exact HB.out)⟩

/-! ### whole_Cmp: function 26 -/
def whole_Cmp.f (k : Nat) (a0_0 : Bool) (l0_1 : List Int) (a1_0 : Bool) (l1_1 : List Int) : Option (Int) := (whole_Sub.f k a0_0 l0_1 a1_0 l1_1).bind fun bt727 => ((whole_Sign.f bt727.1 bt727.2).bind fun t731 => (some t731))
set_option maxHeartbeats 8000000 in
set_option maxRecDepth 100000 in
theorem whole_Cmp.calls (k : Nat) (a0_0 : Bool) (A0_1 : Option Addr) (c0_1 : Nat) (l0_1 : List Int) (a1_0 : Bool) (A1_1 : Option Addr) (c1_1 : Nat) (l1_1 : List Int) (r : Int) (w : World) (hr0_1 : Kd.C (Kd.int .u32) w A0_1 l0_1.length l0_1) (hc0_1 : l0_1.length ≤ c0_1) (hr1_1 : Kd.C (Kd.int .u32) w A1_1 l1_1.length l1_1) (hc1_1 : l1_1.length ≤ c1_1) (h : whole_Cmp.f k a0_0 l0_1 a1_0 l1_1 = some r) :
  Calls Tryd.prog 26 #[.agg #[.bool a0_0, .slice A0_1 l0_1.length c0_1], .agg #[.bool a1_0, .slice A1_1 l1_1.length c1_1]] w fun e w' => e = .returned (.int .i64 r) ∧ Below w.heap.size w w' := by
 have hu24 := Tryd.underlying24
 have HR0_1 := Aside0.mk hr0_1
 have HC0_1 := Aside0.mk hc0_1
 clear hr0_1 hc0_1
 have HR1_1 := Aside0.mk hr1_1
 have HC1_1 := Aside0.mk hc1_1
 clear hr1_1 hc1_1
 have HB := Aside0.mk (Below.refl w.heap.size w)
 have H : ((whole_Sub.f k a0_0 l0_1 a1_0 l1_1).bind fun bt727 => ((whole_Sign.f bt727.1 bt727.2).bind fun t731 => (some t731))) = some r := h
 clear h
 replace H := Option.bind_eq_some_iff.mp H
 obtain ⟨⟨t727, t728⟩, A30, H⟩ := H
 replace H : ((whole_Sign.f t727 t728).bind fun t731 => (some t731)) = some r := H
 have A3 := Aside0.mk A30
 clear A30
 replace H := Option.bind_eq_some_iff.mp H
 obtain ⟨t731, A40, H⟩ := H
 replace H : (some t731) = some r := H
 have A4 := Aside0.mk A40
 clear A40
 obtain rfl := Option.some.inj H
 go_enter Tryd.func26, Tryd.ntmps26
 go_wp2_with (first | ((with_reducible refine gate_dst (N := 2) rfl ?_); refine box_event ?hg (N := 2) ?hd (cs := #[.bool a0_0, .slice A0_1 l0_1.length c0_1]) (t := 24) ?hr ?_; (case hd => rfl); (case hg => rfl); (case hr => first | (go_simp; done) | (go_simp; rfl)); intro gb725 hg w5 hbox hb; have BK725 := Aside0.mk (hbox); have GW725 := Aside0.mk (bxLe HB.out hg); have GE725 := GW725; replace HB := Aside0.mk (below_step HB.out hb); clear hb hbox hg) | ((with_reducible refine gate_dst (N := 3) rfl ?_); refine box_event ?hg (N := 3) ?hd (cs := #[.bool a1_0, .slice A1_1 l1_1.length c1_1]) (t := 24) ?hr ?_; (case hd => rfl); (case hg => rfl); (case hr => first | (go_simp; done) | (go_simp; rfl)); intro gb726 hg w6 hbox hb; have BK726 := Aside0.mk (hbox); have GW726 := Aside0.mk (bxLe HB.out hg); have GE726 := GW726; replace HB := Aside0.mk (below_step HB.out hb); have NB725_726 := Aside0.mk (neL BK725.out hg); have NB726_725 := Aside0.mk (neR BK725.out hg); replace BK725 := Aside0.mk (blk_below BK725.out hb); clear hb hbox hg; have hnb7 := NB725_726.out; have hnc7 := NB726_725.out; have hcz8_0 := bc0 BK725.out; have hcz8_1 := bc1 BK725.out; have hfz8_0 := blk_frozen BK725.out 0; have hfz8_1 := blk_frozen BK725.out 1; have hcz9_0 := bc0 BK726.out; have hcz9_1 := bc1 BK726.out; have hfz9_0 := blk_frozen BK726.out 0; have hfz9_1 := blk_frozen BK726.out 1) | ((with_reducible refine gate_callee (f := 22) rfl ?_); refine goL (some 7) Tryd.func22 [.agg #[.bool a0_0, .slice A0_1 l0_1.length c0_1], .agg #[.bool a1_0, .slice A1_1 l1_1.length c1_1]] ?_; (with_reducible refine (whole_Sub.calls k a0_0 _ _ l0_1 a1_0 _ _ l1_1 t727 t728 _ ?side1 ?side2 ?side3 ?side4 A3.out).mono ?_); (case side1 => exact (Kd.C_below HR0_1.out HB.out)); (case side2 => exact HC0_1.out); (case side3 => exact (Kd.C_below HR1_1.out HB.out)); (case side4 => exact HC1_1.out); rintro e w10 ⟨v729, rfl, ho0, hb⟩; refine ⟨_, rfl, ?_⟩; have HO730 := Aside0.mk (Kd.R_lower ho0 (below_size HB.out)); replace BK725 := Aside0.mk (blk_below BK725.out hb); replace BK726 := Aside0.mk (blk_below BK726.out hb); replace HB := Aside0.mk (below_step HB.out hb); obtain ⟨Ao11, co11, eo11⟩ := Kd.R_slice HO730.out; subst eo11) | ((with_reducible refine gate_callee (f := 28) rfl ?_); refine goL (some 8) Tryd.func28 [.agg #[.bool t727, .slice Ao11 t728.length co11]] ?_; (with_reducible refine (whole_Sign.calls t727 _ _ t728 t731 _ ?side1 ?side2 A4.out).mono ?_); (case side1 => exact (Kd.R_reads' HO730.out).2.2); (case side2 => exact (Kd.R_reads' HO730.out).2.1); rintro e w12 ⟨rfl, hb⟩; refine ⟨_, rfl, ?_⟩; replace HO730 := Aside0.mk (Kd.R_below HO730.out hb); replace BK725 := Aside0.mk (blk_below BK725.out hb); replace BK726 := Aside0.mk (blk_below BK726.out hb); replace HB := Aside0.mk (below_step HB.out hb); (try clear hb); (try clear hb2); (try clear hk); (try clear hi)))
 go_ret
 exact ⟨by first | rfl | (simp [errW_none, errW_some] <;> rfl) | (refine congrArg (fun z_ => Ending.returned (Value.bool z_)) (decide_eq_decide.mpr ?_); unfold wrap64; omega) | (simp [*, errW_none, errW_some] <;> rfl), by repeat (first | (with_reducible first | exact HB.out | apply below_alloc | apply pw_below_drewN | apply below_drew1 | refine below_set ?_ GE725.out | refine below_set ?_ GE726.out) | exact HB.out)⟩

/-! ### gudgeonref02_Sign: function 29 -/
def gudgeonref02_Sign.f (k : Nat) (a0_0 : Bool) (l0_1 : List Int) : Option (Int) := (gudgeonref02_Norm.f k a0_0 l0_1).bind fun bt733 => (if (bt733.2.length : Int) = 0 then (some 0) else (if bt733.1 = true then (some (-1)) else (some 1)))
set_option maxHeartbeats 8000000 in
set_option maxRecDepth 100000 in
theorem gudgeonref02_Sign.calls (k : Nat) (a0_0 : Bool) (A0_1 : Option Addr) (c0_1 : Nat) (l0_1 : List Int) (r : Int) (w : World) (hr0_1 : Kd.C (Kd.int .u32) w A0_1 l0_1.length l0_1) (hc0_1 : l0_1.length ≤ c0_1) (h : gudgeonref02_Sign.f k a0_0 l0_1 = some r) :
  Calls Tryd.prog 29 #[.agg #[.bool a0_0, .slice A0_1 l0_1.length c0_1]] w fun e w' => e = .returned (.int .i64 r) ∧ Below w.heap.size w w' := by
 have hu24 := Tryd.underlying24
 have HR0_1 := Aside0.mk hr0_1
 have HC0_1 := Aside0.mk hc0_1
 clear hr0_1 hc0_1
 have HB := Aside0.mk (Below.refl w.heap.size w)
 have H : ((gudgeonref02_Norm.f k a0_0 l0_1).bind fun bt733 => (if (bt733.2.length : Int) = 0 then (some 0) else (if bt733.1 = true then (some (-1)) else (some 1)))) = some r := h
 clear h
 replace H := Option.bind_eq_some_iff.mp H
 obtain ⟨⟨t733, t734⟩, A20, H⟩ := H
 replace H : (if (t734.length : Int) = 0 then (some 0) else (if t733 = true then (some (-1)) else (some 1))) = some r := H
 have A2 := Aside0.mk A20
 clear A20
 by_cases c3 : (t734.length : Int) = 0
 ·rw [if_pos c3] at H
  have c3b0 : ((t734.length : Int) == 0) = true := beq_iff_eq.mpr c3
  have c3b1 : ((t734.length : Int) != 0) = false := bne_eq_false_iff_eq.mpr c3
  clear c3
  obtain rfl := Option.some.inj H
  go_enter Tryd.func29, Tryd.ntmps29
  go_wp2_with (first | ((with_reducible refine gate_dst (N := 1) rfl ?_); refine box_event ?hg (N := 1) ?hd (cs := #[.bool a0_0, .slice A0_1 l0_1.length c0_1]) (t := 24) ?hr ?_; (case hd => rfl); (case hg => rfl); (case hr => first | (go_simp; done) | (go_simp; rfl)); intro gb732 hg w4 hbox hb; have BK732 := Aside0.mk (hbox); have GW732 := Aside0.mk (bxLe HB.out hg); have GE732 := GW732; replace HB := Aside0.mk (below_step HB.out hb); clear hb hbox hg; have hcz5_0 := bc0 BK732.out; have hcz5_1 := bc1 BK732.out; have hfz5_0 := blk_frozen BK732.out 0; have hfz5_1 := blk_frozen BK732.out 1) | ((with_reducible refine gate_callee (f := 17) rfl ?_); refine goL (some 5) Tryd.func17 [.agg #[.bool a0_0, .slice A0_1 l0_1.length c0_1]] ?_; (with_reducible refine (gudgeonref02_Norm.calls k a0_0 _ _ l0_1 t733 t734 _ ?side1 ?side2 A2.out).mono ?_); (case side1 => exact (Kd.C_below HR0_1.out HB.out)); (case side2 => exact HC0_1.out); rintro e w6 ⟨v735, rfl, ho0, hb⟩; refine ⟨_, rfl, ?_⟩; have HO736 := Aside0.mk (Kd.R_lower ho0 (below_size HB.out)); replace BK732 := Aside0.mk (blk_below BK732.out hb); replace HB := Aside0.mk (below_step HB.out hb)) | ((with_reducible refine gate_dst (N := 3) rfl ?_); refine box_event ?hg (N := 3) ?hd (cs := #[.bool false, .slice none 0 0]) (t := 24) ?hr ?_; (case hd => rfl); (case hg => rfl); (case hr => first | (go_simp; done) | (go_simp; rfl)); intro gb737 hg w7 hbox hb; replace HO736 := Aside0.mk (Kd.R_below HO736.out hb); have BK737 := Aside0.mk (hbox); have GW737 := Aside0.mk (bxLe HB.out hg); have GE737 := GW737; replace HB := Aside0.mk (below_step HB.out hb); have NB732_737 := Aside0.mk (neL BK732.out hg); have NB737_732 := Aside0.mk (neR BK732.out hg); replace BK732 := Aside0.mk (blk_below BK732.out hb); clear hb hbox hg; have hnb8 := NB737_732.out; have hnc8 := NB732_737.out; have hcz9_0 := bc0 BK737.out; have hcz9_1 := bc1 BK737.out; have hfz9_0 := blk_frozen BK737.out 0; have hfz9_1 := blk_frozen BK737.out 1; obtain ⟨Ao10, co10, eo10⟩ := Kd.R_slice HO736.out; subst eo10))
  go_ret
  exact ⟨by first | rfl | (simp [errW_none, errW_some] <;> rfl) | (refine congrArg (fun z_ => Ending.returned (Value.bool z_)) (decide_eq_decide.mpr ?_); unfold wrap64; omega) | (simp [*, errW_none, errW_some] <;> rfl), by repeat (first | (with_reducible first | exact HB.out | apply below_alloc | apply pw_below_drewN | apply below_drew1 | refine below_set ?_ GE732.out | refine below_set ?_ GE737.out) | exact HB.out)⟩
 ·rw [if_neg c3] at H
  have c3b0 : ((t734.length : Int) == 0) = false := beq_eq_false_iff_ne.mpr c3
  have c3b1 : ((t734.length : Int) != 0) = true := bne_iff_ne.mpr c3
  have c3b2 : ¬ (t734 = []) := fun h_ => c3 (by rw [h_]; rfl)
  by_cases c11 : t733 = true
  ·subst c11
   have H1 : (some (-1)) = some r := by rw [if_pos rfl] at H; exact H
   clear H
   have H := H1
   clear H1
   obtain rfl := Option.some.inj H
   go_enter Tryd.func29, Tryd.ntmps29
   go_wp2_with (first | ((with_reducible refine gate_dst (N := 1) rfl ?_); refine box_event ?hg (N := 1) ?hd (cs := #[.bool a0_0, .slice A0_1 l0_1.length c0_1]) (t := 24) ?hr ?_; (case hd => rfl); (case hg => rfl); (case hr => first | (go_simp; done) | (go_simp; rfl)); intro gb732 hg w12 hbox hb; have BK732 := Aside0.mk (hbox); have GW732 := Aside0.mk (bxLe HB.out hg); have GE732 := GW732; replace HB := Aside0.mk (below_step HB.out hb); clear hb hbox hg; have hcz13_0 := bc0 BK732.out; have hcz13_1 := bc1 BK732.out; have hfz13_0 := blk_frozen BK732.out 0; have hfz13_1 := blk_frozen BK732.out 1) | ((with_reducible refine gate_callee (f := 17) rfl ?_); refine goL (some 5) Tryd.func17 [.agg #[.bool a0_0, .slice A0_1 l0_1.length c0_1]] ?_; (with_reducible refine (gudgeonref02_Norm.calls k a0_0 _ _ l0_1 true t734 _ ?side1 ?side2 A2.out).mono ?_); (case side1 => exact (Kd.C_below HR0_1.out HB.out)); (case side2 => exact HC0_1.out); rintro e w14 ⟨v735, rfl, ho0, hb⟩; refine ⟨_, rfl, ?_⟩; have HO736 := Aside0.mk (Kd.R_lower ho0 (below_size HB.out)); replace BK732 := Aside0.mk (blk_below BK732.out hb); replace HB := Aside0.mk (below_step HB.out hb)) | ((with_reducible refine gate_dst (N := 3) rfl ?_); refine box_event ?hg (N := 3) ?hd (cs := #[.bool false, .slice none 0 0]) (t := 24) ?hr ?_; (case hd => rfl); (case hg => rfl); (case hr => first | (go_simp; done) | (go_simp; rfl)); intro gb737 hg w15 hbox hb; replace HO736 := Aside0.mk (Kd.R_below HO736.out hb); have BK737 := Aside0.mk (hbox); have GW737 := Aside0.mk (bxLe HB.out hg); have GE737 := GW737; replace HB := Aside0.mk (below_step HB.out hb); have NB732_737 := Aside0.mk (neL BK732.out hg); have NB737_732 := Aside0.mk (neR BK732.out hg); replace BK732 := Aside0.mk (blk_below BK732.out hb); clear hb hbox hg; have hnb16 := NB737_732.out; have hnc16 := NB732_737.out; have hcz17_0 := bc0 BK737.out; have hcz17_1 := bc1 BK737.out; have hfz17_0 := blk_frozen BK737.out 0; have hfz17_1 := blk_frozen BK737.out 1; obtain ⟨Ao18, co18, eo18⟩ := Kd.R_slice HO736.out; subst eo18))
   go_ret
   exact ⟨by first | rfl | (simp [errW_none, errW_some] <;> rfl) | (refine congrArg (fun z_ => Ending.returned (Value.bool z_)) (decide_eq_decide.mpr ?_); unfold wrap64; omega) | (simp [*, errW_none, errW_some] <;> rfl), by repeat (first | (with_reducible first | exact HB.out | apply below_alloc | apply pw_below_drewN | apply below_drew1 | refine below_set ?_ GE732.out | refine below_set ?_ GE737.out) | exact HB.out)⟩
  ·replace c11 := Bool.eq_false_iff.mpr c11
   subst c11
   have H1 : (some 1) = some r := by rw [if_neg (show ¬ (false = true) by decide)] at H; exact H
   clear H
   have H := H1
   clear H1
   obtain rfl := Option.some.inj H
   go_enter Tryd.func29, Tryd.ntmps29
   go_wp2_with (first | ((with_reducible refine gate_dst (N := 1) rfl ?_); refine box_event ?hg (N := 1) ?hd (cs := #[.bool a0_0, .slice A0_1 l0_1.length c0_1]) (t := 24) ?hr ?_; (case hd => rfl); (case hg => rfl); (case hr => first | (go_simp; done) | (go_simp; rfl)); intro gb732 hg w19 hbox hb; have BK732 := Aside0.mk (hbox); have GW732 := Aside0.mk (bxLe HB.out hg); have GE732 := GW732; replace HB := Aside0.mk (below_step HB.out hb); clear hb hbox hg; have hcz20_0 := bc0 BK732.out; have hcz20_1 := bc1 BK732.out; have hfz20_0 := blk_frozen BK732.out 0; have hfz20_1 := blk_frozen BK732.out 1) | ((with_reducible refine gate_callee (f := 17) rfl ?_); refine goL (some 5) Tryd.func17 [.agg #[.bool a0_0, .slice A0_1 l0_1.length c0_1]] ?_; (with_reducible refine (gudgeonref02_Norm.calls k a0_0 _ _ l0_1 false t734 _ ?side1 ?side2 A2.out).mono ?_); (case side1 => exact (Kd.C_below HR0_1.out HB.out)); (case side2 => exact HC0_1.out); rintro e w21 ⟨v735, rfl, ho0, hb⟩; refine ⟨_, rfl, ?_⟩; have HO736 := Aside0.mk (Kd.R_lower ho0 (below_size HB.out)); replace BK732 := Aside0.mk (blk_below BK732.out hb); replace HB := Aside0.mk (below_step HB.out hb)) | ((with_reducible refine gate_dst (N := 3) rfl ?_); refine box_event ?hg (N := 3) ?hd (cs := #[.bool false, .slice none 0 0]) (t := 24) ?hr ?_; (case hd => rfl); (case hg => rfl); (case hr => first | (go_simp; done) | (go_simp; rfl)); intro gb737 hg w22 hbox hb; replace HO736 := Aside0.mk (Kd.R_below HO736.out hb); have BK737 := Aside0.mk (hbox); have GW737 := Aside0.mk (bxLe HB.out hg); have GE737 := GW737; replace HB := Aside0.mk (below_step HB.out hb); have NB732_737 := Aside0.mk (neL BK732.out hg); have NB737_732 := Aside0.mk (neR BK732.out hg); replace BK732 := Aside0.mk (blk_below BK732.out hb); clear hb hbox hg; have hnb23 := NB737_732.out; have hnc23 := NB732_737.out; have hcz24_0 := bc0 BK737.out; have hcz24_1 := bc1 BK737.out; have hfz24_0 := blk_frozen BK737.out 0; have hfz24_1 := blk_frozen BK737.out 1; obtain ⟨Ao25, co25, eo25⟩ := Kd.R_slice HO736.out; subst eo25))
   go_ret
   exact ⟨by first | rfl | (simp [errW_none, errW_some] <;> rfl) | (refine congrArg (fun z_ => Ending.returned (Value.bool z_)) (decide_eq_decide.mpr ?_); unfold wrap64; omega) | (simp [*, errW_none, errW_some] <;> rfl), by repeat (first | (with_reducible first | exact HB.out | apply below_alloc | apply pw_below_drewN | apply below_drew1 | refine below_set ?_ GE732.out | refine below_set ?_ GE737.out) | exact HB.out)⟩

/-! ### gudgeonref02_Cmp: function 27 -/
def gudgeonref02_Cmp.f (k : Nat) (a0_0 : Bool) (l0_1 : List Int) (a1_0 : Bool) (l1_1 : List Int) : Option (Int) := (gudgeonref02_Sub.f k a0_0 l0_1 a1_0 l1_1).bind fun bt740 => ((gudgeonref02_Sign.f k bt740.1 bt740.2).bind fun t744 => (some t744))
set_option maxHeartbeats 8000000 in
set_option maxRecDepth 100000 in
theorem gudgeonref02_Cmp.calls (k : Nat) (a0_0 : Bool) (A0_1 : Option Addr) (c0_1 : Nat) (l0_1 : List Int) (a1_0 : Bool) (A1_1 : Option Addr) (c1_1 : Nat) (l1_1 : List Int) (r : Int) (w : World) (hr0_1 : Kd.C (Kd.int .u32) w A0_1 l0_1.length l0_1) (hc0_1 : l0_1.length ≤ c0_1) (hr1_1 : Kd.C (Kd.int .u32) w A1_1 l1_1.length l1_1) (hc1_1 : l1_1.length ≤ c1_1) (h : gudgeonref02_Cmp.f k a0_0 l0_1 a1_0 l1_1 = some r) :
  Calls Tryd.prog 27 #[.agg #[.bool a0_0, .slice A0_1 l0_1.length c0_1], .agg #[.bool a1_0, .slice A1_1 l1_1.length c1_1]] w fun e w' => e = .returned (.int .i64 r) ∧ Below w.heap.size w w' := by
 have hu24 := Tryd.underlying24
 have HR0_1 := Aside0.mk hr0_1
 have HC0_1 := Aside0.mk hc0_1
 clear hr0_1 hc0_1
 have HR1_1 := Aside0.mk hr1_1
 have HC1_1 := Aside0.mk hc1_1
 clear hr1_1 hc1_1
 have HB := Aside0.mk (Below.refl w.heap.size w)
 have H : ((gudgeonref02_Sub.f k a0_0 l0_1 a1_0 l1_1).bind fun bt740 => ((gudgeonref02_Sign.f k bt740.1 bt740.2).bind fun t744 => (some t744))) = some r := h
 clear h
 replace H := Option.bind_eq_some_iff.mp H
 obtain ⟨⟨t740, t741⟩, A30, H⟩ := H
 replace H : ((gudgeonref02_Sign.f k t740 t741).bind fun t744 => (some t744)) = some r := H
 have A3 := Aside0.mk A30
 clear A30
 replace H := Option.bind_eq_some_iff.mp H
 obtain ⟨t744, A40, H⟩ := H
 replace H : (some t744) = some r := H
 have A4 := Aside0.mk A40
 clear A40
 obtain rfl := Option.some.inj H
 go_enter Tryd.func27, Tryd.ntmps27
 go_wp2_with (first | ((with_reducible refine gate_dst (N := 2) rfl ?_); refine box_event ?hg (N := 2) ?hd (cs := #[.bool a0_0, .slice A0_1 l0_1.length c0_1]) (t := 24) ?hr ?_; (case hd => rfl); (case hg => rfl); (case hr => first | (go_simp; done) | (go_simp; rfl)); intro gb738 hg w5 hbox hb; have BK738 := Aside0.mk (hbox); have GW738 := Aside0.mk (bxLe HB.out hg); have GE738 := GW738; replace HB := Aside0.mk (below_step HB.out hb); clear hb hbox hg) | ((with_reducible refine gate_dst (N := 3) rfl ?_); refine box_event ?hg (N := 3) ?hd (cs := #[.bool a1_0, .slice A1_1 l1_1.length c1_1]) (t := 24) ?hr ?_; (case hd => rfl); (case hg => rfl); (case hr => first | (go_simp; done) | (go_simp; rfl)); intro gb739 hg w6 hbox hb; have BK739 := Aside0.mk (hbox); have GW739 := Aside0.mk (bxLe HB.out hg); have GE739 := GW739; replace HB := Aside0.mk (below_step HB.out hb); have NB738_739 := Aside0.mk (neL BK738.out hg); have NB739_738 := Aside0.mk (neR BK738.out hg); replace BK738 := Aside0.mk (blk_below BK738.out hb); clear hb hbox hg; have hnb7 := NB738_739.out; have hnc7 := NB739_738.out; have hcz8_0 := bc0 BK738.out; have hcz8_1 := bc1 BK738.out; have hfz8_0 := blk_frozen BK738.out 0; have hfz8_1 := blk_frozen BK738.out 1; have hcz9_0 := bc0 BK739.out; have hcz9_1 := bc1 BK739.out; have hfz9_0 := blk_frozen BK739.out 0; have hfz9_1 := blk_frozen BK739.out 1) | ((with_reducible refine gate_callee (f := 23) rfl ?_); refine goL (some 7) Tryd.func23 [.agg #[.bool a0_0, .slice A0_1 l0_1.length c0_1], .agg #[.bool a1_0, .slice A1_1 l1_1.length c1_1]] ?_; (with_reducible refine (gudgeonref02_Sub.calls k a0_0 _ _ l0_1 a1_0 _ _ l1_1 t740 t741 _ ?side1 ?side2 ?side3 ?side4 A3.out).mono ?_); (case side1 => exact (Kd.C_below HR0_1.out HB.out)); (case side2 => exact HC0_1.out); (case side3 => exact (Kd.C_below HR1_1.out HB.out)); (case side4 => exact HC1_1.out); rintro e w10 ⟨v742, rfl, ho0, hb⟩; refine ⟨_, rfl, ?_⟩; have HO743 := Aside0.mk (Kd.R_lower ho0 (below_size HB.out)); replace BK738 := Aside0.mk (blk_below BK738.out hb); replace BK739 := Aside0.mk (blk_below BK739.out hb); replace HB := Aside0.mk (below_step HB.out hb); obtain ⟨Ao11, co11, eo11⟩ := Kd.R_slice HO743.out; subst eo11) | ((with_reducible refine gate_callee (f := 29) rfl ?_); refine goL (some 8) Tryd.func29 [.agg #[.bool t740, .slice Ao11 t741.length co11]] ?_; (with_reducible refine (gudgeonref02_Sign.calls k t740 _ _ t741 t744 _ ?side1 ?side2 A4.out).mono ?_); (case side1 => exact (Kd.R_reads' HO743.out).2.2); (case side2 => exact (Kd.R_reads' HO743.out).2.1); rintro e w12 ⟨rfl, hb⟩; refine ⟨_, rfl, ?_⟩; replace HO743 := Aside0.mk (Kd.R_below HO743.out hb); replace BK738 := Aside0.mk (blk_below BK738.out hb); replace BK739 := Aside0.mk (blk_below BK739.out hb); replace HB := Aside0.mk (below_step HB.out hb); (try clear hb); (try clear hb2); (try clear hk); (try clear hi)))
 go_ret
 exact ⟨by first | rfl | (simp [errW_none, errW_some] <;> rfl) | (refine congrArg (fun z_ => Ending.returned (Value.bool z_)) (decide_eq_decide.mpr ?_); unfold wrap64; omega) | (simp [*, errW_none, errW_some] <;> rfl), by repeat (first | (with_reducible first | exact HB.out | apply below_alloc | apply pw_below_drewN | apply below_drew1 | refine below_set ?_ GE738.out | refine below_set ?_ GE739.out) | exact HB.out)⟩

end Go.Proofs.YthnfmmaolkenkaaDoor.PA
/- Written by a program of this session, wip/tools/patch_print.py, over the kit's print of the loaded functions. -/
namespace Go.Proofs.YthnfmmaolkenkaaDoor.H
end Go.Proofs.YthnfmmaolkenkaaDoor.H
namespace Go.Proofs.YthnfmmaolkenkaaDoor.PA
open Go.RowKit Go.Proofs.YthnfmmaolkenkaaDoorW.PrintWords Go.Proofs.YthnfmmaolkenkaaDoorW.PrintLast Go.Proofs.YthnfmmaolkenkaaDoorW.PrintMore Go.Proofs.YthnfmmaolkenkaaDoor.H
attribute [local go_sem] max2_int min2_int max_two min_two max_three min_three max_four min_four   -- for this text's walks alone
set_option linter.unusedVariables false
set_option linter.unusedSimpArgs false

/-! ### gudgeonlaw02_WholeSums: function 4 -/
def gudgeonlaw02_WholeSums.j0 : Nat → Bool → Bool → Bool → List Int → Bool → List Int → Option (Bool)
 | 0, _, _, _, _, _, _ => none
 | k + 1, x5, x21, x746000, x746001, x747000, x747001 => if x21 = true then (some x5) else ((whole_Norm.f x746000 x746001).bind fun bt749 => ((gudgeonref02_Norm.f k x746000 x746001).bind fun bt753 => ((gudgeonref02_Same.f k bt749.1 bt749.2 bt753.1 bt753.2).bind fun t757 => ((whole_Neg.f x746000 x746001).bind fun bt758 => ((gudgeonref02_Neg.f k x746000 x746001).bind fun bt762 => ((gudgeonref02_Same.f k bt758.1 bt758.2 bt762.1 bt762.2).bind fun t766 => ((whole_Add.f k x746000 x746001 x747000 x747001).bind fun bt767 => ((gudgeonref02_Add.f k x746000 x746001 x747000 x747001).bind fun bt771 => ((gudgeonref02_Same.f k bt767.1 bt767.2 bt771.1 bt771.2).bind fun t775 => ((whole_Sub.f k x746000 x746001 x747000 x747001).bind fun bt776 => ((gudgeonref02_Sub.f k x746000 x746001 x747000 x747001).bind fun bt780 => ((gudgeonref02_Same.f k bt776.1 bt776.2 bt780.1 bt780.2).bind fun t784 => ((whole_Mul.f k x746000 x746001 x747000 x747001).bind fun bt785 => ((gudgeonref02_Mul.f k x746000 x746001 x747000 x747001).bind fun bt789 => ((gudgeonref02_Same.f k bt785.1 bt785.2 bt789.1 bt789.2).bind fun t793 => (if t757 = true then (if t766 = true then (if t775 = true then (if t784 = true then (if t793 = true then ((whole_Cmp.f k x746000 x746001 x747000 x747001).bind fun t794 => ((gudgeonref02_Cmp.f k x746000 x746001 x747000 x747001).bind fun t795 => (if t794 = t795 then ((whole_Sign.f x746000 x746001).bind fun t796 => ((gudgeonref02_Sign.f k x746000 x746001).bind fun t797 => (some (t796 == t797)))) else (none)))) else (none)) else (none)) else (none)) else (none)) else (none)))))))))))))))))
def gudgeonlaw02_WholeSums.f (k : Nat) (a0_0 : Bool) (l0_1 : List Int) (a1_0 : Bool) (l1_1 : List Int) : Option (Bool) := (gudgeonlaw02_awake.f k).bind fun t747 => ((gudgeonlaw02_few.f a0_0 l0_1 a1_0 l1_1 16).bind fun t748 => (if t747 = true then (gudgeonlaw02_WholeSums.j0 k t747 (!t748) a0_0 l0_1 a1_0 l1_1) else (gudgeonlaw02_WholeSums.j0 k t747 true a0_0 l0_1 a1_0 l1_1)))
def gudgeonlaw02_WholeSums.T7 : Bool × List (List Nat × List Nat) := (true, [([], []), ([], []), ([0, 1], [0, 1]), ([], []), ([], []), ([3, 4, 2], [3, 4]), ([2, 5, 5], [2, 5]), ([6, 6, 0, 1, 2, 3, 4, 5, 6], [6])])
def gudgeonlaw02_WholeSums.B7 : List Nat := [0, 0, 3, 0, 0, 31, 63, 127]
theorem gudgeonlaw02_WholeSums.tab7 : rtab .any (opsOf Tryd.f4 7) = gudgeonlaw02_WholeSums.T7 := by kernel_rfl
theorem gudgeonlaw02_WholeSums.bits7 : waitsOk gudgeonlaw02_WholeSums.T7.2 gudgeonlaw02_WholeSums.B7 = true := by kernel_rfl
def gudgeonlaw02_WholeSums.T8 : Bool × List (List Nat × List Nat) := (true, [([], []), ([], []), ([0, 1], [0, 1]), ([], []), ([], []), ([3, 4, 2], [3, 4]), ([2, 5, 5], [2, 5]), ([6, 6, 0, 1, 2, 3, 4, 5, 6], [6])])
def gudgeonlaw02_WholeSums.B8 : List Nat := [0, 0, 3, 0, 0, 31, 63, 127]
theorem gudgeonlaw02_WholeSums.tab8 : rtab .any (opsOf Tryd.f4 8) = gudgeonlaw02_WholeSums.T8 := by kernel_rfl
theorem gudgeonlaw02_WholeSums.bits8 : waitsOk gudgeonlaw02_WholeSums.T8.2 gudgeonlaw02_WholeSums.B8 = true := by kernel_rfl
def gudgeonlaw02_WholeSums.T9 : Bool × List (List Nat × List Nat) := (true, [([], []), ([], []), ([0, 1], [0, 1]), ([], []), ([], []), ([3, 4, 2], [3, 4]), ([2, 5, 5], [2, 5]), ([6, 6, 0, 1, 2, 3, 4, 5, 6], [6])])
def gudgeonlaw02_WholeSums.B9 : List Nat := [0, 0, 3, 0, 0, 31, 63, 127]
theorem gudgeonlaw02_WholeSums.tab9 : rtab .any (opsOf Tryd.f4 9) = gudgeonlaw02_WholeSums.T9 := by kernel_rfl
theorem gudgeonlaw02_WholeSums.bits9 : waitsOk gudgeonlaw02_WholeSums.T9.2 gudgeonlaw02_WholeSums.B9 = true := by kernel_rfl
def gudgeonlaw02_WholeSums.T10 : Bool × List (List Nat × List Nat) := (true, [([], []), ([0], [0]), ([1], [1]), ([1, 2], [1, 2]), ([3, 1], [3]), ([4], [4]), ([4, 5], [4, 5]), ([6, 4], [6]), ([7], [7]), ([7, 8], [7, 8]), ([9, 7], [9]), ([10], [10]), ([10, 11], [10, 11]), ([12, 10], [12]), ([13], [13]), ([13], [13]), ([14, 15, 13, 13], [13, 14, 15]), ([13], [13]), ([13], [13]), ([17, 18, 16, 13], [13, 17, 18]), ([16, 19, 13], [13, 16, 19]), ([13, 20], [13, 20]), ([21, 19], [21]), ([22], [22]), ([23, 22, 22], [22, 23]), ([22], [22]), ([25, 24, 22], [22, 25]), ([24, 26, 22], [22, 24, 26]), ([22, 27], [22, 27]), ([28, 26, 0, 1, 2, 3, 4, 5, 6, 7, 8, 9, 10, 11, 12, 13, 14, 15, 16, 17, 18, 19, 20, 21, 22, 23, 24, 25, 26, 27, 28], [28])])
def gudgeonlaw02_WholeSums.B10 : List Nat := [0, 1, 3, 7, 15, 31, 63, 127, 255, 511, 1023, 2047, 4095, 8191, 16383, 16383, 65535, 16383, 16383, 524287, 1048575, 2097151, 4194303, 8388607, 16777215, 8388607, 67108863, 134217727, 268435455, 536870911]
theorem gudgeonlaw02_WholeSums.tab10 : rtab .any (opsOf Tryd.f4 10) = gudgeonlaw02_WholeSums.T10 := by kernel_rfl
theorem gudgeonlaw02_WholeSums.bits10 : waitsOk gudgeonlaw02_WholeSums.T10.2 gudgeonlaw02_WholeSums.B10 = true := by kernel_rfl
set_option maxHeartbeats 8000000 in
set_option maxRecDepth 100000 in
theorem gudgeonlaw02_WholeSums.calls (k : Nat) (a0_0 : Bool) (A0_1 : Option Addr) (c0_1 : Nat) (l0_1 : List Int) (a1_0 : Bool) (A1_1 : Option Addr) (c1_1 : Nat) (l1_1 : List Int) (r : Bool) (w : World) (hr0_1 : Kd.C (Kd.int .u32) w A0_1 l0_1.length l0_1) (hc0_1 : l0_1.length ≤ c0_1) (hr1_1 : Kd.C (Kd.int .u32) w A1_1 l1_1.length l1_1) (hc1_1 : l1_1.length ≤ c1_1) (h : gudgeonlaw02_WholeSums.f k a0_0 l0_1 a1_0 l1_1 = some r) :
  Calls Tryd.prog 4 #[.agg #[.bool a0_0, .slice A0_1 l0_1.length c0_1], .agg #[.bool a1_0, .slice A1_1 l1_1.length c1_1]] w fun e w' => e = .returned (.bool r) ∧ Below w.heap.size w w' := by
 have hu24 := Tryd.underlying24
 have HR0_1 := Aside0.mk hr0_1
 have HC0_1 := Aside0.mk hc0_1
 clear hr0_1 hc0_1
 have HR1_1 := Aside0.mk hr1_1
 have HC1_1 := Aside0.mk hc1_1
 clear hr1_1 hc1_1
 have HB := Aside0.mk (Below.refl w.heap.size w)
 have H : ((gudgeonlaw02_awake.f k).bind fun t747 => ((gudgeonlaw02_few.f a0_0 l0_1 a1_0 l1_1 16).bind fun t748 => (if t747 = true then (gudgeonlaw02_WholeSums.j0 k t747 (!t748) a0_0 l0_1 a1_0 l1_1) else (gudgeonlaw02_WholeSums.j0 k t747 true a0_0 l0_1 a1_0 l1_1)))) = some r := h
 clear h
 replace H := Option.bind_eq_some_iff.mp H
 obtain ⟨t747, A30, H⟩ := H
 replace H : ((gudgeonlaw02_few.f a0_0 l0_1 a1_0 l1_1 16).bind fun t748 => (if t747 = true then (gudgeonlaw02_WholeSums.j0 k t747 (!t748) a0_0 l0_1 a1_0 l1_1) else (gudgeonlaw02_WholeSums.j0 k t747 true a0_0 l0_1 a1_0 l1_1))) = some r := H
 have A3 := Aside0.mk A30
 clear A30
 replace H := Option.bind_eq_some_iff.mp H
 obtain ⟨t748, A40, H⟩ := H
 replace H : (if t747 = true then (gudgeonlaw02_WholeSums.j0 k t747 (!t748) a0_0 l0_1 a1_0 l1_1) else (gudgeonlaw02_WholeSums.j0 k t747 true a0_0 l0_1 a1_0 l1_1)) = some r := H
 have A4 := Aside0.mk A40
 clear A40
 have HC5 := Aside0.mk H
 clear H
 go_enter Tryd.func4, Tryd.ntmps4
 go_upto_region 3 with (first | ((with_reducible refine gate_dst (N := 2) rfl ?_); refine box_event ?hg (N := 2) ?hd (cs := #[.bool a0_0, .slice A0_1 l0_1.length c0_1]) (t := 24) ?hr ?_; (case hd => rfl); (case hg => rfl); (case hr => first | (go_simp; done) | (go_simp; rfl)); intro gb745 hg w6 hbox hb; have BK745 := Aside0.mk (hbox); have GW745 := Aside0.mk (bxLe HB.out hg); have GE745 := GW745; replace HB := Aside0.mk (below_step HB.out hb); clear hb hbox hg) | ((with_reducible refine gate_dst (N := 3) rfl ?_); refine box_event ?hg (N := 3) ?hd (cs := #[.bool a1_0, .slice A1_1 l1_1.length c1_1]) (t := 24) ?hr ?_; (case hd => rfl); (case hg => rfl); (case hr => first | (go_simp; done) | (go_simp; rfl)); intro gb746 hg w7 hbox hb; have BK746 := Aside0.mk (hbox); have GW746 := Aside0.mk (bxLe HB.out hg); have GE746 := GW746; replace HB := Aside0.mk (below_step HB.out hb); have NB745_746 := Aside0.mk (neL BK745.out hg); have NB746_745 := Aside0.mk (neR BK745.out hg); replace BK745 := Aside0.mk (blk_below BK745.out hb); clear hb hbox hg) | ((with_reducible refine gate_callee (f := 9) rfl ?_); refine goL (some 12) Tryd.func9 [] ?_; (with_reducible refine (gudgeonlaw02_awake.calls k  t747 _ A3.out).mono ?_); rintro e w8 ⟨rfl, hb⟩; refine ⟨_, rfl, ?_⟩; replace BK745 := Aside0.mk (blk_below BK745.out hb); replace BK746 := Aside0.mk (blk_below BK746.out hb); replace HB := Aside0.mk (below_step HB.out hb); (try clear hb); (try clear hb2); (try clear hk); (try clear hi); have hnb9 := NB745_746.out; have hnc9 := NB746_745.out; have hcz10_0 := bc0 BK745.out; have hcz10_1 := bc1 BK745.out; have hfz10_0 := blk_frozen BK745.out 0; have hfz10_1 := blk_frozen BK745.out 1; have hcz11_0 := bc0 BK746.out; have hcz11_1 := bc1 BK746.out; have hfz11_0 := blk_frozen BK746.out 0; have hfz11_1 := blk_frozen BK746.out 1) | ((with_reducible refine gate_callee (f := 10) rfl ?_); refine goL (some 15) Tryd.func10 [.agg #[.bool a0_0, .slice A0_1 l0_1.length c0_1], .agg #[.bool a1_0, .slice A1_1 l1_1.length c1_1], .int .i64 16] ?_; (with_reducible refine (gudgeonlaw02_few.calls a0_0 _ _ l0_1 a1_0 _ _ l1_1 16 t748 _ ?side1 ?side2 ?side3 ?side4 A4.out).mono ?_); (case side1 => exact (Kd.C_below HR0_1.out HB.out)); (case side2 => exact HC0_1.out); (case side3 => exact (Kd.C_below HR1_1.out HB.out)); (case side4 => exact HC1_1.out); rintro e w12 ⟨rfl, hb⟩; refine ⟨_, rfl, ?_⟩; replace BK745 := Aside0.mk (blk_below BK745.out hb); replace BK746 := Aside0.mk (blk_below BK746.out hb); replace HB := Aside0.mk (below_step HB.out hb); (try clear hb); (try clear hb2); (try clear hk); (try clear hi)))
 (try simp only [Act.put, List.setIfInBounds_toArray, List.set_cons_zero, List.set_cons_succ])
 go_cut [21] (fun v21 wc => ∃ (kq : Nat) (x21_4 : Bool), v21 = .bool x21_4 ∧ Aside0 (gudgeonlaw02_WholeSums.j0 kq t747 x21_4 a0_0 l0_1 a1_0 l1_1 = some r) ∧ Aside0 (kq ≤ k) ∧ Aside0 (wc.heap[gb745]? = some (.cells #[.bool a0_0, (.slice A0_1 l0_1.length c0_1)] 24 (0, 0))) ∧ Aside0 (wc.heap[gb746]? = some (.cells #[.bool a1_0, (.slice A1_1 l1_1.length c1_1)] 24 (0, 0))) ∧ Aside0 (Below w.heap.size w wc))
 case first =>
  have H := HC5.out
  clear HC5
  by_cases c13 : t747 = true
  ·subst c13
   have H1 : (gudgeonlaw02_WholeSums.j0 k true (!t748) a0_0 l0_1 a1_0 l1_1) = some r := by rw [if_pos rfl] at H; exact H
   clear H
   have H := H1
   clear H1
   have H' := Aside0.mk H
   clear H
   go_wp2
   go_meet
   case rel => exact ⟨_, (!t748), (by first | rfl | (simp; done) | (simp [*]; done) | (refine congrArg (Value.int _) ?_; omega) | (refine congrArg Value.bool ?_; generalize ByteArray.toList _ = z_; cases z_ <;> rfl)), H', ⟨by first | omega | exact Nat.le_refl _⟩, ⟨by (with_reducible repeat (first | refine blk_drewN ?_ _ | refine blk_drew ?_ | refine blk_alloc ?_ _)); exact BK745.out⟩, ⟨by (with_reducible repeat (first | refine blk_drewN ?_ _ | refine blk_drew ?_ | refine blk_alloc ?_ _)); exact BK746.out⟩, ⟨by repeat (first | (with_reducible first | exact HB.out | apply below_alloc | apply pw_below_drewN | apply below_drew1 | refine below_set ?_ GE745.out | refine below_set ?_ GE746.out) | exact HB.out)⟩⟩
  ·replace c13 := Bool.eq_false_iff.mpr c13
   subst c13
   have H1 : (gudgeonlaw02_WholeSums.j0 k false true a0_0 l0_1 a1_0 l1_1) = some r := by rw [if_neg (show ¬ (false = true) by decide)] at H; exact H
   clear H
   have H := H1
   clear H1
   have H' := Aside0.mk H
   clear H
   go_wp2
   go_meet
   case rel => exact ⟨_, (true), (by first | rfl | (simp; done) | (simp [*]; done) | (refine congrArg (Value.int _) ?_; omega) | (refine congrArg Value.bool ?_; generalize ByteArray.toList _ = z_; cases z_ <;> rfl)), H', ⟨by first | omega | exact Nat.le_refl _⟩, ⟨by (with_reducible repeat (first | refine blk_drewN ?_ _ | refine blk_drew ?_ | refine blk_alloc ?_ _)); exact BK745.out⟩, ⟨by (with_reducible repeat (first | refine blk_drewN ?_ _ | refine blk_drew ?_ | refine blk_alloc ?_ _)); exact BK746.out⟩, ⟨by repeat (first | (with_reducible first | exact HB.out | apply below_alloc | apply pw_below_drewN | apply below_drew1 | refine below_set ?_ GE745.out | refine below_set ?_ GE746.out) | exact HB.out)⟩⟩
 case rest =>
  clear HC5
  try clear c1
  try clear p2
  try clear c4
  try clear c9
  try clear c10
  try clear c13
  try clear hcz10_0
  try clear hcz10_1
  try clear hcz11_0
  try clear hcz11_1
  try clear hfz10_0
  try clear hfz10_1
  try clear hfz11_0
  try clear hfz11_1
  obtain ⟨kq, x21_4, rfl, HA, HJ4, BK745, BK746, HB⟩ := hcut
  cases kq with
  | zero => exact absurd HA.out (by simp [gudgeonlaw02_WholeSums.j0])
  | succ kj4 =>
   have H := HA.out
   clear HA
   simp only [gudgeonlaw02_WholeSums.j0] at H
   by_cases c14 : x21_4 = true
   ·subst c14
    have H1 : (some t747) = some r := by rw [if_pos rfl] at H; exact H
    clear H
    have H := H1
    clear H1
    obtain rfl := Option.some.inj H
    go_wp2
    go_ret
    exact ⟨by first | rfl | (simp [errW_none, errW_some] <;> rfl) | (refine congrArg (fun z_ => Ending.returned (Value.bool z_)) (decide_eq_decide.mpr ?_); unfold wrap64; omega) | (simp [*, errW_none, errW_some] <;> rfl), by repeat (first | (with_reducible first | exact HB.out | apply below_alloc | apply pw_below_drewN | apply below_drew1 | refine below_set ?_ GE745.out | refine below_set ?_ GE746.out) | exact HB.out)⟩
   ·replace c14 := Bool.eq_false_iff.mpr c14
    subst c14
    have H1 : ((whole_Norm.f a0_0 l0_1).bind fun bt749 => ((gudgeonref02_Norm.f kj4 a0_0 l0_1).bind fun bt753 => ((gudgeonref02_Same.f kj4 bt749.1 bt749.2 bt753.1 bt753.2).bind fun t757 => ((whole_Neg.f a0_0 l0_1).bind fun bt758 => ((gudgeonref02_Neg.f kj4 a0_0 l0_1).bind fun bt762 => ((gudgeonref02_Same.f kj4 bt758.1 bt758.2 bt762.1 bt762.2).bind fun t766 => ((whole_Add.f kj4 a0_0 l0_1 a1_0 l1_1).bind fun bt767 => ((gudgeonref02_Add.f kj4 a0_0 l0_1 a1_0 l1_1).bind fun bt771 => ((gudgeonref02_Same.f kj4 bt767.1 bt767.2 bt771.1 bt771.2).bind fun t775 => ((whole_Sub.f kj4 a0_0 l0_1 a1_0 l1_1).bind fun bt776 => ((gudgeonref02_Sub.f kj4 a0_0 l0_1 a1_0 l1_1).bind fun bt780 => ((gudgeonref02_Same.f kj4 bt776.1 bt776.2 bt780.1 bt780.2).bind fun t784 => ((whole_Mul.f kj4 a0_0 l0_1 a1_0 l1_1).bind fun bt785 => ((gudgeonref02_Mul.f kj4 a0_0 l0_1 a1_0 l1_1).bind fun bt789 => ((gudgeonref02_Same.f kj4 bt785.1 bt785.2 bt789.1 bt789.2).bind fun t793 => (if t757 = true then (if t766 = true then (if t775 = true then (if t784 = true then (if t793 = true then ((whole_Cmp.f kj4 a0_0 l0_1 a1_0 l1_1).bind fun t794 => ((gudgeonref02_Cmp.f kj4 a0_0 l0_1 a1_0 l1_1).bind fun t795 => (if t794 = t795 then ((whole_Sign.f a0_0 l0_1).bind fun t796 => ((gudgeonref02_Sign.f kj4 a0_0 l0_1).bind fun t797 => (some (t796 == t797)))) else (none)))) else (none)) else (none)) else (none)) else (none)) else (none))))))))))))))))) = some r := by rw [if_neg (show ¬ (false = true) by decide)] at H; exact H
    clear H
    have H := H1
    clear H1
    replace H := Option.bind_eq_some_iff.mp H
    obtain ⟨⟨t749, t750⟩, A150, H⟩ := H
    replace H : ((gudgeonref02_Norm.f kj4 a0_0 l0_1).bind fun bt753 => ((gudgeonref02_Same.f kj4 t749 t750 bt753.1 bt753.2).bind fun t757 => ((whole_Neg.f a0_0 l0_1).bind fun bt758 => ((gudgeonref02_Neg.f kj4 a0_0 l0_1).bind fun bt762 => ((gudgeonref02_Same.f kj4 bt758.1 bt758.2 bt762.1 bt762.2).bind fun t766 => ((whole_Add.f kj4 a0_0 l0_1 a1_0 l1_1).bind fun bt767 => ((gudgeonref02_Add.f kj4 a0_0 l0_1 a1_0 l1_1).bind fun bt771 => ((gudgeonref02_Same.f kj4 bt767.1 bt767.2 bt771.1 bt771.2).bind fun t775 => ((whole_Sub.f kj4 a0_0 l0_1 a1_0 l1_1).bind fun bt776 => ((gudgeonref02_Sub.f kj4 a0_0 l0_1 a1_0 l1_1).bind fun bt780 => ((gudgeonref02_Same.f kj4 bt776.1 bt776.2 bt780.1 bt780.2).bind fun t784 => ((whole_Mul.f kj4 a0_0 l0_1 a1_0 l1_1).bind fun bt785 => ((gudgeonref02_Mul.f kj4 a0_0 l0_1 a1_0 l1_1).bind fun bt789 => ((gudgeonref02_Same.f kj4 bt785.1 bt785.2 bt789.1 bt789.2).bind fun t793 => (if t757 = true then (if t766 = true then (if t775 = true then (if t784 = true then (if t793 = true then ((whole_Cmp.f kj4 a0_0 l0_1 a1_0 l1_1).bind fun t794 => ((gudgeonref02_Cmp.f kj4 a0_0 l0_1 a1_0 l1_1).bind fun t795 => (if t794 = t795 then ((whole_Sign.f a0_0 l0_1).bind fun t796 => ((gudgeonref02_Sign.f kj4 a0_0 l0_1).bind fun t797 => (some (t796 == t797)))) else (none)))) else (none)) else (none)) else (none)) else (none)) else (none)))))))))))))))) = some r := H
    have A15 := Aside0.mk A150
    clear A150
    replace H := Option.bind_eq_some_iff.mp H
    obtain ⟨⟨t753, t754⟩, A160, H⟩ := H
    replace H : ((gudgeonref02_Same.f kj4 t749 t750 t753 t754).bind fun t757 => ((whole_Neg.f a0_0 l0_1).bind fun bt758 => ((gudgeonref02_Neg.f kj4 a0_0 l0_1).bind fun bt762 => ((gudgeonref02_Same.f kj4 bt758.1 bt758.2 bt762.1 bt762.2).bind fun t766 => ((whole_Add.f kj4 a0_0 l0_1 a1_0 l1_1).bind fun bt767 => ((gudgeonref02_Add.f kj4 a0_0 l0_1 a1_0 l1_1).bind fun bt771 => ((gudgeonref02_Same.f kj4 bt767.1 bt767.2 bt771.1 bt771.2).bind fun t775 => ((whole_Sub.f kj4 a0_0 l0_1 a1_0 l1_1).bind fun bt776 => ((gudgeonref02_Sub.f kj4 a0_0 l0_1 a1_0 l1_1).bind fun bt780 => ((gudgeonref02_Same.f kj4 bt776.1 bt776.2 bt780.1 bt780.2).bind fun t784 => ((whole_Mul.f kj4 a0_0 l0_1 a1_0 l1_1).bind fun bt785 => ((gudgeonref02_Mul.f kj4 a0_0 l0_1 a1_0 l1_1).bind fun bt789 => ((gudgeonref02_Same.f kj4 bt785.1 bt785.2 bt789.1 bt789.2).bind fun t793 => (if t757 = true then (if t766 = true then (if t775 = true then (if t784 = true then (if t793 = true then ((whole_Cmp.f kj4 a0_0 l0_1 a1_0 l1_1).bind fun t794 => ((gudgeonref02_Cmp.f kj4 a0_0 l0_1 a1_0 l1_1).bind fun t795 => (if t794 = t795 then ((whole_Sign.f a0_0 l0_1).bind fun t796 => ((gudgeonref02_Sign.f kj4 a0_0 l0_1).bind fun t797 => (some (t796 == t797)))) else (none)))) else (none)) else (none)) else (none)) else (none)) else (none))))))))))))))) = some r := H
    have A16 := Aside0.mk A160
    clear A160
    replace H := Option.bind_eq_some_iff.mp H
    obtain ⟨t757, A170, H⟩ := H
    replace H : ((whole_Neg.f a0_0 l0_1).bind fun bt758 => ((gudgeonref02_Neg.f kj4 a0_0 l0_1).bind fun bt762 => ((gudgeonref02_Same.f kj4 bt758.1 bt758.2 bt762.1 bt762.2).bind fun t766 => ((whole_Add.f kj4 a0_0 l0_1 a1_0 l1_1).bind fun bt767 => ((gudgeonref02_Add.f kj4 a0_0 l0_1 a1_0 l1_1).bind fun bt771 => ((gudgeonref02_Same.f kj4 bt767.1 bt767.2 bt771.1 bt771.2).bind fun t775 => ((whole_Sub.f kj4 a0_0 l0_1 a1_0 l1_1).bind fun bt776 => ((gudgeonref02_Sub.f kj4 a0_0 l0_1 a1_0 l1_1).bind fun bt780 => ((gudgeonref02_Same.f kj4 bt776.1 bt776.2 bt780.1 bt780.2).bind fun t784 => ((whole_Mul.f kj4 a0_0 l0_1 a1_0 l1_1).bind fun bt785 => ((gudgeonref02_Mul.f kj4 a0_0 l0_1 a1_0 l1_1).bind fun bt789 => ((gudgeonref02_Same.f kj4 bt785.1 bt785.2 bt789.1 bt789.2).bind fun t793 => (if t757 = true then (if t766 = true then (if t775 = true then (if t784 = true then (if t793 = true then ((whole_Cmp.f kj4 a0_0 l0_1 a1_0 l1_1).bind fun t794 => ((gudgeonref02_Cmp.f kj4 a0_0 l0_1 a1_0 l1_1).bind fun t795 => (if t794 = t795 then ((whole_Sign.f a0_0 l0_1).bind fun t796 => ((gudgeonref02_Sign.f kj4 a0_0 l0_1).bind fun t797 => (some (t796 == t797)))) else (none)))) else (none)) else (none)) else (none)) else (none)) else (none)))))))))))))) = some r := H
    have A17 := Aside0.mk A170
    clear A170
    replace H := Option.bind_eq_some_iff.mp H
    obtain ⟨⟨t758, t759⟩, A180, H⟩ := H
    replace H : ((gudgeonref02_Neg.f kj4 a0_0 l0_1).bind fun bt762 => ((gudgeonref02_Same.f kj4 t758 t759 bt762.1 bt762.2).bind fun t766 => ((whole_Add.f kj4 a0_0 l0_1 a1_0 l1_1).bind fun bt767 => ((gudgeonref02_Add.f kj4 a0_0 l0_1 a1_0 l1_1).bind fun bt771 => ((gudgeonref02_Same.f kj4 bt767.1 bt767.2 bt771.1 bt771.2).bind fun t775 => ((whole_Sub.f kj4 a0_0 l0_1 a1_0 l1_1).bind fun bt776 => ((gudgeonref02_Sub.f kj4 a0_0 l0_1 a1_0 l1_1).bind fun bt780 => ((gudgeonref02_Same.f kj4 bt776.1 bt776.2 bt780.1 bt780.2).bind fun t784 => ((whole_Mul.f kj4 a0_0 l0_1 a1_0 l1_1).bind fun bt785 => ((gudgeonref02_Mul.f kj4 a0_0 l0_1 a1_0 l1_1).bind fun bt789 => ((gudgeonref02_Same.f kj4 bt785.1 bt785.2 bt789.1 bt789.2).bind fun t793 => (if t757 = true then (if t766 = true then (if t775 = true then (if t784 = true then (if t793 = true then ((whole_Cmp.f kj4 a0_0 l0_1 a1_0 l1_1).bind fun t794 => ((gudgeonref02_Cmp.f kj4 a0_0 l0_1 a1_0 l1_1).bind fun t795 => (if t794 = t795 then ((whole_Sign.f a0_0 l0_1).bind fun t796 => ((gudgeonref02_Sign.f kj4 a0_0 l0_1).bind fun t797 => (some (t796 == t797)))) else (none)))) else (none)) else (none)) else (none)) else (none)) else (none))))))))))))) = some r := H
    have A18 := Aside0.mk A180
    clear A180
    replace H := Option.bind_eq_some_iff.mp H
    obtain ⟨⟨t762, t763⟩, A190, H⟩ := H
    replace H : ((gudgeonref02_Same.f kj4 t758 t759 t762 t763).bind fun t766 => ((whole_Add.f kj4 a0_0 l0_1 a1_0 l1_1).bind fun bt767 => ((gudgeonref02_Add.f kj4 a0_0 l0_1 a1_0 l1_1).bind fun bt771 => ((gudgeonref02_Same.f kj4 bt767.1 bt767.2 bt771.1 bt771.2).bind fun t775 => ((whole_Sub.f kj4 a0_0 l0_1 a1_0 l1_1).bind fun bt776 => ((gudgeonref02_Sub.f kj4 a0_0 l0_1 a1_0 l1_1).bind fun bt780 => ((gudgeonref02_Same.f kj4 bt776.1 bt776.2 bt780.1 bt780.2).bind fun t784 => ((whole_Mul.f kj4 a0_0 l0_1 a1_0 l1_1).bind fun bt785 => ((gudgeonref02_Mul.f kj4 a0_0 l0_1 a1_0 l1_1).bind fun bt789 => ((gudgeonref02_Same.f kj4 bt785.1 bt785.2 bt789.1 bt789.2).bind fun t793 => (if t757 = true then (if t766 = true then (if t775 = true then (if t784 = true then (if t793 = true then ((whole_Cmp.f kj4 a0_0 l0_1 a1_0 l1_1).bind fun t794 => ((gudgeonref02_Cmp.f kj4 a0_0 l0_1 a1_0 l1_1).bind fun t795 => (if t794 = t795 then ((whole_Sign.f a0_0 l0_1).bind fun t796 => ((gudgeonref02_Sign.f kj4 a0_0 l0_1).bind fun t797 => (some (t796 == t797)))) else (none)))) else (none)) else (none)) else (none)) else (none)) else (none)))))))))))) = some r := H
    have A19 := Aside0.mk A190
    clear A190
    replace H := Option.bind_eq_some_iff.mp H
    obtain ⟨t766, A200, H⟩ := H
    replace H : ((whole_Add.f kj4 a0_0 l0_1 a1_0 l1_1).bind fun bt767 => ((gudgeonref02_Add.f kj4 a0_0 l0_1 a1_0 l1_1).bind fun bt771 => ((gudgeonref02_Same.f kj4 bt767.1 bt767.2 bt771.1 bt771.2).bind fun t775 => ((whole_Sub.f kj4 a0_0 l0_1 a1_0 l1_1).bind fun bt776 => ((gudgeonref02_Sub.f kj4 a0_0 l0_1 a1_0 l1_1).bind fun bt780 => ((gudgeonref02_Same.f kj4 bt776.1 bt776.2 bt780.1 bt780.2).bind fun t784 => ((whole_Mul.f kj4 a0_0 l0_1 a1_0 l1_1).bind fun bt785 => ((gudgeonref02_Mul.f kj4 a0_0 l0_1 a1_0 l1_1).bind fun bt789 => ((gudgeonref02_Same.f kj4 bt785.1 bt785.2 bt789.1 bt789.2).bind fun t793 => (if t757 = true then (if t766 = true then (if t775 = true then (if t784 = true then (if t793 = true then ((whole_Cmp.f kj4 a0_0 l0_1 a1_0 l1_1).bind fun t794 => ((gudgeonref02_Cmp.f kj4 a0_0 l0_1 a1_0 l1_1).bind fun t795 => (if t794 = t795 then ((whole_Sign.f a0_0 l0_1).bind fun t796 => ((gudgeonref02_Sign.f kj4 a0_0 l0_1).bind fun t797 => (some (t796 == t797)))) else (none)))) else (none)) else (none)) else (none)) else (none)) else (none))))))))))) = some r := H
    have A20 := Aside0.mk A200
    clear A200
    replace H := Option.bind_eq_some_iff.mp H
    obtain ⟨⟨t767, t768⟩, A210, H⟩ := H
    replace H : ((gudgeonref02_Add.f kj4 a0_0 l0_1 a1_0 l1_1).bind fun bt771 => ((gudgeonref02_Same.f kj4 t767 t768 bt771.1 bt771.2).bind fun t775 => ((whole_Sub.f kj4 a0_0 l0_1 a1_0 l1_1).bind fun bt776 => ((gudgeonref02_Sub.f kj4 a0_0 l0_1 a1_0 l1_1).bind fun bt780 => ((gudgeonref02_Same.f kj4 bt776.1 bt776.2 bt780.1 bt780.2).bind fun t784 => ((whole_Mul.f kj4 a0_0 l0_1 a1_0 l1_1).bind fun bt785 => ((gudgeonref02_Mul.f kj4 a0_0 l0_1 a1_0 l1_1).bind fun bt789 => ((gudgeonref02_Same.f kj4 bt785.1 bt785.2 bt789.1 bt789.2).bind fun t793 => (if t757 = true then (if t766 = true then (if t775 = true then (if t784 = true then (if t793 = true then ((whole_Cmp.f kj4 a0_0 l0_1 a1_0 l1_1).bind fun t794 => ((gudgeonref02_Cmp.f kj4 a0_0 l0_1 a1_0 l1_1).bind fun t795 => (if t794 = t795 then ((whole_Sign.f a0_0 l0_1).bind fun t796 => ((gudgeonref02_Sign.f kj4 a0_0 l0_1).bind fun t797 => (some (t796 == t797)))) else (none)))) else (none)) else (none)) else (none)) else (none)) else (none)))))))))) = some r := H
    have A21 := Aside0.mk A210
    clear A210
    replace H := Option.bind_eq_some_iff.mp H
    obtain ⟨⟨t771, t772⟩, A220, H⟩ := H
    replace H : ((gudgeonref02_Same.f kj4 t767 t768 t771 t772).bind fun t775 => ((whole_Sub.f kj4 a0_0 l0_1 a1_0 l1_1).bind fun bt776 => ((gudgeonref02_Sub.f kj4 a0_0 l0_1 a1_0 l1_1).bind fun bt780 => ((gudgeonref02_Same.f kj4 bt776.1 bt776.2 bt780.1 bt780.2).bind fun t784 => ((whole_Mul.f kj4 a0_0 l0_1 a1_0 l1_1).bind fun bt785 => ((gudgeonref02_Mul.f kj4 a0_0 l0_1 a1_0 l1_1).bind fun bt789 => ((gudgeonref02_Same.f kj4 bt785.1 bt785.2 bt789.1 bt789.2).bind fun t793 => (if t757 = true then (if t766 = true then (if t775 = true then (if t784 = true then (if t793 = true then ((whole_Cmp.f kj4 a0_0 l0_1 a1_0 l1_1).bind fun t794 => ((gudgeonref02_Cmp.f kj4 a0_0 l0_1 a1_0 l1_1).bind fun t795 => (if t794 = t795 then ((whole_Sign.f a0_0 l0_1).bind fun t796 => ((gudgeonref02_Sign.f kj4 a0_0 l0_1).bind fun t797 => (some (t796 == t797)))) else (none)))) else (none)) else (none)) else (none)) else (none)) else (none))))))))) = some r := H
    have A22 := Aside0.mk A220
    clear A220
    replace H := Option.bind_eq_some_iff.mp H
    obtain ⟨t775, A230, H⟩ := H
    replace H : ((whole_Sub.f kj4 a0_0 l0_1 a1_0 l1_1).bind fun bt776 => ((gudgeonref02_Sub.f kj4 a0_0 l0_1 a1_0 l1_1).bind fun bt780 => ((gudgeonref02_Same.f kj4 bt776.1 bt776.2 bt780.1 bt780.2).bind fun t784 => ((whole_Mul.f kj4 a0_0 l0_1 a1_0 l1_1).bind fun bt785 => ((gudgeonref02_Mul.f kj4 a0_0 l0_1 a1_0 l1_1).bind fun bt789 => ((gudgeonref02_Same.f kj4 bt785.1 bt785.2 bt789.1 bt789.2).bind fun t793 => (if t757 = true then (if t766 = true then (if t775 = true then (if t784 = true then (if t793 = true then ((whole_Cmp.f kj4 a0_0 l0_1 a1_0 l1_1).bind fun t794 => ((gudgeonref02_Cmp.f kj4 a0_0 l0_1 a1_0 l1_1).bind fun t795 => (if t794 = t795 then ((whole_Sign.f a0_0 l0_1).bind fun t796 => ((gudgeonref02_Sign.f kj4 a0_0 l0_1).bind fun t797 => (some (t796 == t797)))) else (none)))) else (none)) else (none)) else (none)) else (none)) else (none)))))))) = some r := H
    have A23 := Aside0.mk A230
    clear A230
    replace H := Option.bind_eq_some_iff.mp H
    obtain ⟨⟨t776, t777⟩, A240, H⟩ := H
    replace H : ((gudgeonref02_Sub.f kj4 a0_0 l0_1 a1_0 l1_1).bind fun bt780 => ((gudgeonref02_Same.f kj4 t776 t777 bt780.1 bt780.2).bind fun t784 => ((whole_Mul.f kj4 a0_0 l0_1 a1_0 l1_1).bind fun bt785 => ((gudgeonref02_Mul.f kj4 a0_0 l0_1 a1_0 l1_1).bind fun bt789 => ((gudgeonref02_Same.f kj4 bt785.1 bt785.2 bt789.1 bt789.2).bind fun t793 => (if t757 = true then (if t766 = true then (if t775 = true then (if t784 = true then (if t793 = true then ((whole_Cmp.f kj4 a0_0 l0_1 a1_0 l1_1).bind fun t794 => ((gudgeonref02_Cmp.f kj4 a0_0 l0_1 a1_0 l1_1).bind fun t795 => (if t794 = t795 then ((whole_Sign.f a0_0 l0_1).bind fun t796 => ((gudgeonref02_Sign.f kj4 a0_0 l0_1).bind fun t797 => (some (t796 == t797)))) else (none)))) else (none)) else (none)) else (none)) else (none)) else (none))))))) = some r := H
    have A24 := Aside0.mk A240
    clear A240
    replace H := Option.bind_eq_some_iff.mp H
    obtain ⟨⟨t780, t781⟩, A250, H⟩ := H
    replace H : ((gudgeonref02_Same.f kj4 t776 t777 t780 t781).bind fun t784 => ((whole_Mul.f kj4 a0_0 l0_1 a1_0 l1_1).bind fun bt785 => ((gudgeonref02_Mul.f kj4 a0_0 l0_1 a1_0 l1_1).bind fun bt789 => ((gudgeonref02_Same.f kj4 bt785.1 bt785.2 bt789.1 bt789.2).bind fun t793 => (if t757 = true then (if t766 = true then (if t775 = true then (if t784 = true then (if t793 = true then ((whole_Cmp.f kj4 a0_0 l0_1 a1_0 l1_1).bind fun t794 => ((gudgeonref02_Cmp.f kj4 a0_0 l0_1 a1_0 l1_1).bind fun t795 => (if t794 = t795 then ((whole_Sign.f a0_0 l0_1).bind fun t796 => ((gudgeonref02_Sign.f kj4 a0_0 l0_1).bind fun t797 => (some (t796 == t797)))) else (none)))) else (none)) else (none)) else (none)) else (none)) else (none)))))) = some r := H
    have A25 := Aside0.mk A250
    clear A250
    replace H := Option.bind_eq_some_iff.mp H
    obtain ⟨t784, A260, H⟩ := H
    replace H : ((whole_Mul.f kj4 a0_0 l0_1 a1_0 l1_1).bind fun bt785 => ((gudgeonref02_Mul.f kj4 a0_0 l0_1 a1_0 l1_1).bind fun bt789 => ((gudgeonref02_Same.f kj4 bt785.1 bt785.2 bt789.1 bt789.2).bind fun t793 => (if t757 = true then (if t766 = true then (if t775 = true then (if t784 = true then (if t793 = true then ((whole_Cmp.f kj4 a0_0 l0_1 a1_0 l1_1).bind fun t794 => ((gudgeonref02_Cmp.f kj4 a0_0 l0_1 a1_0 l1_1).bind fun t795 => (if t794 = t795 then ((whole_Sign.f a0_0 l0_1).bind fun t796 => ((gudgeonref02_Sign.f kj4 a0_0 l0_1).bind fun t797 => (some (t796 == t797)))) else (none)))) else (none)) else (none)) else (none)) else (none)) else (none))))) = some r := H
    have A26 := Aside0.mk A260
    clear A260
    replace H := Option.bind_eq_some_iff.mp H
    obtain ⟨⟨t785, t786⟩, A270, H⟩ := H
    replace H : ((gudgeonref02_Mul.f kj4 a0_0 l0_1 a1_0 l1_1).bind fun bt789 => ((gudgeonref02_Same.f kj4 t785 t786 bt789.1 bt789.2).bind fun t793 => (if t757 = true then (if t766 = true then (if t775 = true then (if t784 = true then (if t793 = true then ((whole_Cmp.f kj4 a0_0 l0_1 a1_0 l1_1).bind fun t794 => ((gudgeonref02_Cmp.f kj4 a0_0 l0_1 a1_0 l1_1).bind fun t795 => (if t794 = t795 then ((whole_Sign.f a0_0 l0_1).bind fun t796 => ((gudgeonref02_Sign.f kj4 a0_0 l0_1).bind fun t797 => (some (t796 == t797)))) else (none)))) else (none)) else (none)) else (none)) else (none)) else (none)))) = some r := H
    have A27 := Aside0.mk A270
    clear A270
    replace H := Option.bind_eq_some_iff.mp H
    obtain ⟨⟨t789, t790⟩, A280, H⟩ := H
    replace H : ((gudgeonref02_Same.f kj4 t785 t786 t789 t790).bind fun t793 => (if t757 = true then (if t766 = true then (if t775 = true then (if t784 = true then (if t793 = true then ((whole_Cmp.f kj4 a0_0 l0_1 a1_0 l1_1).bind fun t794 => ((gudgeonref02_Cmp.f kj4 a0_0 l0_1 a1_0 l1_1).bind fun t795 => (if t794 = t795 then ((whole_Sign.f a0_0 l0_1).bind fun t796 => ((gudgeonref02_Sign.f kj4 a0_0 l0_1).bind fun t797 => (some (t796 == t797)))) else (none)))) else (none)) else (none)) else (none)) else (none)) else (none))) = some r := H
    have A28 := Aside0.mk A280
    clear A280
    replace H := Option.bind_eq_some_iff.mp H
    obtain ⟨t793, A290, H⟩ := H
    replace H : (if t757 = true then (if t766 = true then (if t775 = true then (if t784 = true then (if t793 = true then ((whole_Cmp.f kj4 a0_0 l0_1 a1_0 l1_1).bind fun t794 => ((gudgeonref02_Cmp.f kj4 a0_0 l0_1 a1_0 l1_1).bind fun t795 => (if t794 = t795 then ((whole_Sign.f a0_0 l0_1).bind fun t796 => ((gudgeonref02_Sign.f kj4 a0_0 l0_1).bind fun t797 => (some (t796 == t797)))) else (none)))) else (none)) else (none)) else (none)) else (none)) else (none)) = some r := H
    have A29 := Aside0.mk A290
    clear A290
    by_cases c30 : t757 = true
    ·subst c30
     have H1 : (if t766 = true then (if t775 = true then (if t784 = true then (if t793 = true then ((whole_Cmp.f kj4 a0_0 l0_1 a1_0 l1_1).bind fun t794 => ((gudgeonref02_Cmp.f kj4 a0_0 l0_1 a1_0 l1_1).bind fun t795 => (if t794 = t795 then ((whole_Sign.f a0_0 l0_1).bind fun t796 => ((gudgeonref02_Sign.f kj4 a0_0 l0_1).bind fun t797 => (some (t796 == t797)))) else (none)))) else (none)) else (none)) else (none)) else (none)) = some r := by rw [if_pos rfl] at H; exact H
     clear H
     have H := H1
     clear H1
     by_cases c31 : t766 = true
     ·subst c31
      have H1 : (if t775 = true then (if t784 = true then (if t793 = true then ((whole_Cmp.f kj4 a0_0 l0_1 a1_0 l1_1).bind fun t794 => ((gudgeonref02_Cmp.f kj4 a0_0 l0_1 a1_0 l1_1).bind fun t795 => (if t794 = t795 then ((whole_Sign.f a0_0 l0_1).bind fun t796 => ((gudgeonref02_Sign.f kj4 a0_0 l0_1).bind fun t797 => (some (t796 == t797)))) else (none)))) else (none)) else (none)) else (none)) = some r := by rw [if_pos rfl] at H; exact H
      clear H
      have H := H1
      clear H1
      by_cases c32 : t775 = true
      ·subst c32
       have H1 : (if t784 = true then (if t793 = true then ((whole_Cmp.f kj4 a0_0 l0_1 a1_0 l1_1).bind fun t794 => ((gudgeonref02_Cmp.f kj4 a0_0 l0_1 a1_0 l1_1).bind fun t795 => (if t794 = t795 then ((whole_Sign.f a0_0 l0_1).bind fun t796 => ((gudgeonref02_Sign.f kj4 a0_0 l0_1).bind fun t797 => (some (t796 == t797)))) else (none)))) else (none)) else (none)) = some r := by rw [if_pos rfl] at H; exact H
       clear H
       have H := H1
       clear H1
       by_cases c33 : t784 = true
       ·subst c33
        have H1 : (if t793 = true then ((whole_Cmp.f kj4 a0_0 l0_1 a1_0 l1_1).bind fun t794 => ((gudgeonref02_Cmp.f kj4 a0_0 l0_1 a1_0 l1_1).bind fun t795 => (if t794 = t795 then ((whole_Sign.f a0_0 l0_1).bind fun t796 => ((gudgeonref02_Sign.f kj4 a0_0 l0_1).bind fun t797 => (some (t796 == t797)))) else (none)))) else (none)) = some r := by rw [if_pos rfl] at H; exact H
        clear H
        have H := H1
        clear H1
        by_cases c34 : t793 = true
        ·subst c34
         have H1 : ((whole_Cmp.f kj4 a0_0 l0_1 a1_0 l1_1).bind fun t794 => ((gudgeonref02_Cmp.f kj4 a0_0 l0_1 a1_0 l1_1).bind fun t795 => (if t794 = t795 then ((whole_Sign.f a0_0 l0_1).bind fun t796 => ((gudgeonref02_Sign.f kj4 a0_0 l0_1).bind fun t797 => (some (t796 == t797)))) else (none)))) = some r := by rw [if_pos rfl] at H; exact H
         clear H
         have H := H1
         clear H1
         replace H := Option.bind_eq_some_iff.mp H
         obtain ⟨t794, A350, H⟩ := H
         replace H : ((gudgeonref02_Cmp.f kj4 a0_0 l0_1 a1_0 l1_1).bind fun t795 => (if t794 = t795 then ((whole_Sign.f a0_0 l0_1).bind fun t796 => ((gudgeonref02_Sign.f kj4 a0_0 l0_1).bind fun t797 => (some (t796 == t797)))) else (none))) = some r := H
         have A35 := Aside0.mk A350
         clear A350
         replace H := Option.bind_eq_some_iff.mp H
         obtain ⟨t795, A360, H⟩ := H
         replace H : (if t794 = t795 then ((whole_Sign.f a0_0 l0_1).bind fun t796 => ((gudgeonref02_Sign.f kj4 a0_0 l0_1).bind fun t797 => (some (t796 == t797)))) else (none)) = some r := H
         have A36 := Aside0.mk A360
         clear A360
         by_cases c37 : t794 = t795
         ·rw [if_pos c37] at H
          have c37b0 : (t794 == t795) = true := beq_iff_eq.mpr c37
          have c37b1 : (t794 != t795) = false := bne_eq_false_iff_eq.mpr c37
          clear c37
          replace H := Option.bind_eq_some_iff.mp H
          obtain ⟨t796, A380, H⟩ := H
          replace H : ((gudgeonref02_Sign.f kj4 a0_0 l0_1).bind fun t797 => (some (t796 == t797))) = some r := H
          have A38 := Aside0.mk A380
          clear A380
          replace H := Option.bind_eq_some_iff.mp H
          obtain ⟨t797, A390, H⟩ := H
          replace H : (some (t796 == t797)) = some r := H
          have A39 := Aside0.mk A390
          clear A390
          obtain rfl := Option.some.inj H
          try go_wp2
          replace BK745 := Aside0.mk (blk_drew BK745.out)
          replace BK746 := Aside0.mk (blk_drew BK746.out)
          replace HB := Aside0.mk (below_drew1 HB.out)
          refine start_ (n := 6) (S := fun w' => w'.cell? ⟨gb745, 0, none⟩ = some (.bool a0_0) ∧ w'.cell? ⟨gb745, 1, none⟩ = some (.slice A0_1 l0_1.length c0_1)) (ds := []) #[false, false, false, false, false, false] (by kernel_rfl) rfl rfl ⟨(blk_cell BK745.out 0).trans rfl, (blk_cell BK745.out 1).trans rfl⟩ (fun hHeld => ?_)
          generalize wc.drew = w40 at BK745 BK746 HB hHeld ⊢
          refine take_ (i := 0) (N := some 23) (v := ?_) (a' := ?_) #[true, false, false, false, false, false] rfl rfl (by kernel_rfl) (fun _ _ _ h => h) (Or.inl ⟨by rfl, ?_⟩) hHeld ?_ ?_
          rotate_left
          ·rintro w' ⟨s0, s1⟩
           go_simp
           with_reducible rfl
          rotate_left
          ·simp only [Act.put, List.setIfInBounds_toArray, List.set_cons_zero, List.set_cons_succ, i64_w, i32_w]
           rfl
          refine take_ (i := 2) (N := some 25) (v := ?_) (a' := ?_) #[true, false, true, false, false, false] rfl rfl (by kernel_rfl) (fun _ _ _ h => h) (Or.inl ⟨by rfl, ?_⟩) hHeld ?_ ?_
          rotate_left
          ·rintro w' ⟨s0, s1⟩
           go_simp
           with_reducible rfl
          rotate_left
          ·simp only [Act.put, List.setIfInBounds_toArray, List.set_cons_zero, List.set_cons_succ, i64_w, i32_w]
           rfl
          refine one_ (i := 1) (N := some 24) #[true, true, true, false, false, false] rfl rfl (by kernel_rfl) (by decide) (fun K hK => ?_)
          refine goR Tryd.func16 [.agg #[.bool a0_0, .slice A0_1 l0_1.length c0_1]] ?_
          with_reducible refine (whole_Norm.calls a0_0 _ _ l0_1 t749 t750 _ ?side1 ?side2 A15.out).mono ?_
          (case side1 => exact (Kd.C_below HR0_1.out HB.out))
          (case side2 => exact HC0_1.out)
          rintro e w41 ⟨v751, rfl, ho0, hb⟩
          refine ⟨_, rfl, ?_⟩
          have HO752 := Aside0.mk (Kd.R_lower ho0 (below_size HB.out))
          replace BK745 := Aside0.mk (blk_below BK745.out hb)
          replace BK746 := Aside0.mk (blk_below BK746.out hb)
          replace HB := Aside0.mk (below_step HB.out hb)
          (try clear hb)
          (try clear hb2)
          (try clear hk)
          (try clear hi)
          (try clear ho0)
          refine hK.out _ _ ⟨(blk_cell BK745.out 0).trans rfl, (blk_cell BK745.out 1).trans rfl⟩ (fun hHeld => ?_)
          clear hK K
          refine norm_ (a' := ?_) ?_ ?_
          rotate_left
          ·show Act.put _ (some 24) _ = _
           simp only [Act.put, List.setIfInBounds_toArray, List.set_cons_zero, List.set_cons_succ, i64_w, i32_w]
           rfl
          refine one_ (i := 3) (N := some 26) #[true, true, true, true, false, false] rfl rfl (by kernel_rfl) (by decide) (fun K hK => ?_)
          refine goR Tryd.func17 [.agg #[.bool a0_0, .slice A0_1 l0_1.length c0_1]] ?_
          with_reducible refine (gudgeonref02_Norm.calls kj4 a0_0 _ _ l0_1 t753 t754 _ ?side1 ?side2 A16.out).mono ?_
          (case side1 => exact (Kd.C_below HR0_1.out HB.out))
          (case side2 => exact HC0_1.out)
          rintro e w42 ⟨v755, rfl, ho0, hb⟩
          refine ⟨_, rfl, ?_⟩
          have HO756 := Aside0.mk (Kd.R_lower (Kd.R_new' ho0 (Kd.R_lt HO752.out)) (below_size HB.out))
          replace HO752 := Aside0.mk (Kd.R_elder' HO752.out (Kd.R_base ho0) hb)
          replace BK745 := Aside0.mk (blk_below BK745.out hb)
          replace BK746 := Aside0.mk (blk_below BK746.out hb)
          replace HB := Aside0.mk (below_step HB.out hb)
          (try clear hb)
          (try clear hb2)
          (try clear hk)
          (try clear hi)
          (try clear ho0)
          obtain ⟨Ao43, co43, eo43⟩ := Kd.R_slice HO752.out
          subst eo43
          obtain ⟨Ao44, co44, eo44⟩ := Kd.R_slice HO756.out
          subst eo44
          refine hK.out _ _ ⟨(blk_cell BK745.out 0).trans rfl, (blk_cell BK745.out 1).trans rfl⟩ (fun hHeld => ?_)
          clear hK K
          refine norm_ (a' := ?_) ?_ ?_
          rotate_left
          ·show Act.put _ (some 26) _ = _
           simp only [Act.put, List.setIfInBounds_toArray, List.set_cons_zero, List.set_cons_succ, i64_w, i32_w]
           rfl
          refine one_ (i := 4) (N := some 27) #[true, true, true, true, true, false] rfl rfl (by kernel_rfl) (by decide) (fun K hK => ?_)
          refine goR Tryd.func15 [.agg #[.bool t749, .slice Ao43 t750.length co43], .agg #[.bool t753, .slice Ao44 t754.length co44]] ?_
          with_reducible refine (gudgeonref02_Same.calls kj4 t749 _ _ t750 t753 _ _ t754 true _ ?side1 ?side2 ?side3 ?side4 A17.out).mono ?_
          (case side1 => exact (Kd.R_reads' HO752.out).2.2)
          (case side2 => exact (Kd.R_reads' HO752.out).2.1)
          (case side3 => exact (Kd.R_reads' HO756.out).2.2)
          (case side4 => exact (Kd.R_reads' HO756.out).2.1)
          rintro e w45 ⟨rfl, hb⟩
          refine ⟨_, rfl, ?_⟩
          replace HO752 := Aside0.mk (Kd.R_below HO752.out hb)
          replace HO756 := Aside0.mk (Kd.R_below HO756.out hb)
          replace BK745 := Aside0.mk (blk_below BK745.out hb)
          replace BK746 := Aside0.mk (blk_below BK746.out hb)
          replace HB := Aside0.mk (below_step HB.out hb)
          (try clear hb)
          (try clear hb2)
          (try clear hk)
          (try clear hi)
          refine hK.out _ _ ⟨(blk_cell BK745.out 0).trans rfl, (blk_cell BK745.out 1).trans rfl⟩ (fun hHeld => ?_)
          clear hK K
          refine norm_ (a' := ?_) ?_ ?_
          rotate_left
          ·show Act.put _ (some 27) _ = _
           simp only [Act.put, List.setIfInBounds_toArray, List.set_cons_zero, List.set_cons_succ, i64_w, i32_w]
           rfl
          refine pure_ (i := 5) (N := some 7) (v := ?_) (a' := ?_) #[true, true, true, true, true, true] rfl rfl (by kernel_rfl) (fun _ _ _ h => h) (Or.inl ⟨by rfl, ?_⟩) ?_ ?_
          rotate_left
          ·intro w'
           go_simp
           with_reducible rfl
          rotate_left
          ·simp only [Act.put, List.setIfInBounds_toArray, List.set_cons_zero, List.set_cons_succ, i64_w, i32_w]
           rfl
          refine done_ (by kernel_rfl) ?_
          try go_wp2
          replace HO752 := Aside0.mk (Kd.R_drew HO752.out)
          replace HO756 := Aside0.mk (Kd.R_drew HO756.out)
          replace BK745 := Aside0.mk (blk_drew BK745.out)
          replace BK746 := Aside0.mk (blk_drew BK746.out)
          replace HB := Aside0.mk (below_drew1 HB.out)
          refine start_ (n := 6) (S := fun w' => w'.cell? ⟨gb745, 0, none⟩ = some (.bool a0_0) ∧ w'.cell? ⟨gb745, 1, none⟩ = some (.slice A0_1 l0_1.length c0_1)) (ds := []) #[false, false, false, false, false, false] (by kernel_rfl) rfl rfl ⟨(blk_cell BK745.out 0).trans rfl, (blk_cell BK745.out 1).trans rfl⟩ (fun hHeld => ?_)
          generalize w45.drew = w46 at HO752 HO756 BK745 BK746 HB hHeld ⊢
          refine take_ (i := 0) (N := some 28) (v := ?_) (a' := ?_) #[true, false, false, false, false, false] rfl rfl (by kernel_rfl) (fun _ _ _ h => h) (Or.inl ⟨by rfl, ?_⟩) hHeld ?_ ?_
          rotate_left
          ·rintro w' ⟨s0, s1⟩
           go_simp
           with_reducible rfl
          rotate_left
          ·simp only [Act.put, List.setIfInBounds_toArray, List.set_cons_zero, List.set_cons_succ, i64_w, i32_w]
           rfl
          refine take_ (i := 2) (N := some 30) (v := ?_) (a' := ?_) #[true, false, true, false, false, false] rfl rfl (by kernel_rfl) (fun _ _ _ h => h) (Or.inl ⟨by rfl, ?_⟩) hHeld ?_ ?_
          rotate_left
          ·rintro w' ⟨s0, s1⟩
           go_simp
           with_reducible rfl
          rotate_left
          ·simp only [Act.put, List.setIfInBounds_toArray, List.set_cons_zero, List.set_cons_succ, i64_w, i32_w]
           rfl
          refine one_ (i := 1) (N := some 29) #[true, true, true, false, false, false] rfl rfl (by kernel_rfl) (by decide) (fun K hK => ?_)
          refine goR Tryd.func18 [.agg #[.bool a0_0, .slice A0_1 l0_1.length c0_1]] ?_
          with_reducible refine (whole_Neg.calls a0_0 _ _ l0_1 t758 t759 _ ?side1 ?side2 A18.out).mono ?_
          (case side1 => exact (Kd.C_below HR0_1.out HB.out))
          (case side2 => exact HC0_1.out)
          rintro e w47 ⟨v760, rfl, ho0, hb⟩
          refine ⟨_, rfl, ?_⟩
          have HO761 := Aside0.mk (Kd.R_lower (Kd.R_new' (Kd.R_new' ho0 (Kd.R_lt HO752.out)) (Kd.R_lt HO756.out)) (below_size HB.out))
          replace HO752 := Aside0.mk (Kd.R_elder' HO752.out (Kd.R_base ho0) hb)
          replace HO756 := Aside0.mk (Kd.R_elder' HO756.out (Kd.R_base ho0) hb)
          replace BK745 := Aside0.mk (blk_below BK745.out hb)
          replace BK746 := Aside0.mk (blk_below BK746.out hb)
          replace HB := Aside0.mk (below_step HB.out hb)
          (try clear hb)
          (try clear hb2)
          (try clear hk)
          (try clear hi)
          (try clear ho0)
          refine hK.out _ _ ⟨(blk_cell BK745.out 0).trans rfl, (blk_cell BK745.out 1).trans rfl⟩ (fun hHeld => ?_)
          clear hK K
          refine norm_ (a' := ?_) ?_ ?_
          rotate_left
          ·show Act.put _ (some 29) _ = _
           simp only [Act.put, List.setIfInBounds_toArray, List.set_cons_zero, List.set_cons_succ, i64_w, i32_w]
           rfl
          refine one_ (i := 3) (N := some 31) #[true, true, true, true, false, false] rfl rfl (by kernel_rfl) (by decide) (fun K hK => ?_)
          refine goR Tryd.func19 [.agg #[.bool a0_0, .slice A0_1 l0_1.length c0_1]] ?_
          with_reducible refine (gudgeonref02_Neg.calls kj4 a0_0 _ _ l0_1 t762 t763 _ ?side1 ?side2 A19.out).mono ?_
          (case side1 => exact (Kd.C_below HR0_1.out HB.out))
          (case side2 => exact HC0_1.out)
          rintro e w48 ⟨v764, rfl, ho0, hb⟩
          refine ⟨_, rfl, ?_⟩
          have HO765 := Aside0.mk (Kd.R_lower (Kd.R_new' (Kd.R_new' (Kd.R_new' ho0 (Kd.R_lt HO752.out)) (Kd.R_lt HO756.out)) (Kd.R_lt HO761.out)) (below_size HB.out))
          replace HO752 := Aside0.mk (Kd.R_elder' HO752.out (Kd.R_base ho0) hb)
          replace HO756 := Aside0.mk (Kd.R_elder' HO756.out (Kd.R_base ho0) hb)
          replace HO761 := Aside0.mk (Kd.R_elder' HO761.out (Kd.R_base ho0) hb)
          replace BK745 := Aside0.mk (blk_below BK745.out hb)
          replace BK746 := Aside0.mk (blk_below BK746.out hb)
          replace HB := Aside0.mk (below_step HB.out hb)
          (try clear hb)
          (try clear hb2)
          (try clear hk)
          (try clear hi)
          (try clear ho0)
          obtain ⟨Ao49, co49, eo49⟩ := Kd.R_slice HO761.out
          subst eo49
          obtain ⟨Ao50, co50, eo50⟩ := Kd.R_slice HO765.out
          subst eo50
          refine hK.out _ _ ⟨(blk_cell BK745.out 0).trans rfl, (blk_cell BK745.out 1).trans rfl⟩ (fun hHeld => ?_)
          clear hK K
          refine norm_ (a' := ?_) ?_ ?_
          rotate_left
          ·show Act.put _ (some 31) _ = _
           simp only [Act.put, List.setIfInBounds_toArray, List.set_cons_zero, List.set_cons_succ, i64_w, i32_w]
           rfl
          refine one_ (i := 4) (N := some 32) #[true, true, true, true, true, false] rfl rfl (by kernel_rfl) (by decide) (fun K hK => ?_)
          refine goR Tryd.func15 [.agg #[.bool t758, .slice Ao49 t759.length co49], .agg #[.bool t762, .slice Ao50 t763.length co50]] ?_
          with_reducible refine (gudgeonref02_Same.calls kj4 t758 _ _ t759 t762 _ _ t763 true _ ?side1 ?side2 ?side3 ?side4 A20.out).mono ?_
          (case side1 => exact (Kd.R_reads' HO761.out).2.2)
          (case side2 => exact (Kd.R_reads' HO761.out).2.1)
          (case side3 => exact (Kd.R_reads' HO765.out).2.2)
          (case side4 => exact (Kd.R_reads' HO765.out).2.1)
          rintro e w51 ⟨rfl, hb⟩
          refine ⟨_, rfl, ?_⟩
          replace HO752 := Aside0.mk (Kd.R_below HO752.out hb)
          replace HO756 := Aside0.mk (Kd.R_below HO756.out hb)
          replace HO761 := Aside0.mk (Kd.R_below HO761.out hb)
          replace HO765 := Aside0.mk (Kd.R_below HO765.out hb)
          replace BK745 := Aside0.mk (blk_below BK745.out hb)
          replace BK746 := Aside0.mk (blk_below BK746.out hb)
          replace HB := Aside0.mk (below_step HB.out hb)
          (try clear hb)
          (try clear hb2)
          (try clear hk)
          (try clear hi)
          refine hK.out _ _ ⟨(blk_cell BK745.out 0).trans rfl, (blk_cell BK745.out 1).trans rfl⟩ (fun hHeld => ?_)
          clear hK K
          refine norm_ (a' := ?_) ?_ ?_
          rotate_left
          ·show Act.put _ (some 32) _ = _
           simp only [Act.put, List.setIfInBounds_toArray, List.set_cons_zero, List.set_cons_succ, i64_w, i32_w]
           rfl
          refine pure_ (i := 5) (N := some 8) (v := ?_) (a' := ?_) #[true, true, true, true, true, true] rfl rfl (by kernel_rfl) (fun _ _ _ h => h) (Or.inl ⟨by rfl, ?_⟩) ?_ ?_
          rotate_left
          ·intro w'
           go_simp
           with_reducible rfl
          rotate_left
          ·simp only [Act.put, List.setIfInBounds_toArray, List.set_cons_zero, List.set_cons_succ, i64_w, i32_w]
           rfl
          refine done_ (by kernel_rfl) ?_
          try go_wp2
          replace HO752 := Aside0.mk (Kd.R_drew HO752.out)
          replace HO756 := Aside0.mk (Kd.R_drew HO756.out)
          replace HO761 := Aside0.mk (Kd.R_drew HO761.out)
          replace HO765 := Aside0.mk (Kd.R_drew HO765.out)
          replace BK745 := Aside0.mk (blk_drew BK745.out)
          replace BK746 := Aside0.mk (blk_drew BK746.out)
          replace HB := Aside0.mk (below_drew1 HB.out)
          refine start_ (n := 8) (S := fun w' => w'.cell? ⟨gb745, 0, none⟩ = some (.bool a0_0) ∧ w'.cell? ⟨gb745, 1, none⟩ = some (.slice A0_1 l0_1.length c0_1) ∧ w'.cell? ⟨gb746, 0, none⟩ = some (.bool a1_0) ∧ w'.cell? ⟨gb746, 1, none⟩ = some (.slice A1_1 l1_1.length c1_1)) (ds := []) #[false, false, false, false, false, false, false, false] (by kernel_rfl) rfl rfl ⟨(blk_cell BK745.out 0).trans rfl, (blk_cell BK745.out 1).trans rfl, (blk_cell BK746.out 0).trans rfl, (blk_cell BK746.out 1).trans rfl⟩ (fun hHeld => ?_); refine with_tabW gudgeonlaw02_WholeSums.tab7 gudgeonlaw02_WholeSums.bits7 (fun HT_ HW_ => ?_)
          generalize w51.drew = w52 at HO752 HO756 HO761 HO765 BK745 BK746 HB hHeld ⊢
          refine take_ (i := 0) (N := some 33) (v := ?_) (a' := ?_) #[true, false, false, false, false, false, false, false] rfl rfl (take_ofW HT_.out HW_.out (by kernel_rfl)) (fun _ _ _ h => h) (Or.inl ⟨by rfl, ?_⟩) hHeld ?_ ?_
          rotate_left
          ·rintro w' ⟨s0, s1, s2, s3⟩
           go_simp
           with_reducible rfl
          rotate_left
          ·simp only [Act.put, List.setIfInBounds_toArray, List.set_cons_zero, List.set_cons_succ, i64_w, i32_w]
           rfl
          refine take_ (i := 1) (N := some 34) (v := ?_) (a' := ?_) #[true, true, false, false, false, false, false, false] rfl rfl (take_ofW HT_.out HW_.out (by kernel_rfl)) (fun _ _ _ h => h) (Or.inl ⟨by rfl, ?_⟩) hHeld ?_ ?_
          rotate_left
          ·rintro w' ⟨s0, s1, s2, s3⟩
           go_simp
           with_reducible rfl
          rotate_left
          ·simp only [Act.put, List.setIfInBounds_toArray, List.set_cons_zero, List.set_cons_succ, i64_w, i32_w]
           rfl
          refine take_ (i := 3) (N := some 36) (v := ?_) (a' := ?_) #[true, true, false, true, false, false, false, false] rfl rfl (take_ofW HT_.out HW_.out (by kernel_rfl)) (fun _ _ _ h => h) (Or.inl ⟨by rfl, ?_⟩) hHeld ?_ ?_
          rotate_left
          ·rintro w' ⟨s0, s1, s2, s3⟩
           go_simp
           with_reducible rfl
          rotate_left
          ·simp only [Act.put, List.setIfInBounds_toArray, List.set_cons_zero, List.set_cons_succ, i64_w, i32_w]
           rfl
          refine take_ (i := 4) (N := some 37) (v := ?_) (a' := ?_) #[true, true, false, true, true, false, false, false] rfl rfl (take_ofW HT_.out HW_.out (by kernel_rfl)) (fun _ _ _ h => h) (Or.inl ⟨by rfl, ?_⟩) hHeld ?_ ?_
          rotate_left
          ·rintro w' ⟨s0, s1, s2, s3⟩
           go_simp
           with_reducible rfl
          rotate_left
          ·simp only [Act.put, List.setIfInBounds_toArray, List.set_cons_zero, List.set_cons_succ, i64_w, i32_w]
           rfl
          refine one_ (i := 2) (N := some 35) #[true, true, true, true, true, false, false, false] rfl rfl (one_of HT_.out (by kernel_rfl)) (by decide) (fun K hK => ?_)
          refine goR Tryd.func20 [.agg #[.bool a0_0, .slice A0_1 l0_1.length c0_1], .agg #[.bool a1_0, .slice A1_1 l1_1.length c1_1]] ?_
          with_reducible refine (whole_Add.calls kj4 a0_0 _ _ l0_1 a1_0 _ _ l1_1 t767 t768 _ ?side1 ?side2 ?side3 ?side4 A21.out).mono ?_
          (case side1 => exact (Kd.C_below HR0_1.out HB.out))
          (case side2 => exact HC0_1.out)
          (case side3 => exact (Kd.C_below HR1_1.out HB.out))
          (case side4 => exact HC1_1.out)
          rintro e w53 ⟨v769, rfl, ho0, hb⟩
          refine ⟨_, rfl, ?_⟩
          have HO770 := Aside0.mk (Kd.R_lower (Kd.R_new' (Kd.R_new' (Kd.R_new' (Kd.R_new' ho0 (Kd.R_lt HO752.out)) (Kd.R_lt HO756.out)) (Kd.R_lt HO761.out)) (Kd.R_lt HO765.out)) (below_size HB.out))
          replace HO752 := Aside0.mk (Kd.R_elder' HO752.out (Kd.R_base ho0) hb)
          replace HO756 := Aside0.mk (Kd.R_elder' HO756.out (Kd.R_base ho0) hb)
          replace HO761 := Aside0.mk (Kd.R_elder' HO761.out (Kd.R_base ho0) hb)
          replace HO765 := Aside0.mk (Kd.R_elder' HO765.out (Kd.R_base ho0) hb)
          replace BK745 := Aside0.mk (blk_below BK745.out hb)
          replace BK746 := Aside0.mk (blk_below BK746.out hb)
          replace HB := Aside0.mk (below_step HB.out hb)
          (try clear hb)
          (try clear hb2)
          (try clear hk)
          (try clear hi)
          (try clear ho0)
          refine hK.out _ _ ⟨(blk_cell BK745.out 0).trans rfl, (blk_cell BK745.out 1).trans rfl, (blk_cell BK746.out 0).trans rfl, (blk_cell BK746.out 1).trans rfl⟩ (fun hHeld => ?_)
          clear hK K
          refine norm_ (a' := ?_) ?_ ?_
          rotate_left
          ·show Act.put _ (some 35) _ = _
           simp only [Act.put, List.setIfInBounds_toArray, List.set_cons_zero, List.set_cons_succ, i64_w, i32_w]
           rfl
          refine one_ (i := 5) (N := some 38) #[true, true, true, true, true, true, false, false] rfl rfl (one_of HT_.out (by kernel_rfl)) (by decide) (fun K hK => ?_)
          refine goR Tryd.func21 [.agg #[.bool a0_0, .slice A0_1 l0_1.length c0_1], .agg #[.bool a1_0, .slice A1_1 l1_1.length c1_1]] ?_
          with_reducible refine (gudgeonref02_Add.calls kj4 a0_0 _ _ l0_1 a1_0 _ _ l1_1 t771 t772 _ ?side1 ?side2 ?side3 ?side4 A22.out).mono ?_
          (case side1 => exact (Kd.C_below HR0_1.out HB.out))
          (case side2 => exact HC0_1.out)
          (case side3 => exact (Kd.C_below HR1_1.out HB.out))
          (case side4 => exact HC1_1.out)
          rintro e w54 ⟨v773, rfl, ho0, hb⟩
          refine ⟨_, rfl, ?_⟩
          have HO774 := Aside0.mk (Kd.R_lower (Kd.R_new' (Kd.R_new' (Kd.R_new' (Kd.R_new' (Kd.R_new' ho0 (Kd.R_lt HO752.out)) (Kd.R_lt HO756.out)) (Kd.R_lt HO761.out)) (Kd.R_lt HO765.out)) (Kd.R_lt HO770.out)) (below_size HB.out))
          replace HO752 := Aside0.mk (Kd.R_elder' HO752.out (Kd.R_base ho0) hb)
          replace HO756 := Aside0.mk (Kd.R_elder' HO756.out (Kd.R_base ho0) hb)
          replace HO761 := Aside0.mk (Kd.R_elder' HO761.out (Kd.R_base ho0) hb)
          replace HO765 := Aside0.mk (Kd.R_elder' HO765.out (Kd.R_base ho0) hb)
          replace HO770 := Aside0.mk (Kd.R_elder' HO770.out (Kd.R_base ho0) hb)
          replace BK745 := Aside0.mk (blk_below BK745.out hb)
          replace BK746 := Aside0.mk (blk_below BK746.out hb)
          replace HB := Aside0.mk (below_step HB.out hb)
          (try clear hb)
          (try clear hb2)
          (try clear hk)
          (try clear hi)
          (try clear ho0)
          obtain ⟨Ao55, co55, eo55⟩ := Kd.R_slice HO770.out
          subst eo55
          obtain ⟨Ao56, co56, eo56⟩ := Kd.R_slice HO774.out
          subst eo56
          refine hK.out _ _ ⟨(blk_cell BK745.out 0).trans rfl, (blk_cell BK745.out 1).trans rfl, (blk_cell BK746.out 0).trans rfl, (blk_cell BK746.out 1).trans rfl⟩ (fun hHeld => ?_)
          clear hK K
          refine norm_ (a' := ?_) ?_ ?_
          rotate_left
          ·show Act.put _ (some 38) _ = _
           simp only [Act.put, List.setIfInBounds_toArray, List.set_cons_zero, List.set_cons_succ, i64_w, i32_w]
           rfl
          refine one_ (i := 6) (N := some 39) #[true, true, true, true, true, true, true, false] rfl rfl (one_of HT_.out (by kernel_rfl)) (by decide) (fun K hK => ?_)
          refine goR Tryd.func15 [.agg #[.bool t767, .slice Ao55 t768.length co55], .agg #[.bool t771, .slice Ao56 t772.length co56]] ?_
          with_reducible refine (gudgeonref02_Same.calls kj4 t767 _ _ t768 t771 _ _ t772 true _ ?side1 ?side2 ?side3 ?side4 A23.out).mono ?_
          (case side1 => exact (Kd.R_reads' HO770.out).2.2)
          (case side2 => exact (Kd.R_reads' HO770.out).2.1)
          (case side3 => exact (Kd.R_reads' HO774.out).2.2)
          (case side4 => exact (Kd.R_reads' HO774.out).2.1)
          rintro e w57 ⟨rfl, hb⟩
          refine ⟨_, rfl, ?_⟩
          replace HO752 := Aside0.mk (Kd.R_below HO752.out hb)
          replace HO756 := Aside0.mk (Kd.R_below HO756.out hb)
          replace HO761 := Aside0.mk (Kd.R_below HO761.out hb)
          replace HO765 := Aside0.mk (Kd.R_below HO765.out hb)
          replace HO770 := Aside0.mk (Kd.R_below HO770.out hb)
          replace HO774 := Aside0.mk (Kd.R_below HO774.out hb)
          replace BK745 := Aside0.mk (blk_below BK745.out hb)
          replace BK746 := Aside0.mk (blk_below BK746.out hb)
          replace HB := Aside0.mk (below_step HB.out hb)
          (try clear hb)
          (try clear hb2)
          (try clear hk)
          (try clear hi)
          refine hK.out _ _ ⟨(blk_cell BK745.out 0).trans rfl, (blk_cell BK745.out 1).trans rfl, (blk_cell BK746.out 0).trans rfl, (blk_cell BK746.out 1).trans rfl⟩ (fun hHeld => ?_)
          clear hK K
          refine norm_ (a' := ?_) ?_ ?_
          rotate_left
          ·show Act.put _ (some 39) _ = _
           simp only [Act.put, List.setIfInBounds_toArray, List.set_cons_zero, List.set_cons_succ, i64_w, i32_w]
           rfl
          refine pure_ (i := 7) (N := some 9) (v := ?_) (a' := ?_) #[true, true, true, true, true, true, true, true] rfl rfl (any_of HT_.out (by kernel_rfl)) (fun _ _ _ h => h) (Or.inl ⟨by rfl, ?_⟩) ?_ ?_
          rotate_left
          ·intro w'
           go_simp
           with_reducible rfl
          rotate_left
          ·simp only [Act.put, List.setIfInBounds_toArray, List.set_cons_zero, List.set_cons_succ, i64_w, i32_w]
           rfl
          refine done_ (done_of HT_.out (by kernel_rfl)) ?_
          try go_wp2
          replace HO752 := Aside0.mk (Kd.R_drew HO752.out)
          replace HO756 := Aside0.mk (Kd.R_drew HO756.out)
          replace HO761 := Aside0.mk (Kd.R_drew HO761.out)
          replace HO765 := Aside0.mk (Kd.R_drew HO765.out)
          replace HO770 := Aside0.mk (Kd.R_drew HO770.out)
          replace HO774 := Aside0.mk (Kd.R_drew HO774.out)
          replace BK745 := Aside0.mk (blk_drew BK745.out)
          replace BK746 := Aside0.mk (blk_drew BK746.out)
          replace HB := Aside0.mk (below_drew1 HB.out)
          refine start_ (n := 8) (S := fun w' => w'.cell? ⟨gb745, 0, none⟩ = some (.bool a0_0) ∧ w'.cell? ⟨gb745, 1, none⟩ = some (.slice A0_1 l0_1.length c0_1) ∧ w'.cell? ⟨gb746, 0, none⟩ = some (.bool a1_0) ∧ w'.cell? ⟨gb746, 1, none⟩ = some (.slice A1_1 l1_1.length c1_1)) (ds := []) #[false, false, false, false, false, false, false, false] (by kernel_rfl) rfl rfl ⟨(blk_cell BK745.out 0).trans rfl, (blk_cell BK745.out 1).trans rfl, (blk_cell BK746.out 0).trans rfl, (blk_cell BK746.out 1).trans rfl⟩ (fun hHeld => ?_); refine with_tabW gudgeonlaw02_WholeSums.tab8 gudgeonlaw02_WholeSums.bits8 (fun HT_ HW_ => ?_)
          generalize w57.drew = w58 at HO752 HO756 HO761 HO765 HO770 HO774 BK745 BK746 HB hHeld ⊢
          refine take_ (i := 0) (N := some 40) (v := ?_) (a' := ?_) #[true, false, false, false, false, false, false, false] rfl rfl (take_ofW HT_.out HW_.out (by kernel_rfl)) (fun _ _ _ h => h) (Or.inl ⟨by rfl, ?_⟩) hHeld ?_ ?_
          rotate_left
          ·rintro w' ⟨s0, s1, s2, s3⟩
           go_simp
           with_reducible rfl
          rotate_left
          ·simp only [Act.put, List.setIfInBounds_toArray, List.set_cons_zero, List.set_cons_succ, i64_w, i32_w]
           rfl
          refine take_ (i := 1) (N := some 41) (v := ?_) (a' := ?_) #[true, true, false, false, false, false, false, false] rfl rfl (take_ofW HT_.out HW_.out (by kernel_rfl)) (fun _ _ _ h => h) (Or.inl ⟨by rfl, ?_⟩) hHeld ?_ ?_
          rotate_left
          ·rintro w' ⟨s0, s1, s2, s3⟩
           go_simp
           with_reducible rfl
          rotate_left
          ·simp only [Act.put, List.setIfInBounds_toArray, List.set_cons_zero, List.set_cons_succ, i64_w, i32_w]
           rfl
          refine take_ (i := 3) (N := some 43) (v := ?_) (a' := ?_) #[true, true, false, true, false, false, false, false] rfl rfl (take_ofW HT_.out HW_.out (by kernel_rfl)) (fun _ _ _ h => h) (Or.inl ⟨by rfl, ?_⟩) hHeld ?_ ?_
          rotate_left
          ·rintro w' ⟨s0, s1, s2, s3⟩
           go_simp
           with_reducible rfl
          rotate_left
          ·simp only [Act.put, List.setIfInBounds_toArray, List.set_cons_zero, List.set_cons_succ, i64_w, i32_w]
           rfl
          refine take_ (i := 4) (N := some 44) (v := ?_) (a' := ?_) #[true, true, false, true, true, false, false, false] rfl rfl (take_ofW HT_.out HW_.out (by kernel_rfl)) (fun _ _ _ h => h) (Or.inl ⟨by rfl, ?_⟩) hHeld ?_ ?_
          rotate_left
          ·rintro w' ⟨s0, s1, s2, s3⟩
           go_simp
           with_reducible rfl
          rotate_left
          ·simp only [Act.put, List.setIfInBounds_toArray, List.set_cons_zero, List.set_cons_succ, i64_w, i32_w]
           rfl
          refine one_ (i := 2) (N := some 42) #[true, true, true, true, true, false, false, false] rfl rfl (one_of HT_.out (by kernel_rfl)) (by decide) (fun K hK => ?_)
          refine goR Tryd.func22 [.agg #[.bool a0_0, .slice A0_1 l0_1.length c0_1], .agg #[.bool a1_0, .slice A1_1 l1_1.length c1_1]] ?_
          with_reducible refine (whole_Sub.calls kj4 a0_0 _ _ l0_1 a1_0 _ _ l1_1 t776 t777 _ ?side1 ?side2 ?side3 ?side4 A24.out).mono ?_
          (case side1 => exact (Kd.C_below HR0_1.out HB.out))
          (case side2 => exact HC0_1.out)
          (case side3 => exact (Kd.C_below HR1_1.out HB.out))
          (case side4 => exact HC1_1.out)
          rintro e w59 ⟨v778, rfl, ho0, hb⟩
          refine ⟨_, rfl, ?_⟩
          have HO779 := Aside0.mk (Kd.R_lower (Kd.R_new' (Kd.R_new' (Kd.R_new' (Kd.R_new' (Kd.R_new' (Kd.R_new' ho0 (Kd.R_lt HO752.out)) (Kd.R_lt HO756.out)) (Kd.R_lt HO761.out)) (Kd.R_lt HO765.out)) (Kd.R_lt HO770.out)) (Kd.R_lt HO774.out)) (below_size HB.out))
          replace HO752 := Aside0.mk (Kd.R_elder' HO752.out (Kd.R_base ho0) hb)
          replace HO756 := Aside0.mk (Kd.R_elder' HO756.out (Kd.R_base ho0) hb)
          replace HO761 := Aside0.mk (Kd.R_elder' HO761.out (Kd.R_base ho0) hb)
          replace HO765 := Aside0.mk (Kd.R_elder' HO765.out (Kd.R_base ho0) hb)
          replace HO770 := Aside0.mk (Kd.R_elder' HO770.out (Kd.R_base ho0) hb)
          replace HO774 := Aside0.mk (Kd.R_elder' HO774.out (Kd.R_base ho0) hb)
          replace BK745 := Aside0.mk (blk_below BK745.out hb)
          replace BK746 := Aside0.mk (blk_below BK746.out hb)
          replace HB := Aside0.mk (below_step HB.out hb)
          (try clear hb)
          (try clear hb2)
          (try clear hk)
          (try clear hi)
          (try clear ho0)
          refine hK.out _ _ ⟨(blk_cell BK745.out 0).trans rfl, (blk_cell BK745.out 1).trans rfl, (blk_cell BK746.out 0).trans rfl, (blk_cell BK746.out 1).trans rfl⟩ (fun hHeld => ?_)
          clear hK K
          refine norm_ (a' := ?_) ?_ ?_
          rotate_left
          ·show Act.put _ (some 42) _ = _
           simp only [Act.put, List.setIfInBounds_toArray, List.set_cons_zero, List.set_cons_succ, i64_w, i32_w]
           rfl
          refine one_ (i := 5) (N := some 45) #[true, true, true, true, true, true, false, false] rfl rfl (one_of HT_.out (by kernel_rfl)) (by decide) (fun K hK => ?_)
          refine goR Tryd.func23 [.agg #[.bool a0_0, .slice A0_1 l0_1.length c0_1], .agg #[.bool a1_0, .slice A1_1 l1_1.length c1_1]] ?_
          with_reducible refine (gudgeonref02_Sub.calls kj4 a0_0 _ _ l0_1 a1_0 _ _ l1_1 t780 t781 _ ?side1 ?side2 ?side3 ?side4 A25.out).mono ?_
          (case side1 => exact (Kd.C_below HR0_1.out HB.out))
          (case side2 => exact HC0_1.out)
          (case side3 => exact (Kd.C_below HR1_1.out HB.out))
          (case side4 => exact HC1_1.out)
          rintro e w60 ⟨v782, rfl, ho0, hb⟩
          refine ⟨_, rfl, ?_⟩
          have HO783 := Aside0.mk (Kd.R_lower (Kd.R_new' (Kd.R_new' (Kd.R_new' (Kd.R_new' (Kd.R_new' (Kd.R_new' (Kd.R_new' ho0 (Kd.R_lt HO752.out)) (Kd.R_lt HO756.out)) (Kd.R_lt HO761.out)) (Kd.R_lt HO765.out)) (Kd.R_lt HO770.out)) (Kd.R_lt HO774.out)) (Kd.R_lt HO779.out)) (below_size HB.out))
          replace HO752 := Aside0.mk (Kd.R_elder' HO752.out (Kd.R_base ho0) hb)
          replace HO756 := Aside0.mk (Kd.R_elder' HO756.out (Kd.R_base ho0) hb)
          replace HO761 := Aside0.mk (Kd.R_elder' HO761.out (Kd.R_base ho0) hb)
          replace HO765 := Aside0.mk (Kd.R_elder' HO765.out (Kd.R_base ho0) hb)
          replace HO770 := Aside0.mk (Kd.R_elder' HO770.out (Kd.R_base ho0) hb)
          replace HO774 := Aside0.mk (Kd.R_elder' HO774.out (Kd.R_base ho0) hb)
          replace HO779 := Aside0.mk (Kd.R_elder' HO779.out (Kd.R_base ho0) hb)
          replace BK745 := Aside0.mk (blk_below BK745.out hb)
          replace BK746 := Aside0.mk (blk_below BK746.out hb)
          replace HB := Aside0.mk (below_step HB.out hb)
          (try clear hb)
          (try clear hb2)
          (try clear hk)
          (try clear hi)
          (try clear ho0)
          obtain ⟨Ao61, co61, eo61⟩ := Kd.R_slice HO779.out
          subst eo61
          obtain ⟨Ao62, co62, eo62⟩ := Kd.R_slice HO783.out
          subst eo62
          refine hK.out _ _ ⟨(blk_cell BK745.out 0).trans rfl, (blk_cell BK745.out 1).trans rfl, (blk_cell BK746.out 0).trans rfl, (blk_cell BK746.out 1).trans rfl⟩ (fun hHeld => ?_)
          clear hK K
          refine norm_ (a' := ?_) ?_ ?_
          rotate_left
          ·show Act.put _ (some 45) _ = _
           simp only [Act.put, List.setIfInBounds_toArray, List.set_cons_zero, List.set_cons_succ, i64_w, i32_w]
           rfl
          refine one_ (i := 6) (N := some 46) #[true, true, true, true, true, true, true, false] rfl rfl (one_of HT_.out (by kernel_rfl)) (by decide) (fun K hK => ?_)
          refine goR Tryd.func15 [.agg #[.bool t776, .slice Ao61 t777.length co61], .agg #[.bool t780, .slice Ao62 t781.length co62]] ?_
          with_reducible refine (gudgeonref02_Same.calls kj4 t776 _ _ t777 t780 _ _ t781 true _ ?side1 ?side2 ?side3 ?side4 A26.out).mono ?_
          (case side1 => exact (Kd.R_reads' HO779.out).2.2)
          (case side2 => exact (Kd.R_reads' HO779.out).2.1)
          (case side3 => exact (Kd.R_reads' HO783.out).2.2)
          (case side4 => exact (Kd.R_reads' HO783.out).2.1)
          rintro e w63 ⟨rfl, hb⟩
          refine ⟨_, rfl, ?_⟩
          replace HO752 := Aside0.mk (Kd.R_below HO752.out hb)
          replace HO756 := Aside0.mk (Kd.R_below HO756.out hb)
          replace HO761 := Aside0.mk (Kd.R_below HO761.out hb)
          replace HO765 := Aside0.mk (Kd.R_below HO765.out hb)
          replace HO770 := Aside0.mk (Kd.R_below HO770.out hb)
          replace HO774 := Aside0.mk (Kd.R_below HO774.out hb)
          replace HO779 := Aside0.mk (Kd.R_below HO779.out hb)
          replace HO783 := Aside0.mk (Kd.R_below HO783.out hb)
          replace BK745 := Aside0.mk (blk_below BK745.out hb)
          replace BK746 := Aside0.mk (blk_below BK746.out hb)
          replace HB := Aside0.mk (below_step HB.out hb)
          (try clear hb)
          (try clear hb2)
          (try clear hk)
          (try clear hi)
          refine hK.out _ _ ⟨(blk_cell BK745.out 0).trans rfl, (blk_cell BK745.out 1).trans rfl, (blk_cell BK746.out 0).trans rfl, (blk_cell BK746.out 1).trans rfl⟩ (fun hHeld => ?_)
          clear hK K
          refine norm_ (a' := ?_) ?_ ?_
          rotate_left
          ·show Act.put _ (some 46) _ = _
           simp only [Act.put, List.setIfInBounds_toArray, List.set_cons_zero, List.set_cons_succ, i64_w, i32_w]
           rfl
          refine pure_ (i := 7) (N := some 10) (v := ?_) (a' := ?_) #[true, true, true, true, true, true, true, true] rfl rfl (any_of HT_.out (by kernel_rfl)) (fun _ _ _ h => h) (Or.inl ⟨by rfl, ?_⟩) ?_ ?_
          rotate_left
          ·intro w'
           go_simp
           with_reducible rfl
          rotate_left
          ·simp only [Act.put, List.setIfInBounds_toArray, List.set_cons_zero, List.set_cons_succ, i64_w, i32_w]
           rfl
          refine done_ (done_of HT_.out (by kernel_rfl)) ?_
          try go_wp2
          replace HO752 := Aside0.mk (Kd.R_drew HO752.out)
          replace HO756 := Aside0.mk (Kd.R_drew HO756.out)
          replace HO761 := Aside0.mk (Kd.R_drew HO761.out)
          replace HO765 := Aside0.mk (Kd.R_drew HO765.out)
          replace HO770 := Aside0.mk (Kd.R_drew HO770.out)
          replace HO774 := Aside0.mk (Kd.R_drew HO774.out)
          replace HO779 := Aside0.mk (Kd.R_drew HO779.out)
          replace HO783 := Aside0.mk (Kd.R_drew HO783.out)
          replace BK745 := Aside0.mk (blk_drew BK745.out)
          replace BK746 := Aside0.mk (blk_drew BK746.out)
          replace HB := Aside0.mk (below_drew1 HB.out)
          refine start_ (n := 8) (S := fun w' => w'.cell? ⟨gb745, 0, none⟩ = some (.bool a0_0) ∧ w'.cell? ⟨gb745, 1, none⟩ = some (.slice A0_1 l0_1.length c0_1) ∧ w'.cell? ⟨gb746, 0, none⟩ = some (.bool a1_0) ∧ w'.cell? ⟨gb746, 1, none⟩ = some (.slice A1_1 l1_1.length c1_1)) (ds := []) #[false, false, false, false, false, false, false, false] (by kernel_rfl) rfl rfl ⟨(blk_cell BK745.out 0).trans rfl, (blk_cell BK745.out 1).trans rfl, (blk_cell BK746.out 0).trans rfl, (blk_cell BK746.out 1).trans rfl⟩ (fun hHeld => ?_); refine with_tabW gudgeonlaw02_WholeSums.tab9 gudgeonlaw02_WholeSums.bits9 (fun HT_ HW_ => ?_)
          generalize w63.drew = w64 at HO752 HO756 HO761 HO765 HO770 HO774 HO779 HO783 BK745 BK746 HB hHeld ⊢
          refine take_ (i := 0) (N := some 47) (v := ?_) (a' := ?_) #[true, false, false, false, false, false, false, false] rfl rfl (take_ofW HT_.out HW_.out (by kernel_rfl)) (fun _ _ _ h => h) (Or.inl ⟨by rfl, ?_⟩) hHeld ?_ ?_
          rotate_left
          ·rintro w' ⟨s0, s1, s2, s3⟩
           go_simp
           with_reducible rfl
          rotate_left
          ·simp only [Act.put, List.setIfInBounds_toArray, List.set_cons_zero, List.set_cons_succ, i64_w, i32_w]
           rfl
          refine take_ (i := 1) (N := some 48) (v := ?_) (a' := ?_) #[true, true, false, false, false, false, false, false] rfl rfl (take_ofW HT_.out HW_.out (by kernel_rfl)) (fun _ _ _ h => h) (Or.inl ⟨by rfl, ?_⟩) hHeld ?_ ?_
          rotate_left
          ·rintro w' ⟨s0, s1, s2, s3⟩
           go_simp
           with_reducible rfl
          rotate_left
          ·simp only [Act.put, List.setIfInBounds_toArray, List.set_cons_zero, List.set_cons_succ, i64_w, i32_w]
           rfl
          refine take_ (i := 3) (N := some 50) (v := ?_) (a' := ?_) #[true, true, false, true, false, false, false, false] rfl rfl (take_ofW HT_.out HW_.out (by kernel_rfl)) (fun _ _ _ h => h) (Or.inl ⟨by rfl, ?_⟩) hHeld ?_ ?_
          rotate_left
          ·rintro w' ⟨s0, s1, s2, s3⟩
           go_simp
           with_reducible rfl
          rotate_left
          ·simp only [Act.put, List.setIfInBounds_toArray, List.set_cons_zero, List.set_cons_succ, i64_w, i32_w]
           rfl
          refine take_ (i := 4) (N := some 51) (v := ?_) (a' := ?_) #[true, true, false, true, true, false, false, false] rfl rfl (take_ofW HT_.out HW_.out (by kernel_rfl)) (fun _ _ _ h => h) (Or.inl ⟨by rfl, ?_⟩) hHeld ?_ ?_
          rotate_left
          ·rintro w' ⟨s0, s1, s2, s3⟩
           go_simp
           with_reducible rfl
          rotate_left
          ·simp only [Act.put, List.setIfInBounds_toArray, List.set_cons_zero, List.set_cons_succ, i64_w, i32_w]
           rfl
          refine one_ (i := 2) (N := some 49) #[true, true, true, true, true, false, false, false] rfl rfl (one_of HT_.out (by kernel_rfl)) (by decide) (fun K hK => ?_)
          refine goR Tryd.func24 [.agg #[.bool a0_0, .slice A0_1 l0_1.length c0_1], .agg #[.bool a1_0, .slice A1_1 l1_1.length c1_1]] ?_
          with_reducible refine (whole_Mul.calls kj4 a0_0 _ _ l0_1 a1_0 _ _ l1_1 t785 t786 _ ?side1 ?side2 ?side3 ?side4 A27.out).mono ?_
          (case side1 => exact (Kd.C_below HR0_1.out HB.out))
          (case side2 => exact HC0_1.out)
          (case side3 => exact (Kd.C_below HR1_1.out HB.out))
          (case side4 => exact HC1_1.out)
          rintro e w65 ⟨v787, rfl, ho0, hb⟩
          refine ⟨_, rfl, ?_⟩
          have HO788 := Aside0.mk (Kd.R_lower (Kd.R_new' (Kd.R_new' (Kd.R_new' (Kd.R_new' (Kd.R_new' (Kd.R_new' (Kd.R_new' (Kd.R_new' ho0 (Kd.R_lt HO752.out)) (Kd.R_lt HO756.out)) (Kd.R_lt HO761.out)) (Kd.R_lt HO765.out)) (Kd.R_lt HO770.out)) (Kd.R_lt HO774.out)) (Kd.R_lt HO779.out)) (Kd.R_lt HO783.out)) (below_size HB.out))
          replace HO752 := Aside0.mk (Kd.R_elder' HO752.out (Kd.R_base ho0) hb)
          replace HO756 := Aside0.mk (Kd.R_elder' HO756.out (Kd.R_base ho0) hb)
          replace HO761 := Aside0.mk (Kd.R_elder' HO761.out (Kd.R_base ho0) hb)
          replace HO765 := Aside0.mk (Kd.R_elder' HO765.out (Kd.R_base ho0) hb)
          replace HO770 := Aside0.mk (Kd.R_elder' HO770.out (Kd.R_base ho0) hb)
          replace HO774 := Aside0.mk (Kd.R_elder' HO774.out (Kd.R_base ho0) hb)
          replace HO779 := Aside0.mk (Kd.R_elder' HO779.out (Kd.R_base ho0) hb)
          replace HO783 := Aside0.mk (Kd.R_elder' HO783.out (Kd.R_base ho0) hb)
          replace BK745 := Aside0.mk (blk_below BK745.out hb)
          replace BK746 := Aside0.mk (blk_below BK746.out hb)
          replace HB := Aside0.mk (below_step HB.out hb)
          (try clear hb)
          (try clear hb2)
          (try clear hk)
          (try clear hi)
          (try clear ho0)
          refine hK.out _ _ ⟨(blk_cell BK745.out 0).trans rfl, (blk_cell BK745.out 1).trans rfl, (blk_cell BK746.out 0).trans rfl, (blk_cell BK746.out 1).trans rfl⟩ (fun hHeld => ?_)
          clear hK K
          refine norm_ (a' := ?_) ?_ ?_
          rotate_left
          ·show Act.put _ (some 49) _ = _
           simp only [Act.put, List.setIfInBounds_toArray, List.set_cons_zero, List.set_cons_succ, i64_w, i32_w]
           rfl
          refine one_ (i := 5) (N := some 52) #[true, true, true, true, true, true, false, false] rfl rfl (one_of HT_.out (by kernel_rfl)) (by decide) (fun K hK => ?_)
          refine goR Tryd.func25 [.agg #[.bool a0_0, .slice A0_1 l0_1.length c0_1], .agg #[.bool a1_0, .slice A1_1 l1_1.length c1_1]] ?_
          with_reducible refine (gudgeonref02_Mul.calls kj4 a0_0 _ _ l0_1 a1_0 _ _ l1_1 t789 t790 _ ?side1 ?side2 ?side3 ?side4 A28.out).mono ?_
          (case side1 => exact (Kd.C_below HR0_1.out HB.out))
          (case side2 => exact HC0_1.out)
          (case side3 => exact (Kd.C_below HR1_1.out HB.out))
          (case side4 => exact HC1_1.out)
          rintro e w66 ⟨v791, rfl, ho0, hb⟩
          refine ⟨_, rfl, ?_⟩
          have HO792 := Aside0.mk (Kd.R_lower (Kd.R_new' (Kd.R_new' (Kd.R_new' (Kd.R_new' (Kd.R_new' (Kd.R_new' (Kd.R_new' (Kd.R_new' (Kd.R_new' ho0 (Kd.R_lt HO752.out)) (Kd.R_lt HO756.out)) (Kd.R_lt HO761.out)) (Kd.R_lt HO765.out)) (Kd.R_lt HO770.out)) (Kd.R_lt HO774.out)) (Kd.R_lt HO779.out)) (Kd.R_lt HO783.out)) (Kd.R_lt HO788.out)) (below_size HB.out))
          replace HO752 := Aside0.mk (Kd.R_elder' HO752.out (Kd.R_base ho0) hb)
          replace HO756 := Aside0.mk (Kd.R_elder' HO756.out (Kd.R_base ho0) hb)
          replace HO761 := Aside0.mk (Kd.R_elder' HO761.out (Kd.R_base ho0) hb)
          replace HO765 := Aside0.mk (Kd.R_elder' HO765.out (Kd.R_base ho0) hb)
          replace HO770 := Aside0.mk (Kd.R_elder' HO770.out (Kd.R_base ho0) hb)
          replace HO774 := Aside0.mk (Kd.R_elder' HO774.out (Kd.R_base ho0) hb)
          replace HO779 := Aside0.mk (Kd.R_elder' HO779.out (Kd.R_base ho0) hb)
          replace HO783 := Aside0.mk (Kd.R_elder' HO783.out (Kd.R_base ho0) hb)
          replace HO788 := Aside0.mk (Kd.R_elder' HO788.out (Kd.R_base ho0) hb)
          replace BK745 := Aside0.mk (blk_below BK745.out hb)
          replace BK746 := Aside0.mk (blk_below BK746.out hb)
          replace HB := Aside0.mk (below_step HB.out hb)
          (try clear hb)
          (try clear hb2)
          (try clear hk)
          (try clear hi)
          (try clear ho0)
          obtain ⟨Ao67, co67, eo67⟩ := Kd.R_slice HO788.out
          subst eo67
          obtain ⟨Ao68, co68, eo68⟩ := Kd.R_slice HO792.out
          subst eo68
          refine hK.out _ _ ⟨(blk_cell BK745.out 0).trans rfl, (blk_cell BK745.out 1).trans rfl, (blk_cell BK746.out 0).trans rfl, (blk_cell BK746.out 1).trans rfl⟩ (fun hHeld => ?_)
          clear hK K
          refine norm_ (a' := ?_) ?_ ?_
          rotate_left
          ·show Act.put _ (some 52) _ = _
           simp only [Act.put, List.setIfInBounds_toArray, List.set_cons_zero, List.set_cons_succ, i64_w, i32_w]
           rfl
          refine one_ (i := 6) (N := some 53) #[true, true, true, true, true, true, true, false] rfl rfl (one_of HT_.out (by kernel_rfl)) (by decide) (fun K hK => ?_)
          refine goR Tryd.func15 [.agg #[.bool t785, .slice Ao67 t786.length co67], .agg #[.bool t789, .slice Ao68 t790.length co68]] ?_
          with_reducible refine (gudgeonref02_Same.calls kj4 t785 _ _ t786 t789 _ _ t790 true _ ?side1 ?side2 ?side3 ?side4 A29.out).mono ?_
          (case side1 => exact (Kd.R_reads' HO788.out).2.2)
          (case side2 => exact (Kd.R_reads' HO788.out).2.1)
          (case side3 => exact (Kd.R_reads' HO792.out).2.2)
          (case side4 => exact (Kd.R_reads' HO792.out).2.1)
          rintro e w69 ⟨rfl, hb⟩
          refine ⟨_, rfl, ?_⟩
          replace HO752 := Aside0.mk (Kd.R_below HO752.out hb)
          replace HO756 := Aside0.mk (Kd.R_below HO756.out hb)
          replace HO761 := Aside0.mk (Kd.R_below HO761.out hb)
          replace HO765 := Aside0.mk (Kd.R_below HO765.out hb)
          replace HO770 := Aside0.mk (Kd.R_below HO770.out hb)
          replace HO774 := Aside0.mk (Kd.R_below HO774.out hb)
          replace HO779 := Aside0.mk (Kd.R_below HO779.out hb)
          replace HO783 := Aside0.mk (Kd.R_below HO783.out hb)
          replace HO788 := Aside0.mk (Kd.R_below HO788.out hb)
          replace HO792 := Aside0.mk (Kd.R_below HO792.out hb)
          replace BK745 := Aside0.mk (blk_below BK745.out hb)
          replace BK746 := Aside0.mk (blk_below BK746.out hb)
          replace HB := Aside0.mk (below_step HB.out hb)
          (try clear hb)
          (try clear hb2)
          (try clear hk)
          (try clear hi)
          refine hK.out _ _ ⟨(blk_cell BK745.out 0).trans rfl, (blk_cell BK745.out 1).trans rfl, (blk_cell BK746.out 0).trans rfl, (blk_cell BK746.out 1).trans rfl⟩ (fun hHeld => ?_)
          clear hK K
          refine norm_ (a' := ?_) ?_ ?_
          rotate_left
          ·show Act.put _ (some 53) _ = _
           simp only [Act.put, List.setIfInBounds_toArray, List.set_cons_zero, List.set_cons_succ, i64_w, i32_w]
           rfl
          refine pure_ (i := 7) (N := some 11) (v := ?_) (a' := ?_) #[true, true, true, true, true, true, true, true] rfl rfl (any_of HT_.out (by kernel_rfl)) (fun _ _ _ h => h) (Or.inl ⟨by rfl, ?_⟩) ?_ ?_
          rotate_left
          ·intro w'
           go_simp
           with_reducible rfl
          rotate_left
          ·simp only [Act.put, List.setIfInBounds_toArray, List.set_cons_zero, List.set_cons_succ, i64_w, i32_w]
           rfl
          refine done_ (done_of HT_.out (by kernel_rfl)) ?_
          try go_wp2
          replace HO752 := Aside0.mk (Kd.R_drew HO752.out)
          replace HO756 := Aside0.mk (Kd.R_drew HO756.out)
          replace HO761 := Aside0.mk (Kd.R_drew HO761.out)
          replace HO765 := Aside0.mk (Kd.R_drew HO765.out)
          replace HO770 := Aside0.mk (Kd.R_drew HO770.out)
          replace HO774 := Aside0.mk (Kd.R_drew HO774.out)
          replace HO779 := Aside0.mk (Kd.R_drew HO779.out)
          replace HO783 := Aside0.mk (Kd.R_drew HO783.out)
          replace HO788 := Aside0.mk (Kd.R_drew HO788.out)
          replace HO792 := Aside0.mk (Kd.R_drew HO792.out)
          replace BK745 := Aside0.mk (blk_drew BK745.out)
          replace BK746 := Aside0.mk (blk_drew BK746.out)
          replace HB := Aside0.mk (below_drew1 HB.out)
          refine start_ (n := 30) (S := fun w' => w'.cell? ⟨gb745, 0, none⟩ = some (.bool a0_0) ∧ w'.cell? ⟨gb745, 1, none⟩ = some (.slice A0_1 l0_1.length c0_1) ∧ w'.cell? ⟨gb746, 0, none⟩ = some (.bool a1_0) ∧ w'.cell? ⟨gb746, 1, none⟩ = some (.slice A1_1 l1_1.length c1_1)) (ds := []) #[false, false, false, false, false, false, false, false, false, false, false, false, false, false, false, false, false, false, false, false, false, false, false, false, false, false, false, false, false, false] (by kernel_rfl) rfl rfl ⟨(blk_cell BK745.out 0).trans rfl, (blk_cell BK745.out 1).trans rfl, (blk_cell BK746.out 0).trans rfl, (blk_cell BK746.out 1).trans rfl⟩ (fun hHeld => ?_); refine with_tabW gudgeonlaw02_WholeSums.tab10 gudgeonlaw02_WholeSums.bits10 (fun HT_ HW_ => ?_)
          generalize w69.drew = w70 at HO752 HO756 HO761 HO765 HO770 HO774 HO779 HO783 HO788 HO792 BK745 BK746 HB hHeld ⊢
          refine pure_ (i := 0) (N := some 54) (v := ?_) (a' := ?_) #[true, false, false, false, false, false, false, false, false, false, false, false, false, false, false, false, false, false, false, false, false, false, false, false, false, false, false, false, false, false] rfl rfl (any_of HT_.out (by kernel_rfl)) (fun _ _ _ h => h) (Or.inl ⟨by rfl, ?_⟩) ?_ ?_
          rotate_left
          ·intro w'
           go_simp
           with_reducible rfl
          rotate_left
          ·simp only [Act.put, List.setIfInBounds_toArray, List.set_cons_zero, List.set_cons_succ, i64_w, i32_w]
           rfl
          refine pure_ (i := 1) (N := some 55) (v := ?_) (a' := ?_) #[true, true, false, false, false, false, false, false, false, false, false, false, false, false, false, false, false, false, false, false, false, false, false, false, false, false, false, false, false, false] rfl rfl (any_of HT_.out (by kernel_rfl)) (fun _ _ _ h => h) (Or.inl ⟨by rfl, ?_⟩) ?_ ?_
          rotate_left
          ·intro w'
           go_simp
           with_reducible rfl
          rotate_left
          ·simp only [Act.put, List.setIfInBounds_toArray, List.set_cons_zero, List.set_cons_succ, i64_w, i32_w]
           rfl
          refine pure_ (i := 2) (N := some 56) (v := ?_) (a' := ?_) #[true, true, true, false, false, false, false, false, false, false, false, false, false, false, false, false, false, false, false, false, false, false, false, false, false, false, false, false, false, false] rfl rfl (any_of HT_.out (by kernel_rfl)) (fun _ _ _ h => h) (Or.inl ⟨by rfl, ?_⟩) ?_ ?_
          rotate_left
          ·intro w'
           go_simp
           with_reducible rfl
          rotate_left
          ·simp only [Act.put, List.setIfInBounds_toArray, List.set_cons_zero, List.set_cons_succ, i64_w, i32_w]
           rfl
          refine pure_ (i := 3) (N := some 57) (v := ?_) (a' := ?_) #[true, true, true, true, false, false, false, false, false, false, false, false, false, false, false, false, false, false, false, false, false, false, false, false, false, false, false, false, false, false] rfl rfl (any_of HT_.out (by kernel_rfl)) (fun _ _ _ h => h) (Or.inl ⟨by rfl, ?_⟩) ?_ ?_
          rotate_left
          ·intro w'
           go_simp
           with_reducible rfl
          rotate_left
          ·simp only [Act.put, List.setIfInBounds_toArray, List.set_cons_zero, List.set_cons_succ, i64_w, i32_w]
           rfl
          refine pure_ (i := 4) (N := some 58) (v := ?_) (a' := ?_) #[true, true, true, true, true, false, false, false, false, false, false, false, false, false, false, false, false, false, false, false, false, false, false, false, false, false, false, false, false, false] rfl rfl (any_of HT_.out (by kernel_rfl)) (fun _ _ _ h => h) (Or.inl ⟨by rfl, ?_⟩) ?_ ?_
          rotate_left
          ·intro w'
           go_simp
           with_reducible rfl
          rotate_left
          ·simp only [Act.put, List.setIfInBounds_toArray, List.set_cons_zero, List.set_cons_succ, i64_w, i32_w]
           rfl
          refine pure_ (i := 5) (N := some 59) (v := ?_) (a' := ?_) #[true, true, true, true, true, true, false, false, false, false, false, false, false, false, false, false, false, false, false, false, false, false, false, false, false, false, false, false, false, false] rfl rfl (any_of HT_.out (by kernel_rfl)) (fun _ _ _ h => h) (Or.inl ⟨by rfl, ?_⟩) ?_ ?_
          rotate_left
          ·intro w'
           go_simp
           with_reducible rfl
          rotate_left
          ·simp only [Act.put, List.setIfInBounds_toArray, List.set_cons_zero, List.set_cons_succ, i64_w, i32_w]
           rfl
          refine pure_ (i := 6) (N := some 60) (v := ?_) (a' := ?_) #[true, true, true, true, true, true, true, false, false, false, false, false, false, false, false, false, false, false, false, false, false, false, false, false, false, false, false, false, false, false] rfl rfl (any_of HT_.out (by kernel_rfl)) (fun _ _ _ h => h) (Or.inl ⟨by rfl, ?_⟩) ?_ ?_
          rotate_left
          ·intro w'
           go_simp
           with_reducible rfl
          rotate_left
          ·simp only [Act.put, List.setIfInBounds_toArray, List.set_cons_zero, List.set_cons_succ, i64_w, i32_w]
           rfl
          refine pure_ (i := 7) (N := some 61) (v := ?_) (a' := ?_) #[true, true, true, true, true, true, true, true, false, false, false, false, false, false, false, false, false, false, false, false, false, false, false, false, false, false, false, false, false, false] rfl rfl (any_of HT_.out (by kernel_rfl)) (fun _ _ _ h => h) (Or.inl ⟨by rfl, ?_⟩) ?_ ?_
          rotate_left
          ·intro w'
           go_simp
           with_reducible rfl
          rotate_left
          ·simp only [Act.put, List.setIfInBounds_toArray, List.set_cons_zero, List.set_cons_succ, i64_w, i32_w]
           rfl
          refine pure_ (i := 8) (N := some 62) (v := ?_) (a' := ?_) #[true, true, true, true, true, true, true, true, true, false, false, false, false, false, false, false, false, false, false, false, false, false, false, false, false, false, false, false, false, false] rfl rfl (any_of HT_.out (by kernel_rfl)) (fun _ _ _ h => h) (Or.inl ⟨by rfl, ?_⟩) ?_ ?_
          rotate_left
          ·intro w'
           go_simp
           with_reducible rfl
          rotate_left
          ·simp only [Act.put, List.setIfInBounds_toArray, List.set_cons_zero, List.set_cons_succ, i64_w, i32_w]
           rfl
          refine pure_ (i := 9) (N := some 63) (v := ?_) (a' := ?_) #[true, true, true, true, true, true, true, true, true, true, false, false, false, false, false, false, false, false, false, false, false, false, false, false, false, false, false, false, false, false] rfl rfl (any_of HT_.out (by kernel_rfl)) (fun _ _ _ h => h) (Or.inl ⟨by rfl, ?_⟩) ?_ ?_
          rotate_left
          ·intro w'
           go_simp
           with_reducible rfl
          rotate_left
          ·simp only [Act.put, List.setIfInBounds_toArray, List.set_cons_zero, List.set_cons_succ, i64_w, i32_w]
           rfl
          refine pure_ (i := 10) (N := some 64) (v := ?_) (a' := ?_) #[true, true, true, true, true, true, true, true, true, true, true, false, false, false, false, false, false, false, false, false, false, false, false, false, false, false, false, false, false, false] rfl rfl (any_of HT_.out (by kernel_rfl)) (fun _ _ _ h => h) (Or.inl ⟨by rfl, ?_⟩) ?_ ?_
          rotate_left
          ·intro w'
           go_simp
           with_reducible rfl
          rotate_left
          ·simp only [Act.put, List.setIfInBounds_toArray, List.set_cons_zero, List.set_cons_succ, i64_w, i32_w]
           rfl
          refine pure_ (i := 11) (N := some 65) (v := ?_) (a' := ?_) #[true, true, true, true, true, true, true, true, true, true, true, true, false, false, false, false, false, false, false, false, false, false, false, false, false, false, false, false, false, false] rfl rfl (any_of HT_.out (by kernel_rfl)) (fun _ _ _ h => h) (Or.inl ⟨by rfl, ?_⟩) ?_ ?_
          rotate_left
          ·intro w'
           go_simp
           with_reducible rfl
          rotate_left
          ·simp only [Act.put, List.setIfInBounds_toArray, List.set_cons_zero, List.set_cons_succ, i64_w, i32_w]
           rfl
          refine pure_ (i := 12) (N := some 66) (v := ?_) (a' := ?_) #[true, true, true, true, true, true, true, true, true, true, true, true, true, false, false, false, false, false, false, false, false, false, false, false, false, false, false, false, false, false] rfl rfl (any_of HT_.out (by kernel_rfl)) (fun _ _ _ h => h) (Or.inl ⟨by rfl, ?_⟩) ?_ ?_
          rotate_left
          ·intro w'
           go_simp
           with_reducible rfl
          rotate_left
          ·simp only [Act.put, List.setIfInBounds_toArray, List.set_cons_zero, List.set_cons_succ, i64_w, i32_w]
           rfl
          refine pure_ (i := 13) (N := some 67) (v := ?_) (a' := ?_) #[true, true, true, true, true, true, true, true, true, true, true, true, true, true, false, false, false, false, false, false, false, false, false, false, false, false, false, false, false, false] rfl rfl (any_of HT_.out (by kernel_rfl)) (fun _ _ _ h => h) (Or.inl ⟨by rfl, ?_⟩) ?_ ?_
          rotate_left
          ·intro w'
           go_simp
           with_reducible rfl
          rotate_left
          ·simp only [Act.put, List.setIfInBounds_toArray, List.set_cons_zero, List.set_cons_succ, i64_w, i32_w]
           rfl
          refine take_ (i := 14) (N := some 68) (v := ?_) (a' := ?_) #[true, true, true, true, true, true, true, true, true, true, true, true, true, true, true, false, false, false, false, false, false, false, false, false, false, false, false, false, false, false] rfl rfl (take_ofW HT_.out HW_.out (by kernel_rfl)) (fun _ _ _ h => h) (Or.inl ⟨by rfl, ?_⟩) hHeld ?_ ?_
          rotate_left
          ·rintro w' ⟨s0, s1, s2, s3⟩
           go_simp
           with_reducible rfl
          rotate_left
          ·simp only [Act.put, List.setIfInBounds_toArray, List.set_cons_zero, List.set_cons_succ, i64_w, i32_w]
           rfl
          refine take_ (i := 15) (N := some 69) (v := ?_) (a' := ?_) #[true, true, true, true, true, true, true, true, true, true, true, true, true, true, true, true, false, false, false, false, false, false, false, false, false, false, false, false, false, false] rfl rfl (take_ofW HT_.out HW_.out (by kernel_rfl)) (fun _ _ _ h => h) (Or.inl ⟨by rfl, ?_⟩) hHeld ?_ ?_
          rotate_left
          ·rintro w' ⟨s0, s1, s2, s3⟩
           go_simp
           with_reducible rfl
          rotate_left
          ·simp only [Act.put, List.setIfInBounds_toArray, List.set_cons_zero, List.set_cons_succ, i64_w, i32_w]
           rfl
          refine take_ (i := 17) (N := some 71) (v := ?_) (a' := ?_) #[true, true, true, true, true, true, true, true, true, true, true, true, true, true, true, true, false, true, false, false, false, false, false, false, false, false, false, false, false, false] rfl rfl (take_ofW HT_.out HW_.out (by kernel_rfl)) (fun _ _ _ h => h) (Or.inl ⟨by rfl, ?_⟩) hHeld ?_ ?_
          rotate_left
          ·rintro w' ⟨s0, s1, s2, s3⟩
           go_simp
           with_reducible rfl
          rotate_left
          ·simp only [Act.put, List.setIfInBounds_toArray, List.set_cons_zero, List.set_cons_succ, i64_w, i32_w]
           rfl
          refine take_ (i := 18) (N := some 72) (v := ?_) (a' := ?_) #[true, true, true, true, true, true, true, true, true, true, true, true, true, true, true, true, false, true, true, false, false, false, false, false, false, false, false, false, false, false] rfl rfl (take_ofW HT_.out HW_.out (by kernel_rfl)) (fun _ _ _ h => h) (Or.inl ⟨by rfl, ?_⟩) hHeld ?_ ?_
          rotate_left
          ·rintro w' ⟨s0, s1, s2, s3⟩
           go_simp
           with_reducible rfl
          rotate_left
          ·simp only [Act.put, List.setIfInBounds_toArray, List.set_cons_zero, List.set_cons_succ, i64_w, i32_w]
           rfl
          refine one_ (i := 16) (N := some 70) #[true, true, true, true, true, true, true, true, true, true, true, true, true, true, true, true, true, true, true, false, false, false, false, false, false, false, false, false, false, false] rfl rfl (one_of HT_.out (by kernel_rfl)) (by decide) (fun K hK => ?_)
          refine goR Tryd.func26 [.agg #[.bool a0_0, .slice A0_1 l0_1.length c0_1], .agg #[.bool a1_0, .slice A1_1 l1_1.length c1_1]] ?_
          with_reducible refine (whole_Cmp.calls kj4 a0_0 _ _ l0_1 a1_0 _ _ l1_1 t794 _ ?side1 ?side2 ?side3 ?side4 A35.out).mono ?_
          (case side1 => exact (Kd.C_below HR0_1.out HB.out))
          (case side2 => exact HC0_1.out)
          (case side3 => exact (Kd.C_below HR1_1.out HB.out))
          (case side4 => exact HC1_1.out)
          rintro e w71 ⟨rfl, hb⟩
          refine ⟨_, rfl, ?_⟩
          replace HO752 := Aside0.mk (Kd.R_below HO752.out hb)
          replace HO756 := Aside0.mk (Kd.R_below HO756.out hb)
          replace HO761 := Aside0.mk (Kd.R_below HO761.out hb)
          replace HO765 := Aside0.mk (Kd.R_below HO765.out hb)
          replace HO770 := Aside0.mk (Kd.R_below HO770.out hb)
          replace HO774 := Aside0.mk (Kd.R_below HO774.out hb)
          replace HO779 := Aside0.mk (Kd.R_below HO779.out hb)
          replace HO783 := Aside0.mk (Kd.R_below HO783.out hb)
          replace HO788 := Aside0.mk (Kd.R_below HO788.out hb)
          replace HO792 := Aside0.mk (Kd.R_below HO792.out hb)
          replace BK745 := Aside0.mk (blk_below BK745.out hb)
          replace BK746 := Aside0.mk (blk_below BK746.out hb)
          replace HB := Aside0.mk (below_step HB.out hb)
          (try clear hb)
          (try clear hb2)
          (try clear hk)
          (try clear hi)
          refine hK.out _ _ ⟨(blk_cell BK745.out 0).trans rfl, (blk_cell BK745.out 1).trans rfl, (blk_cell BK746.out 0).trans rfl, (blk_cell BK746.out 1).trans rfl⟩ (fun hHeld => ?_)
          clear hK K
          refine norm_ (a' := ?_) ?_ ?_
          rotate_left
          ·show Act.put _ (some 70) _ = _
           simp only [Act.put, List.setIfInBounds_toArray, List.set_cons_zero, List.set_cons_succ, i64_w, i32_w]
           rfl
          refine one_ (i := 19) (N := some 73) #[true, true, true, true, true, true, true, true, true, true, true, true, true, true, true, true, true, true, true, true, false, false, false, false, false, false, false, false, false, false] rfl rfl (one_of HT_.out (by kernel_rfl)) (by decide) (fun K hK => ?_)
          refine goR Tryd.func27 [.agg #[.bool a0_0, .slice A0_1 l0_1.length c0_1], .agg #[.bool a1_0, .slice A1_1 l1_1.length c1_1]] ?_
          with_reducible refine (gudgeonref02_Cmp.calls kj4 a0_0 _ _ l0_1 a1_0 _ _ l1_1 t795 _ ?side1 ?side2 ?side3 ?side4 A36.out).mono ?_
          (case side1 => exact (Kd.C_below HR0_1.out HB.out))
          (case side2 => exact HC0_1.out)
          (case side3 => exact (Kd.C_below HR1_1.out HB.out))
          (case side4 => exact HC1_1.out)
          rintro e w72 ⟨rfl, hb⟩
          refine ⟨_, rfl, ?_⟩
          replace HO752 := Aside0.mk (Kd.R_below HO752.out hb)
          replace HO756 := Aside0.mk (Kd.R_below HO756.out hb)
          replace HO761 := Aside0.mk (Kd.R_below HO761.out hb)
          replace HO765 := Aside0.mk (Kd.R_below HO765.out hb)
          replace HO770 := Aside0.mk (Kd.R_below HO770.out hb)
          replace HO774 := Aside0.mk (Kd.R_below HO774.out hb)
          replace HO779 := Aside0.mk (Kd.R_below HO779.out hb)
          replace HO783 := Aside0.mk (Kd.R_below HO783.out hb)
          replace HO788 := Aside0.mk (Kd.R_below HO788.out hb)
          replace HO792 := Aside0.mk (Kd.R_below HO792.out hb)
          replace BK745 := Aside0.mk (blk_below BK745.out hb)
          replace BK746 := Aside0.mk (blk_below BK746.out hb)
          replace HB := Aside0.mk (below_step HB.out hb)
          (try clear hb)
          (try clear hb2)
          (try clear hk)
          (try clear hi)
          refine hK.out _ _ ⟨(blk_cell BK745.out 0).trans rfl, (blk_cell BK745.out 1).trans rfl, (blk_cell BK746.out 0).trans rfl, (blk_cell BK746.out 1).trans rfl⟩ (fun hHeld => ?_)
          clear hK K
          refine norm_ (a' := ?_) ?_ ?_
          rotate_left
          ·show Act.put _ (some 73) _ = _
           simp only [Act.put, List.setIfInBounds_toArray, List.set_cons_zero, List.set_cons_succ, i64_w, i32_w]
           rfl
          refine pure_ (i := 20) (N := some 74) (v := ?_) (a' := ?_) #[true, true, true, true, true, true, true, true, true, true, true, true, true, true, true, true, true, true, true, true, true, false, false, false, false, false, false, false, false, false] rfl rfl (any_of HT_.out (by kernel_rfl)) (fun _ _ _ h => h) (Or.inl ⟨by rfl, ?_⟩) ?_ ?_
          rotate_left
          ·intro w'
           go_simp
           with_reducible rfl
          rotate_left
          ·simp only [Act.put, List.setIfInBounds_toArray, List.set_cons_zero, List.set_cons_succ, i64_w, i32_w]
           rfl
          refine pure_ (i := 21) (N := some 75) (v := ?_) (a' := ?_) #[true, true, true, true, true, true, true, true, true, true, true, true, true, true, true, true, true, true, true, true, true, true, false, false, false, false, false, false, false, false] rfl rfl (any_of HT_.out (by kernel_rfl)) (fun _ _ _ h => h) (Or.inl ⟨by rfl, ?_⟩) ?_ ?_
          rotate_left
          ·intro w'
           go_simp
           with_reducible rfl
          rotate_left
          ·simp only [Act.put, List.setIfInBounds_toArray, List.set_cons_zero, List.set_cons_succ, i64_w, i32_w]
           rfl
          refine pure_ (i := 22) (N := some 76) (v := ?_) (a' := ?_) #[true, true, true, true, true, true, true, true, true, true, true, true, true, true, true, true, true, true, true, true, true, true, true, false, false, false, false, false, false, false] rfl rfl (any_of HT_.out (by kernel_rfl)) (fun _ _ _ h => h) (Or.inl ⟨by rfl, ?_⟩) ?_ ?_
          rotate_left
          ·intro w'
           go_simp
           with_reducible rfl
          rotate_left
          ·simp only [Act.put, List.setIfInBounds_toArray, List.set_cons_zero, List.set_cons_succ, i64_w, i32_w]
           rfl
          refine take_ (i := 23) (N := some 77) (v := ?_) (a' := ?_) #[true, true, true, true, true, true, true, true, true, true, true, true, true, true, true, true, true, true, true, true, true, true, true, true, false, false, false, false, false, false] rfl rfl (take_ofW HT_.out HW_.out (by kernel_rfl)) (fun _ _ _ h => h) (Or.inl ⟨by rfl, ?_⟩) hHeld ?_ ?_
          rotate_left
          ·rintro w' ⟨s0, s1, s2, s3⟩
           go_simp
           with_reducible rfl
          rotate_left
          ·simp only [Act.put, List.setIfInBounds_toArray, List.set_cons_zero, List.set_cons_succ, i64_w, i32_w]
           rfl
          refine take_ (i := 25) (N := some 79) (v := ?_) (a' := ?_) #[true, true, true, true, true, true, true, true, true, true, true, true, true, true, true, true, true, true, true, true, true, true, true, true, false, true, false, false, false, false] rfl rfl (take_ofW HT_.out HW_.out (by kernel_rfl)) (fun _ _ _ h => h) (Or.inl ⟨by rfl, ?_⟩) hHeld ?_ ?_
          rotate_left
          ·rintro w' ⟨s0, s1, s2, s3⟩
           go_simp
           with_reducible rfl
          rotate_left
          ·simp only [Act.put, List.setIfInBounds_toArray, List.set_cons_zero, List.set_cons_succ, i64_w, i32_w]
           rfl
          refine one_ (i := 24) (N := some 78) #[true, true, true, true, true, true, true, true, true, true, true, true, true, true, true, true, true, true, true, true, true, true, true, true, true, true, false, false, false, false] rfl rfl (one_of HT_.out (by kernel_rfl)) (by decide) (fun K hK => ?_)
          refine goR Tryd.func28 [.agg #[.bool a0_0, .slice A0_1 l0_1.length c0_1]] ?_
          with_reducible refine (whole_Sign.calls a0_0 _ _ l0_1 t796 _ ?side1 ?side2 A38.out).mono ?_
          (case side1 => exact (Kd.C_below HR0_1.out HB.out))
          (case side2 => exact HC0_1.out)
          rintro e w73 ⟨rfl, hb⟩
          refine ⟨_, rfl, ?_⟩
          replace HO752 := Aside0.mk (Kd.R_below HO752.out hb)
          replace HO756 := Aside0.mk (Kd.R_below HO756.out hb)
          replace HO761 := Aside0.mk (Kd.R_below HO761.out hb)
          replace HO765 := Aside0.mk (Kd.R_below HO765.out hb)
          replace HO770 := Aside0.mk (Kd.R_below HO770.out hb)
          replace HO774 := Aside0.mk (Kd.R_below HO774.out hb)
          replace HO779 := Aside0.mk (Kd.R_below HO779.out hb)
          replace HO783 := Aside0.mk (Kd.R_below HO783.out hb)
          replace HO788 := Aside0.mk (Kd.R_below HO788.out hb)
          replace HO792 := Aside0.mk (Kd.R_below HO792.out hb)
          replace BK745 := Aside0.mk (blk_below BK745.out hb)
          replace BK746 := Aside0.mk (blk_below BK746.out hb)
          replace HB := Aside0.mk (below_step HB.out hb)
          (try clear hb)
          (try clear hb2)
          (try clear hk)
          (try clear hi)
          refine hK.out _ _ ⟨(blk_cell BK745.out 0).trans rfl, (blk_cell BK745.out 1).trans rfl, (blk_cell BK746.out 0).trans rfl, (blk_cell BK746.out 1).trans rfl⟩ (fun hHeld => ?_)
          clear hK K
          refine norm_ (a' := ?_) ?_ ?_
          rotate_left
          ·show Act.put _ (some 78) _ = _
           simp only [Act.put, List.setIfInBounds_toArray, List.set_cons_zero, List.set_cons_succ, i64_w, i32_w]
           rfl
          refine one_ (i := 26) (N := some 80) #[true, true, true, true, true, true, true, true, true, true, true, true, true, true, true, true, true, true, true, true, true, true, true, true, true, true, true, false, false, false] rfl rfl (one_of HT_.out (by kernel_rfl)) (by decide) (fun K hK => ?_)
          refine goR Tryd.func29 [.agg #[.bool a0_0, .slice A0_1 l0_1.length c0_1]] ?_
          with_reducible refine (gudgeonref02_Sign.calls kj4 a0_0 _ _ l0_1 t797 _ ?side1 ?side2 A39.out).mono ?_
          (case side1 => exact (Kd.C_below HR0_1.out HB.out))
          (case side2 => exact HC0_1.out)
          rintro e w74 ⟨rfl, hb⟩
          refine ⟨_, rfl, ?_⟩
          replace HO752 := Aside0.mk (Kd.R_below HO752.out hb)
          replace HO756 := Aside0.mk (Kd.R_below HO756.out hb)
          replace HO761 := Aside0.mk (Kd.R_below HO761.out hb)
          replace HO765 := Aside0.mk (Kd.R_below HO765.out hb)
          replace HO770 := Aside0.mk (Kd.R_below HO770.out hb)
          replace HO774 := Aside0.mk (Kd.R_below HO774.out hb)
          replace HO779 := Aside0.mk (Kd.R_below HO779.out hb)
          replace HO783 := Aside0.mk (Kd.R_below HO783.out hb)
          replace HO788 := Aside0.mk (Kd.R_below HO788.out hb)
          replace HO792 := Aside0.mk (Kd.R_below HO792.out hb)
          replace BK745 := Aside0.mk (blk_below BK745.out hb)
          replace BK746 := Aside0.mk (blk_below BK746.out hb)
          replace HB := Aside0.mk (below_step HB.out hb)
          (try clear hb)
          (try clear hb2)
          (try clear hk)
          (try clear hi)
          refine hK.out _ _ ⟨(blk_cell BK745.out 0).trans rfl, (blk_cell BK745.out 1).trans rfl, (blk_cell BK746.out 0).trans rfl, (blk_cell BK746.out 1).trans rfl⟩ (fun hHeld => ?_)
          clear hK K
          refine norm_ (a' := ?_) ?_ ?_
          rotate_left
          ·show Act.put _ (some 80) _ = _
           simp only [Act.put, List.setIfInBounds_toArray, List.set_cons_zero, List.set_cons_succ, i64_w, i32_w]
           rfl
          refine pure_ (i := 27) (N := some 81) (v := ?_) (a' := ?_) #[true, true, true, true, true, true, true, true, true, true, true, true, true, true, true, true, true, true, true, true, true, true, true, true, true, true, true, true, false, false] rfl rfl (any_of HT_.out (by kernel_rfl)) (fun _ _ _ h => h) (Or.inl ⟨by rfl, ?_⟩) ?_ ?_
          rotate_left
          ·intro w'
           go_simp
           with_reducible rfl
          rotate_left
          ·simp only [Act.put, List.setIfInBounds_toArray, List.set_cons_zero, List.set_cons_succ, i64_w, i32_w]
           rfl
          refine pure_ (i := 28) (N := some 82) (v := ?_) (a' := ?_) #[true, true, true, true, true, true, true, true, true, true, true, true, true, true, true, true, true, true, true, true, true, true, true, true, true, true, true, true, true, false] rfl rfl (any_of HT_.out (by kernel_rfl)) (fun _ _ _ h => h) (Or.inl ⟨by rfl, ?_⟩) ?_ ?_
          rotate_left
          ·intro w'
           go_simp
           with_reducible rfl
          rotate_left
          ·simp only [Act.put, List.setIfInBounds_toArray, List.set_cons_zero, List.set_cons_succ, i64_w, i32_w]
           rfl
          refine pure_ (i := 29) (N := some 4) (v := ?_) (a' := ?_) #[true, true, true, true, true, true, true, true, true, true, true, true, true, true, true, true, true, true, true, true, true, true, true, true, true, true, true, true, true, true] rfl rfl (any_of HT_.out (by kernel_rfl)) (fun _ _ _ h => h) (Or.inl ⟨by rfl, ?_⟩) ?_ ?_
          rotate_left
          ·intro w'
           go_simp
           with_reducible rfl
          rotate_left
          ·simp only [Act.put, List.setIfInBounds_toArray, List.set_cons_zero, List.set_cons_succ, i64_w, i32_w]
           rfl
          refine done_ (done_of HT_.out (by kernel_rfl)) ?_
          try go_wp2
          go_ret
          exact ⟨by first | rfl | (simp [errW_none, errW_some] <;> rfl) | (refine congrArg (fun z_ => Ending.returned (Value.bool z_)) (decide_eq_decide.mpr ?_); unfold wrap64; omega) | (simp [*, errW_none, errW_some] <;> rfl), by repeat (first | (with_reducible first | exact HB.out | apply below_alloc | apply pw_below_drewN | apply below_drew1 | refine below_set ?_ GE745.out | refine below_set ?_ GE746.out) | exact HB.out)⟩
         ·rw [if_neg c37] at H
          exact absurd H (by simp)
        ·replace c34 := Bool.eq_false_iff.mpr c34
         subst c34
         have H1 : (none) = some r := by rw [if_neg (show ¬ (false = true) by decide)] at H; exact H
         clear H
         have H := H1
         clear H1
         exact absurd H (by simp)
       ·replace c33 := Bool.eq_false_iff.mpr c33
        subst c33
        have H1 : (none) = some r := by rw [if_neg (show ¬ (false = true) by decide)] at H; exact H
        clear H
        have H := H1
        clear H1
        exact absurd H (by simp)
      ·replace c32 := Bool.eq_false_iff.mpr c32
       subst c32
       have H1 : (none) = some r := by rw [if_neg (show ¬ (false = true) by decide)] at H; exact H
       clear H
       have H := H1
       clear H1
       exact absurd H (by simp)
     ·replace c31 := Bool.eq_false_iff.mpr c31
      subst c31
      have H1 : (none) = some r := by rw [if_neg (show ¬ (false = true) by decide)] at H; exact H
      clear H
      have H := H1
      clear H1
      exact absurd H (by simp)
    ·replace c30 := Bool.eq_false_iff.mpr c30
     subst c30
     have H1 : (none) = some r := by rw [if_neg (show ¬ (false = true) by decide)] at H; exact H
     clear H
     have H := H1
     clear H1
     exact absurd H (by simp)

end Go.Proofs.YthnfmmaolkenkaaDoor.PA
/- Numbers by limbs: what a list of limbs is worth, and its own form. -/
namespace Go.Proofs.YthnfmmaolkenkaaDoor.V
set_option linter.unusedVariables false
set_option linter.unusedSimpArgs false

/-- What limbs are worth. -/
def val : List Int → Int
  | [] => 0
  | x :: r => x + 4294967296 * val r
/-- Limbs of 32 bits. -/
def Lim (l : List Int) : Prop := ∀ x ∈ l, 0 ≤ x ∧ x < 4294967296
theorem Lim.nil : Lim [] := fun _ h => by cases h
theorem Lim.cons {x : Int} {l : List Int} (h0 : 0 ≤ x) (h1 : x < 4294967296) (h : Lim l) : Lim (x :: l) := fun y hy => by
  rcases List.mem_cons.1 hy with rfl | hy
  · exact ⟨h0, h1⟩
  · exact h y hy
theorem Lim.head {x : Int} {l : List Int} (h : Lim (x :: l)) : 0 ≤ x ∧ x < 4294967296 := h x List.mem_cons_self
theorem Lim.tail {x : Int} {l : List Int} (h : Lim (x :: l)) : Lim l := fun y hy => h y (List.mem_cons_of_mem _ hy)
theorem Lim.append {a b : List Int} (ha : Lim a) (hb : Lim b) : Lim (a ++ b) := fun y hy => by
  rcases List.mem_append.1 hy with hy | hy
  · exact ha y hy
  · exact hb y hy
theorem Lim.left {a b : List Int} (h : Lim (a ++ b)) : Lim a := fun y hy => h y (List.mem_append_left _ hy)
theorem Lim.take {a : List Int} (n : Nat) (h : Lim a) : Lim (a.take n) := fun y hy => h y (List.mem_of_mem_take hy)
theorem Lim.drop {a : List Int} (n : Nat) (h : Lim a) : Lim (a.drop n) := fun y hy => h y (List.mem_of_mem_drop hy)
theorem Lim.get {l : List Int} (h : Lim l) (i : Nat) (hi : i < l.length) : 0 ≤ l[i] ∧ l[i] < 4294967296 := h _ (List.getElem_mem hi)
theorem Lim.set {l : List Int} (h : Lim l) (i : Nat) {x : Int} (h0 : 0 ≤ x) (h1 : x < 4294967296) : Lim (l.set i x) := fun y hy => by
  rcases List.mem_or_eq_of_mem_set hy with hy | rfl
  · exact h y hy
  · exact ⟨h0, h1⟩
theorem Lim.zeros (n : Nat) : Lim (List.replicate n 0) := fun y hy => by
  obtain rfl := List.eq_of_mem_replicate hy
  omega
theorem val_nonneg {l : List Int} (h : Lim l) : 0 ≤ val l := by
  induction l with
  | nil => simp [val]
  | cons x l ih =>
    have := ih h.tail
    have := h.head
    simp only [val]; omega
/-- The weight of the limb at a place. -/
def pw (n : Nat) : Int := 4294967296 ^ n
theorem pw_zero : pw 0 = 1 := rfl
theorem pw_succ (n : Nat) : pw (n + 1) = 4294967296 * pw n := by unfold pw; rw [Int.pow_succ]; omega
theorem pw_pos (n : Nat) : 0 < pw n := by
  induction n with
  | zero => decide
  | succ n ih => rw [pw_succ]; omega
theorem pw_add (m n : Nat) : pw (m + n) = pw m * pw n := by unfold pw; exact Int.pow_add ..
theorem val_lt {l : List Int} (h : Lim l) : val l < pw l.length := by
  induction l with
  | nil => simp [val, pw_zero]
  | cons x l ih =>
    have := ih h.tail
    have := h.head
    simp only [val, List.length_cons, pw_succ]; omega
theorem val_append (a b : List Int) : val (a ++ b) = val a + pw a.length * val b := by
  induction a with
  | nil => simp [val, pw_zero]
  | cons x a ih => simp only [List.cons_append, val, ih, List.length_cons, pw_succ]; grind
theorem val_zeros (n : Nat) : val (List.replicate n 0) = 0 := by
  induction n with
  | zero => rfl
  | succ n ih => simp only [List.replicate_succ, val, ih]; omega
/-- The limbs of a number, without noughts behind. -/
def digN (n : Nat) : List Int := if h : n = 0 then [] else ((n % 4294967296 : Nat) : Int) :: digN (n / 4294967296)
termination_by n
decreasing_by omega
def dig (n : Int) : List Int := digN n.toNat
theorem digN_lim (n : Nat) : Lim (digN n) := by
  induction n using Nat.strongRecOn with
  | _ n ih =>
    rw [digN]
    split
    · exact Lim.nil
    · exact Lim.cons (by omega) (by omega) (ih _ (by omega))
theorem val_digN (n : Nat) : val (digN n) = n := by
  induction n using Nat.strongRecOn with
  | _ n ih =>
    rw [digN]
    split
    · rename_i h; simp [val, h]
    · simp only [val]; rw [ih _ (by omega)]; omega
theorem dig_lim (n : Int) : Lim (dig n) := digN_lim _
theorem val_dig {n : Int} (h : 0 ≤ n) : val (dig n) = n := by unfold dig; rw [val_digN]; omega
theorem dig_zero : dig 0 = [] := by unfold dig; rw [digN]; rfl
theorem dig_eq_nil {n : Int} (h : 0 ≤ n) : dig n = [] ↔ n = 0 := by
  constructor
  · intro e
    have := val_dig h
    rw [e] at this
    exact this.symm
  · rintro rfl; exact dig_zero
theorem dig_cons {x n : Int} (h0 : 0 ≤ x) (h1 : x < 4294967296) (hn : 0 ≤ n) (h : x + 4294967296 * n ≠ 0) : dig (x + 4294967296 * n) = x :: dig n := by
  unfold dig
  rw [digN]
  rw [dif_neg (by omega)]
  have e1 : (((x + 4294967296 * n).toNat % 4294967296 : Nat) : Int) = x := by omega
  have e2 : (x + 4294967296 * n).toNat / 4294967296 = n.toNat := by omega
  rw [e1, e2]
theorem dig_length_le {n : Int} {k : Nat} (h0 : 0 ≤ n) (h : n < pw k) : (dig n).length ≤ k := by
  induction k generalizing n with
  | zero => rw [pw_zero] at h; rw [show n = 0 by omega, dig_zero]; simp
  | succ k ih =>
    rw [pw_succ] at h
    by_cases hn : n = 0
    · rw [hn, dig_zero]; simp
    · have e : n = n % 4294967296 + 4294967296 * (n / 4294967296) := by omega
      rw [e, dig_cons (by omega) (by omega) (by omega) (by omega)]
      have := ih (n := n / 4294967296) (by omega) (by omega)
      simp; omega
theorem lt_of_dig_length {n : Int} {k : Nat} (h0 : 0 ≤ n) (h : (dig n).length ≤ k) : n < pw k := by
  have := val_lt (dig_lim n)
  rw [val_dig h0] at this
  have hp : pw (dig n).length ≤ pw k := by
    obtain ⟨d, hd⟩ := Nat.exists_eq_add_of_le h
    rw [hd, pw_add]
    have := pw_pos (dig n).length
    have := pw_pos d
    calc pw (dig n).length = pw (dig n).length * 1 := by omega
      _ ≤ _ := Int.mul_le_mul_of_nonneg_left (by omega) (by omega)
  omega
/-- Without the noughts behind: as the machine's Norm. -/
theorem dropWhile_zeros (l : List Int) (h : Lim l) : (l.reverse.dropWhile (fun x => x == 0)).reverse = dig (val l) := by
  induction l with
  | nil => simp [val, dig_zero]
  | cons x l ih =>
    have ih := ih h.tail
    have hx := h.head
    have hv := val_nonneg h.tail
    simp only [val, List.reverse_cons]
    rw [List.dropWhile_append]
    by_cases hz : val l = 0
    · rw [hz, dig_zero] at ih
      have e : (List.dropWhile (fun x => x == 0) l.reverse) = [] := by simpa using ih
      rw [e, hz]
      by_cases h0 : x = 0
      · subst h0; simp [dig_zero]
      · have : dig (x + 4294967296 * 0) = x :: dig 0 := dig_cons (by omega) (by omega) (by omega) (by omega)
        rw [this, dig_zero]
        simp [h0]
    · have hne : dig (val l) ≠ [] := by rw [Ne, dig_eq_nil hv]; exact hz
      rw [dig_cons (by omega) (by omega) hv (by omega), ← ih]
      have e : (List.dropWhile (fun x => x == 0) l.reverse).isEmpty = false := by
        rw [← ih] at hne
        cases hd : List.dropWhile (fun x => x == 0) l.reverse with
        | nil => rw [hd] at hne; simp at hne
        | cons _ _ => rfl
      rw [e]; simp
theorem dig_last {n : Int} (hne : dig n ≠ []) : (dig n).getLast hne ≠ 0 := by
  have key : ∀ (m : Nat) (hne : digN m ≠ []), (digN m).getLast hne ≠ 0 := by
    intro m
    induction m using Nat.strongRecOn with
    | _ m ih =>
      rw [digN]
      split
      · intro h; exact absurd rfl h
      · intro _
        by_cases hd : digN (m / 4294967296) = []
        · have : m / 4294967296 = 0 := by
            have hv := val_digN (m / 4294967296)
            rw [hd] at hv
            simp only [val] at hv
            omega
          simp only [hd, List.getLast_singleton]
          omega
        · rw [List.getLast_cons hd]
          exact ih _ (by omega) hd
  exact key _ hne
theorem val_take_getD (l : List Int) (i : Nat) : val (l.take (i + 1)) = val (l.take i) + pw i * l.getD i 0 := by
  by_cases h : i < l.length
  · rw [List.take_succ_eq_append_getElem h, val_append, List.length_take, Nat.min_eq_left (Nat.le_of_lt h)]
    simp [val, h]
  · rw [List.take_of_length_le (by omega), List.take_of_length_le (by omega), List.getD_eq_getElem?_getD, List.getElem?_eq_none (by omega)]
    simp
theorem val_set_take (l : List Int) (i : Nat) (x : Int) (h : i < l.length) : val ((l.set i x).take (i + 1)) = val (l.take i) + pw i * x := by
  rw [val_take_getD, List.take_set_of_le (Nat.le_refl i)]
  simp [List.getD_eq_getElem?_getD, h]
theorem val_set (l : List Int) (i : Nat) (x : Int) (h : i < l.length) : val (l.set i x) = val l + pw i * (x - l[i]) := by
  induction l generalizing i with
  | nil => simp at h
  | cons y l ih =>
    cases i with
    | zero => simp [val, pw_zero]; omega
    | succ i =>
      have := ih i (by simpa using h)
      simp only [List.set_cons_succ, val, this, pw_succ, List.getElem_cons_succ]
      grind
theorem lim_one {x : Int} (h0 : 0 ≤ x) (h1 : x < 4294967296) : Lim [x] := Lim.cons h0 h1 Lim.nil
theorem val_one (x : Int) : val [x] = x := by simp [val]
theorem val_take_drop (l : List Int) (i : Nat) (h : i ≤ l.length) : val l = val (l.take i) + pw i * val (l.drop i) := by
  have := val_append (l.take i) (l.drop i)
  rwa [List.take_append_drop, List.length_take, Nat.min_eq_left h] at this
theorem val_take_succ (l : List Int) (i : Nat) (h : i < l.length) : val (l.take (i + 1)) = val (l.take i) + pw i * l[i] := by
  rw [List.take_succ_eq_append_getElem h, val_append, List.length_take, Nat.min_eq_left (Nat.le_of_lt h)]
  simp [val]
theorem val_drop_cons (l : List Int) (i : Nat) (h : i < l.length) : val (l.drop i) = l[i] + 4294967296 * val (l.drop (i + 1)) := by
  rw [List.drop_eq_getElem_cons h]; rfl
end Go.Proofs.YthnfmmaolkenkaaDoor.V
/- What nat's functions compute, as numbers: the order, sums, differences, products, a number by a small one, moved bits. -/
namespace Go.Proofs.YthnfmmaolkenkaaDoor.V
set_option linter.unusedVariables false
set_option linter.unusedSimpArgs false
open Go.RowKit Go.Proofs.YthnfmmaolkenkaaDoor.PA Go.Proofs.YthnfmmaolkenkaaDoor.H Go.Proofs.YthnfmmaolkenkaaDoorW.PrintWords Go.Proofs.YthnfmmaolkenkaaDoorW.PrintLast Go.Proofs.YthnfmmaolkenkaaDoorW.PrintMore

theorem w64 {x : Int} (h0 : -9223372036854775808 ≤ x) (h1 : x ≤ 9223372036854775807) : wrap64 x = x := by unfold wrap64; omega
theorem w01 : wrap64 1 = 1 := w64 (by omega) (by omega)
theorem w11 : wrap64 2 = 2 := w64 (by omega) (by omega)
theorem w21 : wrap64 3 = 3 := w64 (by omega) (by omega)
theorem wm1 : wrap64 (-1) = -1 := w64 (by omega) (by omega)
theorem wm2 : wrap64 (-2) = -2 := w64 (by omega) (by omega)
theorem wm0 : wrap64 0 = 0 := w64 (by omega) (by omega)
theorem u64 {x : Int} (h0 : 0 ≤ x) (h1 : x < 18446744073709551616) : IntKind.u64.wrap x = x := by rw [IntKind.wrap_u64]; omega
theorem u64e (x : Int) : IntKind.u64.wrap x = x % 18446744073709551616 := IntKind.wrap_u64 x
theorem rd_get (l : List Int) (i : Nat) (h : i < l.length) : rd l (i : Int) = l[i] := by simp [rd, h]
theorem rd_D (l : List Int) (i : Nat) : rd l (i : Int) = l.getD i 0 := by simp [rd]
theorem Lim.getD {l : List Int} (h : Lim l) (i : Nat) : 0 ≤ l.getD i 0 ∧ l.getD i 0 < 4294967296 := by
  by_cases hi : i < l.length
  · have := h.get i hi
    simpa [List.getD_eq_getElem?_getD, hi] using this
  · rw [List.getD_eq_getElem?_getD, List.getElem?_eq_none (by omega)]
    simp
theorem norm_ev (l : List Int) (h : Lim l) (hn : l.length ≤ 1000000000000) : nat_Norm.f l = some (dig (val l)) := by
  unfold nat_Norm.f
  rw [if_pos hn]
  unfold normL
  rw [dropWhile_zeros l h]
theorem limb_ev (l : List Int) (i : Nat) (h : Lim l) : nat_limb.f l (i : Int) = some (l.getD i 0) := by
  have hg := h.getD i
  unfold nat_limb.f
  by_cases hi : i < l.length
  · rw [if_neg (by omega), if_pos (by omega), if_pos (by omega), rd_D, u64 hg.1 (by omega)]
  · rw [if_pos (by omega), List.getD_eq_getElem?_getD, List.getElem?_eq_none (by omega)]
    rfl
theorem sign_ev (n : Int) : nat_sign.f n = some (if n < 0 then -1 else if n > 0 then 1 else 0) := by
  unfold nat_sign.f
  split
  · rfl
  · split <;> rfl
/-- The order of two numbers. -/
def cmpI (a b : Int) : Int := if a < b then -1 else if b < a then 1 else 0
theorem val_lt_of_length {a b : List Int} (ha : Lim a) (hb : Lim b) (hl : a.length < b.length) (hne : ∀ h : b ≠ [], b.getLast h ≠ 0) : val a < val b := by
  have h1 := val_lt ha
  obtain ⟨b', x, rfl⟩ : ∃ b' x, b = b' ++ [x] := by
    have hb0 : b ≠ [] := by rintro rfl; simp at hl
    exact ⟨b.dropLast, b.getLast hb0, (List.dropLast_concat_getLast hb0).symm⟩
  have hx : x ≠ 0 := by simpa using hne (by simp)
  have hx0 := (hb x (by simp)).1
  rw [val_append]
  have h2 := val_nonneg hb.left
  have h3 : pw a.length ≤ pw b'.length := by
    simp at hl
    obtain ⟨d, hd⟩ := Nat.exists_eq_add_of_le (show a.length ≤ b'.length by omega)
    rw [hd, pw_add]
    have := pw_pos a.length
    have := pw_pos d
    calc pw a.length = pw a.length * 1 := by omega
      _ ≤ _ := Int.mul_le_mul_of_nonneg_left (by omega) (by omega)
  have h4 : pw b'.length * 1 ≤ pw b'.length * val [x] := Int.mul_le_mul_of_nonneg_left (by simp [val]; omega) (Int.le_of_lt (pw_pos _))
  omega
theorem cmp_l0 (a b : List Int) (ha : Lim a) (hb : Lim b) (hl : a.length = b.length) (hn : a.length ≤ 1000000000000) (d : Nat) (hd : d ≤ a.length) (he : a.drop d = b.drop d) :
    Ev (fun k => nat_Cmp.l0 k a b ((d : Int) - 1)) (cmpI (val a) (val b)) := by
  induction d with
  | zero =>
    simp only [List.drop_zero] at he
    refine Ev.step (f := fun _ => some _) (fun k => ?_) (Ev.now _)
    simp only [nat_Cmp.l0]
    rw [if_neg (by omega), he]
    unfold cmpI
    rw [if_neg (by omega), if_neg (by omega)]
  | succ d ih =>
    have hda : d < a.length := by omega
    have hdb : d < b.length := by omega
    have e0 : ((d + 1 : Nat) : Int) - 1 = (d : Int) := by omega
    rw [e0]
    have xa := ha.get d hda
    have xb := hb.get d hdb
    by_cases hx : a[d] = b[d]
    · refine Ev.step (fun k => ?_) (ih (by omega) (by rw [List.drop_eq_getElem_cons hda, List.drop_eq_getElem_cons hdb, he, hx]))
      simp only [nat_Cmp.l0]
      rw [if_pos (by omega), if_pos (by omega), if_pos (by omega), if_pos (by omega), rd_get _ _ hda, rd_get _ _ hdb, if_pos hx, w64 (by omega) (by omega)]
    · refine Ev.step (f := fun _ => some _) (fun k => ?_) (Ev.now _)
      simp only [nat_Cmp.l0]
      rw [if_pos (by omega), if_pos (by omega), if_pos (by omega), if_pos (by omega), rd_get _ _ hda, rd_get _ _ hdb, if_neg hx, w64 (x := a[d]) (by omega) (by omega), w64 (x := b[d]) (by omega) (by omega), w64 (by omega) (by omega), sign_ev]
      simp only [Option.bind_some]
      have e1 := val_take_drop a (d + 1) hd
      have e2 := val_take_drop b (d + 1) (by omega)
      rw [he] at e1
      rw [val_take_succ a d hda] at e1
      rw [val_take_succ b d hdb] at e2
      have b1 := val_nonneg (ha.take d)
      have b2 := val_nonneg (hb.take d)
      have b3 := val_lt (ha.take d)
      have b4 := val_lt (hb.take d)
      rw [List.length_take, Nat.min_eq_left (by omega)] at b3 b4
      unfold cmpI
      congr 1
      by_cases hlt : a[d] < b[d]
      · have h5 : pw d * (a[d] + 1) ≤ pw d * b[d] := Int.mul_le_mul_of_nonneg_left (by omega) (Int.le_of_lt (pw_pos _))
        rw [Int.mul_add, Int.mul_one] at h5
        rw [if_pos (by omega), if_pos (by omega)]
      · have h5 : pw d * (b[d] + 1) ≤ pw d * a[d] := Int.mul_le_mul_of_nonneg_left (by omega) (Int.le_of_lt (pw_pos _))
        rw [Int.mul_add, Int.mul_one] at h5
        rw [if_neg (by omega), if_pos (by omega), if_neg (by omega), if_pos (by omega)]
theorem dig_length (l : List Int) (h : Lim l) : (dig (val l)).length ≤ l.length := dig_length_le (val_nonneg h) (val_lt h)
theorem cmp_ev (a b : List Int) (ha : Lim a) (hb : Lim b) (hna : a.length ≤ 1000000000000) (hnb : b.length ≤ 1000000000000) : Ev (fun k => nat_Cmp.f k a b) (cmpI (val a) (val b)) := by
  have va := val_nonneg ha
  have vb := val_nonneg hb
  have la := dig_length a ha
  have lb := dig_length b hb
  by_cases hl : (dig (val a)).length = (dig (val b)).length
  · have := cmp_l0 (dig (val a)) (dig (val b)) (dig_lim _) (dig_lim _) hl (by omega) _ (Nat.le_refl _) (by rw [List.drop_eq_nil_of_le (by omega), List.drop_eq_nil_of_le (by omega)])
    rw [val_dig va, val_dig vb] at this
    refine Ev.congr (fun k => ?_) this
    unfold nat_Cmp.f
    rw [norm_ev a ha hna, norm_ev b hb hnb]
    simp only [Option.bind_some]
    rw [if_pos (by omega), w64 (by omega) (by omega)]
  · refine Ev.congr (f := fun _ => some _) (fun k => ?_) (Ev.now _)
    unfold nat_Cmp.f
    rw [norm_ev a ha hna, norm_ev b hb hnb]
    simp only [Option.bind_some]
    rw [if_neg (by omega), w64 (by omega) (by omega), sign_ev]
    simp only [Option.bind_some]
    congr 1
    unfold cmpI
    by_cases hlt : (dig (val a)).length < (dig (val b)).length
    · have := val_lt_of_length (dig_lim _) (dig_lim _) hlt (fun h => dig_last h)
      rw [val_dig va, val_dig vb] at this
      rw [if_pos (by omega), if_pos (by omega)]
    · have := val_lt_of_length (dig_lim _) (dig_lim _) (show (dig (val b)).length < (dig (val a)).length by omega) (fun h => dig_last h)
      rw [val_dig va, val_dig vb] at this
      rw [if_neg (by omega), if_pos (by omega), if_neg (by omega), if_pos (by omega)]
theorem of_ev (n : Int) (h0 : 0 ≤ n) (h1 : n < 18446744073709551616) : nat_Of.f n = some (dig n) := by
  unfold nat_Of.f
  rw [norm_ev _ (Lim.cons (by omega) (by omega) (Lim.cons (by omega) (by omega) Lim.nil)) (by simp)]
  simp only [Option.bind_some, val]
  congr 2
  omega
theorem pw_le_pw {a b : Nat} (h : a ≤ b) : pw a ≤ pw b := by
  obtain ⟨d, rfl⟩ := Nat.exists_eq_add_of_le h
  rw [pw_add]
  have := pw_pos a
  have := pw_pos d
  calc pw a = pw a * 1 := by omega
    _ ≤ _ := Int.mul_le_mul_of_nonneg_left (by omega) (by omega)

/-! ### sums -/
theorem step_add {P V A Bv c x y q r : Int} (h : V + P * c = A + Bv) (e : r + 4294967296 * q = c + (x + y)) : V + P * r + (4294967296 * P) * q = A + P * x + (Bv + P * y) := by grind
theorem add_l0 (a b : List Int) (ha : Lim a) (hb : Lim b) (n : Nat) (hna : a.length < n) (hnb : b.length < n) (hn : n ≤ 1000000000000) (d : Nat) : ∀ (i : Nat) (out : List Int) (c : Int), i + d = n → out.length = n → Lim out → 0 ≤ c → c ≤ 1 → val (out.take i) + pw i * c = val (a.take i) + val (b.take i) →
    Ev (fun k => nat_Add.l0 k a b out c (n : Int) (i : Int)) (dig (val a + val b)) := by
  induction d with
  | zero =>
    intro i out c hi ho hL c0 c1 hv
    obtain rfl : i = n := by omega
    refine Ev.step (f := fun _ => some _) (fun k => ?_) (Ev.now _)
    simp only [nat_Add.l0]
    rw [if_neg (by omega), norm_ev out hL (by omega)]
    simp only [Option.bind_some]
    rw [List.take_of_length_le (by omega), List.take_of_length_le (by omega), List.take_of_length_le (by omega)] at hv
    have h1 := val_lt ha
    have h2 := val_lt hb
    have h3 := val_nonneg hL
    obtain ⟨m, rfl⟩ : ∃ m, i = m + 1 := ⟨i - 1, by omega⟩
    have h4 := pw_le_pw (show a.length ≤ m by omega)
    have h5 := pw_le_pw (show b.length ≤ m by omega)
    have h6 := pw_succ m
    have h7 := pw_pos m
    have hc : c = 0 := by
      by_cases hc : c = 0
      · exact hc
      · have : c = 1 := by omega
        subst this
        omega
    subst hc
    congr 2
    omega
  | succ d ih =>
    intro i out c hi ho hL c0 c1 hv
    have ga := ha.getD i
    have gb := hb.getD i
    have hio : i < out.length := by omega
    refine Ev.step (fun k => ?_) (ih (i + 1) (out.set i ((c + (a.getD i 0 + b.getD i 0)) % 4294967296)) ((c + (a.getD i 0 + b.getD i 0)) / 4294967296) (by omega) (by simpa using ho) (hL.set i (by omega) (by omega)) (by omega) (by omega) ?_)
    · simp only [nat_Add.l0]
      rw [if_pos (by omega), limb_ev a i ha, limb_ev b i hb]
      simp only [Option.bind_some]
      rw [if_pos (by omega), if_pos (by omega), u64 (x := a.getD i 0 + b.getD i 0) (by omega) (by omega), u64 (by omega) (by omega), w64 (by omega) (by omega), Int.toNat_natCast]
      rfl
    · rw [val_set_take _ _ _ hio, val_take_getD a, val_take_getD b, pw_succ]
      exact step_add hv (by omega)
theorem mx_len (a b : List Int) : mx (a.length : Int) (b.length : Int) = ((max a.length b.length : Nat) : Int) := by unfold mx; split <;> omega
theorem add_ev (a b : List Int) (ha : Lim a) (hb : Lim b) (hna : a.length < 1000000000) (hnb : b.length < 1000000000) : Ev (fun k => nat_Add.f k a b) (dig (val a + val b)) := by
  have := add_l0 a b ha hb (max a.length b.length + 1) (by omega) (by omega) (by omega) (max a.length b.length + 1) 0 (List.replicate (max a.length b.length + 1) 0) 0 (by omega) (by simp) (Lim.zeros _) (by omega) (by omega) (by simp [val])
  refine Ev.congr (fun k => ?_) this
  unfold nat_Add.f
  rw [mx_len, w64 (by omega) (by omega), if_pos (by omega), if_pos (by omega)]
  congr 1 <;> omega

end Go.Proofs.YthnfmmaolkenkaaDoor.V
/- What nat's products, and a number by a small one, and moved bits are, as numbers. -/
namespace Go.Proofs.YthnfmmaolkenkaaDoor.V
set_option linter.unusedVariables false
set_option linter.unusedSimpArgs false
open Go.RowKit Go.Proofs.YthnfmmaolkenkaaDoor.PA Go.Proofs.YthnfmmaolkenkaaDoor.H Go.Proofs.YthnfmmaolkenkaaDoorW.PrintWords Go.Proofs.YthnfmmaolkenkaaDoorW.PrintLast Go.Proofs.YthnfmmaolkenkaaDoorW.PrintMore

theorem mul_bd {x y X Y : Int} (h0 : 0 ≤ x) (h1 : x ≤ X) (g0 : 0 ≤ y) (g1 : y ≤ Y) : 0 ≤ x * y ∧ x * y ≤ X * Y :=
  ⟨Int.mul_nonneg h0 g0, Int.mul_le_mul h1 g1 g0 (by omega)⟩
theorem mul_bd32 {x y : Int} (hx : 0 ≤ x ∧ x < 4294967296) (hy : 0 ≤ y ∧ y < 4294967296) : 0 ≤ x * y ∧ x * y ≤ 18446744065119617025 :=
  mul_bd hx.1 (show x ≤ 4294967295 by omega) hy.1 (show y ≤ 4294967295 by omega)
theorem getD_get (l : List Int) (i : Nat) (h : i < l.length) : l.getD i 0 = l[i] := by simp [List.getD_eq_getElem?_getD, h]
theorem getD_set_ne (l : List Int) (i p : Nat) (x : Int) (h : i ≠ p) : (l.set i x).getD p 0 = l.getD p 0 := by
  simp [List.getD_eq_getElem?_getD, h]
/-- Noughts from a place on. -/
def Zf (l : List Int) (n : Nat) : Prop := ∀ p, n ≤ p → l.getD p 0 = 0
theorem Zf.set {l : List Int} {n i : Nat} {x : Int} (h : Zf l n) (hi : i < n) : Zf (l.set i x) n := fun p hp => by
  rw [getD_set_ne _ _ _ _ (by omega)]; exact h p hp
theorem Zf.zeros (m n : Nat) : Zf (List.replicate m 0) n := fun p _ => by
  rw [List.getD_eq_getElem?_getD]
  by_cases h : p < m <;> simp [h]
theorem step_mul {W V0 Pi pj P x y c q r vb o : Int} (h : W + P * c = V0 + Pi * x * vb) (e : r + 4294967296 * q = c + (x * y + o)) (hP : P = Pi * pj) : W + P * (r - o) + (4294967296 * P) * q = V0 + Pi * x * (vb + pj * y) := by
  subst hP
  grind
theorem mul_l1 (a b : List Int) (ha : Lim a) (hb : Lim b) (hna : a.length < 1000000000) (hnb : b.length < 1000000000) (i : Nat) (hi : i < a.length) (x V0 : Int) (hx : 0 ≤ x ∧ x < 4294967296) (r : List Int)
    (hc : ∀ out, out.length = a.length + b.length → Lim out → val out = V0 + pw i * x * val b → Zf out (i + 1 + b.length) → Ev (fun k => nat_Mul.l0 k b out a (a.length : Int) ((i + 1 : Nat) : Int)) r) (d : Nat) : ∀ (j : Nat) (out : List Int) (c : Int), j + d = b.length → out.length = a.length + b.length → Lim out → 0 ≤ c → c < 4294967296 → val out + pw (i + j) * c = V0 + pw i * x * val (b.take j) → Zf out (i + b.length) →
    Ev (fun k => nat_Mul.l1 k b out (i : Int) x c a (a.length : Int) (i : Int) (b.length : Int) (j : Int)) r := by
  induction d with
  | zero =>
    intro j out c hj ho hL c0 c1 hv hz
    obtain rfl : j = b.length := by omega
    have hp : i + b.length < out.length := by omega
    refine Ev.step (fun k => ?_) (hc (out.set (i + b.length) c) (by simpa using ho) (hL.set _ c0 c1) ?_ ?_)
    · simp only [nat_Mul.l1]
      rw [if_neg (by omega), w64 (by omega) (by omega), if_pos (by omega), if_pos (by omega), w64 (by omega) (by omega), show ((i : Int) + (b.length : Int)).toNat = i + b.length by omega, show c % 4294967296 = c by omega]
      rfl
    · have h0 := hz (i + b.length) (Nat.le_refl _)
      rw [getD_get _ _ hp] at h0
      rw [val_set _ _ _ hp, h0]
      rw [List.take_of_length_le (by omega)] at hv
      rw [Int.sub_zero]; exact hv
    · intro p hpp
      rw [getD_set_ne _ _ _ _ (by omega)]
      exact hz p (by omega)
  | succ d ih =>
    intro j out c hj ho hL c0 c1 hv hz
    have hjb : j < b.length := by omega
    have hp : i + j < out.length := by omega
    have gb := hb.get j hjb
    have go := hL.get (i + j) hp
    have hm := mul_bd32 hx gb
    refine Ev.step (fun k => ?_) (ih (j + 1) (out.set (i + j) ((c + (x * b[j] + out[i + j])) % 4294967296)) ((c + (x * b[j] + out[i + j])) / 4294967296) (by omega) (by simpa using ho) (hL.set _ (by omega) (by omega)) (by omega) (by omega) ?_ (hz.set (by omega)))
    · simp only [nat_Mul.l1]
      rw [if_pos (by omega), if_pos (by omega), if_pos (by omega), w64 (x := (i : Int) + (j : Int)) (by omega) (by omega), if_pos (by omega), if_pos (by omega), show ((i : Int) + (j : Int)) = ((i + j : Nat) : Int) by omega, rd_get _ _ hp, rd_get _ _ hjb, u64 (x := x) (by omega) (by omega), u64 (x := b[j]) (by omega) (by omega), u64 (x := x * b[j]) (by omega) (by omega), u64 (x := out[i + j]) (by omega) (by omega), u64 (x := x * b[j] + out[i + j]) (by omega) (by omega), u64 (by omega) (by omega), w64 (by omega) (by omega), Int.toNat_natCast]
      rfl
    · rw [val_set _ _ _ hp, val_take_succ _ _ hjb, ← Nat.add_assoc, pw_succ]
      exact step_mul hv (by omega) (pw_add i j)
theorem mul_l0 (a b : List Int) (ha : Lim a) (hb : Lim b) (hna : a.length < 1000000000) (hnb : b.length < 1000000000) (d : Nat) : ∀ (i : Nat) (out : List Int), i + d = a.length → out.length = a.length + b.length → Lim out → val out = val (a.take i) * val b → Zf out (i + b.length) →
    Ev (fun k => nat_Mul.l0 k b out a (a.length : Int) (i : Int)) (dig (val a * val b)) := by
  induction d with
  | zero =>
    intro i out hi ho hL hv hz
    obtain rfl : i = a.length := by omega
    refine Ev.step (f := fun _ => some _) (fun k => ?_) (Ev.now _)
    simp only [nat_Mul.l0]
    rw [if_neg (by omega), norm_ev out hL (by omega), hv, List.take_of_length_le (by omega)]
    rfl
  | succ d ih =>
    intro i out hi ho hL hv hz
    have hia : i < a.length := by omega
    have ga := ha.get i hia
    refine Ev.step (fun k => ?_) (mul_l1 a b ha hb hna hnb i hia a[i] (val (a.take i) * val b) ga _ (fun out' h1 h2 h3 h4 => ih (i + 1) out' (by omega) h1 h2 ?_ h4) b.length 0 out 0 (by omega) ho hL (by omega) (by omega) ?_ hz)
    · simp only [nat_Mul.l0]
      rw [if_pos (by omega), if_pos (by omega), if_pos (by omega), rd_get _ _ hia]
      rfl
    · rw [h3, val_take_succ _ _ hia]; grind
    · simp [hv, val]
theorem mul_ev (a b : List Int) (ha : Lim a) (hb : Lim b) (hna : a.length < 1000000000) (hnb : b.length < 1000000000) : Ev (fun k => nat_Mul.f k a b) (dig (val a * val b)) := by
  refine Ev.congr (fun k => ?_) (mul_l0 a b ha hb hna hnb a.length 0 (List.replicate (a.length + b.length) 0) (by omega) (by simp) (Lim.zeros _) (by simp [val, val_zeros]) (Zf.zeros _ _))
  unfold nat_Mul.f
  rw [w64 (by omega) (by omega), if_pos (by omega), if_pos (by omega), show ((a.length : Int) + (b.length : Int)).toNat = a.length + b.length by omega]
  rfl

/-! ### a number by a small one -/
theorem wraps_u64 (n : Int) (h0 : 0 ≤ n) (h1 : n < 2 ^ 64) : IntKind.u64.wrap n = n := u64 h0 (by omega)
theorem or_join {x y : Int} (hx : 0 ≤ x ∧ x < 4294967296) (hy : 0 ≤ y ∧ y < 4294967296) : Go.bits .or .u64 (x * 4294967296) y = x * 4294967296 + y :=
  bits_join .u64 64 (by decide) wraps_u64 32 _ _ (by omega) (by omega) (by omega) hy.1 (by omega) (by omega)
theorem div_unique {a b q r : Int} (hb : 0 < b) (h : q * b + r = a) (h0 : 0 ≤ r) (h1 : r < b) : a / b = q ∧ a % b = r :=
  (Int.ediv_emod_unique hb).2 ⟨by rw [← h, Int.mul_comm]; omega, h0, h1⟩
theorem drop_set_self (l : List Int) (i : Nat) (x : Int) (h : i < l.length) : (l.set i x).drop i = x :: l.drop (i + 1) := by
  rw [List.drop_eq_getElem_cons (by simpa using h)]
  simp [List.drop_set_of_lt]
theorem small_l0 (a : List Int) (n : Int) (ha : Lim a) (hn0 : 0 < n) (hn1 : n ≤ 4294967296) (hna : a.length < 1000000000) (d : Nat) : ∀ (out : List Int) (r : Int), d ≤ a.length → out.length = a.length → Lim out → 0 ≤ r → r < n → val (out.drop d) * n + r = val (a.drop d) →
    Ev (fun k => nat_small.l0 k a n out r ((d : Int) - 1)) (dig (val a / n), val a % n) := by
  induction d with
  | zero =>
    intro out r hd ho hL r0 r1 hv
    refine Ev.step (f := fun _ => some _) (fun k => ?_) (Ev.now _)
    simp only [nat_small.l0]
    rw [if_neg (by omega), norm_ev out hL (by omega)]
    simp only [List.drop_zero] at hv
    obtain ⟨e1, e2⟩ := div_unique hn0 hv r0 r1
    rw [e1, e2]
    rfl
  | succ d ih =>
    intro out r hd ho hL r0 r1 hv
    have hda : d < a.length := by omega
    have hdo : d < out.length := by omega
    have ga := ha.get d hda
    have ho1 : Go.bits .or .u64 (IntKind.u64.wrap (r * 4294967296)) (IntKind.u64.wrap a[d]) = r * 4294967296 + a[d] := by
      rw [u64 (by omega) (by omega), u64 (by omega) (by omega)]
      exact or_join ⟨r0, by omega⟩ ga
    have hX0 : 0 ≤ r * 4294967296 + a[d] := by omega
    have hq0 : 0 ≤ (r * 4294967296 + a[d]) / n := Int.ediv_nonneg hX0 (by omega)
    have hq1 : (r * 4294967296 + a[d]) / n < 4294967296 := by
      apply Int.ediv_lt_of_lt_mul hn0
      have : (r + 1) * 4294967296 ≤ n * 4294967296 := Int.mul_le_mul_of_nonneg_right (by omega) (by omega)
      omega
    have hm0 := Int.emod_nonneg (r * 4294967296 + a[d]) (show n ≠ 0 by omega)
    have hm1 := Int.emod_lt_of_pos (r * 4294967296 + a[d]) hn0
    have hqr := Int.mul_ediv_add_emod (r * 4294967296 + a[d]) n
    refine Ev.step (fun k => ?_) (ih (out.set d ((r * 4294967296 + a[d]) / n)) ((r * 4294967296 + a[d]) % n) (by omega) (by simpa using ho) (hL.set _ hq0 hq1) hm0 hm1 ?_)
    · simp only [nat_small.l0]
      have e : ((d + 1 : Nat) : Int) - 1 = (d : Int) := by omega
      rw [e, if_pos (by omega), if_pos (by omega), if_pos (by omega), if_neg (by omega), if_pos (by omega), rd_get _ _ hda, ho1, Int.tdiv_eq_ediv_of_nonneg hX0, Int.tmod_eq_emod_of_nonneg hX0, u64 hq0 (by omega), Int.emod_eq_of_lt hq0 hq1, w64 (by omega) (by omega), Int.toNat_natCast]
    · rw [drop_set_self _ _ _ hdo, val_drop_cons _ _ hda]
      simp only [val]
      rw [← hv]
      generalize (r * 4294967296 + a[d]) / n = q at *
      generalize (r * 4294967296 + a[d]) % n = s at *
      grind
theorem small_ev (a : List Int) (n : Int) (ha : Lim a) (hn0 : 0 < n) (hn1 : n ≤ 4294967296) (hna : a.length < 1000000000) : Ev (fun k => nat_small.f k a n) (dig (val a / n), val a % n) := by
  refine Ev.congr (fun k => ?_) (small_l0 a n ha hn0 hn1 hna a.length (List.replicate a.length 0) 0 (Nat.le_refl _) (by simp) (Lim.zeros _) (by omega) (by omega) (by rw [List.drop_eq_nil_of_le (by simp), List.drop_eq_nil_of_le (by omega)]; simp [val]))
  unfold nat_small.f
  rw [if_pos (by omega), if_pos (by omega), w64 (by omega) (by omega), Int.toNat_natCast]

/-! ### moved bits -/
theorem wraps_u32 (n : Int) (h0 : 0 ≤ n) (h1 : n < 2 ^ 32) : IntKind.u32.wrap n = n := by rw [IntKind.wrap_u32]; omega
theorem or_comm_ (k : IntKind) (x y : Int) : Go.bits .or k x y = Go.bits .or k y x := by
  simp only [Go.bits, BitVec.or_comm]
theorem p_pos (n : Nat) : (0 : Int) < 2 ^ n := Int.pow_pos (by omega)
theorem p_split {n : Nat} (hn : n ≤ 32) : (2 : Int) ^ n * 2 ^ (32 - n) = 4294967296 := by
  rw [← Int.pow_add, show n + (32 - n) = 32 by omega]; rfl
theorem p_le {n : Nat} (hn : n ≤ 31) : (2 : Int) ^ n ≤ 2147483648 := by
  have := Nat.pow_le_pow_right (n := 2) (by omega) hn
  have e : (2 : Int) ^ n = ((2 ^ n : Nat) : Int) := by simp
  omega
theorem or_low {n : Nat} (hn : n ≤ 31) {x y : Int} (hx0 : 0 ≤ x) (hx1 : x < 2 ^ n) (hy0 : 0 ≤ y) (hy1 : y < 4294967296) (hy : y % 2 ^ n = 0) : Go.bits .or .u32 x y = x + y := by
  have := p_le hn
  rw [or_comm_, bits_join .u32 32 (by decide) wraps_u32 n y x hy0 hy (by omega) hx0 hx1 (by omega)]
  omega
theorem shl_u64 (x : Int) (n : Nat) (hn : n ≤ 31) (hx : 0 ≤ x ∧ x < 4294967296) : shl .u64 x (n : Int) = x * 2 ^ n ∧ 0 ≤ x * 2 ^ n ∧ x * 2 ^ n < 9223372036854775808 := by
  have h1 := p_pos n
  have h2 := p_le hn
  have h3 := mul_bd hx.1 (show x ≤ 4294967295 by omega) (Int.le_of_lt h1) h2
  refine ⟨?_, h3.1, by omega⟩
  unfold shl
  rw [Int.toNat_natCast, Nat.min_eq_left (by simp [IntKind.bits]; omega), u64 h3.1 (by omega)]
theorem mulmod_p {n : Nat} (hn : n ≤ 31) (x : Int) : (x * 2 ^ n) % 4294967296 % 2 ^ n = 0 := by
  rw [Int.emod_emod_of_dvd _ ⟨2 ^ (32 - n), (p_split (by omega)).symm⟩, Int.mul_emod_left]
theorem left_l0 (a : List Int) (n : Nat) (ha : Lim a) (hn : n ≤ 31) (hna : a.length < 1000000000) (d : Nat) : ∀ (i : Nat) (out : List Int), i + d = a.length → out.length = a.length + 1 → Lim out → out.getD i 0 < 2 ^ n → val (out.take (i + 1)) = val (a.take i) * 2 ^ n →
    ∃ o, Ev (fun k => nat_left.l0 k (n : Int) out a (a.length : Int) (i : Int)) o ∧ o.length = a.length + 1 ∧ Lim o ∧ val o = val a * 2 ^ n := by
  have hp := p_pos n
  have hp1 := p_le hn
  induction d with
  | zero =>
    intro i out hi ho hL h1 hv
    obtain rfl : i = a.length := by omega
    rw [List.take_of_length_le (by omega), List.take_of_length_le (by omega)] at hv
    refine ⟨out, Ev.step (f := fun _ => some _) (fun k => ?_) (Ev.now _), ho, hL, hv⟩
    simp only [nat_left.l0]
    rw [if_neg (by omega)]
  | succ d ih =>
    intro i out hi ho hL h1 hv
    have hia : i < a.length := by omega
    have hio : i < out.length := by omega
    have hio' : i + 1 < out.length := by omega
    have ga := ha.get i hia
    have go := hL.get i hio
    rw [getD_get _ _ hio] at h1
    obtain ⟨s1, s2, s3⟩ := shl_u64 a[i] n hn ga
    have hlow := mulmod_p hn a[i]
    have hor := or_low hn go.1 h1 (show 0 ≤ (a[i] * 2 ^ n) % 4294967296 by omega) (by omega) hlow
    have hq : (a[i] * 2 ^ n) / 4294967296 < 2 ^ n := by
      apply Int.ediv_lt_of_lt_mul (by omega)
      rw [Int.mul_comm (a[i])]
      exact Int.mul_lt_mul_of_pos_left ga.2 hp
    have hsum : out[i] + (a[i] * 2 ^ n) % 4294967296 < 4294967296 := by
      -- the low part is a multiple of 2^n below 2^32
      have e := Int.mul_ediv_add_emod ((a[i] * 2 ^ n) % 4294967296) (2 ^ n)
      rw [hlow] at e
      have hs := p_split (n := n) (by omega)
      have hs0 := p_pos (32 - n)
      have : (a[i] * 2 ^ n) % 4294967296 / 2 ^ n < 2 ^ (32 - n) := by
        apply Int.ediv_lt_of_lt_mul hp
        rw [Int.mul_comm (2 ^ (32 - n)), hs]; omega
      have h5 : 2 ^ n * ((a[i] * 2 ^ n) % 4294967296 / 2 ^ n + 1) ≤ 2 ^ n * 2 ^ (32 - n) := Int.mul_le_mul_of_nonneg_left (by omega) (Int.le_of_lt hp)
      rw [Int.mul_add, Int.mul_one] at h5
      omega
    have hstep := fun o' h2 h3 h4 h5 => ih (i + 1) o' (by omega) h2 h3 h4 h5
    obtain ⟨o, ho1, ho2, ho3, ho4⟩ := hstep ((out.set i (out[i] + (a[i] * 2 ^ n) % 4294967296)).set (i + 1) ((a[i] * 2 ^ n) / 4294967296)) (by simpa using ho) ((hL.set i (by omega) hsum).set (i + 1) (by omega) (by omega)) (by rw [getD_get _ _ (by simpa using hio')]; simpa using hq) (by
      rw [val_set_take _ _ _ (by simpa using hio'), val_set_take _ _ _ hio]
      rw [val_take_succ _ _ hio] at hv
      rw [val_take_succ _ _ hia, pw_succ]
      have e := Int.mul_ediv_add_emod (a[i] * 2 ^ n) 4294967296
      generalize a[i] * 2 ^ n / 4294967296 = q at *
      generalize a[i] * 2 ^ n % 4294967296 = r at *
      grind)
    refine ⟨o, Ev.step (fun k => ?_) ho1, ho2, ho3, ho4⟩
    simp only [nat_left.l0]
    rw [if_pos (by omega), if_pos (by omega), if_pos (by omega), if_pos (by omega), if_pos (by omega), w64 (by omega) (by omega), if_pos (by omega), if_pos (by omega), rd_get _ _ hio, rd_get _ _ hia, u64 (x := a[i]) ga.1 (by omega), s1, hor, Int.toNat_natCast, show ((i : Int) + 1).toNat = i + 1 by omega, Int.emod_eq_of_lt (a := a[i] * 2 ^ n / 4294967296) (by omega) (by omega)]
    rfl
theorem left_ev (a : List Int) (n : Nat) (ha : Lim a) (hn : n ≤ 31) (hna : a.length < 1000000000) : ∃ o, Ev (fun k => nat_left.f k a (n : Int)) o ∧ o.length = a.length + 1 ∧ Lim o ∧ val o = val a * 2 ^ n := by
  obtain ⟨o, h1, h2⟩ := left_l0 a n ha hn hna a.length 0 (List.replicate (a.length + 1) 0) (by omega) (by simp) (Lim.zeros _) (by have := p_pos n; simp; exact this) (by simp [val, List.replicate_succ])
  refine ⟨o, Ev.congr (fun k => ?_) h1, h2⟩
  unfold nat_left.f
  rw [w64 (by omega) (by omega), if_pos (by omega), if_pos (by omega), show ((a.length : Int) + 1).toNat = a.length + 1 by omega]
  rfl
theorem shr_u64 (x : Int) (n : Nat) (hn : n ≤ 31) : shr .u64 x (n : Int) = x / 2 ^ n := by
  unfold shr
  rw [Int.toNat_natCast, Nat.min_eq_left (by simp [IntKind.bits]; omega)]
/-- One limb of a number moved down. -/
theorem right_limb {p s X a : Int} (hp : 0 < p) (hs : 0 < s) (hps : p * s = 4294967296) (hX : 0 ≤ X ∧ X < 4294967296) (ha : 0 ≤ a ∧ a < 4294967296) : ((X * 4294967296 + a) / p % 4294967296) * p = (X % p) * 4294967296 + (a - a % p) ∧ 0 ≤ (X * 4294967296 + a) / p % 4294967296 ∧ (X * 4294967296 + a) / p % 4294967296 < 4294967296 := by
  have e1 : X * 4294967296 + a = a + p * (X * s) := by rw [← hps]; grind
  have e2 : (X * 4294967296 + a) / p = a / p + X * s := by rw [e1, Int.add_mul_ediv_left _ _ (by omega)]
  have e3 := Int.mul_ediv_add_emod X p
  have e4 := Int.mul_ediv_add_emod a p
  have m0 := Int.emod_nonneg X (show p ≠ 0 by omega)
  have m1 := Int.emod_lt_of_pos X hp
  have h0 : 0 ≤ a / p := Int.ediv_nonneg ha.1 (by omega)
  have h1 : a / p < s := Int.ediv_lt_of_lt_mul hp (by rw [Int.mul_comm s, hps]; exact ha.2)
  have e5 : (X * 4294967296 + a) / p = (X / p) * 4294967296 + ((X % p) * s + a / p) := by
    rw [e2, ← hps]
    generalize X / p = u at *
    generalize X % p = v at *
    generalize a / p = t at *
    subst e3
    grind
  have hb0 : 0 ≤ (X % p) * s := Int.mul_nonneg m0 (by omega)
  have hb1 : (X % p + 1) * s ≤ p * s := Int.mul_le_mul_of_nonneg_right (by omega) (by omega)
  rw [Int.add_mul, Int.one_mul, hps] at hb1
  have e6 : (X * 4294967296 + a) / p % 4294967296 = (X % p) * s + a / p := by
    rw [e5]
    generalize X % p * s = z at *
    omega
  refine ⟨?_, by omega, by omega⟩
  rw [e6]
  have : (X % p * s + a / p) * p = (X % p) * (p * s) + p * (a / p) := by grind
  rw [this, hps]
  omega
theorem right_l0 (a : List Int) (n : Nat) (ha : Lim a) (hn : n ≤ 31) (hna : a.length < 1000000000) (d : Nat) : ∀ (i : Nat) (out : List Int), i + d = a.length → out.length = a.length → Lim out → val (out.take i) * 2 ^ n + a.getD 0 0 % 2 ^ n = val (a.take i) + pw i * (a.getD i 0 % 2 ^ n) →
    Ev (fun k => nat_right.l0 k a (n : Int) out (a.length : Int) (i : Int)) (dig (val a / 2 ^ n)) := by
  have hp := p_pos n
  induction d with
  | zero =>
    intro i out hi ho hL hv
    obtain rfl : i = a.length := by omega
    refine Ev.step (f := fun _ => some _) (fun k => ?_) (Ev.now _)
    simp only [nat_right.l0]
    rw [if_neg (by omega), norm_ev out hL (by omega)]
    simp only [Option.bind_some]
    rw [List.take_of_length_le (by omega), List.take_of_length_le (by omega), List.getD_eq_getElem?_getD (i := a.length), List.getElem?_eq_none (by omega)] at hv
    simp only [Option.getD_none, Int.zero_emod, Int.mul_zero, Int.add_zero] at hv
    have h0 := Int.emod_nonneg (a.getD 0 0) (show (2 : Int) ^ n ≠ 0 by omega)
    have h1 := Int.emod_lt_of_pos (a.getD 0 0) hp
    rw [(div_unique hp hv h0 h1).1]
  | succ d ih =>
    intro i out hi ho hL hv
    have hia : i < a.length := by omega
    have hio : i < out.length := by omega
    have ga := ha.get i hia
    have gx := ha.getD (i + 1)
    obtain ⟨e1, e2, e3⟩ := right_limb hp (p_pos (32 - n)) (p_split (by omega)) gx ga
    refine Ev.step (fun k => ?_) (ih (i + 1) (out.set i ((a.getD (i + 1) 0 * 4294967296 + a[i]) / 2 ^ n % 4294967296)) (by omega) (by simpa using ho) (hL.set _ e2 e3) ?_)
    · simp only [nat_right.l0]
      rw [if_pos (by omega), w64 (x := (i : Int) + 1) (by omega) (by omega), show (i : Int) + 1 = ((i + 1 : Nat) : Int) by omega, limb_ev _ _ ha]
      simp only [Option.bind_some]
      rw [if_pos (by omega), if_pos (by omega), if_pos (by omega), if_pos (by omega), rd_get _ _ hia, u64 (x := a[i]) ga.1 (by omega), u64 (x := a.getD (i + 1) 0 * 4294967296) (by omega) (by omega), or_join gx ga, shr_u64 _ _ hn, Int.toNat_natCast]
    · rw [val_set_take _ _ _ hio, val_take_succ _ _ hia, pw_succ]
      rw [getD_get _ _ hia] at hv
      generalize (a.getD (i + 1) 0 * 4294967296 + a[i]) / 2 ^ n % 4294967296 = z at *
      generalize a.getD (i + 1) 0 % 2 ^ n = y at *
      generalize a[i] % 2 ^ n = w at *
      generalize (2 : Int) ^ n = p at *
      grind
theorem right_ev (a : List Int) (n : Nat) (ha : Lim a) (hn : n ≤ 31) (hna : a.length < 1000000000) : Ev (fun k => nat_right.f k a (n : Int)) (dig (val a / 2 ^ n)) := by
  refine Ev.congr (fun k => ?_) (right_l0 a n ha hn hna a.length 0 (List.replicate a.length 0) (by omega) (by simp) (Lim.zeros _) (by simp [val, pw_zero]))
  unfold nat_right.f
  rw [if_pos (by omega), if_pos (by omega)]
  simp only [Int.toNat_natCast]
  rfl
end Go.Proofs.YthnfmmaolkenkaaDoor.V
