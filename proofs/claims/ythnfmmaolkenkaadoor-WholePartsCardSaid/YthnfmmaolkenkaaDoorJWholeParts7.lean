/- Joined by wip/tools/shake.py for the claim of WholeParts: PAx19, PAx20, PAx21, NatV, NatB. -/
import Derived.Test.YthnfmmaolkenkaaDoorJWholeParts2
import Derived.Test.YthnfmmaolkenkaaDoorJWholeParts4
import Derived.Test.YthnfmmaolkenkaaDoorJWholeParts6
import Derived.Test.YthnfmmaolkenkaaDoorJWholeParts5
import Derived.Laws.BitsLemmas
import Derived.Laws.Bits64
/- Written by a program of this session, wip/tools/patch_print.py, over the kit's print of the loaded functions. -/
namespace Go.Proofs.YthnfmmaolkenkaaDoor.H
end Go.Proofs.YthnfmmaolkenkaaDoor.H
namespace Go.Proofs.YthnfmmaolkenkaaDoor.PA
open Go.RowKit Go.Proofs.YthnfmmaolkenkaaDoorW.PrintWords Go.Proofs.YthnfmmaolkenkaaDoorW.PrintLast Go.Proofs.YthnfmmaolkenkaaDoorW.PrintMore Go.Proofs.YthnfmmaolkenkaaDoor.H
attribute [local go_sem] max2_int min2_int max_two min_two max_three min_three max_four min_four   -- for this text's walks alone
attribute [local go_sem] box_twice
set_option linter.unusedVariables false
set_option linter.unusedSimpArgs false

/-! ### gudgeonref02_DivMod: function 12 -/
def gudgeonref02_DivMod.f (k : Nat) (a0_0 : Bool) (l0_1 : List Int) (a1_0 : Bool) (l1_1 : List Int) : Option (Bool × List Int × Bool × List Int × Int) := (gudgeonref01_DivMod.f k l0_1 l1_1).bind fun bt841 => (if bt841.2.2 = 0 then ((gudgeonref02_Norm.f k (a0_0 != a1_0) bt841.1).bind fun bt848 => ((gudgeonref02_Mul.f k bt848.1 bt848.2 a1_0 l1_1).bind fun bt853 => ((gudgeonref02_Sub.f k a0_0 l0_1 bt853.1 bt853.2).bind fun bt857 => ((gudgeonref02_Sign.f k bt857.1 bt857.2).bind fun t862 => (if t862 < 0 then ((gudgeonref01_Add.f k bt841.1 (([1] : List Int))).bind fun t866 => ((gudgeonref02_Norm.f k (a0_0 != a1_0) t866).bind fun bt869 => ((gudgeonref02_Mul.f k bt869.1 bt869.2 a1_0 l1_1).bind fun bt873 => ((gudgeonref02_Sub.f k a0_0 l0_1 bt873.1 bt873.2).bind fun bt877 => (some (bt869.1, bt869.2, bt877.1, bt877.2, 0)))))) else (some (bt848.1, bt848.2, bt857.1, bt857.2, 0))))))) else (some (false, ([] : List Int), false, ([] : List Int), bt841.2.2)))
def gudgeonref02_DivMod.T7 : Bool × List (List Nat × List Nat) := (true, [([], []), ([0], [0]), ([], []), ([2], [2]), ([1, 3], [1, 3]), ([], []), ([], []), ([5, 6], [5, 6]), ([4, 7], [4, 7]), ([8, 7], [8]), ([9, 9, 0, 1, 2, 3, 4, 5, 6, 7, 8, 9], [9])])
def gudgeonref02_DivMod.B7 : List Nat := [0, 1, 0, 4, 15, 0, 0, 96, 255, 511, 1023]
theorem gudgeonref02_DivMod.tab7 : rtab .any (opsOf Tryd.f12 7) = gudgeonref02_DivMod.T7 := by kernel_rfl
theorem gudgeonref02_DivMod.bits7 : waitsOk gudgeonref02_DivMod.T7.2 gudgeonref02_DivMod.B7 = true := by kernel_rfl
set_option maxHeartbeats 8000000 in
set_option maxRecDepth 100000 in
theorem gudgeonref02_DivMod.calls (k : Nat) (a0_0 : Bool) (A0_1 : Option Addr) (c0_1 : Nat) (l0_1 : List Int) (a1_0 : Bool) (A1_1 : Option Addr) (c1_1 : Nat) (l1_1 : List Int) (r1 : Bool) (r2 : List Int) (r3 : Bool) (r4 : List Int) (r5 : Int) (w : World) (hr0_1 : Kd.C (Kd.int .u32) w A0_1 l0_1.length l0_1) (hc0_1 : l0_1.length ≤ c0_1) (hr1_1 : Kd.C (Kd.int .u32) w A1_1 l1_1.length l1_1) (hc1_1 : l1_1.length ≤ c1_1) (h : gudgeonref02_DivMod.f k a0_0 l0_1 a1_0 l1_1 = some (r1, r2, r3, r4, r5)) :
  Calls Tryd.prog 12 #[.agg #[.bool a0_0, .slice A0_1 l0_1.length c0_1], .agg #[.bool a1_0, .slice A1_1 l1_1.length c1_1]] w fun e w' => ∃ v1_ v3_ : Value, e = .returned (.tuple #[.agg #[.bool r1, v1_], .agg #[.bool r3, v3_], .int .i64 r5]) ∧ Kd.R (Kd.int .u32) 51 w' w.heap.size (fun k_ => some k_ ≠ (v3_ : Value).ownBlock) v1_ r2 ∧ Kd.R (Kd.int .u32) 51 w' w.heap.size (fun k_ => some k_ ≠ (v1_ : Value).ownBlock) v3_ r4 ∧ Below w.heap.size w w' := by
 have hu24 := Tryd.underlying24
 have HR0_1 := Aside0.mk hr0_1
 have HC0_1 := Aside0.mk hc0_1
 clear hr0_1 hc0_1
 have HR1_1 := Aside0.mk hr1_1
 have HC1_1 := Aside0.mk hc1_1
 clear hr1_1 hc1_1
 have HB := Aside0.mk (Below.refl w.heap.size w)
 have H : ((gudgeonref01_DivMod.f k l0_1 l1_1).bind fun bt841 => (if bt841.2.2 = 0 then ((gudgeonref02_Norm.f k (a0_0 != a1_0) bt841.1).bind fun bt848 => ((gudgeonref02_Mul.f k bt848.1 bt848.2 a1_0 l1_1).bind fun bt853 => ((gudgeonref02_Sub.f k a0_0 l0_1 bt853.1 bt853.2).bind fun bt857 => ((gudgeonref02_Sign.f k bt857.1 bt857.2).bind fun t862 => (if t862 < 0 then ((gudgeonref01_Add.f k bt841.1 (([1] : List Int))).bind fun t866 => ((gudgeonref02_Norm.f k (a0_0 != a1_0) t866).bind fun bt869 => ((gudgeonref02_Mul.f k bt869.1 bt869.2 a1_0 l1_1).bind fun bt873 => ((gudgeonref02_Sub.f k a0_0 l0_1 bt873.1 bt873.2).bind fun bt877 => (some (bt869.1, bt869.2, bt877.1, bt877.2, 0)))))) else (some (bt848.1, bt848.2, bt857.1, bt857.2, 0))))))) else (some (false, ([] : List Int), false, ([] : List Int), bt841.2.2)))) = some (r1, r2, r3, r4, r5) := h
 clear h
 obtain ⟨⟨t841, t842, t843⟩, A30, H⟩ := Option.bind_eq_some_iff.mp H
 try dsimp only at H
 have A3 := Aside0.mk A30
 clear A30
 by_cases c4 : t843 = 0
 ·rw [if_pos c4] at H
  have c4b0 : (t843 == 0) = true := beq_iff_eq.mpr c4
  have c4b1 : (t843 != 0) = false := bne_eq_false_iff_eq.mpr c4
  clear c4
  obtain ⟨⟨t848, t849⟩, A50, H⟩ := Option.bind_eq_some_iff.mp H
  try dsimp only at H
  have A5 := Aside0.mk A50
  clear A50
  obtain ⟨⟨t853, t854⟩, A60, H⟩ := Option.bind_eq_some_iff.mp H
  try dsimp only at H
  have A6 := Aside0.mk A60
  clear A60
  obtain ⟨⟨t857, t858⟩, A70, H⟩ := Option.bind_eq_some_iff.mp H
  try dsimp only at H
  have A7 := Aside0.mk A70
  clear A70
  obtain ⟨t862, A80, H⟩ := Option.bind_eq_some_iff.mp H
  try dsimp only at H
  have A8 := Aside0.mk A80
  clear A80
  by_cases c9 : t862 < 0
  ·rw [if_pos c9] at H
   have c9b0 : decide (t862 < 0) = true := decide_eq_true c9
   clear c9
   obtain ⟨y863, hy863⟩ : ∃ y_ : List Int, y_ = (([1] : List Int)) := ⟨_, rfl⟩
   replace H : ((gudgeonref01_Add.f k t841 y863).bind fun t866 => ((gudgeonref02_Norm.f k (a0_0 != a1_0) t866).bind fun bt869 => ((gudgeonref02_Mul.f k bt869.1 bt869.2 a1_0 l1_1).bind fun bt873 => ((gudgeonref02_Sub.f k a0_0 l0_1 bt873.1 bt873.2).bind fun bt877 => (some (bt869.1, bt869.2, bt877.1, bt877.2, 0)))))) = some (r1, r2, r3, r4, r5) := by first | (rw [hy863]; with_reducible exact H) | (have H2_ := (Option.bind_some _ _).symm.trans H; rw [hy863]; with_reducible exact H2_) | (have H2_ := (Option.bind_some _ _).symm.trans H; with_reducible exact H2_) | with_reducible exact H | (rw [hy863]; exact H) | exact H
   have Ny863 := Aside0.mk hy863
   clear hy863
   obtain ⟨t866, A100, H⟩ := Option.bind_eq_some_iff.mp H
   try dsimp only at H
   have A10 := Aside0.mk A100
   clear A100
   obtain ⟨⟨t869, t870⟩, A110, H⟩ := Option.bind_eq_some_iff.mp H
   try dsimp only at H
   have A11 := Aside0.mk A110
   clear A110
   obtain ⟨⟨t873, t874⟩, A120, H⟩ := Option.bind_eq_some_iff.mp H
   try dsimp only at H
   have A12 := Aside0.mk A120
   clear A120
   obtain ⟨⟨t877, t878⟩, A130, H⟩ := Option.bind_eq_some_iff.mp H
   try dsimp only at H
   have A13 := Aside0.mk A130
   clear A130
   simp only [Option.some.injEq, Prod.mk.injEq] at H
   obtain ⟨rfl, rfl, rfl, rfl, rfl⟩ := H
   go_enter Tryd.func12, Tryd.ntmps12
   try go_wp2_with (first | ((with_reducible refine gate_dst (N := 2) rfl ?_); refine box_event ?hg (N := 2) ?hd (cs := #[.bool a0_0, .slice A0_1 l0_1.length c0_1]) (t := 24) ?hr ?_; (case hd => rfl); (case hg => rfl); (case hr => first | (go_simp; done) | (go_simp; rfl)); intro gb837 hg w14 hbox hb; have BK837 := Aside0.mk (hbox); have GW837 := Aside0.mk (bxLe HB.out hg); have GE837 := GW837; replace HB := Aside0.mk (below_step HB.out hb); clear hb hbox hg) | ((with_reducible refine gate_dst (N := 3) rfl ?_); refine box_event ?hg (N := 3) ?hd (cs := #[.bool a1_0, .slice A1_1 l1_1.length c1_1]) (t := 24) ?hr ?_; (case hd => rfl); (case hg => rfl); (case hr => first | (go_simp; done) | (go_simp; rfl)); intro gb838 hg w15 hbox hb; have BK838 := Aside0.mk (hbox); have GW838 := Aside0.mk (bxLe HB.out hg); have GE838 := GW838; replace HB := Aside0.mk (below_step HB.out hb); have NB837_838 := Aside0.mk (neL BK837.out hg); have NB838_837 := Aside0.mk (neR BK837.out hg); replace BK837 := Aside0.mk (blk_below BK837.out hb); clear hb hbox hg) | ((with_reducible refine gate_dst (N := 4) rfl ?_); refine box_event ?hg (N := 4) ?hd (cs := #[.bool false, .slice none 0 0]) (t := 24) ?hr ?_; (case hd => rfl); (case hg => rfl); (case hr => first | (go_simp; done) | (go_simp; rfl)); intro gb839 hg w16 hbox hb; have BK839 := Aside0.mk (hbox); have GW839 := Aside0.mk (bxLe HB.out hg); have GE839 := GW839; replace HB := Aside0.mk (below_step HB.out hb); have NB837_839 := Aside0.mk (neL BK837.out hg); have NB839_837 := Aside0.mk (neR BK837.out hg); replace BK837 := Aside0.mk (blk_below BK837.out hb); have NB838_839 := Aside0.mk (neL BK838.out hg); have NB839_838 := Aside0.mk (neR BK838.out hg); replace BK838 := Aside0.mk (blk_below BK838.out hb); clear hb hbox hg) | ((with_reducible refine gate_dst (N := 5) rfl ?_); refine box_event ?hg (N := 5) ?hd (cs := #[.bool false, .slice none 0 0]) (t := 24) ?hr ?_; (case hd => rfl); (case hg => rfl); (case hr => first | (go_simp; done) | (go_simp; rfl)); intro gb840 hg w17 hbox hb; have BK840 := Aside0.mk (hbox); have GW840 := Aside0.mk (bxLe HB.out hg); have GE840 := GW840; replace HB := Aside0.mk (below_step HB.out hb); have NB837_840 := Aside0.mk (neL BK837.out hg); have NB840_837 := Aside0.mk (neR BK837.out hg); replace BK837 := Aside0.mk (blk_below BK837.out hb); have NB838_840 := Aside0.mk (neL BK838.out hg); have NB840_838 := Aside0.mk (neR BK838.out hg); replace BK838 := Aside0.mk (blk_below BK838.out hb); have NB839_840 := Aside0.mk (neL BK839.out hg); have NB840_839 := Aside0.mk (neR BK839.out hg); replace BK839 := Aside0.mk (blk_below BK839.out hb); clear hb hbox hg; have hnb18 := NB837_838.out; have hnc18 := NB838_837.out; have hnb19 := NB837_839.out; have hnc19 := NB839_837.out; have hnb20 := NB837_840.out; have hnc20 := NB840_837.out; have hcz21_0 : w17.cell? ⟨gb837, 0, none⟩ = some (.bool a0_0) := bc0 BK837.out; have hcz21_1 : w17.cell? ⟨gb837, 1, none⟩ = some (.slice A0_1 l0_1.length c0_1) := bc1 BK837.out; have hfz21_0 := blk_frozen BK837.out 0; have hfz21_1 := blk_frozen BK837.out 1; have hnb22 := NB838_839.out; have hnc22 := NB839_838.out; have hnb23 := NB838_840.out; have hnc23 := NB840_838.out; have hcz24_0 : w17.cell? ⟨gb838, 0, none⟩ = some (.bool a1_0) := bc0 BK838.out; have hcz24_1 : w17.cell? ⟨gb838, 1, none⟩ = some (.slice A1_1 l1_1.length c1_1) := bc1 BK838.out; have hfz24_0 := blk_frozen BK838.out 0; have hfz24_1 := blk_frozen BK838.out 1) | ((with_reducible refine gate_callee (f := 43) rfl ?_); refine goL (some 17) Tryd.func43 [.slice A0_1 l0_1.length c0_1, .slice A1_1 l1_1.length c1_1] ?_; (with_reducible refine (gudgeonref01_DivMod.calls k _ _ l0_1 _ _ l1_1 t841 t842 t843 _ ?side1 ?side2 ?side3 ?side4 A3.out).mono ?_); (case side1 => exact (Kd.C_below HR0_1.out HB.out)); (case side2 => exact HC0_1.out); (case side3 => exact (Kd.C_below HR1_1.out HB.out)); (case side4 => exact HC1_1.out); rintro e w25 ⟨v844, v846, rfl, ho0, ho1, hb⟩; refine ⟨_, rfl, ?_⟩; have HO845 := Aside0.mk (Kd.R_lower ho0 (below_size HB.out)); have HO847 := Aside0.mk (Kd.R_lower ho1 (below_size HB.out)); replace BK837 := Aside0.mk (blk_below BK837.out hb); replace BK838 := Aside0.mk (blk_below BK838.out hb); replace BK839 := Aside0.mk (blk_below BK839.out hb); replace BK840 := Aside0.mk (blk_below BK840.out hb); replace HB := Aside0.mk (below_step HB.out hb); (try clear ho1); have hcz26_0 : w25.cell? ⟨gb837, 0, none⟩ = some (.bool a0_0) := bc0 BK837.out; have hcz26_1 : w25.cell? ⟨gb837, 1, none⟩ = some (.slice A0_1 l0_1.length c0_1) := bc1 BK837.out; have hfz26_0 := blk_frozen BK837.out 0; have hfz26_1 := blk_frozen BK837.out 1; have hcz27_0 : w25.cell? ⟨gb838, 0, none⟩ = some (.bool a1_0) := bc0 BK838.out; have hcz27_1 : w25.cell? ⟨gb838, 1, none⟩ = some (.slice A1_1 l1_1.length c1_1) := bc1 BK838.out; have hfz27_0 := blk_frozen BK838.out 0; have hfz27_1 := blk_frozen BK838.out 1; obtain ⟨Ao28, co28, eo28⟩ := Kd.R_slice HO845.out; subst eo28) | ((with_reducible refine gate_callee (f := 17) rfl ?_); refine goL (some 33) Tryd.func17 [.agg #[.bool (a0_0 != a1_0), .slice Ao28 t841.length co28]] ?_; (with_reducible refine (gudgeonref02_Norm.calls k (a0_0 != a1_0) _ _ t841 t848 t849 _ ?side1 ?side2 A5.out).mono ?_); (case side1 => exact (Kd.R_reads' HO845.out).2.2); (case side2 => exact (Kd.R_reads' HO845.out).2.1); rintro e w29 ⟨v850, rfl, ho0, hb⟩; refine ⟨_, rfl, ?_⟩; have HO851 := Aside0.mk (Kd.R_lower (Kd.R_new' (Kd.R_new' ho0 (Kd.R_lt HO845.out)) (Kd.R_lt HO847.out)) (below_size HB.out)); replace HO845 := Aside0.mk (Kd.R_elder' HO845.out (Kd.R_base ho0) hb); replace HO847 := Aside0.mk (Kd.R_elder' HO847.out (Kd.R_base ho0) hb); replace BK837 := Aside0.mk (blk_below BK837.out hb); replace BK838 := Aside0.mk (blk_below BK838.out hb); replace BK839 := Aside0.mk (blk_below BK839.out hb); replace BK840 := Aside0.mk (blk_below BK840.out hb); replace HB := Aside0.mk (below_step HB.out hb)) | ((with_reducible refine gate_dst (N := 10) rfl ?_); refine box_event ?hg (N := 10) ?hd (cs := #[.bool false, .slice none 0 0]) (t := 24) ?hr ?_; (case hd => rfl); (case hg => rfl); (case hr => first | (go_simp; done) | (go_simp; rfl)); intro gb852 hg w30 hbox hb; replace HO845 := Aside0.mk (Kd.R_below HO845.out hb); replace HO847 := Aside0.mk (Kd.R_below HO847.out hb); replace HO851 := Aside0.mk (Kd.R_below HO851.out hb); have BK852 := Aside0.mk (hbox); have GW852 := Aside0.mk (bxLe HB.out hg); have GE852 := GW852; replace HB := Aside0.mk (below_step HB.out hb); have NB837_852 := Aside0.mk (neL BK837.out hg); have NB852_837 := Aside0.mk (neR BK837.out hg); replace BK837 := Aside0.mk (blk_below BK837.out hb); have NB838_852 := Aside0.mk (neL BK838.out hg); have NB852_838 := Aside0.mk (neR BK838.out hg); replace BK838 := Aside0.mk (blk_below BK838.out hb); have NB839_852 := Aside0.mk (neL BK839.out hg); have NB852_839 := Aside0.mk (neR BK839.out hg); replace BK839 := Aside0.mk (blk_below BK839.out hb); have NB840_852 := Aside0.mk (neL BK840.out hg); have NB852_840 := Aside0.mk (neR BK840.out hg); replace BK840 := Aside0.mk (blk_below BK840.out hb); clear hb hbox hg; have hnb31 := NB852_837.out; have hnc31 := NB837_852.out; have hnb32 := NB852_838.out; have hnc32 := NB838_852.out; have hnb33 := NB852_839.out; have hnc33 := NB839_852.out; have hnb34 := NB852_840.out; have hnc34 := NB840_852.out; have hcz35_0 : w30.cell? ⟨gb852, 0, none⟩ = some (.bool false) := bc0 BK852.out; have hcz35_1 : w30.cell? ⟨gb852, 1, none⟩ = some (.slice none 0 0) := bc1 BK852.out; have hfz35_0 := blk_frozen BK852.out 0; have hfz35_1 := blk_frozen BK852.out 1; obtain ⟨Ao36, co36, eo36⟩ := Kd.R_slice HO851.out; subst eo36))
   have n0_ : Aside0 (Kd.R (Kd.int .u32) 51 ((w30.setCell ⟨gb852, 0, none⟩ (.bool t848)).setCell ⟨gb852, 1, none⟩ (.slice Ao36 t849.length co36)) w.heap.size (fun k_ => some k_ ≠ (v846 : Value).ownBlock ∧ some k_ ≠ (.slice Ao36 t849.length co36 : Value).ownBlock) (.slice Ao28 t841.length co28) t841) := ⟨Kd.R_mono (Kd.R_far (p := ⟨gb852, 1, none⟩) (Kd.R_far (p := ⟨gb852, 0, none⟩) (Kd.R_types HO845.out BK852.out (by decide)) (fun _ hk => hk.2) (.bool t848)) (fun _ hk => hk.2) (.slice Ao36 t849.length co36)) (fun _ hk => ⟨hk.1.1, hk.1.2⟩)⟩
   have n1_ : Aside0 (Kd.R (Kd.int .u32) 51 ((w30.setCell ⟨gb852, 0, none⟩ (.bool t848)).setCell ⟨gb852, 1, none⟩ (.slice Ao36 t849.length co36)) w.heap.size (fun k_ => some k_ ≠ (.slice Ao28 t841.length co28 : Value).ownBlock ∧ some k_ ≠ (.slice Ao36 t849.length co36 : Value).ownBlock) v846 t842) := ⟨Kd.R_mono (Kd.R_far (p := ⟨gb852, 1, none⟩) (Kd.R_far (p := ⟨gb852, 0, none⟩) (Kd.R_types HO847.out BK852.out (by decide)) (fun _ hk => hk.2) (.bool t848)) (fun _ hk => hk.2) (.slice Ao36 t849.length co36)) (fun _ hk => ⟨hk.1.1, hk.1.2⟩)⟩
   have n2_ : Aside0 (Kd.R (Kd.int .u32) 51 ((w30.setCell ⟨gb852, 0, none⟩ (.bool t848)).setCell ⟨gb852, 1, none⟩ (.slice Ao36 t849.length co36)) w.heap.size (fun k_ => some k_ ≠ (.slice Ao28 t841.length co28 : Value).ownBlock ∧ some k_ ≠ (v846 : Value).ownBlock) (.slice Ao36 t849.length co36) t849) := ⟨Kd.R_mono (Kd.R_far (p := ⟨gb852, 1, none⟩) (Kd.R_far (p := ⟨gb852, 0, none⟩) (Kd.R_types HO851.out BK852.out (by decide)) (fun _ hk => hk.2) (.bool t848)) (fun _ hk => hk.2) (.slice Ao36 t849.length co36)) (fun _ hk => ⟨hk.1.1.2, hk.1.2⟩)⟩
   have n3_ : Aside0 (((w30.setCell ⟨gb852, 0, none⟩ (.bool t848)).setCell ⟨gb852, 1, none⟩ (.slice Ao36 t849.length co36)).heap[gb837]? = some (.cells #[.bool a0_0, .slice A0_1 l0_1.length c0_1] 24 (0, 0))) := ⟨by refine blk_far ?_ NB837_852.out _; refine blk_far ?_ NB837_852.out _; exact BK837.out⟩
   have n4_ : Aside0 (((w30.setCell ⟨gb852, 0, none⟩ (.bool t848)).setCell ⟨gb852, 1, none⟩ (.slice Ao36 t849.length co36)).heap[gb838]? = some (.cells #[.bool a1_0, .slice A1_1 l1_1.length c1_1] 24 (0, 0))) := ⟨by refine blk_far ?_ NB838_852.out _; refine blk_far ?_ NB838_852.out _; exact BK838.out⟩
   have n5_ : Aside0 (((w30.setCell ⟨gb852, 0, none⟩ (.bool t848)).setCell ⟨gb852, 1, none⟩ (.slice Ao36 t849.length co36)).heap[gb839]? = some (.cells #[.bool false, .slice none 0 0] 24 (0, 0))) := ⟨by refine blk_far ?_ NB839_852.out _; refine blk_far ?_ NB839_852.out _; exact BK839.out⟩
   have n6_ : Aside0 (((w30.setCell ⟨gb852, 0, none⟩ (.bool t848)).setCell ⟨gb852, 1, none⟩ (.slice Ao36 t849.length co36)).heap[gb840]? = some (.cells #[.bool false, .slice none 0 0] 24 (0, 0))) := ⟨by refine blk_far ?_ NB840_852.out _; refine blk_far ?_ NB840_852.out _; exact BK840.out⟩
   have n7_ : Aside0 (((w30.setCell ⟨gb852, 0, none⟩ (.bool t848)).setCell ⟨gb852, 1, none⟩ (.slice Ao36 t849.length co36)).heap[gb852]? = some (.cells #[.bool t848, .slice Ao36 t849.length co36] 24 (0, 0))) := ⟨by refine blk_put (cs := #[.bool t848, .slice none 0 0]) ?_ 1 _ rfl; refine blk_put (cs := #[.bool false, .slice none 0 0]) ?_ 0 _ rfl; exact BK852.out⟩
   have n8_ : Aside0 (Below w.heap.size w ((w30.setCell ⟨gb852, 0, none⟩ (.bool t848)).setCell ⟨gb852, 1, none⟩ (.slice Ao36 t849.length co36))) := ⟨by repeat first | exact HB.out | refine bxSet ?_ (by assumption) | apply below_alloc | apply pw_below_drewN⟩
   (try clear HO845)
   (try clear HO847)
   (try clear HO851)
   (try clear BK837)
   (try clear BK838)
   (try clear BK839)
   (try clear BK840)
   (try clear BK852)
   (try clear HB)
   generalize ((w30.setCell ⟨gb852, 0, none⟩ (.bool t848)).setCell ⟨gb852, 1, none⟩ (.slice Ao36 t849.length co36)) = w37 at n0_ n1_ n2_ n3_ n4_ n5_ n6_ n7_ n8_ ⊢
   have HO845 := n0_
   have HO847 := n1_
   have HO851 := n2_
   have BK837 := n3_
   have BK838 := n4_
   have BK839 := n5_
   have BK840 := n6_
   have BK852 := n7_
   have HB := n8_
   clear n0_ n1_ n2_ n3_ n4_ n5_ n6_ n7_ n8_
   replace HO845 := Aside0.mk (Kd.R_drew HO845.out)
   replace HO847 := Aside0.mk (Kd.R_drew HO847.out)
   replace HO851 := Aside0.mk (Kd.R_drew HO851.out)
   replace BK837 := Aside0.mk (blk_drew BK837.out)
   replace BK838 := Aside0.mk (blk_drew BK838.out)
   replace BK839 := Aside0.mk (blk_drew BK839.out)
   replace BK840 := Aside0.mk (blk_drew BK840.out)
   replace BK852 := Aside0.mk (blk_drew BK852.out)
   replace HB := Aside0.mk (below_drew1 HB.out)
   refine start_ (n := 7) (S := fun w' => w'.cell? ⟨gb837, 0, none⟩ = some (.bool a0_0) ∧ w'.cell? ⟨gb837, 1, none⟩ = some (.slice A0_1 l0_1.length c0_1) ∧ w'.cell? ⟨gb852, 0, none⟩ = some (.bool t848) ∧ w'.cell? ⟨gb852, 1, none⟩ = some (.slice Ao36 t849.length co36) ∧ w'.cell? ⟨gb838, 0, none⟩ = some (.bool a1_0) ∧ w'.cell? ⟨gb838, 1, none⟩ = some (.slice A1_1 l1_1.length c1_1)) (ds := []) #[false, false, false, false, false, false, false] (by kernel_rfl) rfl rfl ⟨bc0 BK837.out, bc1 BK837.out, bc0 BK852.out, bc1 BK852.out, bc0 BK838.out, bc1 BK838.out⟩ (fun hHeld => ?_)
   generalize w37.drew = w38 at HO845 HO847 HO851 BK837 BK838 BK839 BK840 BK852 HB hHeld ⊢
   refine take_ (i := 0) (N := some 34) (v := ?_) (a' := ?_) #[true, false, false, false, false, false, false] rfl rfl (by kernel_rfl) (fun _ _ _ h => h) (Or.inl ⟨by rfl, ?_⟩) hHeld ?_ ?_
   rotate_left
   ·rintro w' ⟨s0, s1, s2, s3, s4, s5⟩
    go_simp
    with_reducible rfl
   rotate_left
   ·simp only [Act.put, List.setIfInBounds_toArray, List.set_cons_zero, List.set_cons_succ, i64_w, i32_w]
    rfl
   refine take_ (i := 1) (N := some 35) (v := ?_) (a' := ?_) #[true, true, false, false, false, false, false] rfl rfl (by kernel_rfl) (fun _ _ _ h => h) (Or.inl ⟨by rfl, ?_⟩) hHeld ?_ ?_
   rotate_left
   ·rintro w' ⟨s0, s1, s2, s3, s4, s5⟩
    go_simp
    with_reducible rfl
   rotate_left
   ·simp only [Act.put, List.setIfInBounds_toArray, List.set_cons_zero, List.set_cons_succ, i64_w, i32_w]
    rfl
   refine take_ (i := 2) (N := some 36) (v := ?_) (a' := ?_) #[true, true, true, false, false, false, false] rfl rfl (by kernel_rfl) (fun _ _ _ h => h) (Or.inl ⟨by rfl, ?_⟩) hHeld ?_ ?_
   rotate_left
   ·rintro w' ⟨s0, s1, s2, s3, s4, s5⟩
    go_simp
    with_reducible rfl
   rotate_left
   ·simp only [Act.put, List.setIfInBounds_toArray, List.set_cons_zero, List.set_cons_succ, i64_w, i32_w]
    rfl
   refine join_ (σ := Value × Value × Nat) 1 #[true, true, true, true, true, true, false] (fun s_ => [(37, .agg #[.bool t853, s_.1]), (38, .agg #[.bool t857, s_.2.1]), (11, .pointer (some ⟨s_.2.2, 0, none⟩))]) (fun s_ w' => (w'.cell? ⟨gb837, 0, none⟩ = some (.bool a0_0) ∧ w'.cell? ⟨gb837, 1, none⟩ = some (.slice A0_1 l0_1.length c0_1) ∧ w'.cell? ⟨gb852, 0, none⟩ = some (.bool t848) ∧ w'.cell? ⟨gb852, 1, none⟩ = some (.slice Ao36 t849.length co36) ∧ w'.cell? ⟨gb838, 0, none⟩ = some (.bool a1_0) ∧ w'.cell? ⟨gb838, 1, none⟩ = some (.slice A1_1 l1_1.length c1_1)) ∧ (Kd.R (Kd.int .u32) 51 w' w.heap.size (fun k_ => some k_ ≠ (v846 : Value).ownBlock ∧ some k_ ≠ (.slice Ao36 t849.length co36 : Value).ownBlock ∧ some k_ ≠ (s_.1 : Value).ownBlock ∧ some k_ ≠ (s_.2.1 : Value).ownBlock) (.slice Ao28 t841.length co28) t841) ∧ (Kd.R (Kd.int .u32) 51 w' w.heap.size (fun k_ => some k_ ≠ (.slice Ao28 t841.length co28 : Value).ownBlock ∧ some k_ ≠ (.slice Ao36 t849.length co36 : Value).ownBlock ∧ some k_ ≠ (s_.1 : Value).ownBlock ∧ some k_ ≠ (s_.2.1 : Value).ownBlock) v846 t842) ∧ (Kd.R (Kd.int .u32) 51 w' w.heap.size (fun k_ => some k_ ≠ (.slice Ao28 t841.length co28 : Value).ownBlock ∧ some k_ ≠ (v846 : Value).ownBlock ∧ some k_ ≠ (s_.1 : Value).ownBlock ∧ some k_ ≠ (s_.2.1 : Value).ownBlock) (.slice Ao36 t849.length co36) t849) ∧ (Kd.R (Kd.int .u32) 51 w' w.heap.size (fun k_ => some k_ ≠ (.slice Ao28 t841.length co28 : Value).ownBlock ∧ some k_ ≠ (v846 : Value).ownBlock ∧ some k_ ≠ (.slice Ao36 t849.length co36 : Value).ownBlock ∧ some k_ ≠ (s_.2.1 : Value).ownBlock) s_.1 t854) ∧ (Kd.R (Kd.int .u32) 51 w' w.heap.size (fun k_ => some k_ ≠ (.slice Ao28 t841.length co28 : Value).ownBlock ∧ some k_ ≠ (v846 : Value).ownBlock ∧ some k_ ≠ (.slice Ao36 t849.length co36 : Value).ownBlock ∧ some k_ ≠ (s_.1 : Value).ownBlock) s_.2.1 t858) ∧ (w'.heap[gb837]? = some (.cells #[.bool a0_0, .slice A0_1 l0_1.length c0_1] 24 (0, 0))) ∧ (w'.heap[gb838]? = some (.cells #[.bool a1_0, .slice A1_1 l1_1.length c1_1] 24 (0, 0))) ∧ (w'.heap[gb839]? = some (.cells #[.bool false, .slice none 0 0] 24 (0, 0))) ∧ (w'.heap[gb840]? = some (.cells #[.bool false, .slice none 0 0] 24 (0, 0))) ∧ (w'.heap[gb852]? = some (.cells #[.bool t848, .slice Ao36 t849.length co36] 24 (0, 0))) ∧ (w'.heap[s_.2.2]? = some (.cells #[.bool false, .slice none 0 0] 24 (0, 0))) ∧ (w.heap.size ≤ s_.2.2) ∧ (w.heap.size ≤ s_.2.2) ∧ (gb837 ≠ s_.2.2) ∧ (s_.2.2 ≠ gb837) ∧ (gb838 ≠ s_.2.2) ∧ (s_.2.2 ≠ gb838) ∧ (gb839 ≠ s_.2.2) ∧ (s_.2.2 ≠ gb839) ∧ (gb840 ≠ s_.2.2) ∧ (s_.2.2 ≠ gb840) ∧ (gb852 ≠ s_.2.2) ∧ (s_.2.2 ≠ gb852) ∧ (Below w.heap.size w w')) ?_ ?_
   rotate_left
   ·intro hCont
    refine two_ (i := 3) (j := 5) (Ni := some 37) (Nj := some 11) #[true, true, true, true, false, false, false] #[true, true, true, false, false, true, false] rfl rfl rfl rfl (by kernel_rfl) (by decide) (by decide) (fun K hK => ?_) (fun K hK => ?_)
    ·skip
     refine goR Tryd.func25 [.agg #[.bool t848, .slice Ao36 t849.length co36], .agg #[.bool a1_0, .slice A1_1 l1_1.length c1_1]] ?_
     with_reducible refine (gudgeonref02_Mul.calls k t848 _ _ t849 a1_0 _ _ l1_1 t853 t854 _ ?side1 ?side2 ?side3 ?side4 A6.out).mono ?_
     (case side1 => exact (Kd.R_reads' HO851.out).2.2)
     (case side2 => exact (Kd.R_reads' HO851.out).2.1)
     (case side3 => exact (Kd.C_below HR1_1.out HB.out))
     (case side4 => exact HC1_1.out)
     rintro e w39 ⟨v855, rfl, ho0, hb⟩
     refine ⟨_, rfl, ?_⟩
     have HO856 := Aside0.mk (Kd.R_lower (Kd.R_new' (Kd.R_new' (Kd.R_new' ho0 (Kd.R_lt HO845.out)) (Kd.R_lt HO847.out)) (Kd.R_lt HO851.out)) (below_size HB.out))
     replace HO845 := Aside0.mk (Kd.R_elder' HO845.out (Kd.R_base ho0) hb)
     replace HO847 := Aside0.mk (Kd.R_elder' HO847.out (Kd.R_base ho0) hb)
     replace HO851 := Aside0.mk (Kd.R_elder' HO851.out (Kd.R_base ho0) hb)
     replace BK837 := Aside0.mk (blk_below BK837.out hb)
     replace BK838 := Aside0.mk (blk_below BK838.out hb)
     replace BK839 := Aside0.mk (blk_below BK839.out hb)
     replace BK840 := Aside0.mk (blk_below BK840.out hb)
     replace BK852 := Aside0.mk (blk_below BK852.out hb)
     replace HB := Aside0.mk (below_step HB.out hb)
     (try clear hb)
     (try clear hb2)
     (try clear hk)
     (try clear hi)
     (try clear ho0)
     obtain ⟨Ao40, co40, eo40⟩ := Kd.R_slice HO856.out
     subst eo40
     refine hK.out _ _ ⟨bc0 BK837.out, bc1 BK837.out, bc0 BK852.out, bc1 BK852.out, bc0 BK838.out, bc1 BK838.out⟩ (fun hHeld => ?_)
     clear hK K
     refine norm_ (a' := ?_) ?_ ?_
     rotate_left
     ·show Act.put _ (some 37) _ = _
      simp only [Act.put, List.setIfInBounds_toArray, List.set_cons_zero, List.set_cons_succ, i64_w, i32_w]
      rfl
     refine two_ (i := 4) (j := 5) (Ni := some 38) (Nj := some 11) #[true, true, true, true, true, false, false] #[true, true, true, true, false, true, false] rfl rfl rfl rfl (by kernel_rfl) (by decide) (by decide) (fun K hK => ?_) (fun K hK => ?_)
     ·skip
      refine goR Tryd.func23 [.agg #[.bool a0_0, .slice A0_1 l0_1.length c0_1], .agg #[.bool t853, .slice Ao40 t854.length co40]] ?_
      with_reducible refine (gudgeonref02_Sub.calls k a0_0 _ _ l0_1 t853 _ _ t854 t857 t858 _ ?side1 ?side2 ?side3 ?side4 A7.out).mono ?_
      (case side1 => exact (Kd.C_below HR0_1.out HB.out))
      (case side2 => exact HC0_1.out)
      (case side3 => exact (Kd.R_reads' HO856.out).2.2)
      (case side4 => exact (Kd.R_reads' HO856.out).2.1)
      rintro e w41 ⟨v859, rfl, ho0, hb⟩
      refine ⟨_, rfl, ?_⟩
      have HO860 := Aside0.mk (Kd.R_lower (Kd.R_new' (Kd.R_new' (Kd.R_new' (Kd.R_new' ho0 (Kd.R_lt HO845.out)) (Kd.R_lt HO847.out)) (Kd.R_lt HO851.out)) (Kd.R_lt HO856.out)) (below_size HB.out))
      replace HO845 := Aside0.mk (Kd.R_elder' HO845.out (Kd.R_base ho0) hb)
      replace HO847 := Aside0.mk (Kd.R_elder' HO847.out (Kd.R_base ho0) hb)
      replace HO851 := Aside0.mk (Kd.R_elder' HO851.out (Kd.R_base ho0) hb)
      replace HO856 := Aside0.mk (Kd.R_elder' HO856.out (Kd.R_base ho0) hb)
      replace BK837 := Aside0.mk (blk_below BK837.out hb)
      replace BK838 := Aside0.mk (blk_below BK838.out hb)
      replace BK839 := Aside0.mk (blk_below BK839.out hb)
      replace BK840 := Aside0.mk (blk_below BK840.out hb)
      replace BK852 := Aside0.mk (blk_below BK852.out hb)
      replace HB := Aside0.mk (below_step HB.out hb)
      (try clear hb)
      (try clear hb2)
      (try clear hk)
      (try clear hi)
      (try clear ho0)
      refine hK.out _ _ ⟨bc0 BK837.out, bc1 BK837.out, bc0 BK852.out, bc1 BK852.out, bc0 BK838.out, bc1 BK838.out⟩ (fun hHeld => ?_)
      clear hK K
      refine norm_ (a' := ?_) ?_ ?_
      rotate_left
      ·show Act.put _ (some 38) _ = _
       simp only [Act.put, List.setIfInBounds_toArray, List.set_cons_zero, List.set_cons_succ, i64_w, i32_w]
       rfl
      refine one_ (i := 5) (N := some 11) #[true, true, true, true, true, true, false] rfl rfl (by kernel_rfl) (by decide) (fun K hK => ?_)
      refine box_step ?hg (N := 11) ?hd (cs := #[.bool false, .slice none 0 0]) (t := 24) ?hr ?_; (case hd => rfl); (case hg => rfl); (case hr => first | (go_simp; done) | (go_simp; rfl))
      intro gb861 hg w42 hbox hb
      replace HO845 := Aside0.mk (Kd.R_below HO845.out hb)
      replace HO847 := Aside0.mk (Kd.R_below HO847.out hb)
      replace HO851 := Aside0.mk (Kd.R_below HO851.out hb)
      replace HO856 := Aside0.mk (Kd.R_below HO856.out hb)
      replace HO860 := Aside0.mk (Kd.R_below HO860.out hb)
      have BK861 := Aside0.mk (hbox)
      have GW861 := Aside0.mk (bxLe HB.out hg)
      have GE861 := GW861
      replace HB := Aside0.mk (below_step HB.out hb)
      have NB837_861 := Aside0.mk (neL BK837.out hg)
      have NB861_837 := Aside0.mk (neR BK837.out hg)
      replace BK837 := Aside0.mk (blk_below BK837.out hb)
      have NB838_861 := Aside0.mk (neL BK838.out hg)
      have NB861_838 := Aside0.mk (neR BK838.out hg)
      replace BK838 := Aside0.mk (blk_below BK838.out hb)
      have NB839_861 := Aside0.mk (neL BK839.out hg)
      have NB861_839 := Aside0.mk (neR BK839.out hg)
      replace BK839 := Aside0.mk (blk_below BK839.out hb)
      have NB840_861 := Aside0.mk (neL BK840.out hg)
      have NB861_840 := Aside0.mk (neR BK840.out hg)
      replace BK840 := Aside0.mk (blk_below BK840.out hb)
      have NB852_861 := Aside0.mk (neL BK852.out hg)
      have NB861_852 := Aside0.mk (neR BK852.out hg)
      replace BK852 := Aside0.mk (blk_below BK852.out hb)
      clear hb hbox hg
      refine hK.out _ _ ⟨bc0 BK837.out, bc1 BK837.out, bc0 BK852.out, bc1 BK852.out, bc0 BK838.out, bc1 BK838.out⟩ (fun hHeld => ?_)
      clear hK K
      refine norm_ (a' := ?_) ?_ ?_
      rotate_left
      ·show Act.put _ (some 11) _ = _
       simp only [Act.put, List.setIfInBounds_toArray, List.set_cons_zero, List.set_cons_succ, i64_w, i32_w]
       rfl
      exact norm_ (by simp only [putAll, Act.put, List.setIfInBounds_toArray, List.set_cons_zero, List.set_cons_succ]) (hCont (.slice Ao40 t854.length co40, v859, gb861) _ ⟨hHeld, (Kd.R_mono HO845.out (fun _ hk => ⟨hk.1.1.1, ⟨hk.1.1.2, ⟨hk.1.2, hk.2⟩⟩⟩)), (Kd.R_mono HO847.out (fun _ hk => ⟨hk.1.1.1, ⟨hk.1.1.2, ⟨hk.1.2, hk.2⟩⟩⟩)), (Kd.R_mono HO851.out (fun _ hk => ⟨hk.1.1.1, ⟨hk.1.1.2, ⟨hk.1.2, hk.2⟩⟩⟩)), (Kd.R_mono HO856.out (fun _ hk => ⟨hk.1.1.1.2, ⟨hk.1.1.2, ⟨hk.1.2, hk.2⟩⟩⟩)), (Kd.R_mono HO860.out (fun _ hk => ⟨hk.1.1.1.2, ⟨hk.1.1.2, ⟨hk.1.2, hk.2⟩⟩⟩)), BK837.out, BK838.out, BK839.out, BK840.out, BK852.out, BK861.out, GW861.out, GE861.out, NB837_861.out, NB861_837.out, NB838_861.out, NB861_838.out, NB839_861.out, NB861_839.out, NB840_861.out, NB861_840.out, NB852_861.out, NB861_852.out, HB.out⟩)
     ·skip
      refine box_step ?hg (N := 11) ?hd (cs := #[.bool false, .slice none 0 0]) (t := 24) ?hr ?_; (case hd => rfl); (case hg => rfl); (case hr => first | (go_simp; done) | (go_simp; rfl))
      intro gb861 hg w40 hbox hb
      replace HO845 := Aside0.mk (Kd.R_below HO845.out hb)
      replace HO847 := Aside0.mk (Kd.R_below HO847.out hb)
      replace HO851 := Aside0.mk (Kd.R_below HO851.out hb)
      replace HO856 := Aside0.mk (Kd.R_below HO856.out hb)
      have BK861 := Aside0.mk (hbox)
      have GW861 := Aside0.mk (bxLe HB.out hg)
      have GE861 := GW861
      replace HB := Aside0.mk (below_step HB.out hb)
      have NB837_861 := Aside0.mk (neL BK837.out hg)
      have NB861_837 := Aside0.mk (neR BK837.out hg)
      replace BK837 := Aside0.mk (blk_below BK837.out hb)
      have NB838_861 := Aside0.mk (neL BK838.out hg)
      have NB861_838 := Aside0.mk (neR BK838.out hg)
      replace BK838 := Aside0.mk (blk_below BK838.out hb)
      have NB839_861 := Aside0.mk (neL BK839.out hg)
      have NB861_839 := Aside0.mk (neR BK839.out hg)
      replace BK839 := Aside0.mk (blk_below BK839.out hb)
      have NB840_861 := Aside0.mk (neL BK840.out hg)
      have NB861_840 := Aside0.mk (neR BK840.out hg)
      replace BK840 := Aside0.mk (blk_below BK840.out hb)
      have NB852_861 := Aside0.mk (neL BK852.out hg)
      have NB861_852 := Aside0.mk (neR BK852.out hg)
      replace BK852 := Aside0.mk (blk_below BK852.out hb)
      clear hb hbox hg
      obtain ⟨Ao41, co41, eo41⟩ := Kd.R_slice HO856.out
      (first | subst eo41 | (injection eo41 with f1_ f2_ f3_; have f4_ := f1_.symm; have f5_ := f3_.symm; clear f1_ f2_ f3_; subst f4_; subst f5_))
      refine hK.out _ _ ⟨bc0 BK837.out, bc1 BK837.out, bc0 BK852.out, bc1 BK852.out, bc0 BK838.out, bc1 BK838.out⟩ (fun hHeld => ?_)
      clear hK K
      refine norm_ (a' := ?_) ?_ ?_
      rotate_left
      ·show Act.put _ (some 11) _ = _
       simp only [Act.put, List.setIfInBounds_toArray, List.set_cons_zero, List.set_cons_succ, i64_w, i32_w]
       rfl
      refine one_ (i := 4) (N := some 38) #[true, true, true, true, true, true, false] rfl rfl (by kernel_rfl) (by decide) (fun K hK => ?_)
      refine goR Tryd.func23 [.agg #[.bool a0_0, .slice A0_1 l0_1.length c0_1], .agg #[.bool t853, .slice Ao41 t854.length co41]] ?_
      with_reducible refine (gudgeonref02_Sub.calls k a0_0 _ _ l0_1 t853 _ _ t854 t857 t858 _ ?side1 ?side2 ?side3 ?side4 A7.out).mono ?_
      (case side1 => exact (Kd.C_below HR0_1.out HB.out))
      (case side2 => exact HC0_1.out)
      (case side3 => exact (Kd.R_reads' HO856.out).2.2)
      (case side4 => exact (Kd.R_reads' HO856.out).2.1)
      rintro e w42 ⟨v859, rfl, ho0, hb⟩
      refine ⟨_, rfl, ?_⟩
      have HO860 := Aside0.mk (Kd.R_lower (Kd.R_new' (Kd.R_new' (Kd.R_new' (Kd.R_new' ho0 (Kd.R_lt HO845.out)) (Kd.R_lt HO847.out)) (Kd.R_lt HO851.out)) (Kd.R_lt HO856.out)) (below_size HB.out))
      replace HO845 := Aside0.mk (Kd.R_elder' HO845.out (Kd.R_base ho0) hb)
      replace HO847 := Aside0.mk (Kd.R_elder' HO847.out (Kd.R_base ho0) hb)
      replace HO851 := Aside0.mk (Kd.R_elder' HO851.out (Kd.R_base ho0) hb)
      replace HO856 := Aside0.mk (Kd.R_elder' HO856.out (Kd.R_base ho0) hb)
      replace BK837 := Aside0.mk (blk_below BK837.out hb)
      replace BK838 := Aside0.mk (blk_below BK838.out hb)
      replace BK839 := Aside0.mk (blk_below BK839.out hb)
      replace BK840 := Aside0.mk (blk_below BK840.out hb)
      replace BK852 := Aside0.mk (blk_below BK852.out hb)
      replace BK861 := Aside0.mk (blk_below BK861.out hb)
      replace HB := Aside0.mk (below_step HB.out hb)
      (try clear hb)
      (try clear hb2)
      (try clear hk)
      (try clear hi)
      (try clear ho0)
      refine hK.out _ _ ⟨bc0 BK837.out, bc1 BK837.out, bc0 BK852.out, bc1 BK852.out, bc0 BK838.out, bc1 BK838.out⟩ (fun hHeld => ?_)
      clear hK K
      refine norm_ (a' := ?_) ?_ ?_
      rotate_left
      ·show Act.put _ (some 38) _ = _
       simp only [Act.put, List.setIfInBounds_toArray, List.set_cons_zero, List.set_cons_succ, i64_w, i32_w]
       rfl
      exact norm_ (by simp only [putAll, Act.put, List.setIfInBounds_toArray, List.set_cons_zero, List.set_cons_succ]) (hCont (.slice Ao41 t854.length co41, v859, gb861) _ ⟨hHeld, (Kd.R_mono HO845.out (fun _ hk => ⟨hk.1.1.1, ⟨hk.1.1.2, ⟨hk.1.2, hk.2⟩⟩⟩)), (Kd.R_mono HO847.out (fun _ hk => ⟨hk.1.1.1, ⟨hk.1.1.2, ⟨hk.1.2, hk.2⟩⟩⟩)), (Kd.R_mono HO851.out (fun _ hk => ⟨hk.1.1.1, ⟨hk.1.1.2, ⟨hk.1.2, hk.2⟩⟩⟩)), (Kd.R_mono HO856.out (fun _ hk => ⟨hk.1.1.1.2, ⟨hk.1.1.2, ⟨hk.1.2, hk.2⟩⟩⟩)), (Kd.R_mono HO860.out (fun _ hk => ⟨hk.1.1.1.2, ⟨hk.1.1.2, ⟨hk.1.2, hk.2⟩⟩⟩)), BK837.out, BK838.out, BK839.out, BK840.out, BK852.out, BK861.out, GW861.out, GE861.out, NB837_861.out, NB861_837.out, NB838_861.out, NB861_838.out, NB839_861.out, NB861_839.out, NB840_861.out, NB861_840.out, NB852_861.out, NB861_852.out, HB.out⟩)
    ·skip
     refine box_step ?hg (N := 11) ?hd (cs := #[.bool false, .slice none 0 0]) (t := 24) ?hr ?_; (case hd => rfl); (case hg => rfl); (case hr => first | (go_simp; done) | (go_simp; rfl))
     intro gb861 hg w39 hbox hb
     replace HO845 := Aside0.mk (Kd.R_below HO845.out hb)
     replace HO847 := Aside0.mk (Kd.R_below HO847.out hb)
     replace HO851 := Aside0.mk (Kd.R_below HO851.out hb)
     have BK861 := Aside0.mk (hbox)
     have GW861 := Aside0.mk (bxLe HB.out hg)
     have GE861 := GW861
     replace HB := Aside0.mk (below_step HB.out hb)
     have NB837_861 := Aside0.mk (neL BK837.out hg)
     have NB861_837 := Aside0.mk (neR BK837.out hg)
     replace BK837 := Aside0.mk (blk_below BK837.out hb)
     have NB838_861 := Aside0.mk (neL BK838.out hg)
     have NB861_838 := Aside0.mk (neR BK838.out hg)
     replace BK838 := Aside0.mk (blk_below BK838.out hb)
     have NB839_861 := Aside0.mk (neL BK839.out hg)
     have NB861_839 := Aside0.mk (neR BK839.out hg)
     replace BK839 := Aside0.mk (blk_below BK839.out hb)
     have NB840_861 := Aside0.mk (neL BK840.out hg)
     have NB861_840 := Aside0.mk (neR BK840.out hg)
     replace BK840 := Aside0.mk (blk_below BK840.out hb)
     have NB852_861 := Aside0.mk (neL BK852.out hg)
     have NB861_852 := Aside0.mk (neR BK852.out hg)
     replace BK852 := Aside0.mk (blk_below BK852.out hb)
     clear hb hbox hg
     refine hK.out _ _ ⟨bc0 BK837.out, bc1 BK837.out, bc0 BK852.out, bc1 BK852.out, bc0 BK838.out, bc1 BK838.out⟩ (fun hHeld => ?_)
     clear hK K
     refine norm_ (a' := ?_) ?_ ?_
     rotate_left
     ·show Act.put _ (some 11) _ = _
      simp only [Act.put, List.setIfInBounds_toArray, List.set_cons_zero, List.set_cons_succ, i64_w, i32_w]
      rfl
     refine one_ (i := 3) (N := some 37) #[true, true, true, true, false, true, false] rfl rfl (by kernel_rfl) (by decide) (fun K hK => ?_)
     refine goR Tryd.func25 [.agg #[.bool t848, .slice Ao36 t849.length co36], .agg #[.bool a1_0, .slice A1_1 l1_1.length c1_1]] ?_
     with_reducible refine (gudgeonref02_Mul.calls k t848 _ _ t849 a1_0 _ _ l1_1 t853 t854 _ ?side1 ?side2 ?side3 ?side4 A6.out).mono ?_
     (case side1 => exact (Kd.R_reads' HO851.out).2.2)
     (case side2 => exact (Kd.R_reads' HO851.out).2.1)
     (case side3 => exact (Kd.C_below HR1_1.out HB.out))
     (case side4 => exact HC1_1.out)
     rintro e w40 ⟨v855, rfl, ho0, hb⟩
     refine ⟨_, rfl, ?_⟩
     have HO856 := Aside0.mk (Kd.R_lower (Kd.R_new' (Kd.R_new' (Kd.R_new' ho0 (Kd.R_lt HO845.out)) (Kd.R_lt HO847.out)) (Kd.R_lt HO851.out)) (below_size HB.out))
     replace HO845 := Aside0.mk (Kd.R_elder' HO845.out (Kd.R_base ho0) hb)
     replace HO847 := Aside0.mk (Kd.R_elder' HO847.out (Kd.R_base ho0) hb)
     replace HO851 := Aside0.mk (Kd.R_elder' HO851.out (Kd.R_base ho0) hb)
     replace BK837 := Aside0.mk (blk_below BK837.out hb)
     replace BK838 := Aside0.mk (blk_below BK838.out hb)
     replace BK839 := Aside0.mk (blk_below BK839.out hb)
     replace BK840 := Aside0.mk (blk_below BK840.out hb)
     replace BK852 := Aside0.mk (blk_below BK852.out hb)
     replace BK861 := Aside0.mk (blk_below BK861.out hb)
     replace HB := Aside0.mk (below_step HB.out hb)
     (try clear hb)
     (try clear hb2)
     (try clear hk)
     (try clear hi)
     (try clear ho0)
     obtain ⟨Ao41, co41, eo41⟩ := Kd.R_slice HO856.out
     subst eo41
     refine hK.out _ _ ⟨bc0 BK837.out, bc1 BK837.out, bc0 BK852.out, bc1 BK852.out, bc0 BK838.out, bc1 BK838.out⟩ (fun hHeld => ?_)
     clear hK K
     refine norm_ (a' := ?_) ?_ ?_
     rotate_left
     ·show Act.put _ (some 37) _ = _
      simp only [Act.put, List.setIfInBounds_toArray, List.set_cons_zero, List.set_cons_succ, i64_w, i32_w]
      rfl
     refine one_ (i := 4) (N := some 38) #[true, true, true, true, true, true, false] rfl rfl (by kernel_rfl) (by decide) (fun K hK => ?_)
     refine goR Tryd.func23 [.agg #[.bool a0_0, .slice A0_1 l0_1.length c0_1], .agg #[.bool t853, .slice Ao41 t854.length co41]] ?_
     with_reducible refine (gudgeonref02_Sub.calls k a0_0 _ _ l0_1 t853 _ _ t854 t857 t858 _ ?side1 ?side2 ?side3 ?side4 A7.out).mono ?_
     (case side1 => exact (Kd.C_below HR0_1.out HB.out))
     (case side2 => exact HC0_1.out)
     (case side3 => exact (Kd.R_reads' HO856.out).2.2)
     (case side4 => exact (Kd.R_reads' HO856.out).2.1)
     rintro e w42 ⟨v859, rfl, ho0, hb⟩
     refine ⟨_, rfl, ?_⟩
     have HO860 := Aside0.mk (Kd.R_lower (Kd.R_new' (Kd.R_new' (Kd.R_new' (Kd.R_new' ho0 (Kd.R_lt HO845.out)) (Kd.R_lt HO847.out)) (Kd.R_lt HO851.out)) (Kd.R_lt HO856.out)) (below_size HB.out))
     replace HO845 := Aside0.mk (Kd.R_elder' HO845.out (Kd.R_base ho0) hb)
     replace HO847 := Aside0.mk (Kd.R_elder' HO847.out (Kd.R_base ho0) hb)
     replace HO851 := Aside0.mk (Kd.R_elder' HO851.out (Kd.R_base ho0) hb)
     replace HO856 := Aside0.mk (Kd.R_elder' HO856.out (Kd.R_base ho0) hb)
     replace BK837 := Aside0.mk (blk_below BK837.out hb)
     replace BK838 := Aside0.mk (blk_below BK838.out hb)
     replace BK839 := Aside0.mk (blk_below BK839.out hb)
     replace BK840 := Aside0.mk (blk_below BK840.out hb)
     replace BK852 := Aside0.mk (blk_below BK852.out hb)
     replace BK861 := Aside0.mk (blk_below BK861.out hb)
     replace HB := Aside0.mk (below_step HB.out hb)
     (try clear hb)
     (try clear hb2)
     (try clear hk)
     (try clear hi)
     (try clear ho0)
     refine hK.out _ _ ⟨bc0 BK837.out, bc1 BK837.out, bc0 BK852.out, bc1 BK852.out, bc0 BK838.out, bc1 BK838.out⟩ (fun hHeld => ?_)
     clear hK K
     refine norm_ (a' := ?_) ?_ ?_
     rotate_left
     ·show Act.put _ (some 38) _ = _
      simp only [Act.put, List.setIfInBounds_toArray, List.set_cons_zero, List.set_cons_succ, i64_w, i32_w]
      rfl
     exact norm_ (by simp only [putAll, Act.put, List.setIfInBounds_toArray, List.set_cons_zero, List.set_cons_succ]) (hCont (.slice Ao41 t854.length co41, v859, gb861) _ ⟨hHeld, (Kd.R_mono HO845.out (fun _ hk => ⟨hk.1.1.1, ⟨hk.1.1.2, ⟨hk.1.2, hk.2⟩⟩⟩)), (Kd.R_mono HO847.out (fun _ hk => ⟨hk.1.1.1, ⟨hk.1.1.2, ⟨hk.1.2, hk.2⟩⟩⟩)), (Kd.R_mono HO851.out (fun _ hk => ⟨hk.1.1.1, ⟨hk.1.1.2, ⟨hk.1.2, hk.2⟩⟩⟩)), (Kd.R_mono HO856.out (fun _ hk => ⟨hk.1.1.1.2, ⟨hk.1.1.2, ⟨hk.1.2, hk.2⟩⟩⟩)), (Kd.R_mono HO860.out (fun _ hk => ⟨hk.1.1.1.2, ⟨hk.1.1.2, ⟨hk.1.2, hk.2⟩⟩⟩)), BK837.out, BK838.out, BK839.out, BK840.out, BK852.out, BK861.out, GW861.out, GE861.out, NB837_861.out, NB861_837.out, NB838_861.out, NB861_838.out, NB839_861.out, NB861_839.out, NB840_861.out, NB861_840.out, NB852_861.out, NB861_852.out, HB.out⟩)
   rintro ⟨v855, v859, gb861⟩ w43 ⟨hS_, h0_, h1_, h2_, h3_, h4_, h5_, h6_, h7_, h8_, h9_, h10_, h11_, h12_, h13_, h14_, h15_, h16_, h17_, h18_, h19_, h20_, h21_, h22_, h23_⟩
   have n0_ : Aside0 (Kd.R (Kd.int .u32) 51 w43 w.heap.size (fun k_ => some k_ ≠ (v846 : Value).ownBlock ∧ some k_ ≠ (.slice Ao36 t849.length co36 : Value).ownBlock ∧ some k_ ≠ (v855 : Value).ownBlock ∧ some k_ ≠ (v859 : Value).ownBlock) (.slice Ao28 t841.length co28) t841) := ⟨h0_⟩
   have n1_ : Aside0 (Kd.R (Kd.int .u32) 51 w43 w.heap.size (fun k_ => some k_ ≠ (.slice Ao28 t841.length co28 : Value).ownBlock ∧ some k_ ≠ (.slice Ao36 t849.length co36 : Value).ownBlock ∧ some k_ ≠ (v855 : Value).ownBlock ∧ some k_ ≠ (v859 : Value).ownBlock) v846 t842) := ⟨h1_⟩
   have n2_ : Aside0 (Kd.R (Kd.int .u32) 51 w43 w.heap.size (fun k_ => some k_ ≠ (.slice Ao28 t841.length co28 : Value).ownBlock ∧ some k_ ≠ (v846 : Value).ownBlock ∧ some k_ ≠ (v855 : Value).ownBlock ∧ some k_ ≠ (v859 : Value).ownBlock) (.slice Ao36 t849.length co36) t849) := ⟨h2_⟩
   have n3_ : Aside0 (Kd.R (Kd.int .u32) 51 w43 w.heap.size (fun k_ => some k_ ≠ (.slice Ao28 t841.length co28 : Value).ownBlock ∧ some k_ ≠ (v846 : Value).ownBlock ∧ some k_ ≠ (.slice Ao36 t849.length co36 : Value).ownBlock ∧ some k_ ≠ (v859 : Value).ownBlock) v855 t854) := ⟨h3_⟩
   have n4_ : Aside0 (Kd.R (Kd.int .u32) 51 w43 w.heap.size (fun k_ => some k_ ≠ (.slice Ao28 t841.length co28 : Value).ownBlock ∧ some k_ ≠ (v846 : Value).ownBlock ∧ some k_ ≠ (.slice Ao36 t849.length co36 : Value).ownBlock ∧ some k_ ≠ (v855 : Value).ownBlock) v859 t858) := ⟨h4_⟩
   have n5_ : Aside0 (w43.heap[gb837]? = some (.cells #[.bool a0_0, .slice A0_1 l0_1.length c0_1] 24 (0, 0))) := ⟨h5_⟩
   have n6_ : Aside0 (w43.heap[gb838]? = some (.cells #[.bool a1_0, .slice A1_1 l1_1.length c1_1] 24 (0, 0))) := ⟨h6_⟩
   have n7_ : Aside0 (w43.heap[gb839]? = some (.cells #[.bool false, .slice none 0 0] 24 (0, 0))) := ⟨h7_⟩
   have n8_ : Aside0 (w43.heap[gb840]? = some (.cells #[.bool false, .slice none 0 0] 24 (0, 0))) := ⟨h8_⟩
   have n9_ : Aside0 (w43.heap[gb852]? = some (.cells #[.bool t848, .slice Ao36 t849.length co36] 24 (0, 0))) := ⟨h9_⟩
   have n10_ : Aside0 (w43.heap[gb861]? = some (.cells #[.bool false, .slice none 0 0] 24 (0, 0))) := ⟨h10_⟩
   have n11_ : Aside0 (w.heap.size ≤ gb861) := ⟨h11_⟩
   have n12_ : Aside0 (w.heap.size ≤ gb861) := ⟨h12_⟩
   have n13_ : Aside0 (gb837 ≠ gb861) := ⟨h13_⟩
   have n14_ : Aside0 (gb861 ≠ gb837) := ⟨h14_⟩
   have n15_ : Aside0 (gb838 ≠ gb861) := ⟨h15_⟩
   have n16_ : Aside0 (gb861 ≠ gb838) := ⟨h16_⟩
   have n17_ : Aside0 (gb839 ≠ gb861) := ⟨h17_⟩
   have n18_ : Aside0 (gb861 ≠ gb839) := ⟨h18_⟩
   have n19_ : Aside0 (gb840 ≠ gb861) := ⟨h19_⟩
   have n20_ : Aside0 (gb861 ≠ gb840) := ⟨h20_⟩
   have n21_ : Aside0 (gb852 ≠ gb861) := ⟨h21_⟩
   have n22_ : Aside0 (gb861 ≠ gb852) := ⟨h22_⟩
   have n23_ : Aside0 (Below w.heap.size w w43) := ⟨h23_⟩
   clear HO845
   clear HO847
   clear HO851
   clear BK837
   clear BK838
   clear BK839
   clear BK840
   clear BK852
   clear HB
   clear h0_ h1_ h2_ h3_ h4_ h5_ h6_ h7_ h8_ h9_ h10_ h11_ h12_ h13_ h14_ h15_ h16_ h17_ h18_ h19_ h20_ h21_ h22_ h23_
   have HO845 := n0_
   have HO847 := n1_
   have HO851 := n2_
   have HO856 := n3_
   have HO860 := n4_
   have BK837 := n5_
   have BK838 := n6_
   have BK839 := n7_
   have BK840 := n8_
   have BK852 := n9_
   have BK861 := n10_
   have GW861 := n11_
   have GE861 := n12_
   have NB837_861 := n13_
   have NB861_837 := n14_
   have NB838_861 := n15_
   have NB861_838 := n16_
   have NB839_861 := n17_
   have NB861_839 := n18_
   have NB840_861 := n19_
   have NB861_840 := n20_
   have NB852_861 := n21_
   have NB861_852 := n22_
   have HB := n23_
   clear n0_ n1_ n2_ n3_ n4_ n5_ n6_ n7_ n8_ n9_ n10_ n11_ n12_ n13_ n14_ n15_ n16_ n17_ n18_ n19_ n20_ n21_ n22_ n23_
   have hHeld : w43.cell? ⟨gb837, 0, none⟩ = some (.bool a0_0) ∧ w43.cell? ⟨gb837, 1, none⟩ = some (.slice A0_1 l0_1.length c0_1) ∧ w43.cell? ⟨gb852, 0, none⟩ = some (.bool t848) ∧ w43.cell? ⟨gb852, 1, none⟩ = some (.slice Ao36 t849.length co36) ∧ w43.cell? ⟨gb838, 0, none⟩ = some (.bool a1_0) ∧ w43.cell? ⟨gb838, 1, none⟩ = some (.slice A1_1 l1_1.length c1_1) := hS_
   obtain ⟨Ao45, co45, eo45⟩ := Kd.R_slice HO860.out
   subst eo45
   refine norm_ (a' := ?_) ?_ ?_
   rotate_left
   ·simp only [putAll, Act.put, List.setIfInBounds_toArray, List.set_cons_zero, List.set_cons_succ]
    rfl
   refine one_ (i := 6) (N := none) #[true, true, true, true, true, true, true] rfl rfl (by kernel_rfl) (by decide) (fun K hK => ?_)
   have hs44 : w43.cell? ⟨gb861, 0, none⟩ = some (.bool false) := bc0 BK861.out
   have hfs44 := blk_frozen BK861.out 0
   have hns44_0 := NB837_861.out
   have hns44_1 := NB838_861.out
   have hns44_2 := NB839_861.out
   have hns44_3 := NB840_861.out
   have hns44_4 := NB852_861.out
   have hms44_0 := NB861_837.out
   have hms44_1 := NB861_838.out
   have hms44_2 := NB861_839.out
   have hms44_3 := NB861_840.out
   have hms44_4 := NB861_852.out
   have hs46 : w43.cell? ⟨gb861, 1, none⟩ = some (.slice none 0 0) := bc1 BK861.out
   have hfs46 := blk_frozen BK861.out 1
   have hns46_0 := NB837_861.out
   have hns46_1 := NB838_861.out
   have hns46_2 := NB839_861.out
   have hns46_3 := NB840_861.out
   have hns46_4 := NB852_861.out
   have hms46_0 := NB861_837.out
   have hms46_1 := NB861_838.out
   have hms46_2 := NB861_839.out
   have hms46_3 := NB861_840.out
   have hms46_4 := NB861_852.out
   refine skip_ (w1 := ?_) (by rfl) rfl ?_ ?_
   rotate_left
   ·go_simp
    rfl
   refine hK.out _ _ ⟨((cell_far (p := ⟨gb861, _, none⟩) NB837_861.out _).trans (((cell_far (p := ⟨gb861, _, none⟩) NB837_861.out _).trans (hHeld.1)))), ((cell_far (p := ⟨gb861, _, none⟩) NB837_861.out _).trans (((cell_far (p := ⟨gb861, _, none⟩) NB837_861.out _).trans (hHeld.2.1)))), ((cell_far (p := ⟨gb861, _, none⟩) NB852_861.out _).trans (((cell_far (p := ⟨gb861, _, none⟩) NB852_861.out _).trans (hHeld.2.2.1)))), ((cell_far (p := ⟨gb861, _, none⟩) NB852_861.out _).trans (((cell_far (p := ⟨gb861, _, none⟩) NB852_861.out _).trans (hHeld.2.2.2.1)))), ((cell_far (p := ⟨gb861, _, none⟩) NB838_861.out _).trans (((cell_far (p := ⟨gb861, _, none⟩) NB838_861.out _).trans (hHeld.2.2.2.2.1)))), ((cell_far (p := ⟨gb861, _, none⟩) NB838_861.out _).trans (((cell_far (p := ⟨gb861, _, none⟩) NB838_861.out _).trans (hHeld.2.2.2.2.2))))⟩ (fun hHeld => ?_)
   clear hK K
   refine done_ (by kernel_rfl) ?_
   have hnb47 := NB861_837.out
   have hnc47 := NB837_861.out
   have hnb48 := NB861_838.out
   have hnc48 := NB838_861.out
   have hnb49 := NB861_839.out
   have hnc49 := NB839_861.out
   have hnb50 := NB861_840.out
   have hnc50 := NB840_861.out
   have hnb51 := NB861_852.out
   have hnc51 := NB852_861.out
   have hcz52_0 : w43.cell? ⟨gb861, 0, none⟩ = some (.bool false) := bc0 BK861.out
   have hcz52_1 : w43.cell? ⟨gb861, 1, none⟩ = some (.slice none 0 0) := bc1 BK861.out
   have hfz52_0 := blk_frozen BK861.out 0
   have hfz52_1 := blk_frozen BK861.out 1
   try go_wp2_with (first | ((with_reducible refine gate_callee (f := 29) rfl ?_); refine goL (some 40) Tryd.func29 [.agg #[.bool t857, .slice Ao45 t858.length co45]] ?_; (with_reducible refine (gudgeonref02_Sign.calls k t857 _ _ t858 t862 _ ?side1 ?side2 A8.out).mono ?_); (case side1 => refine (Kd.R_reads' (e := 51) (base := w.heap.size) (ok := fun k_ => (some k_ ≠ (.slice Ao28 t841.length co28 : Value).ownBlock ∧ (some k_ ≠ (v846 : Value).ownBlock ∧ (some k_ ≠ (.slice Ao36 t849.length co36 : Value).ownBlock ∧ some k_ ≠ (v855 : Value).ownBlock)))) (n := t858.length) (c := co45) ?_).2.2; exact (Kd.R_mono (Kd.R_far (p := ⟨gb861, 1, none⟩) (Kd.R_far (p := ⟨gb861, 0, none⟩) (Kd.R_types HO860.out BK861.out (by decide)) (fun _ hk => hk.2) (.bool t857)) (fun _ hk => hk.2) (.slice Ao45 t858.length co45)) (fun _ h_ => h_.1))); (case side2 => exact (Kd.R_reads' HO860.out).2.1); rintro e w53 ⟨rfl, hb⟩; refine ⟨_, rfl, ?_⟩; replace HO845 := Aside0.mk (Kd.R_below (Kd.R_mono (Kd.R_far (p := ⟨gb861, 1, none⟩) (Kd.R_far (p := ⟨gb861, 0, none⟩) (Kd.R_types HO845.out BK861.out (by decide)) (fun _ hk => hk.2) (.bool t857)) (fun _ hk => hk.2) (.slice Ao45 t858.length co45)) (fun _ h_ => h_.1)) hb); replace HO847 := Aside0.mk (Kd.R_below (Kd.R_mono (Kd.R_far (p := ⟨gb861, 1, none⟩) (Kd.R_far (p := ⟨gb861, 0, none⟩) (Kd.R_types HO847.out BK861.out (by decide)) (fun _ hk => hk.2) (.bool t857)) (fun _ hk => hk.2) (.slice Ao45 t858.length co45)) (fun _ h_ => h_.1)) hb); replace HO851 := Aside0.mk (Kd.R_below (Kd.R_mono (Kd.R_far (p := ⟨gb861, 1, none⟩) (Kd.R_far (p := ⟨gb861, 0, none⟩) (Kd.R_types HO851.out BK861.out (by decide)) (fun _ hk => hk.2) (.bool t857)) (fun _ hk => hk.2) (.slice Ao45 t858.length co45)) (fun _ h_ => h_.1)) hb); replace HO856 := Aside0.mk (Kd.R_below (Kd.R_mono (Kd.R_far (p := ⟨gb861, 1, none⟩) (Kd.R_far (p := ⟨gb861, 0, none⟩) (Kd.R_types HO856.out BK861.out (by decide)) (fun _ hk => hk.2) (.bool t857)) (fun _ hk => hk.2) (.slice Ao45 t858.length co45)) (fun _ h_ => h_.1)) hb); replace HO860 := Aside0.mk (Kd.R_below (Kd.R_mono (Kd.R_far (p := ⟨gb861, 1, none⟩) (Kd.R_far (p := ⟨gb861, 0, none⟩) (Kd.R_types HO860.out BK861.out (by decide)) (fun _ hk => hk.2) (.bool t857)) (fun _ hk => hk.2) (.slice Ao45 t858.length co45)) (fun _ h_ => h_.1)) hb); replace BK837 := Aside0.mk (blk_below (g := gb837) (o := .cells #[.bool a0_0, .slice A0_1 l0_1.length c0_1] 24 (0, 0)) (by refine blk_far ?_ NB837_861.out _; refine blk_far ?_ NB837_861.out _; exact BK837.out) hb); replace BK838 := Aside0.mk (blk_below (g := gb838) (o := .cells #[.bool a1_0, .slice A1_1 l1_1.length c1_1] 24 (0, 0)) (by refine blk_far ?_ NB838_861.out _; refine blk_far ?_ NB838_861.out _; exact BK838.out) hb); replace BK839 := Aside0.mk (blk_below (g := gb839) (o := .cells #[.bool false, .slice none 0 0] 24 (0, 0)) (by refine blk_far ?_ NB839_861.out _; refine blk_far ?_ NB839_861.out _; exact BK839.out) hb); replace BK840 := Aside0.mk (blk_below (g := gb840) (o := .cells #[.bool false, .slice none 0 0] 24 (0, 0)) (by refine blk_far ?_ NB840_861.out _; refine blk_far ?_ NB840_861.out _; exact BK840.out) hb); replace BK852 := Aside0.mk (blk_below (g := gb852) (o := .cells #[.bool t848, .slice Ao36 t849.length co36] 24 (0, 0)) (by refine blk_far ?_ NB852_861.out _; refine blk_far ?_ NB852_861.out _; exact BK852.out) hb); replace BK861 := Aside0.mk (blk_below (g := gb861) (o := .cells #[.bool t857, .slice Ao45 t858.length co45] 24 (0, 0)) (by refine blk_put (cs := #[.bool t857, .slice none 0 0]) ?_ 1 _ rfl; refine blk_put (cs := #[.bool false, .slice none 0 0]) ?_ 0 _ rfl; exact BK861.out) hb); replace HB := Aside0.mk (below_step (by repeat first | exact HB.out | refine bxSet ?_ (by assumption) | apply below_alloc | apply pw_below_drewN) hb); (try clear hb); (try clear hb2); (try clear hk); (try clear hi)))
   replace HO845 := Aside0.mk (Kd.R_drew HO845.out)
   replace HO847 := Aside0.mk (Kd.R_drew HO847.out)
   replace HO851 := Aside0.mk (Kd.R_drew HO851.out)
   replace HO856 := Aside0.mk (Kd.R_drew HO856.out)
   replace HO860 := Aside0.mk (Kd.R_drew HO860.out)
   replace BK837 := Aside0.mk (blk_drew BK837.out)
   replace BK838 := Aside0.mk (blk_drew BK838.out)
   replace BK839 := Aside0.mk (blk_drew BK839.out)
   replace BK840 := Aside0.mk (blk_drew BK840.out)
   replace BK852 := Aside0.mk (blk_drew BK852.out)
   replace BK861 := Aside0.mk (blk_drew BK861.out)
   replace HB := Aside0.mk (below_drew1 HB.out)
   refine start_ (n := 11) (S := fun w' => w'.cell? ⟨gb837, 0, none⟩ = some (.bool a0_0) ∧ w'.cell? ⟨gb837, 1, none⟩ = some (.slice A0_1 l0_1.length c0_1) ∧ w'.cell? ⟨gb838, 0, none⟩ = some (.bool a1_0) ∧ w'.cell? ⟨gb838, 1, none⟩ = some (.slice A1_1 l1_1.length c1_1)) (ds := []) #[false, false, false, false, false, false, false, false, false, false, false] (by kernel_rfl) rfl rfl ⟨bc0 BK837.out, bc1 BK837.out, bc0 BK838.out, bc1 BK838.out⟩ (fun hHeld => ?_); refine with_tabW gudgeonref02_DivMod.tab7 gudgeonref02_DivMod.bits7 (fun HT_ HW_ => ?_)
   generalize w53.drew = w54 at HO845 HO847 HO851 HO856 HO860 BK837 BK838 BK839 BK840 BK852 BK861 HB hHeld ⊢
   refine pure_ (i := 0) (N := some 42) (v := ?_) (a' := ?_) #[true, false, false, false, false, false, false, false, false, false, false] rfl rfl (any_of HT_.out (by kernel_rfl)) (fun _ _ _ h => h) (Or.inl ⟨by rfl, ?_⟩) ?_ ?_
   rotate_left
   ·intro w'
    go_simp
    with_reducible rfl
   rotate_left
   ·simp only [Act.put, List.setIfInBounds_toArray, List.set_cons_zero, List.set_cons_succ, i64_w, i32_w]
    rfl
   refine pure_ (i := 2) (N := some 44) (v := ?_) (a' := ?_) #[true, false, true, false, false, false, false, false, false, false, false] rfl rfl (any_of HT_.out (by kernel_rfl)) (fun _ _ _ h => h) (Or.inl ⟨by rfl, ?_⟩) ?_ ?_
   rotate_left
   ·intro w'
    go_simp
    with_reducible rfl
   rotate_left
   ·simp only [Act.put, List.setIfInBounds_toArray, List.set_cons_zero, List.set_cons_succ, i64_w, i32_w]
    rfl
   refine pure_ (i := 5) (N := some 47) (v := ?_) (a' := ?_) #[true, false, true, false, false, true, false, false, false, false, false] rfl rfl (any_of HT_.out (by kernel_rfl)) (fun _ _ _ h => h) (Or.inl ⟨by rfl, ?_⟩) ?_ ?_
   rotate_left
   ·intro w'
    go_simp
    with_reducible rfl
   rotate_left
   ·simp only [Act.put, List.setIfInBounds_toArray, List.set_cons_zero, List.set_cons_succ, i64_w, i32_w]
    rfl
   refine take_ (i := 1) (N := some 43) (v := ?_) (a' := ?_) #[true, true, true, false, false, true, false, false, false, false, false] rfl rfl (take_ofW HT_.out HW_.out (by kernel_rfl)) (fun _ _ _ h => h) (Or.inl ⟨by rfl, ?_⟩) hHeld ?_ ?_
   rotate_left
   ·rintro w' ⟨s0, s1, s2, s3⟩
    go_simp
    with_reducible rfl
   rotate_left
   ·simp only [Act.put, List.setIfInBounds_toArray, List.set_cons_zero, List.set_cons_succ, i64_w, i32_w]
    rfl
   refine take_ (i := 3) (N := some 45) (v := ?_) (a' := ?_) #[true, true, true, true, false, true, false, false, false, false, false] rfl rfl (take_ofW HT_.out HW_.out (by kernel_rfl)) (fun _ _ _ h => h) (Or.inl ⟨by rfl, ?_⟩) hHeld ?_ ?_
   rotate_left
   ·rintro w' ⟨s0, s1, s2, s3⟩
    go_simp
    with_reducible rfl
   rotate_left
   ·simp only [Act.put, List.setIfInBounds_toArray, List.set_cons_zero, List.set_cons_succ, i64_w, i32_w]
    rfl
   refine pure_ (i := 4) (N := some 46) (v := ?_) (a' := ?_) #[true, true, true, true, true, true, false, false, false, false, false] rfl rfl (any_of HT_.out (by kernel_rfl)) (fun _ _ _ h => h) (Or.inl ⟨by rfl, ?_⟩) ?_ ?_
   rotate_left
   ·intro w'
    go_simp
    with_reducible rfl
   rotate_left
   ·simp only [Act.put, List.setIfInBounds_toArray, List.set_cons_zero, List.set_cons_succ, i64_w, i32_w]
    rfl
   refine one_ (i := 6) (N := some 48) #[true, true, true, true, true, true, true, false, false, false, false] rfl rfl (one_of HT_.out (by kernel_rfl)) (by decide) (fun K hK => ?_)
   refine Kd.R_lit_step (Kd.int .u32) _ 51 ?hg (N := 48) ?hd (xs := ([1] : List Int)) (inner := [.int .u32 1]) (ok := fun _ => True) (okp := fun _ => True) ?hr ?hp (fun _ hk => hk) trivial (Below.refl _ _) (Nat.le_refl _) (by simp) ?_; (case hd => rfl); (case hg => rfl); (case hr => first | (go_simp; done) | (go_simp; rfl)); (case hp => exact (Reps.one (show Kd.M (Kd.int .u32) _ _ _ 1 [.int .u32 1] from rfl) (Reps.none _ _)))
   intro v864 w55 ho56 hb hg_ hnew_
   clear hg_ hnew_
   (first | rw [← Ny863.out] at ho56 | (simp only [Int.reduceToNat] at ho56; rw [← Ny863.out] at ho56))
   have HO865 := Aside0.mk (Kd.R_lower (Kd.R_new' (Kd.R_new' (Kd.R_new' (Kd.R_new' (Kd.R_new' ho56 (Kd.R_lt HO845.out)) (Kd.R_lt HO847.out)) (Kd.R_lt HO851.out)) (Kd.R_lt HO856.out)) (Kd.R_lt HO860.out)) (below_size HB.out))
   replace HO845 := Aside0.mk (Kd.R_elder' HO845.out (Kd.R_base ho56) hb)
   replace HO847 := Aside0.mk (Kd.R_elder' HO847.out (Kd.R_base ho56) hb)
   replace HO851 := Aside0.mk (Kd.R_elder' HO851.out (Kd.R_base ho56) hb)
   replace HO856 := Aside0.mk (Kd.R_elder' HO856.out (Kd.R_base ho56) hb)
   replace HO860 := Aside0.mk (Kd.R_elder' HO860.out (Kd.R_base ho56) hb)
   replace BK837 := Aside0.mk (blk_below BK837.out hb)
   replace BK838 := Aside0.mk (blk_below BK838.out hb)
   replace BK839 := Aside0.mk (blk_below BK839.out hb)
   replace BK840 := Aside0.mk (blk_below BK840.out hb)
   replace BK852 := Aside0.mk (blk_below BK852.out hb)
   replace BK861 := Aside0.mk (blk_below BK861.out hb)
   replace HB := Aside0.mk (below_step HB.out hb)
   clear hb ho56
   obtain ⟨Ao57, co57, eo57⟩ := Kd.R_slice HO865.out
   subst eo57
   refine hK.out _ _ ⟨bc0 BK837.out, bc1 BK837.out, bc0 BK838.out, bc1 BK838.out⟩ (fun hHeld => ?_)
   clear hK K
   refine norm_ (a' := ?_) ?_ ?_
   rotate_left
   ·show Act.put _ (some 48) _ = _
    simp only [Act.put, List.setIfInBounds_toArray, List.set_cons_zero, List.set_cons_succ, i64_w, i32_w]
    rfl
   refine one_ (i := 7) (N := some 49) #[true, true, true, true, true, true, true, true, false, false, false] rfl rfl (one_of HT_.out (by kernel_rfl)) (by decide) (fun K hK => ?_)
   refine goR Tryd.func44 [.slice Ao28 t841.length co28, .slice Ao57 y863.length co57] ?_
   with_reducible refine (gudgeonref01_Add.calls k _ _ t841 _ _ y863 t866 _ ?side1 ?side2 ?side3 ?side4 A10.out).mono ?_
   (case side1 => exact (Kd.R_reads' HO845.out).2.2)
   (case side2 => exact (Kd.R_reads' HO845.out).2.1)
   (case side3 => exact (Kd.R_reads' HO865.out).2.2)
   (case side4 => exact (Kd.R_reads' HO865.out).2.1)
   rintro e w58 ⟨v867, rfl, ho0, hb⟩
   refine ⟨_, rfl, ?_⟩
   have HO868 := Aside0.mk (Kd.R_lower (Kd.R_new' (Kd.R_new' (Kd.R_new' (Kd.R_new' (Kd.R_new' (Kd.R_new' ho0 (Kd.R_lt HO845.out)) (Kd.R_lt HO847.out)) (Kd.R_lt HO851.out)) (Kd.R_lt HO856.out)) (Kd.R_lt HO860.out)) (Kd.R_lt HO865.out)) (below_size HB.out))
   replace HO845 := Aside0.mk (Kd.R_elder' HO845.out (Kd.R_base ho0) hb)
   replace HO847 := Aside0.mk (Kd.R_elder' HO847.out (Kd.R_base ho0) hb)
   replace HO851 := Aside0.mk (Kd.R_elder' HO851.out (Kd.R_base ho0) hb)
   replace HO856 := Aside0.mk (Kd.R_elder' HO856.out (Kd.R_base ho0) hb)
   replace HO860 := Aside0.mk (Kd.R_elder' HO860.out (Kd.R_base ho0) hb)
   replace HO865 := Aside0.mk (Kd.R_elder' HO865.out (Kd.R_base ho0) hb)
   replace BK837 := Aside0.mk (blk_below BK837.out hb)
   replace BK838 := Aside0.mk (blk_below BK838.out hb)
   replace BK839 := Aside0.mk (blk_below BK839.out hb)
   replace BK840 := Aside0.mk (blk_below BK840.out hb)
   replace BK852 := Aside0.mk (blk_below BK852.out hb)
   replace BK861 := Aside0.mk (blk_below BK861.out hb)
   replace HB := Aside0.mk (below_step HB.out hb)
   (try clear hb)
   (try clear hb2)
   (try clear hk)
   (try clear hi)
   (try clear ho0)
   obtain ⟨Ao59, co59, eo59⟩ := Kd.R_slice HO868.out
   subst eo59
   refine hK.out _ _ ⟨bc0 BK837.out, bc1 BK837.out, bc0 BK838.out, bc1 BK838.out⟩ (fun hHeld => ?_)
   clear hK K
   refine norm_ (a' := ?_) ?_ ?_
   rotate_left
   ·show Act.put _ (some 49) _ = _
    simp only [Act.put, List.setIfInBounds_toArray, List.set_cons_zero, List.set_cons_succ, i64_w, i32_w]
    rfl
   refine pure_ (i := 8) (N := some 50) (v := ?_) (a' := ?_) #[true, true, true, true, true, true, true, true, true, false, false] rfl rfl (any_of HT_.out (by kernel_rfl)) (fun _ _ _ h => h) (Or.inl ⟨by rfl, ?_⟩) ?_ ?_
   rotate_left
   ·intro w'
    go_simp
    with_reducible rfl
   rotate_left
   ·simp only [Act.put, List.setIfInBounds_toArray, List.set_cons_zero, List.set_cons_succ, i64_w, i32_w]
    rfl
   refine one_ (i := 9) (N := some 51) #[true, true, true, true, true, true, true, true, true, true, false] rfl rfl (one_of HT_.out (by kernel_rfl)) (by decide) (fun K hK => ?_)
   refine goR Tryd.func17 [.agg #[.bool (a0_0 != a1_0), .slice Ao59 t866.length co59]] ?_
   with_reducible refine (gudgeonref02_Norm.calls k (a0_0 != a1_0) _ _ t866 t869 t870 _ ?side1 ?side2 A11.out).mono ?_
   (case side1 => exact (Kd.R_reads' HO868.out).2.2)
   (case side2 => exact (Kd.R_reads' HO868.out).2.1)
   rintro e w60 ⟨v871, rfl, ho0, hb⟩
   refine ⟨_, rfl, ?_⟩
   have HO872 := Aside0.mk (Kd.R_lower (Kd.R_new' (Kd.R_new' (Kd.R_new' (Kd.R_new' (Kd.R_new' (Kd.R_new' (Kd.R_new' ho0 (Kd.R_lt HO845.out)) (Kd.R_lt HO847.out)) (Kd.R_lt HO851.out)) (Kd.R_lt HO856.out)) (Kd.R_lt HO860.out)) (Kd.R_lt HO865.out)) (Kd.R_lt HO868.out)) (below_size HB.out))
   replace HO845 := Aside0.mk (Kd.R_elder' HO845.out (Kd.R_base ho0) hb)
   replace HO847 := Aside0.mk (Kd.R_elder' HO847.out (Kd.R_base ho0) hb)
   replace HO851 := Aside0.mk (Kd.R_elder' HO851.out (Kd.R_base ho0) hb)
   replace HO856 := Aside0.mk (Kd.R_elder' HO856.out (Kd.R_base ho0) hb)
   replace HO860 := Aside0.mk (Kd.R_elder' HO860.out (Kd.R_base ho0) hb)
   replace HO865 := Aside0.mk (Kd.R_elder' HO865.out (Kd.R_base ho0) hb)
   replace HO868 := Aside0.mk (Kd.R_elder' HO868.out (Kd.R_base ho0) hb)
   replace BK837 := Aside0.mk (blk_below BK837.out hb)
   replace BK838 := Aside0.mk (blk_below BK838.out hb)
   replace BK839 := Aside0.mk (blk_below BK839.out hb)
   replace BK840 := Aside0.mk (blk_below BK840.out hb)
   replace BK852 := Aside0.mk (blk_below BK852.out hb)
   replace BK861 := Aside0.mk (blk_below BK861.out hb)
   replace HB := Aside0.mk (below_step HB.out hb)
   (try clear hb)
   (try clear hb2)
   (try clear hk)
   (try clear hi)
   (try clear ho0)
   obtain ⟨Ao62, co62, eo62⟩ := Kd.R_slice HO872.out
   subst eo62
   refine hK.out _ _ ⟨bc0 BK837.out, bc1 BK837.out, bc0 BK838.out, bc1 BK838.out⟩ (fun hHeld => ?_)
   clear hK K
   refine norm_ (a' := ?_) ?_ ?_
   rotate_left
   ·show Act.put _ (some 51) _ = _
    simp only [Act.put, List.setIfInBounds_toArray, List.set_cons_zero, List.set_cons_succ, i64_w, i32_w]
    rfl
   refine one_ (i := 10) (N := none) #[true, true, true, true, true, true, true, true, true, true, true] rfl rfl (one_of HT_.out (by kernel_rfl)) (by decide) (fun K hK => ?_)
   have hs61 : w60.cell? ⟨gb852, 0, none⟩ = some (.bool t848) := bc0 BK852.out
   have hfs61 := blk_frozen BK852.out 0
   have hns61_0 := NB837_852.out
   have hns61_1 := NB838_852.out
   have hns61_2 := NB839_852.out
   have hns61_3 := NB840_852.out
   have hns61_5 := NB861_852.out
   have hms61_0 := NB852_837.out
   have hms61_1 := NB852_838.out
   have hms61_2 := NB852_839.out
   have hms61_3 := NB852_840.out
   have hms61_5 := NB852_861.out
   have hs63 : w60.cell? ⟨gb852, 1, none⟩ = some (.slice Ao36 t849.length co36) := bc1 BK852.out
   have hfs63 := blk_frozen BK852.out 1
   have hns63_0 := NB837_852.out
   have hns63_1 := NB838_852.out
   have hns63_2 := NB839_852.out
   have hns63_3 := NB840_852.out
   have hns63_5 := NB861_852.out
   have hms63_0 := NB852_837.out
   have hms63_1 := NB852_838.out
   have hms63_2 := NB852_839.out
   have hms63_3 := NB852_840.out
   have hms63_5 := NB852_861.out
   refine skip_ (w1 := ?_) (by rfl) rfl ?_ ?_
   rotate_left
   ·go_simp
    rfl
   refine hK.out _ _ ⟨((cell_far (p := ⟨gb852, _, none⟩) NB837_852.out _).trans (((cell_far (p := ⟨gb852, _, none⟩) NB837_852.out _).trans (hHeld.1)))), ((cell_far (p := ⟨gb852, _, none⟩) NB837_852.out _).trans (((cell_far (p := ⟨gb852, _, none⟩) NB837_852.out _).trans (hHeld.2.1)))), ((cell_far (p := ⟨gb852, _, none⟩) NB838_852.out _).trans (((cell_far (p := ⟨gb852, _, none⟩) NB838_852.out _).trans (hHeld.2.2.1)))), ((cell_far (p := ⟨gb852, _, none⟩) NB838_852.out _).trans (((cell_far (p := ⟨gb852, _, none⟩) NB838_852.out _).trans (hHeld.2.2.2))))⟩ (fun hHeld => ?_)
   clear hK K
   refine done_ (done_of HT_.out (by kernel_rfl)) ?_
   try go_wp2
   have n0_ : Aside0 (Kd.R (Kd.int .u32) 51 ((w60.setCell ⟨gb852, 0, none⟩ (.bool t869)).setCell ⟨gb852, 1, none⟩ (.slice Ao62 t870.length co62)) w.heap.size (fun k_ => some k_ ≠ (v846 : Value).ownBlock ∧ some k_ ≠ (.slice Ao36 t849.length co36 : Value).ownBlock ∧ some k_ ≠ (v855 : Value).ownBlock ∧ some k_ ≠ (.slice Ao45 t858.length co45 : Value).ownBlock ∧ some k_ ≠ (.slice Ao57 y863.length co57 : Value).ownBlock ∧ some k_ ≠ (.slice Ao59 t866.length co59 : Value).ownBlock ∧ some k_ ≠ (.slice Ao62 t870.length co62 : Value).ownBlock) (.slice Ao28 t841.length co28) t841) := ⟨Kd.R_mono (Kd.R_far (p := ⟨gb852, 1, none⟩) (Kd.R_far (p := ⟨gb852, 0, none⟩) (Kd.R_types HO845.out BK852.out (by decide)) (fun _ hk => hk.2) (.bool t869)) (fun _ hk => hk.2) (.slice Ao62 t870.length co62)) (fun _ hk => ⟨hk.1.1.1.1.1, ⟨hk.1.1.1.1.2.1, ⟨hk.1.1.1.1.2.2.1, ⟨hk.1.1.1.1.2.2.2, ⟨hk.1.1.1.2, ⟨hk.1.1.2, hk.1.2⟩⟩⟩⟩⟩⟩)⟩
   have n1_ : Aside0 (Kd.R (Kd.int .u32) 51 ((w60.setCell ⟨gb852, 0, none⟩ (.bool t869)).setCell ⟨gb852, 1, none⟩ (.slice Ao62 t870.length co62)) w.heap.size (fun k_ => some k_ ≠ (.slice Ao28 t841.length co28 : Value).ownBlock ∧ some k_ ≠ (.slice Ao36 t849.length co36 : Value).ownBlock ∧ some k_ ≠ (v855 : Value).ownBlock ∧ some k_ ≠ (.slice Ao45 t858.length co45 : Value).ownBlock ∧ some k_ ≠ (.slice Ao57 y863.length co57 : Value).ownBlock ∧ some k_ ≠ (.slice Ao59 t866.length co59 : Value).ownBlock ∧ some k_ ≠ (.slice Ao62 t870.length co62 : Value).ownBlock) v846 t842) := ⟨Kd.R_mono (Kd.R_far (p := ⟨gb852, 1, none⟩) (Kd.R_far (p := ⟨gb852, 0, none⟩) (Kd.R_types HO847.out BK852.out (by decide)) (fun _ hk => hk.2) (.bool t869)) (fun _ hk => hk.2) (.slice Ao62 t870.length co62)) (fun _ hk => ⟨hk.1.1.1.1.1, ⟨hk.1.1.1.1.2.1, ⟨hk.1.1.1.1.2.2.1, ⟨hk.1.1.1.1.2.2.2, ⟨hk.1.1.1.2, ⟨hk.1.1.2, hk.1.2⟩⟩⟩⟩⟩⟩)⟩
   have n2_ : Aside0 (Kd.R (Kd.int .u32) 51 ((w60.setCell ⟨gb852, 0, none⟩ (.bool t869)).setCell ⟨gb852, 1, none⟩ (.slice Ao62 t870.length co62)) w.heap.size (fun k_ => some k_ ≠ (.slice Ao28 t841.length co28 : Value).ownBlock ∧ some k_ ≠ (v846 : Value).ownBlock ∧ some k_ ≠ (v855 : Value).ownBlock ∧ some k_ ≠ (.slice Ao45 t858.length co45 : Value).ownBlock ∧ some k_ ≠ (.slice Ao57 y863.length co57 : Value).ownBlock ∧ some k_ ≠ (.slice Ao59 t866.length co59 : Value).ownBlock ∧ some k_ ≠ (.slice Ao62 t870.length co62 : Value).ownBlock) (.slice Ao36 t849.length co36) t849) := ⟨Kd.R_mono (Kd.R_far (p := ⟨gb852, 1, none⟩) (Kd.R_far (p := ⟨gb852, 0, none⟩) (Kd.R_types HO851.out BK852.out (by decide)) (fun _ hk => hk.2) (.bool t869)) (fun _ hk => hk.2) (.slice Ao62 t870.length co62)) (fun _ hk => ⟨hk.1.1.1.1.1, ⟨hk.1.1.1.1.2.1, ⟨hk.1.1.1.1.2.2.1, ⟨hk.1.1.1.1.2.2.2, ⟨hk.1.1.1.2, ⟨hk.1.1.2, hk.1.2⟩⟩⟩⟩⟩⟩)⟩
   have n3_ : Aside0 (Kd.R (Kd.int .u32) 51 ((w60.setCell ⟨gb852, 0, none⟩ (.bool t869)).setCell ⟨gb852, 1, none⟩ (.slice Ao62 t870.length co62)) w.heap.size (fun k_ => some k_ ≠ (.slice Ao28 t841.length co28 : Value).ownBlock ∧ some k_ ≠ (v846 : Value).ownBlock ∧ some k_ ≠ (.slice Ao36 t849.length co36 : Value).ownBlock ∧ some k_ ≠ (.slice Ao45 t858.length co45 : Value).ownBlock ∧ some k_ ≠ (.slice Ao57 y863.length co57 : Value).ownBlock ∧ some k_ ≠ (.slice Ao59 t866.length co59 : Value).ownBlock ∧ some k_ ≠ (.slice Ao62 t870.length co62 : Value).ownBlock) v855 t854) := ⟨Kd.R_mono (Kd.R_far (p := ⟨gb852, 1, none⟩) (Kd.R_far (p := ⟨gb852, 0, none⟩) (Kd.R_types HO856.out BK852.out (by decide)) (fun _ hk => hk.2) (.bool t869)) (fun _ hk => hk.2) (.slice Ao62 t870.length co62)) (fun _ hk => ⟨hk.1.1.1.1.1, ⟨hk.1.1.1.1.2.1, ⟨hk.1.1.1.1.2.2.1, ⟨hk.1.1.1.1.2.2.2, ⟨hk.1.1.1.2, ⟨hk.1.1.2, hk.1.2⟩⟩⟩⟩⟩⟩)⟩
   have n4_ : Aside0 (Kd.R (Kd.int .u32) 51 ((w60.setCell ⟨gb852, 0, none⟩ (.bool t869)).setCell ⟨gb852, 1, none⟩ (.slice Ao62 t870.length co62)) w.heap.size (fun k_ => some k_ ≠ (.slice Ao28 t841.length co28 : Value).ownBlock ∧ some k_ ≠ (v846 : Value).ownBlock ∧ some k_ ≠ (.slice Ao36 t849.length co36 : Value).ownBlock ∧ some k_ ≠ (v855 : Value).ownBlock ∧ some k_ ≠ (.slice Ao57 y863.length co57 : Value).ownBlock ∧ some k_ ≠ (.slice Ao59 t866.length co59 : Value).ownBlock ∧ some k_ ≠ (.slice Ao62 t870.length co62 : Value).ownBlock) (.slice Ao45 t858.length co45) t858) := ⟨Kd.R_mono (Kd.R_far (p := ⟨gb852, 1, none⟩) (Kd.R_far (p := ⟨gb852, 0, none⟩) (Kd.R_types HO860.out BK852.out (by decide)) (fun _ hk => hk.2) (.bool t869)) (fun _ hk => hk.2) (.slice Ao62 t870.length co62)) (fun _ hk => ⟨hk.1.1.1.1.1, ⟨hk.1.1.1.1.2.1, ⟨hk.1.1.1.1.2.2.1, ⟨hk.1.1.1.1.2.2.2, ⟨hk.1.1.1.2, ⟨hk.1.1.2, hk.1.2⟩⟩⟩⟩⟩⟩)⟩
   have n5_ : Aside0 (Kd.R (Kd.int .u32) 51 ((w60.setCell ⟨gb852, 0, none⟩ (.bool t869)).setCell ⟨gb852, 1, none⟩ (.slice Ao62 t870.length co62)) w.heap.size (fun k_ => some k_ ≠ (.slice Ao28 t841.length co28 : Value).ownBlock ∧ some k_ ≠ (v846 : Value).ownBlock ∧ some k_ ≠ (.slice Ao36 t849.length co36 : Value).ownBlock ∧ some k_ ≠ (v855 : Value).ownBlock ∧ some k_ ≠ (.slice Ao45 t858.length co45 : Value).ownBlock ∧ some k_ ≠ (.slice Ao59 t866.length co59 : Value).ownBlock ∧ some k_ ≠ (.slice Ao62 t870.length co62 : Value).ownBlock) (.slice Ao57 y863.length co57) y863) := ⟨Kd.R_mono (Kd.R_far (p := ⟨gb852, 1, none⟩) (Kd.R_far (p := ⟨gb852, 0, none⟩) (Kd.R_types HO865.out BK852.out (by decide)) (fun _ hk => hk.2) (.bool t869)) (fun _ hk => hk.2) (.slice Ao62 t870.length co62)) (fun _ hk => ⟨hk.1.1.1.1.1.1.1.2, ⟨hk.1.1.1.1.1.1.2, ⟨hk.1.1.1.1.1.2, ⟨hk.1.1.1.1.2, ⟨hk.1.1.1.2, ⟨hk.1.1.2, hk.1.2⟩⟩⟩⟩⟩⟩)⟩
   have n6_ : Aside0 (Kd.R (Kd.int .u32) 51 ((w60.setCell ⟨gb852, 0, none⟩ (.bool t869)).setCell ⟨gb852, 1, none⟩ (.slice Ao62 t870.length co62)) w.heap.size (fun k_ => some k_ ≠ (.slice Ao28 t841.length co28 : Value).ownBlock ∧ some k_ ≠ (v846 : Value).ownBlock ∧ some k_ ≠ (.slice Ao36 t849.length co36 : Value).ownBlock ∧ some k_ ≠ (v855 : Value).ownBlock ∧ some k_ ≠ (.slice Ao45 t858.length co45 : Value).ownBlock ∧ some k_ ≠ (.slice Ao57 y863.length co57 : Value).ownBlock ∧ some k_ ≠ (.slice Ao62 t870.length co62 : Value).ownBlock) (.slice Ao59 t866.length co59) t866) := ⟨Kd.R_mono (Kd.R_far (p := ⟨gb852, 1, none⟩) (Kd.R_far (p := ⟨gb852, 0, none⟩) (Kd.R_types HO868.out BK852.out (by decide)) (fun _ hk => hk.2) (.bool t869)) (fun _ hk => hk.2) (.slice Ao62 t870.length co62)) (fun _ hk => ⟨hk.1.1.1.1.1.1.1.2, ⟨hk.1.1.1.1.1.1.2, ⟨hk.1.1.1.1.1.2, ⟨hk.1.1.1.1.2, ⟨hk.1.1.1.2, ⟨hk.1.1.2, hk.1.2⟩⟩⟩⟩⟩⟩)⟩
   have n7_ : Aside0 (Kd.R (Kd.int .u32) 51 ((w60.setCell ⟨gb852, 0, none⟩ (.bool t869)).setCell ⟨gb852, 1, none⟩ (.slice Ao62 t870.length co62)) w.heap.size (fun k_ => some k_ ≠ (.slice Ao28 t841.length co28 : Value).ownBlock ∧ some k_ ≠ (v846 : Value).ownBlock ∧ some k_ ≠ (.slice Ao36 t849.length co36 : Value).ownBlock ∧ some k_ ≠ (v855 : Value).ownBlock ∧ some k_ ≠ (.slice Ao45 t858.length co45 : Value).ownBlock ∧ some k_ ≠ (.slice Ao57 y863.length co57 : Value).ownBlock ∧ some k_ ≠ (.slice Ao59 t866.length co59 : Value).ownBlock) (.slice Ao62 t870.length co62) t870) := ⟨Kd.R_mono (Kd.R_far (p := ⟨gb852, 1, none⟩) (Kd.R_far (p := ⟨gb852, 0, none⟩) (Kd.R_types HO872.out BK852.out (by decide)) (fun _ hk => hk.2) (.bool t869)) (fun _ hk => hk.2) (.slice Ao62 t870.length co62)) (fun _ hk => ⟨hk.1.1.1.1.1.1.1.2, ⟨hk.1.1.1.1.1.1.2, ⟨hk.1.1.1.1.1.2, ⟨hk.1.1.1.1.2, ⟨hk.1.1.1.2, ⟨hk.1.1.2, hk.1.2⟩⟩⟩⟩⟩⟩)⟩
   have n8_ : Aside0 (((w60.setCell ⟨gb852, 0, none⟩ (.bool t869)).setCell ⟨gb852, 1, none⟩ (.slice Ao62 t870.length co62)).heap[gb837]? = some (.cells #[.bool a0_0, .slice A0_1 l0_1.length c0_1] 24 (0, 0))) := ⟨by refine blk_far ?_ NB837_852.out _; refine blk_far ?_ NB837_852.out _; exact BK837.out⟩
   have n9_ : Aside0 (((w60.setCell ⟨gb852, 0, none⟩ (.bool t869)).setCell ⟨gb852, 1, none⟩ (.slice Ao62 t870.length co62)).heap[gb838]? = some (.cells #[.bool a1_0, .slice A1_1 l1_1.length c1_1] 24 (0, 0))) := ⟨by refine blk_far ?_ NB838_852.out _; refine blk_far ?_ NB838_852.out _; exact BK838.out⟩
   have n10_ : Aside0 (((w60.setCell ⟨gb852, 0, none⟩ (.bool t869)).setCell ⟨gb852, 1, none⟩ (.slice Ao62 t870.length co62)).heap[gb839]? = some (.cells #[.bool false, .slice none 0 0] 24 (0, 0))) := ⟨by refine blk_far ?_ NB839_852.out _; refine blk_far ?_ NB839_852.out _; exact BK839.out⟩
   have n11_ : Aside0 (((w60.setCell ⟨gb852, 0, none⟩ (.bool t869)).setCell ⟨gb852, 1, none⟩ (.slice Ao62 t870.length co62)).heap[gb840]? = some (.cells #[.bool false, .slice none 0 0] 24 (0, 0))) := ⟨by refine blk_far ?_ NB840_852.out _; refine blk_far ?_ NB840_852.out _; exact BK840.out⟩
   have n12_ : Aside0 (((w60.setCell ⟨gb852, 0, none⟩ (.bool t869)).setCell ⟨gb852, 1, none⟩ (.slice Ao62 t870.length co62)).heap[gb852]? = some (.cells #[.bool t869, .slice Ao62 t870.length co62] 24 (0, 0))) := ⟨by refine blk_put (cs := #[.bool t869, .slice Ao36 t849.length co36]) ?_ 1 _ rfl; refine blk_put (cs := #[.bool t848, .slice Ao36 t849.length co36]) ?_ 0 _ rfl; exact BK852.out⟩
   have n13_ : Aside0 (((w60.setCell ⟨gb852, 0, none⟩ (.bool t869)).setCell ⟨gb852, 1, none⟩ (.slice Ao62 t870.length co62)).heap[gb861]? = some (.cells #[.bool t857, .slice Ao45 t858.length co45] 24 (0, 0))) := ⟨by refine blk_far ?_ NB861_852.out _; refine blk_far ?_ NB861_852.out _; exact BK861.out⟩
   have n14_ : Aside0 (Below w.heap.size w ((w60.setCell ⟨gb852, 0, none⟩ (.bool t869)).setCell ⟨gb852, 1, none⟩ (.slice Ao62 t870.length co62))) := ⟨by repeat first | exact HB.out | refine bxSet ?_ (by assumption) | apply below_alloc | apply pw_below_drewN⟩
   (try clear HO845)
   (try clear HO847)
   (try clear HO851)
   (try clear HO856)
   (try clear HO860)
   (try clear HO865)
   (try clear HO868)
   (try clear HO872)
   (try clear BK837)
   (try clear BK838)
   (try clear BK839)
   (try clear BK840)
   (try clear BK852)
   (try clear BK861)
   (try clear HB)
   generalize ((w60.setCell ⟨gb852, 0, none⟩ (.bool t869)).setCell ⟨gb852, 1, none⟩ (.slice Ao62 t870.length co62)) = w64 at n0_ n1_ n2_ n3_ n4_ n5_ n6_ n7_ n8_ n9_ n10_ n11_ n12_ n13_ n14_ ⊢
   have HO845 := n0_
   have HO847 := n1_
   have HO851 := n2_
   have HO856 := n3_
   have HO860 := n4_
   have HO865 := n5_
   have HO868 := n6_
   have HO872 := n7_
   have BK837 := n8_
   have BK838 := n9_
   have BK839 := n10_
   have BK840 := n11_
   have BK852 := n12_
   have BK861 := n13_
   have HB := n14_
   clear n0_ n1_ n2_ n3_ n4_ n5_ n6_ n7_ n8_ n9_ n10_ n11_ n12_ n13_ n14_
   replace HO845 := Aside0.mk (Kd.R_drew HO845.out)
   replace HO847 := Aside0.mk (Kd.R_drew HO847.out)
   replace HO851 := Aside0.mk (Kd.R_drew HO851.out)
   replace HO856 := Aside0.mk (Kd.R_drew HO856.out)
   replace HO860 := Aside0.mk (Kd.R_drew HO860.out)
   replace HO865 := Aside0.mk (Kd.R_drew HO865.out)
   replace HO868 := Aside0.mk (Kd.R_drew HO868.out)
   replace HO872 := Aside0.mk (Kd.R_drew HO872.out)
   replace BK837 := Aside0.mk (blk_drew BK837.out)
   replace BK838 := Aside0.mk (blk_drew BK838.out)
   replace BK839 := Aside0.mk (blk_drew BK839.out)
   replace BK840 := Aside0.mk (blk_drew BK840.out)
   replace BK852 := Aside0.mk (blk_drew BK852.out)
   replace BK861 := Aside0.mk (blk_drew BK861.out)
   replace HB := Aside0.mk (below_drew1 HB.out)
   refine start_ (n := 6) (S := fun w' => w'.cell? ⟨gb837, 0, none⟩ = some (.bool a0_0) ∧ w'.cell? ⟨gb837, 1, none⟩ = some (.slice A0_1 l0_1.length c0_1) ∧ w'.cell? ⟨gb852, 0, none⟩ = some (.bool t869) ∧ w'.cell? ⟨gb852, 1, none⟩ = some (.slice Ao62 t870.length co62) ∧ w'.cell? ⟨gb838, 0, none⟩ = some (.bool a1_0) ∧ w'.cell? ⟨gb838, 1, none⟩ = some (.slice A1_1 l1_1.length c1_1)) (ds := []) #[false, false, false, false, false, false] (by kernel_rfl) rfl rfl ⟨bc0 BK837.out, bc1 BK837.out, bc0 BK852.out, bc1 BK852.out, bc0 BK838.out, bc1 BK838.out⟩ (fun hHeld => ?_)
   generalize w64.drew = w65 at HO845 HO847 HO851 HO856 HO860 HO865 HO868 HO872 BK837 BK838 BK839 BK840 BK852 BK861 HB hHeld ⊢
   refine take_ (i := 0) (N := some 52) (v := ?_) (a' := ?_) #[true, false, false, false, false, false] rfl rfl (by kernel_rfl) (fun _ _ _ h => h) (Or.inl ⟨by rfl, ?_⟩) hHeld ?_ ?_
   rotate_left
   ·rintro w' ⟨s0, s1, s2, s3, s4, s5⟩
    go_simp
    with_reducible rfl
   rotate_left
   ·simp only [Act.put, List.setIfInBounds_toArray, List.set_cons_zero, List.set_cons_succ, i64_w, i32_w]
    rfl
   refine take_ (i := 1) (N := some 53) (v := ?_) (a' := ?_) #[true, true, false, false, false, false] rfl rfl (by kernel_rfl) (fun _ _ _ h => h) (Or.inl ⟨by rfl, ?_⟩) hHeld ?_ ?_
   rotate_left
   ·rintro w' ⟨s0, s1, s2, s3, s4, s5⟩
    go_simp
    with_reducible rfl
   rotate_left
   ·simp only [Act.put, List.setIfInBounds_toArray, List.set_cons_zero, List.set_cons_succ, i64_w, i32_w]
    rfl
   refine take_ (i := 2) (N := some 54) (v := ?_) (a' := ?_) #[true, true, true, false, false, false] rfl rfl (by kernel_rfl) (fun _ _ _ h => h) (Or.inl ⟨by rfl, ?_⟩) hHeld ?_ ?_
   rotate_left
   ·rintro w' ⟨s0, s1, s2, s3, s4, s5⟩
    go_simp
    with_reducible rfl
   rotate_left
   ·simp only [Act.put, List.setIfInBounds_toArray, List.set_cons_zero, List.set_cons_succ, i64_w, i32_w]
    rfl
   refine one_ (i := 3) (N := some 55) #[true, true, true, true, false, false] rfl rfl (by kernel_rfl) (by decide) (fun K hK => ?_)
   refine goR Tryd.func25 [.agg #[.bool t869, .slice Ao62 t870.length co62], .agg #[.bool a1_0, .slice A1_1 l1_1.length c1_1]] ?_
   with_reducible refine (gudgeonref02_Mul.calls k t869 _ _ t870 a1_0 _ _ l1_1 t873 t874 _ ?side1 ?side2 ?side3 ?side4 A12.out).mono ?_
   (case side1 => exact (Kd.R_reads' HO872.out).2.2)
   (case side2 => exact (Kd.R_reads' HO872.out).2.1)
   (case side3 => exact (Kd.C_below HR1_1.out HB.out))
   (case side4 => exact HC1_1.out)
   rintro e w66 ⟨v875, rfl, ho0, hb⟩
   refine ⟨_, rfl, ?_⟩
   have HO876 := Aside0.mk (Kd.R_lower (Kd.R_new' (Kd.R_new' (Kd.R_new' (Kd.R_new' (Kd.R_new' (Kd.R_new' (Kd.R_new' (Kd.R_new' ho0 (Kd.R_lt HO845.out)) (Kd.R_lt HO847.out)) (Kd.R_lt HO851.out)) (Kd.R_lt HO856.out)) (Kd.R_lt HO860.out)) (Kd.R_lt HO865.out)) (Kd.R_lt HO868.out)) (Kd.R_lt HO872.out)) (below_size HB.out))
   replace HO845 := Aside0.mk (Kd.R_elder' HO845.out (Kd.R_base ho0) hb)
   replace HO847 := Aside0.mk (Kd.R_elder' HO847.out (Kd.R_base ho0) hb)
   replace HO851 := Aside0.mk (Kd.R_elder' HO851.out (Kd.R_base ho0) hb)
   replace HO856 := Aside0.mk (Kd.R_elder' HO856.out (Kd.R_base ho0) hb)
   replace HO860 := Aside0.mk (Kd.R_elder' HO860.out (Kd.R_base ho0) hb)
   replace HO865 := Aside0.mk (Kd.R_elder' HO865.out (Kd.R_base ho0) hb)
   replace HO868 := Aside0.mk (Kd.R_elder' HO868.out (Kd.R_base ho0) hb)
   replace HO872 := Aside0.mk (Kd.R_elder' HO872.out (Kd.R_base ho0) hb)
   replace BK837 := Aside0.mk (blk_below BK837.out hb)
   replace BK838 := Aside0.mk (blk_below BK838.out hb)
   replace BK839 := Aside0.mk (blk_below BK839.out hb)
   replace BK840 := Aside0.mk (blk_below BK840.out hb)
   replace BK852 := Aside0.mk (blk_below BK852.out hb)
   replace BK861 := Aside0.mk (blk_below BK861.out hb)
   replace HB := Aside0.mk (below_step HB.out hb)
   (try clear hb)
   (try clear hb2)
   (try clear hk)
   (try clear hi)
   (try clear ho0)
   obtain ⟨Ao67, co67, eo67⟩ := Kd.R_slice HO876.out
   subst eo67
   refine hK.out _ _ ⟨bc0 BK837.out, bc1 BK837.out, bc0 BK852.out, bc1 BK852.out, bc0 BK838.out, bc1 BK838.out⟩ (fun hHeld => ?_)
   clear hK K
   refine norm_ (a' := ?_) ?_ ?_
   rotate_left
   ·show Act.put _ (some 55) _ = _
    simp only [Act.put, List.setIfInBounds_toArray, List.set_cons_zero, List.set_cons_succ, i64_w, i32_w]
    rfl
   refine one_ (i := 4) (N := some 56) #[true, true, true, true, true, false] rfl rfl (by kernel_rfl) (by decide) (fun K hK => ?_)
   refine goR Tryd.func23 [.agg #[.bool a0_0, .slice A0_1 l0_1.length c0_1], .agg #[.bool t873, .slice Ao67 t874.length co67]] ?_
   with_reducible refine (gudgeonref02_Sub.calls k a0_0 _ _ l0_1 t873 _ _ t874 t877 t878 _ ?side1 ?side2 ?side3 ?side4 A13.out).mono ?_
   (case side1 => exact (Kd.C_below HR0_1.out HB.out))
   (case side2 => exact HC0_1.out)
   (case side3 => exact (Kd.R_reads' HO876.out).2.2)
   (case side4 => exact (Kd.R_reads' HO876.out).2.1)
   rintro e w68 ⟨v879, rfl, ho0, hb⟩
   refine ⟨_, rfl, ?_⟩
   have HO880 := Aside0.mk (Kd.R_lower (Kd.R_new' (Kd.R_new' (Kd.R_new' (Kd.R_new' (Kd.R_new' (Kd.R_new' (Kd.R_new' (Kd.R_new' (Kd.R_new' ho0 (Kd.R_lt HO845.out)) (Kd.R_lt HO847.out)) (Kd.R_lt HO851.out)) (Kd.R_lt HO856.out)) (Kd.R_lt HO860.out)) (Kd.R_lt HO865.out)) (Kd.R_lt HO868.out)) (Kd.R_lt HO872.out)) (Kd.R_lt HO876.out)) (below_size HB.out))
   replace HO872 := Aside0.mk (Kd.R_elder' HO872.out (Kd.R_base ho0) hb)
   replace BK837 := Aside0.mk (blk_below BK837.out hb)
   replace BK838 := Aside0.mk (blk_below BK838.out hb)
   replace BK839 := Aside0.mk (blk_below BK839.out hb)
   replace BK840 := Aside0.mk (blk_below BK840.out hb)
   replace BK852 := Aside0.mk (blk_below BK852.out hb)
   replace BK861 := Aside0.mk (blk_below BK861.out hb)
   replace HB := Aside0.mk (below_step HB.out hb)
   (try clear hb)
   (try clear hb2)
   (try clear hk)
   (try clear hi)
   (try clear ho0)
   obtain ⟨Ao70, co70, eo70⟩ := Kd.R_slice HO880.out
   subst eo70
   refine hK.out _ _ ⟨bc0 BK837.out, bc1 BK837.out, bc0 BK852.out, bc1 BK852.out, bc0 BK838.out, bc1 BK838.out⟩ (fun hHeld => ?_)
   clear hK K
   refine norm_ (a' := ?_) ?_ ?_
   rotate_left
   ·show Act.put _ (some 56) _ = _
    simp only [Act.put, List.setIfInBounds_toArray, List.set_cons_zero, List.set_cons_succ, i64_w, i32_w]
    rfl
   refine one_ (i := 5) (N := none) #[true, true, true, true, true, true] rfl rfl (by kernel_rfl) (by decide) (fun K hK => ?_)
   have hs69 : w68.cell? ⟨gb861, 0, none⟩ = some (.bool t857) := bc0 BK861.out
   have hfs69 := blk_frozen BK861.out 0
   have hns69_0 := NB837_861.out
   have hns69_1 := NB838_861.out
   have hns69_2 := NB839_861.out
   have hns69_3 := NB840_861.out
   have hns69_4 := NB852_861.out
   have hms69_0 := NB861_837.out
   have hms69_1 := NB861_838.out
   have hms69_2 := NB861_839.out
   have hms69_3 := NB861_840.out
   have hms69_4 := NB861_852.out
   have hs71 : w68.cell? ⟨gb861, 1, none⟩ = some (.slice Ao45 t858.length co45) := bc1 BK861.out
   have hfs71 := blk_frozen BK861.out 1
   have hns71_0 := NB837_861.out
   have hns71_1 := NB838_861.out
   have hns71_2 := NB839_861.out
   have hns71_3 := NB840_861.out
   have hns71_4 := NB852_861.out
   have hms71_0 := NB861_837.out
   have hms71_1 := NB861_838.out
   have hms71_2 := NB861_839.out
   have hms71_3 := NB861_840.out
   have hms71_4 := NB861_852.out
   refine skip_ (w1 := ?_) (by rfl) rfl ?_ ?_
   rotate_left
   ·go_simp
    rfl
   refine hK.out _ _ ⟨((cell_far (p := ⟨gb861, _, none⟩) NB837_861.out _).trans (((cell_far (p := ⟨gb861, _, none⟩) NB837_861.out _).trans (hHeld.1)))), ((cell_far (p := ⟨gb861, _, none⟩) NB837_861.out _).trans (((cell_far (p := ⟨gb861, _, none⟩) NB837_861.out _).trans (hHeld.2.1)))), ((cell_far (p := ⟨gb861, _, none⟩) NB852_861.out _).trans (((cell_far (p := ⟨gb861, _, none⟩) NB852_861.out _).trans (hHeld.2.2.1)))), ((cell_far (p := ⟨gb861, _, none⟩) NB852_861.out _).trans (((cell_far (p := ⟨gb861, _, none⟩) NB852_861.out _).trans (hHeld.2.2.2.1)))), ((cell_far (p := ⟨gb861, _, none⟩) NB838_861.out _).trans (((cell_far (p := ⟨gb861, _, none⟩) NB838_861.out _).trans (hHeld.2.2.2.2.1)))), ((cell_far (p := ⟨gb861, _, none⟩) NB838_861.out _).trans (((cell_far (p := ⟨gb861, _, none⟩) NB838_861.out _).trans (hHeld.2.2.2.2.2))))⟩ (fun hHeld => ?_)
   clear hK K
   refine done_ (by kernel_rfl) ?_
   try go_wp2
   have n7_ : Aside0 (Kd.R (Kd.int .u32) 51 ((w68.setCell ⟨gb861, 0, none⟩ (.bool t877)).setCell ⟨gb861, 1, none⟩ (.slice Ao70 t878.length co70)) w.heap.size (fun k_ => some k_ ≠ (.slice Ao28 t841.length co28 : Value).ownBlock ∧ some k_ ≠ (v846 : Value).ownBlock ∧ some k_ ≠ (.slice Ao36 t849.length co36 : Value).ownBlock ∧ some k_ ≠ (v855 : Value).ownBlock ∧ some k_ ≠ (.slice Ao45 t858.length co45 : Value).ownBlock ∧ some k_ ≠ (.slice Ao57 y863.length co57 : Value).ownBlock ∧ some k_ ≠ (.slice Ao59 t866.length co59 : Value).ownBlock ∧ some k_ ≠ (.slice Ao67 t874.length co67 : Value).ownBlock ∧ some k_ ≠ (.slice Ao70 t878.length co70 : Value).ownBlock) (.slice Ao62 t870.length co62) t870) := ⟨Kd.R_mono (Kd.R_far (p := ⟨gb861, 1, none⟩) (Kd.R_far (p := ⟨gb861, 0, none⟩) (Kd.R_types HO872.out BK861.out (by decide)) (fun _ hk => hk.2) (.bool t877)) (fun _ hk => hk.2) (.slice Ao70 t878.length co70)) (fun _ hk => ⟨hk.1.1.1.1, ⟨hk.1.1.1.2.1, ⟨hk.1.1.1.2.2.1, ⟨hk.1.1.1.2.2.2.1, ⟨hk.1.1.1.2.2.2.2.1, ⟨hk.1.1.1.2.2.2.2.2.1, ⟨hk.1.1.1.2.2.2.2.2.2, ⟨hk.1.1.2, hk.1.2⟩⟩⟩⟩⟩⟩⟩⟩)⟩
   have n9_ : Aside0 (Kd.R (Kd.int .u32) 51 ((w68.setCell ⟨gb861, 0, none⟩ (.bool t877)).setCell ⟨gb861, 1, none⟩ (.slice Ao70 t878.length co70)) w.heap.size (fun k_ => some k_ ≠ (.slice Ao28 t841.length co28 : Value).ownBlock ∧ some k_ ≠ (v846 : Value).ownBlock ∧ some k_ ≠ (.slice Ao36 t849.length co36 : Value).ownBlock ∧ some k_ ≠ (v855 : Value).ownBlock ∧ some k_ ≠ (.slice Ao45 t858.length co45 : Value).ownBlock ∧ some k_ ≠ (.slice Ao57 y863.length co57 : Value).ownBlock ∧ some k_ ≠ (.slice Ao59 t866.length co59 : Value).ownBlock ∧ some k_ ≠ (.slice Ao62 t870.length co62 : Value).ownBlock ∧ some k_ ≠ (.slice Ao67 t874.length co67 : Value).ownBlock) (.slice Ao70 t878.length co70) t878) := ⟨Kd.R_mono (Kd.R_far (p := ⟨gb861, 1, none⟩) (Kd.R_far (p := ⟨gb861, 0, none⟩) (Kd.R_types HO880.out BK861.out (by decide)) (fun _ hk => hk.2) (.bool t877)) (fun _ hk => hk.2) (.slice Ao70 t878.length co70)) (fun _ hk => ⟨hk.1.1.1.1.1.1.1.1.1.2, ⟨hk.1.1.1.1.1.1.1.1.2, ⟨hk.1.1.1.1.1.1.1.2, ⟨hk.1.1.1.1.1.1.2, ⟨hk.1.1.1.1.1.2, ⟨hk.1.1.1.1.2, ⟨hk.1.1.1.2, ⟨hk.1.1.2, hk.1.2⟩⟩⟩⟩⟩⟩⟩⟩)⟩
   have n12_ : Aside0 (((w68.setCell ⟨gb861, 0, none⟩ (.bool t877)).setCell ⟨gb861, 1, none⟩ (.slice Ao70 t878.length co70)).heap[gb839]? = some (.cells #[.bool false, .slice none 0 0] 24 (0, 0))) := ⟨by refine blk_far ?_ NB839_861.out _; refine blk_far ?_ NB839_861.out _; exact BK839.out⟩
   have n13_ : Aside0 (((w68.setCell ⟨gb861, 0, none⟩ (.bool t877)).setCell ⟨gb861, 1, none⟩ (.slice Ao70 t878.length co70)).heap[gb840]? = some (.cells #[.bool false, .slice none 0 0] 24 (0, 0))) := ⟨by refine blk_far ?_ NB840_861.out _; refine blk_far ?_ NB840_861.out _; exact BK840.out⟩
   have n14_ : Aside0 (((w68.setCell ⟨gb861, 0, none⟩ (.bool t877)).setCell ⟨gb861, 1, none⟩ (.slice Ao70 t878.length co70)).heap[gb852]? = some (.cells #[.bool t869, .slice Ao62 t870.length co62] 24 (0, 0))) := ⟨by refine blk_far ?_ NB852_861.out _; refine blk_far ?_ NB852_861.out _; exact BK852.out⟩
   have n15_ : Aside0 (((w68.setCell ⟨gb861, 0, none⟩ (.bool t877)).setCell ⟨gb861, 1, none⟩ (.slice Ao70 t878.length co70)).heap[gb861]? = some (.cells #[.bool t877, .slice Ao70 t878.length co70] 24 (0, 0))) := ⟨by refine blk_put (cs := #[.bool t877, .slice Ao45 t858.length co45]) ?_ 1 _ rfl; refine blk_put (cs := #[.bool t857, .slice Ao45 t858.length co45]) ?_ 0 _ rfl; exact BK861.out⟩
   have n16_ : Aside0 (Below w.heap.size w ((w68.setCell ⟨gb861, 0, none⟩ (.bool t877)).setCell ⟨gb861, 1, none⟩ (.slice Ao70 t878.length co70))) := ⟨by repeat first | exact HB.out | refine bxSet ?_ (by assumption) | apply below_alloc | apply pw_below_drewN⟩
   (try clear HO872)
   (try clear HO880)
   (try clear BK839)
   (try clear BK840)
   (try clear BK852)
   (try clear BK861)
   (try clear HB)
   generalize ((w68.setCell ⟨gb861, 0, none⟩ (.bool t877)).setCell ⟨gb861, 1, none⟩ (.slice Ao70 t878.length co70)) = w72 at n7_ n9_ n12_ n13_ n14_ n15_ n16_ ⊢
   have HO872 := n7_
   have HO880 := n9_
   have BK839 := n12_
   have BK840 := n13_
   have BK852 := n14_
   have BK861 := n15_
   have HB := n16_
   clear n7_ n9_ n12_ n13_ n14_ n15_ n16_
   replace HO872 := Aside0.mk (Kd.R_drew HO872.out)
   replace HO880 := Aside0.mk (Kd.R_drew HO880.out)
   replace BK839 := Aside0.mk (blk_drew BK839.out)
   replace BK840 := Aside0.mk (blk_drew BK840.out)
   replace BK852 := Aside0.mk (blk_drew BK852.out)
   replace BK861 := Aside0.mk (blk_drew BK861.out)
   replace HB := Aside0.mk (below_drew1 HB.out)
   refine start_ (n := 5) (S := fun w' => w'.cell? ⟨gb852, 0, none⟩ = some (.bool t869) ∧ w'.cell? ⟨gb852, 1, none⟩ = some (.slice Ao62 t870.length co62) ∧ w'.cell? ⟨gb861, 0, none⟩ = some (.bool t877) ∧ w'.cell? ⟨gb861, 1, none⟩ = some (.slice Ao70 t878.length co70)) (ds := []) #[false, false, false, false, false] (by kernel_rfl) rfl rfl ⟨bc0 BK852.out, bc1 BK852.out, bc0 BK861.out, bc1 BK861.out⟩ (fun hHeld => ?_)
   generalize w72.drew = w73 at HO845 HO847 HO851 HO856 HO860 HO865 HO868 HO872 HO876 HO880 BK837 BK838 BK839 BK840 BK852 BK861 HB hHeld ⊢
   refine take_ (i := 0) (N := some 57) (v := ?_) (a' := ?_) #[true, false, false, false, false] rfl rfl (by kernel_rfl) (fun _ _ _ h => h) (Or.inl ⟨by rfl, ?_⟩) hHeld ?_ ?_
   rotate_left
   ·rintro w' ⟨s0, s1, s2, s3⟩
    go_simp
    with_reducible rfl
   rotate_left
   ·simp only [Act.put, List.setIfInBounds_toArray, List.set_cons_zero, List.set_cons_succ, i64_w, i32_w]
    rfl
   refine take_ (i := 1) (N := some 58) (v := ?_) (a' := ?_) #[true, true, false, false, false] rfl rfl (by kernel_rfl) (fun _ _ _ h => h) (Or.inl ⟨by rfl, ?_⟩) hHeld ?_ ?_
   rotate_left
   ·rintro w' ⟨s0, s1, s2, s3⟩
    go_simp
    with_reducible rfl
   rotate_left
   ·simp only [Act.put, List.setIfInBounds_toArray, List.set_cons_zero, List.set_cons_succ, i64_w, i32_w]
    rfl
   refine one_ (i := 2) (N := none) #[true, true, true, false, false] rfl rfl (by kernel_rfl) (by decide) (fun K hK => ?_)
   have hs74 : w73.cell? ⟨gb839, 0, none⟩ = some (.bool false) := bc0 BK839.out
   have hfs74 := blk_frozen BK839.out 0
   have hns74_0 := NB837_839.out
   have hns74_1 := NB838_839.out
   have hns74_3 := NB840_839.out
   have hns74_4 := NB852_839.out
   have hns74_5 := NB861_839.out
   have hms74_0 := NB839_837.out
   have hms74_1 := NB839_838.out
   have hms74_3 := NB839_840.out
   have hms74_4 := NB839_852.out
   have hms74_5 := NB839_861.out
   have hs75 : w73.cell? ⟨gb839, 1, none⟩ = some (.slice none 0 0) := bc1 BK839.out
   have hfs75 := blk_frozen BK839.out 1
   have hns75_0 := NB837_839.out
   have hns75_1 := NB838_839.out
   have hns75_3 := NB840_839.out
   have hns75_4 := NB852_839.out
   have hns75_5 := NB861_839.out
   have hms75_0 := NB839_837.out
   have hms75_1 := NB839_838.out
   have hms75_3 := NB839_840.out
   have hms75_4 := NB839_852.out
   have hms75_5 := NB839_861.out
   refine skip_ (w1 := ?_) (by rfl) rfl ?_ ?_
   rotate_left
   ·go_simp
    rfl
   refine hK.out _ _ ⟨((cell_far (p := ⟨gb839, _, none⟩) NB852_839.out _).trans (((cell_far (p := ⟨gb839, _, none⟩) NB852_839.out _).trans (hHeld.1)))), ((cell_far (p := ⟨gb839, _, none⟩) NB852_839.out _).trans (((cell_far (p := ⟨gb839, _, none⟩) NB852_839.out _).trans (hHeld.2.1)))), ((cell_far (p := ⟨gb839, _, none⟩) NB861_839.out _).trans (((cell_far (p := ⟨gb839, _, none⟩) NB861_839.out _).trans (hHeld.2.2.1)))), ((cell_far (p := ⟨gb839, _, none⟩) NB861_839.out _).trans (((cell_far (p := ⟨gb839, _, none⟩) NB861_839.out _).trans (hHeld.2.2.2))))⟩ (fun hHeld => ?_)
   clear hK K
   refine one_ (i := 3) (N := none) #[true, true, true, true, false] rfl rfl (by kernel_rfl) (by decide) (fun K hK => ?_)
   have hs76 : w73.cell? ⟨gb840, 0, none⟩ = some (.bool false) := bc0 BK840.out
   have hfs76 := blk_frozen BK840.out 0
   have hns76_0 := NB837_840.out
   have hns76_1 := NB838_840.out
   have hns76_2 := NB839_840.out
   have hns76_4 := NB852_840.out
   have hns76_5 := NB861_840.out
   have hms76_0 := NB840_837.out
   have hms76_1 := NB840_838.out
   have hms76_2 := NB840_839.out
   have hms76_4 := NB840_852.out
   have hms76_5 := NB840_861.out
   have hs77 : w73.cell? ⟨gb840, 1, none⟩ = some (.slice none 0 0) := bc1 BK840.out
   have hfs77 := blk_frozen BK840.out 1
   have hns77_0 := NB837_840.out
   have hns77_1 := NB838_840.out
   have hns77_2 := NB839_840.out
   have hns77_4 := NB852_840.out
   have hns77_5 := NB861_840.out
   have hms77_0 := NB840_837.out
   have hms77_1 := NB840_838.out
   have hms77_2 := NB840_839.out
   have hms77_4 := NB840_852.out
   have hms77_5 := NB840_861.out
   refine skip_ (w1 := ?_) (by rfl) rfl ?_ ?_
   rotate_left
   ·go_simp
    rfl
   refine hK.out _ _ ⟨((cell_far (p := ⟨gb840, _, none⟩) NB852_840.out _).trans (((cell_far (p := ⟨gb840, _, none⟩) NB852_840.out _).trans (hHeld.1)))), ((cell_far (p := ⟨gb840, _, none⟩) NB852_840.out _).trans (((cell_far (p := ⟨gb840, _, none⟩) NB852_840.out _).trans (hHeld.2.1)))), ((cell_far (p := ⟨gb840, _, none⟩) NB861_840.out _).trans (((cell_far (p := ⟨gb840, _, none⟩) NB861_840.out _).trans (hHeld.2.2.1)))), ((cell_far (p := ⟨gb840, _, none⟩) NB861_840.out _).trans (((cell_far (p := ⟨gb840, _, none⟩) NB861_840.out _).trans (hHeld.2.2.2))))⟩ (fun hHeld => ?_)
   clear hK K
   refine pure_ (i := 4) (N := some 6) (v := ?_) (a' := ?_) #[true, true, true, true, true] rfl rfl (by kernel_rfl) (fun _ _ _ h => h) (Or.inl ⟨by rfl, ?_⟩) ?_ ?_
   rotate_left
   ·intro w'
    go_simp
    with_reducible rfl
   rotate_left
   ·simp only [Act.put, List.setIfInBounds_toArray, List.set_cons_zero, List.set_cons_succ, i64_w, i32_w]
    rfl
   refine done_ (by kernel_rfl) ?_
   try go_wp2
   refine bodyPost_ret (results_list (rs := [.cell 4 24, .cell 5 24, .tmp 6]) rfl (by simp) (.cell gb839 24 #[.bool t869, .slice Ao62 t870.length co62] (0, 0) _ rfl (by refine blk_far ?_ NB839_840.out _; refine blk_far ?_ NB839_840.out _; refine blk_put (cs := #[.bool t869, .slice none 0 0]) ?_ 1 _ rfl; refine blk_put (cs := #[.bool false, .slice none 0 0]) ?_ 0 _ rfl; exact BK839.out) Tryd.underlying24 rfl (by kernel_rfl) (.cell gb840 24 #[.bool t877, .slice Ao70 t878.length co70] (0, 0) _ rfl (by refine blk_put (cs := #[.bool t877, .slice none 0 0]) ?_ 1 _ rfl; refine blk_put (cs := #[.bool false, .slice none 0 0]) ?_ 0 _ rfl; refine blk_far ?_ NB840_839.out _; refine blk_far ?_ NB840_839.out _; exact BK840.out) Tryd.underlying24 rfl (by kernel_rfl) (.tmp .nil)))) rfl ?_
   exact ⟨_, _, rfl, Kd.R_mono (Kd.R_far (p := ⟨gb840, 1, none⟩) (Kd.R_far (p := ⟨gb840, 0, none⟩) (Kd.R_far (p := ⟨gb839, 1, none⟩) (Kd.R_far (p := ⟨gb839, 0, none⟩) (Kd.R_types (Kd.R_types HO872.out BK839.out (by decide)) BK840.out (by decide)) (fun _ hk => hk.1.2) (.bool t869)) (fun _ hk => hk.1.2) (.slice Ao62 t870.length co62)) (fun _ hk => hk.2) (.bool t877)) (fun _ hk => hk.2) (.slice Ao70 t878.length co70)) (fun _ hk => hk.1.1.2.2.2.2.2.2.2.2), Kd.R_mono (Kd.R_far (p := ⟨gb840, 1, none⟩) (Kd.R_far (p := ⟨gb840, 0, none⟩) (Kd.R_far (p := ⟨gb839, 1, none⟩) (Kd.R_far (p := ⟨gb839, 0, none⟩) (Kd.R_types (Kd.R_types HO880.out BK839.out (by decide)) BK840.out (by decide)) (fun _ hk => hk.1.2) (.bool t869)) (fun _ hk => hk.1.2) (.slice Ao62 t870.length co62)) (fun _ hk => hk.2) (.bool t877)) (fun _ hk => hk.2) (.slice Ao70 t878.length co70)) (fun _ hk => hk.1.1.2.2.2.2.2.2.2.1), by repeat first | exact HB.out | refine bxSet ?_ (by assumption) | apply below_alloc | apply pw_below_drewN⟩
  ·rw [if_neg c9] at H
   have c9b0 : decide (t862 < 0) = false := decide_eq_false c9
   clear c9
   simp only [Option.some.injEq, Prod.mk.injEq] at H
   obtain ⟨rfl, rfl, rfl, rfl, rfl⟩ := H
   go_enter Tryd.func12, Tryd.ntmps12
   try go_wp2_with (first | ((with_reducible refine gate_dst (N := 2) rfl ?_); refine box_event ?hg (N := 2) ?hd (cs := #[.bool a0_0, .slice A0_1 l0_1.length c0_1]) (t := 24) ?hr ?_; (case hd => rfl); (case hg => rfl); (case hr => first | (go_simp; done) | (go_simp; rfl)); intro gb837 hg w78 hbox hb; have BK837 := Aside0.mk (hbox); have GW837 := Aside0.mk (bxLe HB.out hg); have GE837 := GW837; replace HB := Aside0.mk (below_step HB.out hb); clear hb hbox hg) | ((with_reducible refine gate_dst (N := 3) rfl ?_); refine box_event ?hg (N := 3) ?hd (cs := #[.bool a1_0, .slice A1_1 l1_1.length c1_1]) (t := 24) ?hr ?_; (case hd => rfl); (case hg => rfl); (case hr => first | (go_simp; done) | (go_simp; rfl)); intro gb838 hg w79 hbox hb; have BK838 := Aside0.mk (hbox); have GW838 := Aside0.mk (bxLe HB.out hg); have GE838 := GW838; replace HB := Aside0.mk (below_step HB.out hb); have NB837_838 := Aside0.mk (neL BK837.out hg); have NB838_837 := Aside0.mk (neR BK837.out hg); replace BK837 := Aside0.mk (blk_below BK837.out hb); clear hb hbox hg) | ((with_reducible refine gate_dst (N := 4) rfl ?_); refine box_event ?hg (N := 4) ?hd (cs := #[.bool false, .slice none 0 0]) (t := 24) ?hr ?_; (case hd => rfl); (case hg => rfl); (case hr => first | (go_simp; done) | (go_simp; rfl)); intro gb839 hg w80 hbox hb; have BK839 := Aside0.mk (hbox); have GW839 := Aside0.mk (bxLe HB.out hg); have GE839 := GW839; replace HB := Aside0.mk (below_step HB.out hb); have NB837_839 := Aside0.mk (neL BK837.out hg); have NB839_837 := Aside0.mk (neR BK837.out hg); replace BK837 := Aside0.mk (blk_below BK837.out hb); have NB838_839 := Aside0.mk (neL BK838.out hg); have NB839_838 := Aside0.mk (neR BK838.out hg); replace BK838 := Aside0.mk (blk_below BK838.out hb); clear hb hbox hg) | ((with_reducible refine gate_dst (N := 5) rfl ?_); refine box_event ?hg (N := 5) ?hd (cs := #[.bool false, .slice none 0 0]) (t := 24) ?hr ?_; (case hd => rfl); (case hg => rfl); (case hr => first | (go_simp; done) | (go_simp; rfl)); intro gb840 hg w81 hbox hb; have BK840 := Aside0.mk (hbox); have GW840 := Aside0.mk (bxLe HB.out hg); have GE840 := GW840; replace HB := Aside0.mk (below_step HB.out hb); have NB837_840 := Aside0.mk (neL BK837.out hg); have NB840_837 := Aside0.mk (neR BK837.out hg); replace BK837 := Aside0.mk (blk_below BK837.out hb); have NB838_840 := Aside0.mk (neL BK838.out hg); have NB840_838 := Aside0.mk (neR BK838.out hg); replace BK838 := Aside0.mk (blk_below BK838.out hb); have NB839_840 := Aside0.mk (neL BK839.out hg); have NB840_839 := Aside0.mk (neR BK839.out hg); replace BK839 := Aside0.mk (blk_below BK839.out hb); clear hb hbox hg; have hnb82 := NB837_838.out; have hnc82 := NB838_837.out; have hnb83 := NB837_839.out; have hnc83 := NB839_837.out; have hnb84 := NB837_840.out; have hnc84 := NB840_837.out; have hcz85_0 : w81.cell? ⟨gb837, 0, none⟩ = some (.bool a0_0) := bc0 BK837.out; have hcz85_1 : w81.cell? ⟨gb837, 1, none⟩ = some (.slice A0_1 l0_1.length c0_1) := bc1 BK837.out; have hfz85_0 := blk_frozen BK837.out 0; have hfz85_1 := blk_frozen BK837.out 1; have hnb86 := NB838_839.out; have hnc86 := NB839_838.out; have hnb87 := NB838_840.out; have hnc87 := NB840_838.out; have hcz88_0 : w81.cell? ⟨gb838, 0, none⟩ = some (.bool a1_0) := bc0 BK838.out; have hcz88_1 : w81.cell? ⟨gb838, 1, none⟩ = some (.slice A1_1 l1_1.length c1_1) := bc1 BK838.out; have hfz88_0 := blk_frozen BK838.out 0; have hfz88_1 := blk_frozen BK838.out 1) | ((with_reducible refine gate_callee (f := 43) rfl ?_); refine goL (some 17) Tryd.func43 [.slice A0_1 l0_1.length c0_1, .slice A1_1 l1_1.length c1_1] ?_; (with_reducible refine (gudgeonref01_DivMod.calls k _ _ l0_1 _ _ l1_1 t841 t842 t843 _ ?side1 ?side2 ?side3 ?side4 A3.out).mono ?_); (case side1 => exact (Kd.C_below HR0_1.out HB.out)); (case side2 => exact HC0_1.out); (case side3 => exact (Kd.C_below HR1_1.out HB.out)); (case side4 => exact HC1_1.out); rintro e w89 ⟨v844, v846, rfl, ho0, ho1, hb⟩; refine ⟨_, rfl, ?_⟩; have HO845 := Aside0.mk (Kd.R_lower ho0 (below_size HB.out)); have HO847 := Aside0.mk (Kd.R_lower ho1 (below_size HB.out)); replace BK837 := Aside0.mk (blk_below BK837.out hb); replace BK838 := Aside0.mk (blk_below BK838.out hb); replace BK839 := Aside0.mk (blk_below BK839.out hb); replace BK840 := Aside0.mk (blk_below BK840.out hb); replace HB := Aside0.mk (below_step HB.out hb); (try clear ho1); have hcz90_0 : w89.cell? ⟨gb837, 0, none⟩ = some (.bool a0_0) := bc0 BK837.out; have hcz90_1 : w89.cell? ⟨gb837, 1, none⟩ = some (.slice A0_1 l0_1.length c0_1) := bc1 BK837.out; have hfz90_0 := blk_frozen BK837.out 0; have hfz90_1 := blk_frozen BK837.out 1; have hcz91_0 : w89.cell? ⟨gb838, 0, none⟩ = some (.bool a1_0) := bc0 BK838.out; have hcz91_1 : w89.cell? ⟨gb838, 1, none⟩ = some (.slice A1_1 l1_1.length c1_1) := bc1 BK838.out; have hfz91_0 := blk_frozen BK838.out 0; have hfz91_1 := blk_frozen BK838.out 1; obtain ⟨Ao92, co92, eo92⟩ := Kd.R_slice HO845.out; subst eo92) | ((with_reducible refine gate_callee (f := 17) rfl ?_); refine goL (some 33) Tryd.func17 [.agg #[.bool (a0_0 != a1_0), .slice Ao92 t841.length co92]] ?_; (with_reducible refine (gudgeonref02_Norm.calls k (a0_0 != a1_0) _ _ t841 t848 t849 _ ?side1 ?side2 A5.out).mono ?_); (case side1 => exact (Kd.R_reads' HO845.out).2.2); (case side2 => exact (Kd.R_reads' HO845.out).2.1); rintro e w93 ⟨v850, rfl, ho0, hb⟩; refine ⟨_, rfl, ?_⟩; have HO851 := Aside0.mk (Kd.R_lower (Kd.R_new' (Kd.R_new' ho0 (Kd.R_lt HO845.out)) (Kd.R_lt HO847.out)) (below_size HB.out)); replace HO845 := Aside0.mk (Kd.R_elder' HO845.out (Kd.R_base ho0) hb); replace HO847 := Aside0.mk (Kd.R_elder' HO847.out (Kd.R_base ho0) hb); replace BK837 := Aside0.mk (blk_below BK837.out hb); replace BK838 := Aside0.mk (blk_below BK838.out hb); replace BK839 := Aside0.mk (blk_below BK839.out hb); replace BK840 := Aside0.mk (blk_below BK840.out hb); replace HB := Aside0.mk (below_step HB.out hb)) | ((with_reducible refine gate_dst (N := 10) rfl ?_); refine box_event ?hg (N := 10) ?hd (cs := #[.bool false, .slice none 0 0]) (t := 24) ?hr ?_; (case hd => rfl); (case hg => rfl); (case hr => first | (go_simp; done) | (go_simp; rfl)); intro gb852 hg w94 hbox hb; replace HO845 := Aside0.mk (Kd.R_below HO845.out hb); replace HO847 := Aside0.mk (Kd.R_below HO847.out hb); replace HO851 := Aside0.mk (Kd.R_below HO851.out hb); have BK852 := Aside0.mk (hbox); have GW852 := Aside0.mk (bxLe HB.out hg); have GE852 := GW852; replace HB := Aside0.mk (below_step HB.out hb); have NB837_852 := Aside0.mk (neL BK837.out hg); have NB852_837 := Aside0.mk (neR BK837.out hg); replace BK837 := Aside0.mk (blk_below BK837.out hb); have NB838_852 := Aside0.mk (neL BK838.out hg); have NB852_838 := Aside0.mk (neR BK838.out hg); replace BK838 := Aside0.mk (blk_below BK838.out hb); have NB839_852 := Aside0.mk (neL BK839.out hg); have NB852_839 := Aside0.mk (neR BK839.out hg); replace BK839 := Aside0.mk (blk_below BK839.out hb); have NB840_852 := Aside0.mk (neL BK840.out hg); have NB852_840 := Aside0.mk (neR BK840.out hg); replace BK840 := Aside0.mk (blk_below BK840.out hb); clear hb hbox hg; have hnb95 := NB852_837.out; have hnc95 := NB837_852.out; have hnb96 := NB852_838.out; have hnc96 := NB838_852.out; have hnb97 := NB852_839.out; have hnc97 := NB839_852.out; have hnb98 := NB852_840.out; have hnc98 := NB840_852.out; have hcz99_0 : w94.cell? ⟨gb852, 0, none⟩ = some (.bool false) := bc0 BK852.out; have hcz99_1 : w94.cell? ⟨gb852, 1, none⟩ = some (.slice none 0 0) := bc1 BK852.out; have hfz99_0 := blk_frozen BK852.out 0; have hfz99_1 := blk_frozen BK852.out 1; obtain ⟨Ao100, co100, eo100⟩ := Kd.R_slice HO851.out; subst eo100))
   have n0_ : Aside0 (Kd.R (Kd.int .u32) 51 ((w94.setCell ⟨gb852, 0, none⟩ (.bool t848)).setCell ⟨gb852, 1, none⟩ (.slice Ao100 t849.length co100)) w.heap.size (fun k_ => some k_ ≠ (v846 : Value).ownBlock ∧ some k_ ≠ (.slice Ao100 t849.length co100 : Value).ownBlock) (.slice Ao92 t841.length co92) t841) := ⟨Kd.R_mono (Kd.R_far (p := ⟨gb852, 1, none⟩) (Kd.R_far (p := ⟨gb852, 0, none⟩) (Kd.R_types HO845.out BK852.out (by decide)) (fun _ hk => hk.2) (.bool t848)) (fun _ hk => hk.2) (.slice Ao100 t849.length co100)) (fun _ hk => ⟨hk.1.1, hk.1.2⟩)⟩
   have n1_ : Aside0 (Kd.R (Kd.int .u32) 51 ((w94.setCell ⟨gb852, 0, none⟩ (.bool t848)).setCell ⟨gb852, 1, none⟩ (.slice Ao100 t849.length co100)) w.heap.size (fun k_ => some k_ ≠ (.slice Ao92 t841.length co92 : Value).ownBlock ∧ some k_ ≠ (.slice Ao100 t849.length co100 : Value).ownBlock) v846 t842) := ⟨Kd.R_mono (Kd.R_far (p := ⟨gb852, 1, none⟩) (Kd.R_far (p := ⟨gb852, 0, none⟩) (Kd.R_types HO847.out BK852.out (by decide)) (fun _ hk => hk.2) (.bool t848)) (fun _ hk => hk.2) (.slice Ao100 t849.length co100)) (fun _ hk => ⟨hk.1.1, hk.1.2⟩)⟩
   have n2_ : Aside0 (Kd.R (Kd.int .u32) 51 ((w94.setCell ⟨gb852, 0, none⟩ (.bool t848)).setCell ⟨gb852, 1, none⟩ (.slice Ao100 t849.length co100)) w.heap.size (fun k_ => some k_ ≠ (.slice Ao92 t841.length co92 : Value).ownBlock ∧ some k_ ≠ (v846 : Value).ownBlock) (.slice Ao100 t849.length co100) t849) := ⟨Kd.R_mono (Kd.R_far (p := ⟨gb852, 1, none⟩) (Kd.R_far (p := ⟨gb852, 0, none⟩) (Kd.R_types HO851.out BK852.out (by decide)) (fun _ hk => hk.2) (.bool t848)) (fun _ hk => hk.2) (.slice Ao100 t849.length co100)) (fun _ hk => ⟨hk.1.1.2, hk.1.2⟩)⟩
   have n3_ : Aside0 (((w94.setCell ⟨gb852, 0, none⟩ (.bool t848)).setCell ⟨gb852, 1, none⟩ (.slice Ao100 t849.length co100)).heap[gb837]? = some (.cells #[.bool a0_0, .slice A0_1 l0_1.length c0_1] 24 (0, 0))) := ⟨by refine blk_far ?_ NB837_852.out _; refine blk_far ?_ NB837_852.out _; exact BK837.out⟩
   have n4_ : Aside0 (((w94.setCell ⟨gb852, 0, none⟩ (.bool t848)).setCell ⟨gb852, 1, none⟩ (.slice Ao100 t849.length co100)).heap[gb838]? = some (.cells #[.bool a1_0, .slice A1_1 l1_1.length c1_1] 24 (0, 0))) := ⟨by refine blk_far ?_ NB838_852.out _; refine blk_far ?_ NB838_852.out _; exact BK838.out⟩
   have n5_ : Aside0 (((w94.setCell ⟨gb852, 0, none⟩ (.bool t848)).setCell ⟨gb852, 1, none⟩ (.slice Ao100 t849.length co100)).heap[gb839]? = some (.cells #[.bool false, .slice none 0 0] 24 (0, 0))) := ⟨by refine blk_far ?_ NB839_852.out _; refine blk_far ?_ NB839_852.out _; exact BK839.out⟩
   have n6_ : Aside0 (((w94.setCell ⟨gb852, 0, none⟩ (.bool t848)).setCell ⟨gb852, 1, none⟩ (.slice Ao100 t849.length co100)).heap[gb840]? = some (.cells #[.bool false, .slice none 0 0] 24 (0, 0))) := ⟨by refine blk_far ?_ NB840_852.out _; refine blk_far ?_ NB840_852.out _; exact BK840.out⟩
   have n7_ : Aside0 (((w94.setCell ⟨gb852, 0, none⟩ (.bool t848)).setCell ⟨gb852, 1, none⟩ (.slice Ao100 t849.length co100)).heap[gb852]? = some (.cells #[.bool t848, .slice Ao100 t849.length co100] 24 (0, 0))) := ⟨by refine blk_put (cs := #[.bool t848, .slice none 0 0]) ?_ 1 _ rfl; refine blk_put (cs := #[.bool false, .slice none 0 0]) ?_ 0 _ rfl; exact BK852.out⟩
   have n8_ : Aside0 (Below w.heap.size w ((w94.setCell ⟨gb852, 0, none⟩ (.bool t848)).setCell ⟨gb852, 1, none⟩ (.slice Ao100 t849.length co100))) := ⟨by repeat first | exact HB.out | refine bxSet ?_ (by assumption) | apply below_alloc | apply pw_below_drewN⟩
   (try clear HO845)
   (try clear HO847)
   (try clear HO851)
   (try clear BK837)
   (try clear BK838)
   (try clear BK839)
   (try clear BK840)
   (try clear BK852)
   (try clear HB)
   generalize ((w94.setCell ⟨gb852, 0, none⟩ (.bool t848)).setCell ⟨gb852, 1, none⟩ (.slice Ao100 t849.length co100)) = w101 at n0_ n1_ n2_ n3_ n4_ n5_ n6_ n7_ n8_ ⊢
   have HO845 := n0_
   have HO847 := n1_
   have HO851 := n2_
   have BK837 := n3_
   have BK838 := n4_
   have BK839 := n5_
   have BK840 := n6_
   have BK852 := n7_
   have HB := n8_
   clear n0_ n1_ n2_ n3_ n4_ n5_ n6_ n7_ n8_
   replace HO845 := Aside0.mk (Kd.R_drew HO845.out)
   replace HO847 := Aside0.mk (Kd.R_drew HO847.out)
   replace HO851 := Aside0.mk (Kd.R_drew HO851.out)
   replace BK837 := Aside0.mk (blk_drew BK837.out)
   replace BK838 := Aside0.mk (blk_drew BK838.out)
   replace BK839 := Aside0.mk (blk_drew BK839.out)
   replace BK840 := Aside0.mk (blk_drew BK840.out)
   replace BK852 := Aside0.mk (blk_drew BK852.out)
   replace HB := Aside0.mk (below_drew1 HB.out)
   refine start_ (n := 7) (S := fun w' => w'.cell? ⟨gb837, 0, none⟩ = some (.bool a0_0) ∧ w'.cell? ⟨gb837, 1, none⟩ = some (.slice A0_1 l0_1.length c0_1) ∧ w'.cell? ⟨gb852, 0, none⟩ = some (.bool t848) ∧ w'.cell? ⟨gb852, 1, none⟩ = some (.slice Ao100 t849.length co100) ∧ w'.cell? ⟨gb838, 0, none⟩ = some (.bool a1_0) ∧ w'.cell? ⟨gb838, 1, none⟩ = some (.slice A1_1 l1_1.length c1_1)) (ds := []) #[false, false, false, false, false, false, false] (by kernel_rfl) rfl rfl ⟨bc0 BK837.out, bc1 BK837.out, bc0 BK852.out, bc1 BK852.out, bc0 BK838.out, bc1 BK838.out⟩ (fun hHeld => ?_)
   generalize w101.drew = w102 at HO845 HO847 HO851 BK837 BK838 BK839 BK840 BK852 HB hHeld ⊢
   refine take_ (i := 0) (N := some 34) (v := ?_) (a' := ?_) #[true, false, false, false, false, false, false] rfl rfl (by kernel_rfl) (fun _ _ _ h => h) (Or.inl ⟨by rfl, ?_⟩) hHeld ?_ ?_
   rotate_left
   ·rintro w' ⟨s0, s1, s2, s3, s4, s5⟩
    go_simp
    with_reducible rfl
   rotate_left
   ·simp only [Act.put, List.setIfInBounds_toArray, List.set_cons_zero, List.set_cons_succ, i64_w, i32_w]
    rfl
   refine take_ (i := 1) (N := some 35) (v := ?_) (a' := ?_) #[true, true, false, false, false, false, false] rfl rfl (by kernel_rfl) (fun _ _ _ h => h) (Or.inl ⟨by rfl, ?_⟩) hHeld ?_ ?_
   rotate_left
   ·rintro w' ⟨s0, s1, s2, s3, s4, s5⟩
    go_simp
    with_reducible rfl
   rotate_left
   ·simp only [Act.put, List.setIfInBounds_toArray, List.set_cons_zero, List.set_cons_succ, i64_w, i32_w]
    rfl
   refine take_ (i := 2) (N := some 36) (v := ?_) (a' := ?_) #[true, true, true, false, false, false, false] rfl rfl (by kernel_rfl) (fun _ _ _ h => h) (Or.inl ⟨by rfl, ?_⟩) hHeld ?_ ?_
   rotate_left
   ·rintro w' ⟨s0, s1, s2, s3, s4, s5⟩
    go_simp
    with_reducible rfl
   rotate_left
   ·simp only [Act.put, List.setIfInBounds_toArray, List.set_cons_zero, List.set_cons_succ, i64_w, i32_w]
    rfl
   refine join_ (σ := Value × Value × Nat) 1 #[true, true, true, true, true, true, false] (fun s_ => [(37, .agg #[.bool t853, s_.1]), (38, .agg #[.bool t857, s_.2.1]), (11, .pointer (some ⟨s_.2.2, 0, none⟩))]) (fun s_ w' => (w'.cell? ⟨gb837, 0, none⟩ = some (.bool a0_0) ∧ w'.cell? ⟨gb837, 1, none⟩ = some (.slice A0_1 l0_1.length c0_1) ∧ w'.cell? ⟨gb852, 0, none⟩ = some (.bool t848) ∧ w'.cell? ⟨gb852, 1, none⟩ = some (.slice Ao100 t849.length co100) ∧ w'.cell? ⟨gb838, 0, none⟩ = some (.bool a1_0) ∧ w'.cell? ⟨gb838, 1, none⟩ = some (.slice A1_1 l1_1.length c1_1)) ∧ (Kd.R (Kd.int .u32) 51 w' w.heap.size (fun k_ => some k_ ≠ (v846 : Value).ownBlock ∧ some k_ ≠ (.slice Ao100 t849.length co100 : Value).ownBlock ∧ some k_ ≠ (s_.1 : Value).ownBlock ∧ some k_ ≠ (s_.2.1 : Value).ownBlock) (.slice Ao92 t841.length co92) t841) ∧ (Kd.R (Kd.int .u32) 51 w' w.heap.size (fun k_ => some k_ ≠ (.slice Ao92 t841.length co92 : Value).ownBlock ∧ some k_ ≠ (.slice Ao100 t849.length co100 : Value).ownBlock ∧ some k_ ≠ (s_.1 : Value).ownBlock ∧ some k_ ≠ (s_.2.1 : Value).ownBlock) v846 t842) ∧ (Kd.R (Kd.int .u32) 51 w' w.heap.size (fun k_ => some k_ ≠ (.slice Ao92 t841.length co92 : Value).ownBlock ∧ some k_ ≠ (v846 : Value).ownBlock ∧ some k_ ≠ (s_.1 : Value).ownBlock ∧ some k_ ≠ (s_.2.1 : Value).ownBlock) (.slice Ao100 t849.length co100) t849) ∧ (Kd.R (Kd.int .u32) 51 w' w.heap.size (fun k_ => some k_ ≠ (.slice Ao92 t841.length co92 : Value).ownBlock ∧ some k_ ≠ (v846 : Value).ownBlock ∧ some k_ ≠ (.slice Ao100 t849.length co100 : Value).ownBlock ∧ some k_ ≠ (s_.2.1 : Value).ownBlock) s_.1 t854) ∧ (Kd.R (Kd.int .u32) 51 w' w.heap.size (fun k_ => some k_ ≠ (.slice Ao92 t841.length co92 : Value).ownBlock ∧ some k_ ≠ (v846 : Value).ownBlock ∧ some k_ ≠ (.slice Ao100 t849.length co100 : Value).ownBlock ∧ some k_ ≠ (s_.1 : Value).ownBlock) s_.2.1 t858) ∧ (w'.heap[gb837]? = some (.cells #[.bool a0_0, .slice A0_1 l0_1.length c0_1] 24 (0, 0))) ∧ (w'.heap[gb838]? = some (.cells #[.bool a1_0, .slice A1_1 l1_1.length c1_1] 24 (0, 0))) ∧ (w'.heap[gb839]? = some (.cells #[.bool false, .slice none 0 0] 24 (0, 0))) ∧ (w'.heap[gb840]? = some (.cells #[.bool false, .slice none 0 0] 24 (0, 0))) ∧ (w'.heap[gb852]? = some (.cells #[.bool t848, .slice Ao100 t849.length co100] 24 (0, 0))) ∧ (w'.heap[s_.2.2]? = some (.cells #[.bool false, .slice none 0 0] 24 (0, 0))) ∧ (w.heap.size ≤ s_.2.2) ∧ (w.heap.size ≤ s_.2.2) ∧ (gb837 ≠ s_.2.2) ∧ (s_.2.2 ≠ gb837) ∧ (gb838 ≠ s_.2.2) ∧ (s_.2.2 ≠ gb838) ∧ (gb839 ≠ s_.2.2) ∧ (s_.2.2 ≠ gb839) ∧ (gb840 ≠ s_.2.2) ∧ (s_.2.2 ≠ gb840) ∧ (gb852 ≠ s_.2.2) ∧ (s_.2.2 ≠ gb852) ∧ (Below w.heap.size w w')) ?_ ?_
   rotate_left
   ·intro hCont
    refine two_ (i := 3) (j := 5) (Ni := some 37) (Nj := some 11) #[true, true, true, true, false, false, false] #[true, true, true, false, false, true, false] rfl rfl rfl rfl (by kernel_rfl) (by decide) (by decide) (fun K hK => ?_) (fun K hK => ?_)
    ·skip
     refine goR Tryd.func25 [.agg #[.bool t848, .slice Ao100 t849.length co100], .agg #[.bool a1_0, .slice A1_1 l1_1.length c1_1]] ?_
     with_reducible refine (gudgeonref02_Mul.calls k t848 _ _ t849 a1_0 _ _ l1_1 t853 t854 _ ?side1 ?side2 ?side3 ?side4 A6.out).mono ?_
     (case side1 => exact (Kd.R_reads' HO851.out).2.2)
     (case side2 => exact (Kd.R_reads' HO851.out).2.1)
     (case side3 => exact (Kd.C_below HR1_1.out HB.out))
     (case side4 => exact HC1_1.out)
     rintro e w103 ⟨v855, rfl, ho0, hb⟩
     refine ⟨_, rfl, ?_⟩
     have HO856 := Aside0.mk (Kd.R_lower (Kd.R_new' (Kd.R_new' (Kd.R_new' ho0 (Kd.R_lt HO845.out)) (Kd.R_lt HO847.out)) (Kd.R_lt HO851.out)) (below_size HB.out))
     replace HO845 := Aside0.mk (Kd.R_elder' HO845.out (Kd.R_base ho0) hb)
     replace HO847 := Aside0.mk (Kd.R_elder' HO847.out (Kd.R_base ho0) hb)
     replace HO851 := Aside0.mk (Kd.R_elder' HO851.out (Kd.R_base ho0) hb)
     replace BK837 := Aside0.mk (blk_below BK837.out hb)
     replace BK838 := Aside0.mk (blk_below BK838.out hb)
     replace BK839 := Aside0.mk (blk_below BK839.out hb)
     replace BK840 := Aside0.mk (blk_below BK840.out hb)
     replace BK852 := Aside0.mk (blk_below BK852.out hb)
     replace HB := Aside0.mk (below_step HB.out hb)
     (try clear hb)
     (try clear hb2)
     (try clear hk)
     (try clear hi)
     (try clear ho0)
     obtain ⟨Ao104, co104, eo104⟩ := Kd.R_slice HO856.out
     subst eo104
     refine hK.out _ _ ⟨bc0 BK837.out, bc1 BK837.out, bc0 BK852.out, bc1 BK852.out, bc0 BK838.out, bc1 BK838.out⟩ (fun hHeld => ?_)
     clear hK K
     refine norm_ (a' := ?_) ?_ ?_
     rotate_left
     ·show Act.put _ (some 37) _ = _
      simp only [Act.put, List.setIfInBounds_toArray, List.set_cons_zero, List.set_cons_succ, i64_w, i32_w]
      rfl
     refine two_ (i := 4) (j := 5) (Ni := some 38) (Nj := some 11) #[true, true, true, true, true, false, false] #[true, true, true, true, false, true, false] rfl rfl rfl rfl (by kernel_rfl) (by decide) (by decide) (fun K hK => ?_) (fun K hK => ?_)
     ·skip
      refine goR Tryd.func23 [.agg #[.bool a0_0, .slice A0_1 l0_1.length c0_1], .agg #[.bool t853, .slice Ao104 t854.length co104]] ?_
      with_reducible refine (gudgeonref02_Sub.calls k a0_0 _ _ l0_1 t853 _ _ t854 t857 t858 _ ?side1 ?side2 ?side3 ?side4 A7.out).mono ?_
      (case side1 => exact (Kd.C_below HR0_1.out HB.out))
      (case side2 => exact HC0_1.out)
      (case side3 => exact (Kd.R_reads' HO856.out).2.2)
      (case side4 => exact (Kd.R_reads' HO856.out).2.1)
      rintro e w105 ⟨v859, rfl, ho0, hb⟩
      refine ⟨_, rfl, ?_⟩
      have HO860 := Aside0.mk (Kd.R_lower (Kd.R_new' (Kd.R_new' (Kd.R_new' (Kd.R_new' ho0 (Kd.R_lt HO845.out)) (Kd.R_lt HO847.out)) (Kd.R_lt HO851.out)) (Kd.R_lt HO856.out)) (below_size HB.out))
      replace HO845 := Aside0.mk (Kd.R_elder' HO845.out (Kd.R_base ho0) hb)
      replace HO847 := Aside0.mk (Kd.R_elder' HO847.out (Kd.R_base ho0) hb)
      replace HO851 := Aside0.mk (Kd.R_elder' HO851.out (Kd.R_base ho0) hb)
      replace HO856 := Aside0.mk (Kd.R_elder' HO856.out (Kd.R_base ho0) hb)
      replace BK837 := Aside0.mk (blk_below BK837.out hb)
      replace BK838 := Aside0.mk (blk_below BK838.out hb)
      replace BK839 := Aside0.mk (blk_below BK839.out hb)
      replace BK840 := Aside0.mk (blk_below BK840.out hb)
      replace BK852 := Aside0.mk (blk_below BK852.out hb)
      replace HB := Aside0.mk (below_step HB.out hb)
      (try clear hb)
      (try clear hb2)
      (try clear hk)
      (try clear hi)
      (try clear ho0)
      refine hK.out _ _ ⟨bc0 BK837.out, bc1 BK837.out, bc0 BK852.out, bc1 BK852.out, bc0 BK838.out, bc1 BK838.out⟩ (fun hHeld => ?_)
      clear hK K
      refine norm_ (a' := ?_) ?_ ?_
      rotate_left
      ·show Act.put _ (some 38) _ = _
       simp only [Act.put, List.setIfInBounds_toArray, List.set_cons_zero, List.set_cons_succ, i64_w, i32_w]
       rfl
      refine one_ (i := 5) (N := some 11) #[true, true, true, true, true, true, false] rfl rfl (by kernel_rfl) (by decide) (fun K hK => ?_)
      refine box_step ?hg (N := 11) ?hd (cs := #[.bool false, .slice none 0 0]) (t := 24) ?hr ?_; (case hd => rfl); (case hg => rfl); (case hr => first | (go_simp; done) | (go_simp; rfl))
      intro gb861 hg w106 hbox hb
      replace HO845 := Aside0.mk (Kd.R_below HO845.out hb)
      replace HO847 := Aside0.mk (Kd.R_below HO847.out hb)
      replace HO851 := Aside0.mk (Kd.R_below HO851.out hb)
      replace HO856 := Aside0.mk (Kd.R_below HO856.out hb)
      replace HO860 := Aside0.mk (Kd.R_below HO860.out hb)
      have BK861 := Aside0.mk (hbox)
      have GW861 := Aside0.mk (bxLe HB.out hg)
      have GE861 := GW861
      replace HB := Aside0.mk (below_step HB.out hb)
      have NB837_861 := Aside0.mk (neL BK837.out hg)
      have NB861_837 := Aside0.mk (neR BK837.out hg)
      replace BK837 := Aside0.mk (blk_below BK837.out hb)
      have NB838_861 := Aside0.mk (neL BK838.out hg)
      have NB861_838 := Aside0.mk (neR BK838.out hg)
      replace BK838 := Aside0.mk (blk_below BK838.out hb)
      have NB839_861 := Aside0.mk (neL BK839.out hg)
      have NB861_839 := Aside0.mk (neR BK839.out hg)
      replace BK839 := Aside0.mk (blk_below BK839.out hb)
      have NB840_861 := Aside0.mk (neL BK840.out hg)
      have NB861_840 := Aside0.mk (neR BK840.out hg)
      replace BK840 := Aside0.mk (blk_below BK840.out hb)
      have NB852_861 := Aside0.mk (neL BK852.out hg)
      have NB861_852 := Aside0.mk (neR BK852.out hg)
      replace BK852 := Aside0.mk (blk_below BK852.out hb)
      clear hb hbox hg
      refine hK.out _ _ ⟨bc0 BK837.out, bc1 BK837.out, bc0 BK852.out, bc1 BK852.out, bc0 BK838.out, bc1 BK838.out⟩ (fun hHeld => ?_)
      clear hK K
      refine norm_ (a' := ?_) ?_ ?_
      rotate_left
      ·show Act.put _ (some 11) _ = _
       simp only [Act.put, List.setIfInBounds_toArray, List.set_cons_zero, List.set_cons_succ, i64_w, i32_w]
       rfl
      exact norm_ (by simp only [putAll, Act.put, List.setIfInBounds_toArray, List.set_cons_zero, List.set_cons_succ]) (hCont (.slice Ao104 t854.length co104, v859, gb861) _ ⟨hHeld, (Kd.R_mono HO845.out (fun _ hk => ⟨hk.1.1.1, ⟨hk.1.1.2, ⟨hk.1.2, hk.2⟩⟩⟩)), (Kd.R_mono HO847.out (fun _ hk => ⟨hk.1.1.1, ⟨hk.1.1.2, ⟨hk.1.2, hk.2⟩⟩⟩)), (Kd.R_mono HO851.out (fun _ hk => ⟨hk.1.1.1, ⟨hk.1.1.2, ⟨hk.1.2, hk.2⟩⟩⟩)), (Kd.R_mono HO856.out (fun _ hk => ⟨hk.1.1.1.2, ⟨hk.1.1.2, ⟨hk.1.2, hk.2⟩⟩⟩)), (Kd.R_mono HO860.out (fun _ hk => ⟨hk.1.1.1.2, ⟨hk.1.1.2, ⟨hk.1.2, hk.2⟩⟩⟩)), BK837.out, BK838.out, BK839.out, BK840.out, BK852.out, BK861.out, GW861.out, GE861.out, NB837_861.out, NB861_837.out, NB838_861.out, NB861_838.out, NB839_861.out, NB861_839.out, NB840_861.out, NB861_840.out, NB852_861.out, NB861_852.out, HB.out⟩)
     ·skip
      refine box_step ?hg (N := 11) ?hd (cs := #[.bool false, .slice none 0 0]) (t := 24) ?hr ?_; (case hd => rfl); (case hg => rfl); (case hr => first | (go_simp; done) | (go_simp; rfl))
      intro gb861 hg w104 hbox hb
      replace HO845 := Aside0.mk (Kd.R_below HO845.out hb)
      replace HO847 := Aside0.mk (Kd.R_below HO847.out hb)
      replace HO851 := Aside0.mk (Kd.R_below HO851.out hb)
      replace HO856 := Aside0.mk (Kd.R_below HO856.out hb)
      have BK861 := Aside0.mk (hbox)
      have GW861 := Aside0.mk (bxLe HB.out hg)
      have GE861 := GW861
      replace HB := Aside0.mk (below_step HB.out hb)
      have NB837_861 := Aside0.mk (neL BK837.out hg)
      have NB861_837 := Aside0.mk (neR BK837.out hg)
      replace BK837 := Aside0.mk (blk_below BK837.out hb)
      have NB838_861 := Aside0.mk (neL BK838.out hg)
      have NB861_838 := Aside0.mk (neR BK838.out hg)
      replace BK838 := Aside0.mk (blk_below BK838.out hb)
      have NB839_861 := Aside0.mk (neL BK839.out hg)
      have NB861_839 := Aside0.mk (neR BK839.out hg)
      replace BK839 := Aside0.mk (blk_below BK839.out hb)
      have NB840_861 := Aside0.mk (neL BK840.out hg)
      have NB861_840 := Aside0.mk (neR BK840.out hg)
      replace BK840 := Aside0.mk (blk_below BK840.out hb)
      have NB852_861 := Aside0.mk (neL BK852.out hg)
      have NB861_852 := Aside0.mk (neR BK852.out hg)
      replace BK852 := Aside0.mk (blk_below BK852.out hb)
      clear hb hbox hg
      obtain ⟨Ao105, co105, eo105⟩ := Kd.R_slice HO856.out
      (first | subst eo105 | (injection eo105 with f1_ f2_ f3_; have f4_ := f1_.symm; have f5_ := f3_.symm; clear f1_ f2_ f3_; subst f4_; subst f5_))
      refine hK.out _ _ ⟨bc0 BK837.out, bc1 BK837.out, bc0 BK852.out, bc1 BK852.out, bc0 BK838.out, bc1 BK838.out⟩ (fun hHeld => ?_)
      clear hK K
      refine norm_ (a' := ?_) ?_ ?_
      rotate_left
      ·show Act.put _ (some 11) _ = _
       simp only [Act.put, List.setIfInBounds_toArray, List.set_cons_zero, List.set_cons_succ, i64_w, i32_w]
       rfl
      refine one_ (i := 4) (N := some 38) #[true, true, true, true, true, true, false] rfl rfl (by kernel_rfl) (by decide) (fun K hK => ?_)
      refine goR Tryd.func23 [.agg #[.bool a0_0, .slice A0_1 l0_1.length c0_1], .agg #[.bool t853, .slice Ao105 t854.length co105]] ?_
      with_reducible refine (gudgeonref02_Sub.calls k a0_0 _ _ l0_1 t853 _ _ t854 t857 t858 _ ?side1 ?side2 ?side3 ?side4 A7.out).mono ?_
      (case side1 => exact (Kd.C_below HR0_1.out HB.out))
      (case side2 => exact HC0_1.out)
      (case side3 => exact (Kd.R_reads' HO856.out).2.2)
      (case side4 => exact (Kd.R_reads' HO856.out).2.1)
      rintro e w106 ⟨v859, rfl, ho0, hb⟩
      refine ⟨_, rfl, ?_⟩
      have HO860 := Aside0.mk (Kd.R_lower (Kd.R_new' (Kd.R_new' (Kd.R_new' (Kd.R_new' ho0 (Kd.R_lt HO845.out)) (Kd.R_lt HO847.out)) (Kd.R_lt HO851.out)) (Kd.R_lt HO856.out)) (below_size HB.out))
      replace HO845 := Aside0.mk (Kd.R_elder' HO845.out (Kd.R_base ho0) hb)
      replace HO847 := Aside0.mk (Kd.R_elder' HO847.out (Kd.R_base ho0) hb)
      replace HO851 := Aside0.mk (Kd.R_elder' HO851.out (Kd.R_base ho0) hb)
      replace HO856 := Aside0.mk (Kd.R_elder' HO856.out (Kd.R_base ho0) hb)
      replace BK837 := Aside0.mk (blk_below BK837.out hb)
      replace BK838 := Aside0.mk (blk_below BK838.out hb)
      replace BK839 := Aside0.mk (blk_below BK839.out hb)
      replace BK840 := Aside0.mk (blk_below BK840.out hb)
      replace BK852 := Aside0.mk (blk_below BK852.out hb)
      replace BK861 := Aside0.mk (blk_below BK861.out hb)
      replace HB := Aside0.mk (below_step HB.out hb)
      (try clear hb)
      (try clear hb2)
      (try clear hk)
      (try clear hi)
      (try clear ho0)
      refine hK.out _ _ ⟨bc0 BK837.out, bc1 BK837.out, bc0 BK852.out, bc1 BK852.out, bc0 BK838.out, bc1 BK838.out⟩ (fun hHeld => ?_)
      clear hK K
      refine norm_ (a' := ?_) ?_ ?_
      rotate_left
      ·show Act.put _ (some 38) _ = _
       simp only [Act.put, List.setIfInBounds_toArray, List.set_cons_zero, List.set_cons_succ, i64_w, i32_w]
       rfl
      exact norm_ (by simp only [putAll, Act.put, List.setIfInBounds_toArray, List.set_cons_zero, List.set_cons_succ]) (hCont (.slice Ao105 t854.length co105, v859, gb861) _ ⟨hHeld, (Kd.R_mono HO845.out (fun _ hk => ⟨hk.1.1.1, ⟨hk.1.1.2, ⟨hk.1.2, hk.2⟩⟩⟩)), (Kd.R_mono HO847.out (fun _ hk => ⟨hk.1.1.1, ⟨hk.1.1.2, ⟨hk.1.2, hk.2⟩⟩⟩)), (Kd.R_mono HO851.out (fun _ hk => ⟨hk.1.1.1, ⟨hk.1.1.2, ⟨hk.1.2, hk.2⟩⟩⟩)), (Kd.R_mono HO856.out (fun _ hk => ⟨hk.1.1.1.2, ⟨hk.1.1.2, ⟨hk.1.2, hk.2⟩⟩⟩)), (Kd.R_mono HO860.out (fun _ hk => ⟨hk.1.1.1.2, ⟨hk.1.1.2, ⟨hk.1.2, hk.2⟩⟩⟩)), BK837.out, BK838.out, BK839.out, BK840.out, BK852.out, BK861.out, GW861.out, GE861.out, NB837_861.out, NB861_837.out, NB838_861.out, NB861_838.out, NB839_861.out, NB861_839.out, NB840_861.out, NB861_840.out, NB852_861.out, NB861_852.out, HB.out⟩)
    ·skip
     refine box_step ?hg (N := 11) ?hd (cs := #[.bool false, .slice none 0 0]) (t := 24) ?hr ?_; (case hd => rfl); (case hg => rfl); (case hr => first | (go_simp; done) | (go_simp; rfl))
     intro gb861 hg w103 hbox hb
     replace HO845 := Aside0.mk (Kd.R_below HO845.out hb)
     replace HO847 := Aside0.mk (Kd.R_below HO847.out hb)
     replace HO851 := Aside0.mk (Kd.R_below HO851.out hb)
     have BK861 := Aside0.mk (hbox)
     have GW861 := Aside0.mk (bxLe HB.out hg)
     have GE861 := GW861
     replace HB := Aside0.mk (below_step HB.out hb)
     have NB837_861 := Aside0.mk (neL BK837.out hg)
     have NB861_837 := Aside0.mk (neR BK837.out hg)
     replace BK837 := Aside0.mk (blk_below BK837.out hb)
     have NB838_861 := Aside0.mk (neL BK838.out hg)
     have NB861_838 := Aside0.mk (neR BK838.out hg)
     replace BK838 := Aside0.mk (blk_below BK838.out hb)
     have NB839_861 := Aside0.mk (neL BK839.out hg)
     have NB861_839 := Aside0.mk (neR BK839.out hg)
     replace BK839 := Aside0.mk (blk_below BK839.out hb)
     have NB840_861 := Aside0.mk (neL BK840.out hg)
     have NB861_840 := Aside0.mk (neR BK840.out hg)
     replace BK840 := Aside0.mk (blk_below BK840.out hb)
     have NB852_861 := Aside0.mk (neL BK852.out hg)
     have NB861_852 := Aside0.mk (neR BK852.out hg)
     replace BK852 := Aside0.mk (blk_below BK852.out hb)
     clear hb hbox hg
     refine hK.out _ _ ⟨bc0 BK837.out, bc1 BK837.out, bc0 BK852.out, bc1 BK852.out, bc0 BK838.out, bc1 BK838.out⟩ (fun hHeld => ?_)
     clear hK K
     refine norm_ (a' := ?_) ?_ ?_
     rotate_left
     ·show Act.put _ (some 11) _ = _
      simp only [Act.put, List.setIfInBounds_toArray, List.set_cons_zero, List.set_cons_succ, i64_w, i32_w]
      rfl
     refine one_ (i := 3) (N := some 37) #[true, true, true, true, false, true, false] rfl rfl (by kernel_rfl) (by decide) (fun K hK => ?_)
     refine goR Tryd.func25 [.agg #[.bool t848, .slice Ao100 t849.length co100], .agg #[.bool a1_0, .slice A1_1 l1_1.length c1_1]] ?_
     with_reducible refine (gudgeonref02_Mul.calls k t848 _ _ t849 a1_0 _ _ l1_1 t853 t854 _ ?side1 ?side2 ?side3 ?side4 A6.out).mono ?_
     (case side1 => exact (Kd.R_reads' HO851.out).2.2)
     (case side2 => exact (Kd.R_reads' HO851.out).2.1)
     (case side3 => exact (Kd.C_below HR1_1.out HB.out))
     (case side4 => exact HC1_1.out)
     rintro e w104 ⟨v855, rfl, ho0, hb⟩
     refine ⟨_, rfl, ?_⟩
     have HO856 := Aside0.mk (Kd.R_lower (Kd.R_new' (Kd.R_new' (Kd.R_new' ho0 (Kd.R_lt HO845.out)) (Kd.R_lt HO847.out)) (Kd.R_lt HO851.out)) (below_size HB.out))
     replace HO845 := Aside0.mk (Kd.R_elder' HO845.out (Kd.R_base ho0) hb)
     replace HO847 := Aside0.mk (Kd.R_elder' HO847.out (Kd.R_base ho0) hb)
     replace HO851 := Aside0.mk (Kd.R_elder' HO851.out (Kd.R_base ho0) hb)
     replace BK837 := Aside0.mk (blk_below BK837.out hb)
     replace BK838 := Aside0.mk (blk_below BK838.out hb)
     replace BK839 := Aside0.mk (blk_below BK839.out hb)
     replace BK840 := Aside0.mk (blk_below BK840.out hb)
     replace BK852 := Aside0.mk (blk_below BK852.out hb)
     replace BK861 := Aside0.mk (blk_below BK861.out hb)
     replace HB := Aside0.mk (below_step HB.out hb)
     (try clear hb)
     (try clear hb2)
     (try clear hk)
     (try clear hi)
     (try clear ho0)
     obtain ⟨Ao105, co105, eo105⟩ := Kd.R_slice HO856.out
     subst eo105
     refine hK.out _ _ ⟨bc0 BK837.out, bc1 BK837.out, bc0 BK852.out, bc1 BK852.out, bc0 BK838.out, bc1 BK838.out⟩ (fun hHeld => ?_)
     clear hK K
     refine norm_ (a' := ?_) ?_ ?_
     rotate_left
     ·show Act.put _ (some 37) _ = _
      simp only [Act.put, List.setIfInBounds_toArray, List.set_cons_zero, List.set_cons_succ, i64_w, i32_w]
      rfl
     refine one_ (i := 4) (N := some 38) #[true, true, true, true, true, true, false] rfl rfl (by kernel_rfl) (by decide) (fun K hK => ?_)
     refine goR Tryd.func23 [.agg #[.bool a0_0, .slice A0_1 l0_1.length c0_1], .agg #[.bool t853, .slice Ao105 t854.length co105]] ?_
     with_reducible refine (gudgeonref02_Sub.calls k a0_0 _ _ l0_1 t853 _ _ t854 t857 t858 _ ?side1 ?side2 ?side3 ?side4 A7.out).mono ?_
     (case side1 => exact (Kd.C_below HR0_1.out HB.out))
     (case side2 => exact HC0_1.out)
     (case side3 => exact (Kd.R_reads' HO856.out).2.2)
     (case side4 => exact (Kd.R_reads' HO856.out).2.1)
     rintro e w106 ⟨v859, rfl, ho0, hb⟩
     refine ⟨_, rfl, ?_⟩
     have HO860 := Aside0.mk (Kd.R_lower (Kd.R_new' (Kd.R_new' (Kd.R_new' (Kd.R_new' ho0 (Kd.R_lt HO845.out)) (Kd.R_lt HO847.out)) (Kd.R_lt HO851.out)) (Kd.R_lt HO856.out)) (below_size HB.out))
     replace HO845 := Aside0.mk (Kd.R_elder' HO845.out (Kd.R_base ho0) hb)
     replace HO847 := Aside0.mk (Kd.R_elder' HO847.out (Kd.R_base ho0) hb)
     replace HO851 := Aside0.mk (Kd.R_elder' HO851.out (Kd.R_base ho0) hb)
     replace HO856 := Aside0.mk (Kd.R_elder' HO856.out (Kd.R_base ho0) hb)
     replace BK837 := Aside0.mk (blk_below BK837.out hb)
     replace BK838 := Aside0.mk (blk_below BK838.out hb)
     replace BK839 := Aside0.mk (blk_below BK839.out hb)
     replace BK840 := Aside0.mk (blk_below BK840.out hb)
     replace BK852 := Aside0.mk (blk_below BK852.out hb)
     replace BK861 := Aside0.mk (blk_below BK861.out hb)
     replace HB := Aside0.mk (below_step HB.out hb)
     (try clear hb)
     (try clear hb2)
     (try clear hk)
     (try clear hi)
     (try clear ho0)
     refine hK.out _ _ ⟨bc0 BK837.out, bc1 BK837.out, bc0 BK852.out, bc1 BK852.out, bc0 BK838.out, bc1 BK838.out⟩ (fun hHeld => ?_)
     clear hK K
     refine norm_ (a' := ?_) ?_ ?_
     rotate_left
     ·show Act.put _ (some 38) _ = _
      simp only [Act.put, List.setIfInBounds_toArray, List.set_cons_zero, List.set_cons_succ, i64_w, i32_w]
      rfl
     exact norm_ (by simp only [putAll, Act.put, List.setIfInBounds_toArray, List.set_cons_zero, List.set_cons_succ]) (hCont (.slice Ao105 t854.length co105, v859, gb861) _ ⟨hHeld, (Kd.R_mono HO845.out (fun _ hk => ⟨hk.1.1.1, ⟨hk.1.1.2, ⟨hk.1.2, hk.2⟩⟩⟩)), (Kd.R_mono HO847.out (fun _ hk => ⟨hk.1.1.1, ⟨hk.1.1.2, ⟨hk.1.2, hk.2⟩⟩⟩)), (Kd.R_mono HO851.out (fun _ hk => ⟨hk.1.1.1, ⟨hk.1.1.2, ⟨hk.1.2, hk.2⟩⟩⟩)), (Kd.R_mono HO856.out (fun _ hk => ⟨hk.1.1.1.2, ⟨hk.1.1.2, ⟨hk.1.2, hk.2⟩⟩⟩)), (Kd.R_mono HO860.out (fun _ hk => ⟨hk.1.1.1.2, ⟨hk.1.1.2, ⟨hk.1.2, hk.2⟩⟩⟩)), BK837.out, BK838.out, BK839.out, BK840.out, BK852.out, BK861.out, GW861.out, GE861.out, NB837_861.out, NB861_837.out, NB838_861.out, NB861_838.out, NB839_861.out, NB861_839.out, NB840_861.out, NB861_840.out, NB852_861.out, NB861_852.out, HB.out⟩)
   rintro ⟨v855, v859, gb861⟩ w107 ⟨hS_, h0_, h1_, h2_, h3_, h4_, h5_, h6_, h7_, h8_, h9_, h10_, h11_, h12_, h13_, h14_, h15_, h16_, h17_, h18_, h19_, h20_, h21_, h22_, h23_⟩
   have n0_ : Aside0 (Kd.R (Kd.int .u32) 51 w107 w.heap.size (fun k_ => some k_ ≠ (v846 : Value).ownBlock ∧ some k_ ≠ (.slice Ao100 t849.length co100 : Value).ownBlock ∧ some k_ ≠ (v855 : Value).ownBlock ∧ some k_ ≠ (v859 : Value).ownBlock) (.slice Ao92 t841.length co92) t841) := ⟨h0_⟩
   have n1_ : Aside0 (Kd.R (Kd.int .u32) 51 w107 w.heap.size (fun k_ => some k_ ≠ (.slice Ao92 t841.length co92 : Value).ownBlock ∧ some k_ ≠ (.slice Ao100 t849.length co100 : Value).ownBlock ∧ some k_ ≠ (v855 : Value).ownBlock ∧ some k_ ≠ (v859 : Value).ownBlock) v846 t842) := ⟨h1_⟩
   have n2_ : Aside0 (Kd.R (Kd.int .u32) 51 w107 w.heap.size (fun k_ => some k_ ≠ (.slice Ao92 t841.length co92 : Value).ownBlock ∧ some k_ ≠ (v846 : Value).ownBlock ∧ some k_ ≠ (v855 : Value).ownBlock ∧ some k_ ≠ (v859 : Value).ownBlock) (.slice Ao100 t849.length co100) t849) := ⟨h2_⟩
   have n3_ : Aside0 (Kd.R (Kd.int .u32) 51 w107 w.heap.size (fun k_ => some k_ ≠ (.slice Ao92 t841.length co92 : Value).ownBlock ∧ some k_ ≠ (v846 : Value).ownBlock ∧ some k_ ≠ (.slice Ao100 t849.length co100 : Value).ownBlock ∧ some k_ ≠ (v859 : Value).ownBlock) v855 t854) := ⟨h3_⟩
   have n4_ : Aside0 (Kd.R (Kd.int .u32) 51 w107 w.heap.size (fun k_ => some k_ ≠ (.slice Ao92 t841.length co92 : Value).ownBlock ∧ some k_ ≠ (v846 : Value).ownBlock ∧ some k_ ≠ (.slice Ao100 t849.length co100 : Value).ownBlock ∧ some k_ ≠ (v855 : Value).ownBlock) v859 t858) := ⟨h4_⟩
   have n5_ : Aside0 (w107.heap[gb837]? = some (.cells #[.bool a0_0, .slice A0_1 l0_1.length c0_1] 24 (0, 0))) := ⟨h5_⟩
   have n6_ : Aside0 (w107.heap[gb838]? = some (.cells #[.bool a1_0, .slice A1_1 l1_1.length c1_1] 24 (0, 0))) := ⟨h6_⟩
   have n7_ : Aside0 (w107.heap[gb839]? = some (.cells #[.bool false, .slice none 0 0] 24 (0, 0))) := ⟨h7_⟩
   have n8_ : Aside0 (w107.heap[gb840]? = some (.cells #[.bool false, .slice none 0 0] 24 (0, 0))) := ⟨h8_⟩
   have n9_ : Aside0 (w107.heap[gb852]? = some (.cells #[.bool t848, .slice Ao100 t849.length co100] 24 (0, 0))) := ⟨h9_⟩
   have n10_ : Aside0 (w107.heap[gb861]? = some (.cells #[.bool false, .slice none 0 0] 24 (0, 0))) := ⟨h10_⟩
   have n11_ : Aside0 (w.heap.size ≤ gb861) := ⟨h11_⟩
   have n12_ : Aside0 (w.heap.size ≤ gb861) := ⟨h12_⟩
   have n13_ : Aside0 (gb837 ≠ gb861) := ⟨h13_⟩
   have n14_ : Aside0 (gb861 ≠ gb837) := ⟨h14_⟩
   have n15_ : Aside0 (gb838 ≠ gb861) := ⟨h15_⟩
   have n16_ : Aside0 (gb861 ≠ gb838) := ⟨h16_⟩
   have n17_ : Aside0 (gb839 ≠ gb861) := ⟨h17_⟩
   have n18_ : Aside0 (gb861 ≠ gb839) := ⟨h18_⟩
   have n19_ : Aside0 (gb840 ≠ gb861) := ⟨h19_⟩
   have n20_ : Aside0 (gb861 ≠ gb840) := ⟨h20_⟩
   have n21_ : Aside0 (gb852 ≠ gb861) := ⟨h21_⟩
   have n22_ : Aside0 (gb861 ≠ gb852) := ⟨h22_⟩
   have n23_ : Aside0 (Below w.heap.size w w107) := ⟨h23_⟩
   clear HO845
   clear HO847
   clear HO851
   clear BK837
   clear BK838
   clear BK839
   clear BK840
   clear BK852
   clear HB
   clear h0_ h1_ h2_ h3_ h4_ h5_ h6_ h7_ h8_ h9_ h10_ h11_ h12_ h13_ h14_ h15_ h16_ h17_ h18_ h19_ h20_ h21_ h22_ h23_
   have HO845 := n0_
   have HO847 := n1_
   have HO851 := n2_
   have HO856 := n3_
   have HO860 := n4_
   have BK837 := n5_
   have BK838 := n6_
   have BK839 := n7_
   have BK840 := n8_
   have BK852 := n9_
   have BK861 := n10_
   have GW861 := n11_
   have GE861 := n12_
   have NB837_861 := n13_
   have NB861_837 := n14_
   have NB838_861 := n15_
   have NB861_838 := n16_
   have NB839_861 := n17_
   have NB861_839 := n18_
   have NB840_861 := n19_
   have NB861_840 := n20_
   have NB852_861 := n21_
   have NB861_852 := n22_
   have HB := n23_
   clear n0_ n1_ n2_ n3_ n4_ n5_ n6_ n7_ n8_ n9_ n10_ n11_ n12_ n13_ n14_ n15_ n16_ n17_ n18_ n19_ n20_ n21_ n22_ n23_
   have hHeld : w107.cell? ⟨gb837, 0, none⟩ = some (.bool a0_0) ∧ w107.cell? ⟨gb837, 1, none⟩ = some (.slice A0_1 l0_1.length c0_1) ∧ w107.cell? ⟨gb852, 0, none⟩ = some (.bool t848) ∧ w107.cell? ⟨gb852, 1, none⟩ = some (.slice Ao100 t849.length co100) ∧ w107.cell? ⟨gb838, 0, none⟩ = some (.bool a1_0) ∧ w107.cell? ⟨gb838, 1, none⟩ = some (.slice A1_1 l1_1.length c1_1) := hS_
   obtain ⟨Ao109, co109, eo109⟩ := Kd.R_slice HO860.out
   subst eo109
   refine norm_ (a' := ?_) ?_ ?_
   rotate_left
   ·simp only [putAll, Act.put, List.setIfInBounds_toArray, List.set_cons_zero, List.set_cons_succ]
    rfl
   refine one_ (i := 6) (N := none) #[true, true, true, true, true, true, true] rfl rfl (by kernel_rfl) (by decide) (fun K hK => ?_)
   have hs108 : w107.cell? ⟨gb861, 0, none⟩ = some (.bool false) := bc0 BK861.out
   have hfs108 := blk_frozen BK861.out 0
   have hns108_0 := NB837_861.out
   have hns108_1 := NB838_861.out
   have hns108_2 := NB839_861.out
   have hns108_3 := NB840_861.out
   have hns108_4 := NB852_861.out
   have hms108_0 := NB861_837.out
   have hms108_1 := NB861_838.out
   have hms108_2 := NB861_839.out
   have hms108_3 := NB861_840.out
   have hms108_4 := NB861_852.out
   have hs110 : w107.cell? ⟨gb861, 1, none⟩ = some (.slice none 0 0) := bc1 BK861.out
   have hfs110 := blk_frozen BK861.out 1
   have hns110_0 := NB837_861.out
   have hns110_1 := NB838_861.out
   have hns110_2 := NB839_861.out
   have hns110_3 := NB840_861.out
   have hns110_4 := NB852_861.out
   have hms110_0 := NB861_837.out
   have hms110_1 := NB861_838.out
   have hms110_2 := NB861_839.out
   have hms110_3 := NB861_840.out
   have hms110_4 := NB861_852.out
   refine skip_ (w1 := ?_) (by rfl) rfl ?_ ?_
   rotate_left
   ·go_simp
    rfl
   refine hK.out _ _ ⟨((cell_far (p := ⟨gb861, _, none⟩) NB837_861.out _).trans (((cell_far (p := ⟨gb861, _, none⟩) NB837_861.out _).trans (hHeld.1)))), ((cell_far (p := ⟨gb861, _, none⟩) NB837_861.out _).trans (((cell_far (p := ⟨gb861, _, none⟩) NB837_861.out _).trans (hHeld.2.1)))), ((cell_far (p := ⟨gb861, _, none⟩) NB852_861.out _).trans (((cell_far (p := ⟨gb861, _, none⟩) NB852_861.out _).trans (hHeld.2.2.1)))), ((cell_far (p := ⟨gb861, _, none⟩) NB852_861.out _).trans (((cell_far (p := ⟨gb861, _, none⟩) NB852_861.out _).trans (hHeld.2.2.2.1)))), ((cell_far (p := ⟨gb861, _, none⟩) NB838_861.out _).trans (((cell_far (p := ⟨gb861, _, none⟩) NB838_861.out _).trans (hHeld.2.2.2.2.1)))), ((cell_far (p := ⟨gb861, _, none⟩) NB838_861.out _).trans (((cell_far (p := ⟨gb861, _, none⟩) NB838_861.out _).trans (hHeld.2.2.2.2.2))))⟩ (fun hHeld => ?_)
   clear hK K
   refine done_ (by kernel_rfl) ?_
   have hnb111 := NB861_837.out
   have hnc111 := NB837_861.out
   have hnb112 := NB861_838.out
   have hnc112 := NB838_861.out
   have hnb113 := NB861_839.out
   have hnc113 := NB839_861.out
   have hnb114 := NB861_840.out
   have hnc114 := NB840_861.out
   have hnb115 := NB861_852.out
   have hnc115 := NB852_861.out
   have hcz116_0 : w107.cell? ⟨gb861, 0, none⟩ = some (.bool false) := bc0 BK861.out
   have hcz116_1 : w107.cell? ⟨gb861, 1, none⟩ = some (.slice none 0 0) := bc1 BK861.out
   have hfz116_0 := blk_frozen BK861.out 0
   have hfz116_1 := blk_frozen BK861.out 1
   try go_wp2_with (first | ((with_reducible refine gate_callee (f := 29) rfl ?_); refine goL (some 40) Tryd.func29 [.agg #[.bool t857, .slice Ao109 t858.length co109]] ?_; (with_reducible refine (gudgeonref02_Sign.calls k t857 _ _ t858 t862 _ ?side1 ?side2 A8.out).mono ?_); (case side1 => refine (Kd.R_reads' (e := 51) (base := w.heap.size) (ok := fun k_ => (some k_ ≠ (.slice Ao92 t841.length co92 : Value).ownBlock ∧ (some k_ ≠ (v846 : Value).ownBlock ∧ (some k_ ≠ (.slice Ao100 t849.length co100 : Value).ownBlock ∧ some k_ ≠ (v855 : Value).ownBlock)))) (n := t858.length) (c := co109) ?_).2.2; exact (Kd.R_mono (Kd.R_far (p := ⟨gb861, 1, none⟩) (Kd.R_far (p := ⟨gb861, 0, none⟩) (Kd.R_types HO860.out BK861.out (by decide)) (fun _ hk => hk.2) (.bool t857)) (fun _ hk => hk.2) (.slice Ao109 t858.length co109)) (fun _ h_ => h_.1))); (case side2 => exact (Kd.R_reads' HO860.out).2.1); rintro e w117 ⟨rfl, hb⟩; refine ⟨_, rfl, ?_⟩; replace HO851 := Aside0.mk (Kd.R_below (Kd.R_mono (Kd.R_far (p := ⟨gb861, 1, none⟩) (Kd.R_far (p := ⟨gb861, 0, none⟩) (Kd.R_types HO851.out BK861.out (by decide)) (fun _ hk => hk.2) (.bool t857)) (fun _ hk => hk.2) (.slice Ao109 t858.length co109)) (fun _ h_ => h_.1)) hb); replace HO860 := Aside0.mk (Kd.R_below (Kd.R_mono (Kd.R_far (p := ⟨gb861, 1, none⟩) (Kd.R_far (p := ⟨gb861, 0, none⟩) (Kd.R_types HO860.out BK861.out (by decide)) (fun _ hk => hk.2) (.bool t857)) (fun _ hk => hk.2) (.slice Ao109 t858.length co109)) (fun _ h_ => h_.1)) hb); replace BK839 := Aside0.mk (blk_below (g := gb839) (o := .cells #[.bool false, .slice none 0 0] 24 (0, 0)) (by refine blk_far ?_ NB839_861.out _; refine blk_far ?_ NB839_861.out _; exact BK839.out) hb); replace BK840 := Aside0.mk (blk_below (g := gb840) (o := .cells #[.bool false, .slice none 0 0] 24 (0, 0)) (by refine blk_far ?_ NB840_861.out _; refine blk_far ?_ NB840_861.out _; exact BK840.out) hb); replace BK852 := Aside0.mk (blk_below (g := gb852) (o := .cells #[.bool t848, .slice Ao100 t849.length co100] 24 (0, 0)) (by refine blk_far ?_ NB852_861.out _; refine blk_far ?_ NB852_861.out _; exact BK852.out) hb); replace BK861 := Aside0.mk (blk_below (g := gb861) (o := .cells #[.bool t857, .slice Ao109 t858.length co109] 24 (0, 0)) (by refine blk_put (cs := #[.bool t857, .slice none 0 0]) ?_ 1 _ rfl; refine blk_put (cs := #[.bool false, .slice none 0 0]) ?_ 0 _ rfl; exact BK861.out) hb); replace HB := Aside0.mk (below_step (by repeat first | exact HB.out | refine bxSet ?_ (by assumption) | apply below_alloc | apply pw_below_drewN) hb); (try clear hb); (try clear hb2); (try clear hk); (try clear hi)))
   replace HO851 := Aside0.mk (Kd.R_drew HO851.out)
   replace HO860 := Aside0.mk (Kd.R_drew HO860.out)
   replace BK839 := Aside0.mk (blk_drew BK839.out)
   replace BK840 := Aside0.mk (blk_drew BK840.out)
   replace BK852 := Aside0.mk (blk_drew BK852.out)
   replace BK861 := Aside0.mk (blk_drew BK861.out)
   replace HB := Aside0.mk (below_drew1 HB.out)
   refine start_ (n := 5) (S := fun w' => w'.cell? ⟨gb852, 0, none⟩ = some (.bool t848) ∧ w'.cell? ⟨gb852, 1, none⟩ = some (.slice Ao100 t849.length co100) ∧ w'.cell? ⟨gb861, 0, none⟩ = some (.bool t857) ∧ w'.cell? ⟨gb861, 1, none⟩ = some (.slice Ao109 t858.length co109)) (ds := []) #[false, false, false, false, false] (by kernel_rfl) rfl rfl ⟨bc0 BK852.out, bc1 BK852.out, bc0 BK861.out, bc1 BK861.out⟩ (fun hHeld => ?_)
   generalize w117.drew = w118 at HO845 HO847 HO851 HO856 HO860 BK837 BK838 BK839 BK840 BK852 BK861 HB hHeld ⊢
   refine take_ (i := 0) (N := some 57) (v := ?_) (a' := ?_) #[true, false, false, false, false] rfl rfl (by kernel_rfl) (fun _ _ _ h => h) (Or.inl ⟨by rfl, ?_⟩) hHeld ?_ ?_
   rotate_left
   ·rintro w' ⟨s0, s1, s2, s3⟩
    go_simp
    with_reducible rfl
   rotate_left
   ·simp only [Act.put, List.setIfInBounds_toArray, List.set_cons_zero, List.set_cons_succ, i64_w, i32_w]
    rfl
   refine take_ (i := 1) (N := some 58) (v := ?_) (a' := ?_) #[true, true, false, false, false] rfl rfl (by kernel_rfl) (fun _ _ _ h => h) (Or.inl ⟨by rfl, ?_⟩) hHeld ?_ ?_
   rotate_left
   ·rintro w' ⟨s0, s1, s2, s3⟩
    go_simp
    with_reducible rfl
   rotate_left
   ·simp only [Act.put, List.setIfInBounds_toArray, List.set_cons_zero, List.set_cons_succ, i64_w, i32_w]
    rfl
   refine one_ (i := 2) (N := none) #[true, true, true, false, false] rfl rfl (by kernel_rfl) (by decide) (fun K hK => ?_)
   have hs119 : w118.cell? ⟨gb839, 0, none⟩ = some (.bool false) := bc0 BK839.out
   have hfs119 := blk_frozen BK839.out 0
   have hns119_0 := NB837_839.out
   have hns119_1 := NB838_839.out
   have hns119_3 := NB840_839.out
   have hns119_4 := NB852_839.out
   have hns119_5 := NB861_839.out
   have hms119_0 := NB839_837.out
   have hms119_1 := NB839_838.out
   have hms119_3 := NB839_840.out
   have hms119_4 := NB839_852.out
   have hms119_5 := NB839_861.out
   have hs120 : w118.cell? ⟨gb839, 1, none⟩ = some (.slice none 0 0) := bc1 BK839.out
   have hfs120 := blk_frozen BK839.out 1
   have hns120_0 := NB837_839.out
   have hns120_1 := NB838_839.out
   have hns120_3 := NB840_839.out
   have hns120_4 := NB852_839.out
   have hns120_5 := NB861_839.out
   have hms120_0 := NB839_837.out
   have hms120_1 := NB839_838.out
   have hms120_3 := NB839_840.out
   have hms120_4 := NB839_852.out
   have hms120_5 := NB839_861.out
   refine skip_ (w1 := ?_) (by rfl) rfl ?_ ?_
   rotate_left
   ·go_simp
    rfl
   refine hK.out _ _ ⟨((cell_far (p := ⟨gb839, _, none⟩) NB852_839.out _).trans (((cell_far (p := ⟨gb839, _, none⟩) NB852_839.out _).trans (hHeld.1)))), ((cell_far (p := ⟨gb839, _, none⟩) NB852_839.out _).trans (((cell_far (p := ⟨gb839, _, none⟩) NB852_839.out _).trans (hHeld.2.1)))), ((cell_far (p := ⟨gb839, _, none⟩) NB861_839.out _).trans (((cell_far (p := ⟨gb839, _, none⟩) NB861_839.out _).trans (hHeld.2.2.1)))), ((cell_far (p := ⟨gb839, _, none⟩) NB861_839.out _).trans (((cell_far (p := ⟨gb839, _, none⟩) NB861_839.out _).trans (hHeld.2.2.2))))⟩ (fun hHeld => ?_)
   clear hK K
   refine one_ (i := 3) (N := none) #[true, true, true, true, false] rfl rfl (by kernel_rfl) (by decide) (fun K hK => ?_)
   have hs121 : w118.cell? ⟨gb840, 0, none⟩ = some (.bool false) := bc0 BK840.out
   have hfs121 := blk_frozen BK840.out 0
   have hns121_0 := NB837_840.out
   have hns121_1 := NB838_840.out
   have hns121_2 := NB839_840.out
   have hns121_4 := NB852_840.out
   have hns121_5 := NB861_840.out
   have hms121_0 := NB840_837.out
   have hms121_1 := NB840_838.out
   have hms121_2 := NB840_839.out
   have hms121_4 := NB840_852.out
   have hms121_5 := NB840_861.out
   have hs122 : w118.cell? ⟨gb840, 1, none⟩ = some (.slice none 0 0) := bc1 BK840.out
   have hfs122 := blk_frozen BK840.out 1
   have hns122_0 := NB837_840.out
   have hns122_1 := NB838_840.out
   have hns122_2 := NB839_840.out
   have hns122_4 := NB852_840.out
   have hns122_5 := NB861_840.out
   have hms122_0 := NB840_837.out
   have hms122_1 := NB840_838.out
   have hms122_2 := NB840_839.out
   have hms122_4 := NB840_852.out
   have hms122_5 := NB840_861.out
   refine skip_ (w1 := ?_) (by rfl) rfl ?_ ?_
   rotate_left
   ·go_simp
    rfl
   refine hK.out _ _ ⟨((cell_far (p := ⟨gb840, _, none⟩) NB852_840.out _).trans (((cell_far (p := ⟨gb840, _, none⟩) NB852_840.out _).trans (hHeld.1)))), ((cell_far (p := ⟨gb840, _, none⟩) NB852_840.out _).trans (((cell_far (p := ⟨gb840, _, none⟩) NB852_840.out _).trans (hHeld.2.1)))), ((cell_far (p := ⟨gb840, _, none⟩) NB861_840.out _).trans (((cell_far (p := ⟨gb840, _, none⟩) NB861_840.out _).trans (hHeld.2.2.1)))), ((cell_far (p := ⟨gb840, _, none⟩) NB861_840.out _).trans (((cell_far (p := ⟨gb840, _, none⟩) NB861_840.out _).trans (hHeld.2.2.2))))⟩ (fun hHeld => ?_)
   clear hK K
   refine pure_ (i := 4) (N := some 6) (v := ?_) (a' := ?_) #[true, true, true, true, true] rfl rfl (by kernel_rfl) (fun _ _ _ h => h) (Or.inl ⟨by rfl, ?_⟩) ?_ ?_
   rotate_left
   ·intro w'
    go_simp
    with_reducible rfl
   rotate_left
   ·simp only [Act.put, List.setIfInBounds_toArray, List.set_cons_zero, List.set_cons_succ, i64_w, i32_w]
    rfl
   refine done_ (by kernel_rfl) ?_
   try go_wp2
   refine bodyPost_ret (results_list (rs := [.cell 4 24, .cell 5 24, .tmp 6]) rfl (by simp) (.cell gb839 24 #[.bool t848, .slice Ao100 t849.length co100] (0, 0) _ rfl (by refine blk_far ?_ NB839_840.out _; refine blk_far ?_ NB839_840.out _; refine blk_put (cs := #[.bool t848, .slice none 0 0]) ?_ 1 _ rfl; refine blk_put (cs := #[.bool false, .slice none 0 0]) ?_ 0 _ rfl; exact BK839.out) Tryd.underlying24 rfl (by kernel_rfl) (.cell gb840 24 #[.bool t857, .slice Ao109 t858.length co109] (0, 0) _ rfl (by refine blk_put (cs := #[.bool t857, .slice none 0 0]) ?_ 1 _ rfl; refine blk_put (cs := #[.bool false, .slice none 0 0]) ?_ 0 _ rfl; refine blk_far ?_ NB840_839.out _; refine blk_far ?_ NB840_839.out _; exact BK840.out) Tryd.underlying24 rfl (by kernel_rfl) (.tmp .nil)))) rfl ?_
   exact ⟨_, _, rfl, Kd.R_mono (Kd.R_far (p := ⟨gb840, 1, none⟩) (Kd.R_far (p := ⟨gb840, 0, none⟩) (Kd.R_far (p := ⟨gb839, 1, none⟩) (Kd.R_far (p := ⟨gb839, 0, none⟩) (Kd.R_types (Kd.R_types HO851.out BK839.out (by decide)) BK840.out (by decide)) (fun _ hk => hk.1.2) (.bool t848)) (fun _ hk => hk.1.2) (.slice Ao100 t849.length co100)) (fun _ hk => hk.2) (.bool t857)) (fun _ hk => hk.2) (.slice Ao109 t858.length co109)) (fun _ hk => hk.1.1.2.2.2), Kd.R_mono (Kd.R_far (p := ⟨gb840, 1, none⟩) (Kd.R_far (p := ⟨gb840, 0, none⟩) (Kd.R_far (p := ⟨gb839, 1, none⟩) (Kd.R_far (p := ⟨gb839, 0, none⟩) (Kd.R_types (Kd.R_types HO860.out BK839.out (by decide)) BK840.out (by decide)) (fun _ hk => hk.1.2) (.bool t848)) (fun _ hk => hk.1.2) (.slice Ao100 t849.length co100)) (fun _ hk => hk.2) (.bool t857)) (fun _ hk => hk.2) (.slice Ao109 t858.length co109)) (fun _ hk => hk.1.1.2.2.1), by repeat first | exact HB.out | refine bxSet ?_ (by assumption) | apply below_alloc | apply pw_below_drewN⟩
 ·rw [if_neg c4] at H
  have c4b0 : (t843 == 0) = false := beq_eq_false_iff_ne.mpr c4
  have c4b1 : (t843 != 0) = true := bne_iff_ne.mpr c4
  simp only [Option.some.injEq, Prod.mk.injEq] at H
  obtain ⟨rfl, rfl, rfl, rfl, rfl⟩ := H
  go_enter Tryd.func12, Tryd.ntmps12
  go_wp2_with (first | ((with_reducible refine gate_dst (N := 2) rfl ?_); refine box_event ?hg (N := 2) ?hd (cs := #[.bool a0_0, .slice A0_1 l0_1.length c0_1]) (t := 24) ?hr ?_; (case hd => rfl); (case hg => rfl); (case hr => first | (go_simp; done) | (go_simp; rfl)); intro gb837 hg w123 hbox hb; have BK837 := Aside0.mk (hbox); have GW837 := Aside0.mk (bxLe HB.out hg); have GE837 := GW837; replace HB := Aside0.mk (below_step HB.out hb); clear hb hbox hg) | ((with_reducible refine gate_dst (N := 3) rfl ?_); refine box_event ?hg (N := 3) ?hd (cs := #[.bool a1_0, .slice A1_1 l1_1.length c1_1]) (t := 24) ?hr ?_; (case hd => rfl); (case hg => rfl); (case hr => first | (go_simp; done) | (go_simp; rfl)); intro gb838 hg w124 hbox hb; have BK838 := Aside0.mk (hbox); have GW838 := Aside0.mk (bxLe HB.out hg); have GE838 := GW838; replace HB := Aside0.mk (below_step HB.out hb); have NB837_838 := Aside0.mk (neL BK837.out hg); have NB838_837 := Aside0.mk (neR BK837.out hg); replace BK837 := Aside0.mk (blk_below BK837.out hb); clear hb hbox hg) | ((with_reducible refine gate_dst (N := 4) rfl ?_); refine box_event ?hg (N := 4) ?hd (cs := #[.bool false, .slice none 0 0]) (t := 24) ?hr ?_; (case hd => rfl); (case hg => rfl); (case hr => first | (go_simp; done) | (go_simp; rfl)); intro gb839 hg w125 hbox hb; have BK839 := Aside0.mk (hbox); have GW839 := Aside0.mk (bxLe HB.out hg); have GE839 := GW839; replace HB := Aside0.mk (below_step HB.out hb); have NB837_839 := Aside0.mk (neL BK837.out hg); have NB839_837 := Aside0.mk (neR BK837.out hg); replace BK837 := Aside0.mk (blk_below BK837.out hb); have NB838_839 := Aside0.mk (neL BK838.out hg); have NB839_838 := Aside0.mk (neR BK838.out hg); replace BK838 := Aside0.mk (blk_below BK838.out hb); clear hb hbox hg) | ((with_reducible refine gate_dst (N := 5) rfl ?_); refine box_event ?hg (N := 5) ?hd (cs := #[.bool false, .slice none 0 0]) (t := 24) ?hr ?_; (case hd => rfl); (case hg => rfl); (case hr => first | (go_simp; done) | (go_simp; rfl)); intro gb840 hg w126 hbox hb; have BK840 := Aside0.mk (hbox); have GW840 := Aside0.mk (bxLe HB.out hg); have GE840 := GW840; replace HB := Aside0.mk (below_step HB.out hb); have NB837_840 := Aside0.mk (neL BK837.out hg); have NB840_837 := Aside0.mk (neR BK837.out hg); replace BK837 := Aside0.mk (blk_below BK837.out hb); have NB838_840 := Aside0.mk (neL BK838.out hg); have NB840_838 := Aside0.mk (neR BK838.out hg); replace BK838 := Aside0.mk (blk_below BK838.out hb); have NB839_840 := Aside0.mk (neL BK839.out hg); have NB840_839 := Aside0.mk (neR BK839.out hg); replace BK839 := Aside0.mk (blk_below BK839.out hb); clear hb hbox hg; have hnb127 := NB837_838.out; have hnc127 := NB838_837.out; have hnb128 := NB837_839.out; have hnc128 := NB839_837.out; have hnb129 := NB837_840.out; have hnc129 := NB840_837.out; have hcz130_0 : w126.cell? ⟨gb837, 0, none⟩ = some (.bool a0_0) := bc0 BK837.out; have hcz130_1 : w126.cell? ⟨gb837, 1, none⟩ = some (.slice A0_1 l0_1.length c0_1) := bc1 BK837.out; have hfz130_0 := blk_frozen BK837.out 0; have hfz130_1 := blk_frozen BK837.out 1; have hnb131 := NB838_839.out; have hnc131 := NB839_838.out; have hnb132 := NB838_840.out; have hnc132 := NB840_838.out; have hcz133_0 : w126.cell? ⟨gb838, 0, none⟩ = some (.bool a1_0) := bc0 BK838.out; have hcz133_1 : w126.cell? ⟨gb838, 1, none⟩ = some (.slice A1_1 l1_1.length c1_1) := bc1 BK838.out; have hfz133_0 := blk_frozen BK838.out 0; have hfz133_1 := blk_frozen BK838.out 1) | ((with_reducible refine gate_callee (f := 43) rfl ?_); refine goL (some 17) Tryd.func43 [.slice A0_1 l0_1.length c0_1, .slice A1_1 l1_1.length c1_1] ?_; (with_reducible refine (gudgeonref01_DivMod.calls k _ _ l0_1 _ _ l1_1 t841 t842 t843 _ ?side1 ?side2 ?side3 ?side4 A3.out).mono ?_); (case side1 => exact (Kd.C_below HR0_1.out HB.out)); (case side2 => exact HC0_1.out); (case side3 => exact (Kd.C_below HR1_1.out HB.out)); (case side4 => exact HC1_1.out); rintro e w134 ⟨v844, v846, rfl, ho0, ho1, hb⟩; refine ⟨_, rfl, ?_⟩; replace BK839 := Aside0.mk (blk_below BK839.out hb); replace BK840 := Aside0.mk (blk_below BK840.out hb); replace HB := Aside0.mk (below_step HB.out hb); (try clear ho1); have hnb135 := NB839_840.out; have hnc135 := NB840_839.out; have hcz136_0 : w134.cell? ⟨gb839, 0, none⟩ = some (.bool false) := bc0 BK839.out; have hcz136_1 : w134.cell? ⟨gb839, 1, none⟩ = some (.slice none 0 0) := bc1 BK839.out; have hfz136_0 := blk_frozen BK839.out 0; have hfz136_1 := blk_frozen BK839.out 1; have hcz137_0 : w134.cell? ⟨gb840, 0, none⟩ = some (.bool false) := bc0 BK840.out; have hcz137_1 : w134.cell? ⟨gb840, 1, none⟩ = some (.slice none 0 0) := bc1 BK840.out; have hfz137_0 := blk_frozen BK840.out 0; have hfz137_1 := blk_frozen BK840.out 1))
  refine bodyPost_ret (results_list (rs := [.cell 4 24, .cell 5 24, .tmp 6]) rfl (by simp) (.cell gb839 24 #[.bool false, .slice none 0 0] (0, 0) _ rfl (by refine blk_far ?_ NB839_840.out _; refine blk_far ?_ NB839_840.out _; refine blk_put (cs := #[.bool false, .slice none 0 0]) ?_ 1 _ rfl; refine blk_put (cs := #[.bool false, .slice none 0 0]) ?_ 0 _ rfl; exact BK839.out) Tryd.underlying24 rfl (by kernel_rfl) (.cell gb840 24 #[.bool false, .slice none 0 0] (0, 0) _ rfl (by refine blk_put (cs := #[.bool false, .slice none 0 0]) ?_ 1 _ rfl; refine blk_put (cs := #[.bool false, .slice none 0 0]) ?_ 0 _ rfl; refine blk_far ?_ NB840_839.out _; refine blk_far ?_ NB840_839.out _; exact BK840.out) Tryd.underlying24 rfl (by kernel_rfl) (.tmp .nil)))) rfl ?_
  exact ⟨_, _, by first | rfl | (simp [errW_none, errW_some] <;> rfl), by first | exact Kd.R_nil _ _ _ _ _ | exact Kd.N_nil _ _ _ _ _ | exact Kd.V_nil _ _ _ _ _ | exact Kd.Q_nil _ _ _ _ _ | exact Kd.S_nil _ _ _ _ _, by first | exact Kd.R_nil _ _ _ _ _ | exact Kd.N_nil _ _ _ _ _ | exact Kd.V_nil _ _ _ _ _ | exact Kd.Q_nil _ _ _ _ _ | exact Kd.S_nil _ _ _ _ _, by repeat first | exact HB.out | refine bxSet ?_ (by assumption) | apply below_alloc | apply pw_below_drewN⟩

end Go.Proofs.YthnfmmaolkenkaaDoor.PA
/- Written by a program of this session, wip/tools/patch_print.py, over the kit's print of the loaded functions. -/
namespace Go.Proofs.YthnfmmaolkenkaaDoor.H
end Go.Proofs.YthnfmmaolkenkaaDoor.H
namespace Go.Proofs.YthnfmmaolkenkaaDoor.PA
open Go.RowKit Go.Proofs.YthnfmmaolkenkaaDoorW.PrintWords Go.Proofs.YthnfmmaolkenkaaDoorW.PrintLast Go.Proofs.YthnfmmaolkenkaaDoorW.PrintMore Go.Proofs.YthnfmmaolkenkaaDoor.H
attribute [local go_sem] max2_int min2_int max_two min_two max_three min_three max_four min_four   -- for this text's walks alone
attribute [local go_sem] box_twice
set_option linter.unusedVariables false
set_option linter.unusedSimpArgs false

/-! ### gudgeonref02_Floor: function 14 -/
def gudgeonref02_Floor.f (k : Nat) (a0_0 : Bool) (l0_1 : List Int) (a1_0 : Bool) (l1_1 : List Int) : Option (Bool × List Int × Int) := (gudgeonref02_Sign.f k a1_0 l1_1).bind fun t884 => (if t884 = 0 then (some (false, ([] : List Int), 7)) else ((gudgeonref02_Sign.f k a1_0 l1_1).bind fun t887 => (if t887 < 0 then ((gudgeonref02_Neg.f k a0_0 l0_1).bind fun bt888 => ((gudgeonref02_Neg.f k a1_0 l1_1).bind fun bt892 => ((gudgeonref02_DivMod.f k bt888.1 bt888.2 bt892.1 bt892.2).bind fun bt896 => (some (bt896.1, bt896.2.1, 0))))) else ((gudgeonref02_DivMod.f k a0_0 l0_1 a1_0 l1_1).bind fun bt907 => (some (bt907.1, bt907.2.1, 0))))))
set_option maxHeartbeats 8000000 in
set_option maxRecDepth 100000 in
theorem gudgeonref02_Floor.calls (k : Nat) (a0_0 : Bool) (A0_1 : Option Addr) (c0_1 : Nat) (l0_1 : List Int) (a1_0 : Bool) (A1_1 : Option Addr) (c1_1 : Nat) (l1_1 : List Int) (r1 : Bool) (r2 : List Int) (r3 : Int) (w : World) (hr0_1 : Kd.C (Kd.int .u32) w A0_1 l0_1.length l0_1) (hc0_1 : l0_1.length ≤ c0_1) (hr1_1 : Kd.C (Kd.int .u32) w A1_1 l1_1.length l1_1) (hc1_1 : l1_1.length ≤ c1_1) (h : gudgeonref02_Floor.f k a0_0 l0_1 a1_0 l1_1 = some (r1, r2, r3)) :
  Calls Tryd.prog 14 #[.agg #[.bool a0_0, .slice A0_1 l0_1.length c0_1], .agg #[.bool a1_0, .slice A1_1 l1_1.length c1_1]] w fun e w' => ∃ v1_ : Value, e = .returned (.tuple #[.agg #[.bool r1, v1_], .int .i64 r3]) ∧ Kd.R (Kd.int .u32) 51 w' w.heap.size (fun _ => True) v1_ r2 ∧ Below w.heap.size w w' := by
 have hu24 := Tryd.underlying24
 have HR0_1 := Aside0.mk hr0_1
 have HC0_1 := Aside0.mk hc0_1
 clear hr0_1 hc0_1
 have HR1_1 := Aside0.mk hr1_1
 have HC1_1 := Aside0.mk hc1_1
 clear hr1_1 hc1_1
 have HB := Aside0.mk (Below.refl w.heap.size w)
 have H : ((gudgeonref02_Sign.f k a1_0 l1_1).bind fun t884 => (if t884 = 0 then (some (false, ([] : List Int), 7)) else ((gudgeonref02_Sign.f k a1_0 l1_1).bind fun t887 => (if t887 < 0 then ((gudgeonref02_Neg.f k a0_0 l0_1).bind fun bt888 => ((gudgeonref02_Neg.f k a1_0 l1_1).bind fun bt892 => ((gudgeonref02_DivMod.f k bt888.1 bt888.2 bt892.1 bt892.2).bind fun bt896 => (some (bt896.1, bt896.2.1, 0))))) else ((gudgeonref02_DivMod.f k a0_0 l0_1 a1_0 l1_1).bind fun bt907 => (some (bt907.1, bt907.2.1, 0))))))) = some (r1, r2, r3) := h
 clear h
 replace H := Option.bind_eq_some_iff.mp H
 obtain ⟨t884, A30, H⟩ := H
 replace H : (if t884 = 0 then (some (false, ([] : List Int), 7)) else ((gudgeonref02_Sign.f k a1_0 l1_1).bind fun t887 => (if t887 < 0 then ((gudgeonref02_Neg.f k a0_0 l0_1).bind fun bt888 => ((gudgeonref02_Neg.f k a1_0 l1_1).bind fun bt892 => ((gudgeonref02_DivMod.f k bt888.1 bt888.2 bt892.1 bt892.2).bind fun bt896 => (some (bt896.1, bt896.2.1, 0))))) else ((gudgeonref02_DivMod.f k a0_0 l0_1 a1_0 l1_1).bind fun bt907 => (some (bt907.1, bt907.2.1, 0)))))) = some (r1, r2, r3) := H
 have A3 := Aside0.mk A30
 clear A30
 by_cases c4 : t884 = 0
 ·rw [if_pos c4] at H
  have c4b0 : (t884 == 0) = true := beq_iff_eq.mpr c4
  have c4b1 : (t884 != 0) = false := bne_eq_false_iff_eq.mpr c4
  clear c4
  simp only [Option.some.injEq, Prod.mk.injEq] at H
  obtain ⟨rfl, rfl, rfl⟩ := H
  go_enter Tryd.func14, Tryd.ntmps14
  go_wp2_with (first | ((with_reducible refine gate_dst (N := 2) rfl ?_); refine box_event ?hg (N := 2) ?hd (cs := #[.bool a0_0, .slice A0_1 l0_1.length c0_1]) (t := 24) ?hr ?_; (case hd => rfl); (case hg => rfl); (case hr => first | (go_simp; done) | (go_simp; rfl)); intro gb881 hg w5 hbox hb; have BK881 := Aside0.mk (hbox); have GW881 := Aside0.mk (bxLe HB.out hg); have GE881 := GW881; replace HB := Aside0.mk (below_step HB.out hb); clear hb hbox hg) | ((with_reducible refine gate_dst (N := 3) rfl ?_); refine box_event ?hg (N := 3) ?hd (cs := #[.bool a1_0, .slice A1_1 l1_1.length c1_1]) (t := 24) ?hr ?_; (case hd => rfl); (case hg => rfl); (case hr => first | (go_simp; done) | (go_simp; rfl)); intro gb882 hg w6 hbox hb; have BK882 := Aside0.mk (hbox); have GW882 := Aside0.mk (bxLe HB.out hg); have GE882 := GW882; replace HB := Aside0.mk (below_step HB.out hb); have NB881_882 := Aside0.mk (neL BK881.out hg); have NB882_881 := Aside0.mk (neR BK881.out hg); replace BK881 := Aside0.mk (blk_below BK881.out hb); clear hb hbox hg) | ((with_reducible refine gate_dst (N := 4) rfl ?_); refine box_event ?hg (N := 4) ?hd (cs := #[.bool false, .slice none 0 0]) (t := 24) ?hr ?_; (case hd => rfl); (case hg => rfl); (case hr => first | (go_simp; done) | (go_simp; rfl)); intro gb883 hg w7 hbox hb; have BK883 := Aside0.mk (hbox); have GW883 := Aside0.mk (bxLe HB.out hg); have GE883 := GW883; replace HB := Aside0.mk (below_step HB.out hb); have NB881_883 := Aside0.mk (neL BK881.out hg); have NB883_881 := Aside0.mk (neR BK881.out hg); replace BK881 := Aside0.mk (blk_below BK881.out hb); have NB882_883 := Aside0.mk (neL BK882.out hg); have NB883_882 := Aside0.mk (neR BK882.out hg); replace BK882 := Aside0.mk (blk_below BK882.out hb); clear hb hbox hg; have hnb8 := NB882_881.out; have hnc8 := NB881_882.out; have hnb9 := NB882_883.out; have hnc9 := NB883_882.out; have hcz10_0 := bc0 BK882.out; have hcz10_1 := bc1 BK882.out; have hfz10_0 := blk_frozen BK882.out 0; have hfz10_1 := blk_frozen BK882.out 1) | ((with_reducible refine gate_callee (f := 29) rfl ?_); refine goL (some 12) Tryd.func29 [.agg #[.bool a1_0, .slice A1_1 l1_1.length c1_1]] ?_; (with_reducible refine (gudgeonref02_Sign.calls k a1_0 _ _ l1_1 t884 _ ?side1 ?side2 A3.out).mono ?_); (case side1 => exact (Kd.C_below HR1_1.out HB.out)); (case side2 => exact HC1_1.out); rintro e w11 ⟨rfl, hb⟩; refine ⟨_, rfl, ?_⟩; replace BK881 := Aside0.mk (blk_below BK881.out hb); replace BK882 := Aside0.mk (blk_below BK882.out hb); replace BK883 := Aside0.mk (blk_below BK883.out hb); replace HB := Aside0.mk (below_step HB.out hb); (try clear hb); (try clear hb2); (try clear hk); (try clear hi); have hnb12 := NB883_881.out; have hnc12 := NB881_883.out; have hcz13_0 := bc0 BK883.out; have hcz13_1 := bc1 BK883.out; have hfz13_0 := blk_frozen BK883.out 0; have hfz13_1 := blk_frozen BK883.out 1))
  refine bodyPost_ret (results_ct rfl _ _ gb883 24 #[.bool false, .slice none 0 0] (0, 0) _ rfl (by refine blk_put (cs := #[.bool false, .slice none 0 0]) ?_ 1 _ rfl; refine blk_put (cs := #[.bool false, .slice none 0 0]) ?_ 0 _ rfl; exact BK883.out) Tryd.underlying24 rfl (by kernel_rfl)) rfl ?_
  exact ⟨_, by first | rfl | (simp [errW_none, errW_some] <;> rfl) | (simp [*, errW_none, errW_some] <;> rfl), by first | exact Kd.R_nil _ _ _ _ _ | exact Kd.N_nil _ _ _ _ _ | exact Kd.V_nil _ _ _ _ _ | exact Kd.Q_nil _ _ _ _ _ | exact Kd.S_nil _ _ _ _ _, by repeat (first | (with_reducible first | exact HB.out | apply below_alloc | apply pw_below_drewN | apply below_drew1 | refine below_set ?_ GE881.out | refine below_set ?_ GE882.out | refine below_set ?_ GE883.out) | exact HB.out)⟩
 ·rw [if_neg c4] at H
  have c4b0 : (t884 == 0) = false := beq_eq_false_iff_ne.mpr c4
  have c4b1 : (t884 != 0) = true := bne_iff_ne.mpr c4
  replace H := Option.bind_eq_some_iff.mp H
  obtain ⟨t887, A140, H⟩ := H
  replace H : (if t887 < 0 then ((gudgeonref02_Neg.f k a0_0 l0_1).bind fun bt888 => ((gudgeonref02_Neg.f k a1_0 l1_1).bind fun bt892 => ((gudgeonref02_DivMod.f k bt888.1 bt888.2 bt892.1 bt892.2).bind fun bt896 => (some (bt896.1, bt896.2.1, 0))))) else ((gudgeonref02_DivMod.f k a0_0 l0_1 a1_0 l1_1).bind fun bt907 => (some (bt907.1, bt907.2.1, 0)))) = some (r1, r2, r3) := H
  have A14 := Aside0.mk A140
  clear A140
  by_cases c15 : t887 < 0
  ·rw [if_pos c15] at H
   have c15b0 : decide (t887 < 0) = true := decide_eq_true c15
   clear c15
   replace H := Option.bind_eq_some_iff.mp H
   obtain ⟨⟨t888, t889⟩, A160, H⟩ := H
   replace H : ((gudgeonref02_Neg.f k a1_0 l1_1).bind fun bt892 => ((gudgeonref02_DivMod.f k t888 t889 bt892.1 bt892.2).bind fun bt896 => (some (bt896.1, bt896.2.1, 0)))) = some (r1, r2, r3) := H
   have A16 := Aside0.mk A160
   clear A160
   replace H := Option.bind_eq_some_iff.mp H
   obtain ⟨⟨t892, t893⟩, A170, H⟩ := H
   replace H : ((gudgeonref02_DivMod.f k t888 t889 t892 t893).bind fun bt896 => (some (bt896.1, bt896.2.1, 0))) = some (r1, r2, r3) := H
   have A17 := Aside0.mk A170
   clear A170
   replace H := Option.bind_eq_some_iff.mp H
   obtain ⟨⟨t896, t897, t900, t901, t904⟩, A180, H⟩ := H
   replace H : (some (t896, t897, 0)) = some (r1, r2, r3) := H
   have A18 := Aside0.mk A180
   clear A180
   simp only [Option.some.injEq, Prod.mk.injEq] at H
   obtain ⟨rfl, rfl, rfl⟩ := H
   go_enter Tryd.func14, Tryd.ntmps14
   go_wp2_with (first | ((with_reducible refine gate_dst (N := 2) rfl ?_); refine box_event ?hg (N := 2) ?hd (cs := #[.bool a0_0, .slice A0_1 l0_1.length c0_1]) (t := 24) ?hr ?_; (case hd => rfl); (case hg => rfl); (case hr => first | (go_simp; done) | (go_simp; rfl)); intro gb881 hg w19 hbox hb; have BK881 := Aside0.mk (hbox); have GW881 := Aside0.mk (bxLe HB.out hg); have GE881 := GW881; replace HB := Aside0.mk (below_step HB.out hb); clear hb hbox hg) | ((with_reducible refine gate_dst (N := 3) rfl ?_); refine box_event ?hg (N := 3) ?hd (cs := #[.bool a1_0, .slice A1_1 l1_1.length c1_1]) (t := 24) ?hr ?_; (case hd => rfl); (case hg => rfl); (case hr => first | (go_simp; done) | (go_simp; rfl)); intro gb882 hg w20 hbox hb; have BK882 := Aside0.mk (hbox); have GW882 := Aside0.mk (bxLe HB.out hg); have GE882 := GW882; replace HB := Aside0.mk (below_step HB.out hb); have NB881_882 := Aside0.mk (neL BK881.out hg); have NB882_881 := Aside0.mk (neR BK881.out hg); replace BK881 := Aside0.mk (blk_below BK881.out hb); clear hb hbox hg) | ((with_reducible refine gate_dst (N := 4) rfl ?_); refine box_event ?hg (N := 4) ?hd (cs := #[.bool false, .slice none 0 0]) (t := 24) ?hr ?_; (case hd => rfl); (case hg => rfl); (case hr => first | (go_simp; done) | (go_simp; rfl)); intro gb883 hg w21 hbox hb; have BK883 := Aside0.mk (hbox); have GW883 := Aside0.mk (bxLe HB.out hg); have GE883 := GW883; replace HB := Aside0.mk (below_step HB.out hb); have NB881_883 := Aside0.mk (neL BK881.out hg); have NB883_881 := Aside0.mk (neR BK881.out hg); replace BK881 := Aside0.mk (blk_below BK881.out hb); have NB882_883 := Aside0.mk (neL BK882.out hg); have NB883_882 := Aside0.mk (neR BK882.out hg); replace BK882 := Aside0.mk (blk_below BK882.out hb); clear hb hbox hg; have hnb22 := NB882_881.out; have hnc22 := NB881_882.out; have hnb23 := NB882_883.out; have hnc23 := NB883_882.out; have hcz24_0 := bc0 BK882.out; have hcz24_1 := bc1 BK882.out; have hfz24_0 := blk_frozen BK882.out 0; have hfz24_1 := blk_frozen BK882.out 1) | ((with_reducible refine gate_callee (f := 29) rfl ?_); refine goL (some 12) Tryd.func29 [.agg #[.bool a1_0, .slice A1_1 l1_1.length c1_1]] ?_; (with_reducible refine (gudgeonref02_Sign.calls k a1_0 _ _ l1_1 t884 _ ?side1 ?side2 A3.out).mono ?_); (case side1 => exact (Kd.C_below HR1_1.out HB.out)); (case side2 => exact HC1_1.out); rintro e w25 ⟨rfl, hb⟩; refine ⟨_, rfl, ?_⟩; replace BK881 := Aside0.mk (blk_below BK881.out hb); replace BK882 := Aside0.mk (blk_below BK882.out hb); replace BK883 := Aside0.mk (blk_below BK883.out hb); replace HB := Aside0.mk (below_step HB.out hb); (try clear hb); (try clear hb2); (try clear hk); (try clear hi); have hnb26 := NB881_883.out; have hnc26 := NB883_881.out; have hcz27_0 := bc0 BK881.out; have hcz27_1 := bc1 BK881.out; have hfz27_0 := blk_frozen BK881.out 0; have hfz27_1 := blk_frozen BK881.out 1) | ((with_reducible refine gate_dst (N := 6) rfl ?_); refine box_event ?hg (N := 6) ?hd (cs := #[.bool false, .slice none 0 0]) (t := 24) ?hr ?_; (case hd => rfl); (case hg => rfl); (case hr => first | (go_simp; done) | (go_simp; rfl)); intro gb885 hg w28 hbox hb; have BK885 := Aside0.mk (hbox); have GW885 := Aside0.mk (bxLe HB.out hg); have GE885 := GW885; replace HB := Aside0.mk (below_step HB.out hb); have NB881_885 := Aside0.mk (neL BK881.out hg); have NB885_881 := Aside0.mk (neR BK881.out hg); replace BK881 := Aside0.mk (blk_below BK881.out hb); have NB882_885 := Aside0.mk (neL BK882.out hg); have NB885_882 := Aside0.mk (neR BK882.out hg); replace BK882 := Aside0.mk (blk_below BK882.out hb); have NB883_885 := Aside0.mk (neL BK883.out hg); have NB885_883 := Aside0.mk (neR BK883.out hg); replace BK883 := Aside0.mk (blk_below BK883.out hb); clear hb hbox hg; have hnb29 := NB885_881.out; have hnc29 := NB881_885.out; have hnb30 := NB885_882.out; have hnc30 := NB882_885.out; have hnb31 := NB885_883.out; have hnc31 := NB883_885.out; have hcz32_0 := bc0 BK885.out; have hcz32_1 := bc1 BK885.out; have hfz32_0 := blk_frozen BK885.out 0; have hfz32_1 := blk_frozen BK885.out 1; have hcz33_0 := bc0 BK882.out; have hcz33_1 := bc1 BK882.out; have hfz33_0 := blk_frozen BK882.out 0; have hfz33_1 := blk_frozen BK882.out 1) | ((with_reducible refine gate_dst (N := 7) rfl ?_); refine box_event ?hg (N := 7) ?hd (cs := #[.bool false, .slice none 0 0]) (t := 24) ?hr ?_; (case hd => rfl); (case hg => rfl); (case hr => first | (go_simp; done) | (go_simp; rfl)); intro gb886 hg w34 hbox hb; have BK886 := Aside0.mk (hbox); have GW886 := Aside0.mk (bxLe (by repeat first | exact HB.out | refine bxSet ?_ (by assumption) | apply below_alloc | apply pw_below_drewN) hg); have GE886 := GW886; replace HB := Aside0.mk (below_step (by repeat first | exact HB.out | refine bxSet ?_ (by assumption) | apply below_alloc | apply pw_below_drewN) hb); have NB881_886 := Aside0.mk ((by rw [hg]; exact Nat.ne_of_lt (blk_lt (g := gb881) (o := .cells #[.bool a0_0, .slice A0_1 l0_1.length c0_1] 24 (0, 0)) (by refine blk_far ?_ NB881_885.out _; refine blk_far ?_ NB881_885.out _; exact BK881.out)) : gb881 ≠ gb886)); have NB886_881 := Aside0.mk ((by rw [hg]; exact Nat.ne_of_gt (blk_lt (g := gb881) (o := .cells #[.bool a0_0, .slice A0_1 l0_1.length c0_1] 24 (0, 0)) (by refine blk_far ?_ NB881_885.out _; refine blk_far ?_ NB881_885.out _; exact BK881.out)) : gb886 ≠ gb881)); replace BK881 := Aside0.mk (blk_below (g := gb881) (o := .cells #[.bool a0_0, .slice A0_1 l0_1.length c0_1] 24 (0, 0)) (by refine blk_far ?_ NB881_885.out _; refine blk_far ?_ NB881_885.out _; exact BK881.out) hb); have NB882_886 := Aside0.mk ((by rw [hg]; exact Nat.ne_of_lt (blk_lt (g := gb882) (o := .cells #[.bool a1_0, .slice A1_1 l1_1.length c1_1] 24 (0, 0)) (by refine blk_far ?_ NB882_885.out _; refine blk_far ?_ NB882_885.out _; exact BK882.out)) : gb882 ≠ gb886)); have NB886_882 := Aside0.mk ((by rw [hg]; exact Nat.ne_of_gt (blk_lt (g := gb882) (o := .cells #[.bool a1_0, .slice A1_1 l1_1.length c1_1] 24 (0, 0)) (by refine blk_far ?_ NB882_885.out _; refine blk_far ?_ NB882_885.out _; exact BK882.out)) : gb886 ≠ gb882)); replace BK882 := Aside0.mk (blk_below (g := gb882) (o := .cells #[.bool a1_0, .slice A1_1 l1_1.length c1_1] 24 (0, 0)) (by refine blk_far ?_ NB882_885.out _; refine blk_far ?_ NB882_885.out _; exact BK882.out) hb); have NB883_886 := Aside0.mk ((by rw [hg]; exact Nat.ne_of_lt (blk_lt (g := gb883) (o := .cells #[.bool false, .slice none 0 0] 24 (0, 0)) (by refine blk_far ?_ NB883_885.out _; refine blk_far ?_ NB883_885.out _; exact BK883.out)) : gb883 ≠ gb886)); have NB886_883 := Aside0.mk ((by rw [hg]; exact Nat.ne_of_gt (blk_lt (g := gb883) (o := .cells #[.bool false, .slice none 0 0] 24 (0, 0)) (by refine blk_far ?_ NB883_885.out _; refine blk_far ?_ NB883_885.out _; exact BK883.out)) : gb886 ≠ gb883)); replace BK883 := Aside0.mk (blk_below (g := gb883) (o := .cells #[.bool false, .slice none 0 0] 24 (0, 0)) (by refine blk_far ?_ NB883_885.out _; refine blk_far ?_ NB883_885.out _; exact BK883.out) hb); have NB885_886 := Aside0.mk ((by rw [hg]; exact Nat.ne_of_lt (blk_lt (g := gb885) (o := .cells #[.bool a0_0, .slice A0_1 l0_1.length c0_1] 24 (0, 0)) (by refine blk_put (cs := #[.bool a0_0, .slice none 0 0]) ?_ 1 _ rfl; refine blk_put (cs := #[.bool false, .slice none 0 0]) ?_ 0 _ rfl; exact BK885.out)) : gb885 ≠ gb886)); have NB886_885 := Aside0.mk ((by rw [hg]; exact Nat.ne_of_gt (blk_lt (g := gb885) (o := .cells #[.bool a0_0, .slice A0_1 l0_1.length c0_1] 24 (0, 0)) (by refine blk_put (cs := #[.bool a0_0, .slice none 0 0]) ?_ 1 _ rfl; refine blk_put (cs := #[.bool false, .slice none 0 0]) ?_ 0 _ rfl; exact BK885.out)) : gb886 ≠ gb885)); replace BK885 := Aside0.mk (blk_below (g := gb885) (o := .cells #[.bool a0_0, .slice A0_1 l0_1.length c0_1] 24 (0, 0)) (by refine blk_put (cs := #[.bool a0_0, .slice none 0 0]) ?_ 1 _ rfl; refine blk_put (cs := #[.bool false, .slice none 0 0]) ?_ 0 _ rfl; exact BK885.out) hb); clear hb hbox hg; have hnb35 := NB886_881.out; have hnc35 := NB881_886.out; have hnb36 := NB886_882.out; have hnc36 := NB882_886.out; have hnb37 := NB886_883.out; have hnc37 := NB883_886.out; have hnb38 := NB886_885.out; have hnc38 := NB885_886.out; have hcz39_0 := bc0 BK886.out; have hcz39_1 := bc1 BK886.out; have hfz39_0 := blk_frozen BK886.out 0; have hfz39_1 := blk_frozen BK886.out 1; have hcz40_0 := bc0 BK882.out; have hcz40_1 := bc1 BK882.out; have hfz40_0 := blk_frozen BK882.out 0; have hfz40_1 := blk_frozen BK882.out 1) | ((with_reducible refine gate_callee (f := 29) rfl ?_); refine goL (some 18) Tryd.func29 [.agg #[.bool a1_0, .slice A1_1 l1_1.length c1_1]] ?_; (with_reducible refine (gudgeonref02_Sign.calls k a1_0 _ _ l1_1 t887 _ ?side1 ?side2 A14.out).mono ?_); (case side1 => exact Kd.C_below HR1_1.out (by repeat first | exact HB.out | refine bxSet ?_ (by assumption) | apply below_alloc | apply pw_below_drewN)); (case side2 => exact HC1_1.out); rintro e w41 ⟨rfl, hb⟩; refine ⟨_, rfl, ?_⟩; replace BK881 := Aside0.mk (blk_below (g := gb881) (o := .cells #[.bool a0_0, .slice A0_1 l0_1.length c0_1] 24 (0, 0)) (by refine blk_far ?_ NB881_886.out _; refine blk_far ?_ NB881_886.out _; exact BK881.out) hb); replace BK882 := Aside0.mk (blk_below (g := gb882) (o := .cells #[.bool a1_0, .slice A1_1 l1_1.length c1_1] 24 (0, 0)) (by refine blk_far ?_ NB882_886.out _; refine blk_far ?_ NB882_886.out _; exact BK882.out) hb); replace BK883 := Aside0.mk (blk_below (g := gb883) (o := .cells #[.bool false, .slice none 0 0] 24 (0, 0)) (by refine blk_far ?_ NB883_886.out _; refine blk_far ?_ NB883_886.out _; exact BK883.out) hb); replace BK885 := Aside0.mk (blk_below (g := gb885) (o := .cells #[.bool a0_0, .slice A0_1 l0_1.length c0_1] 24 (0, 0)) (by refine blk_far ?_ NB885_886.out _; refine blk_far ?_ NB885_886.out _; exact BK885.out) hb); replace BK886 := Aside0.mk (blk_below (g := gb886) (o := .cells #[.bool a1_0, .slice A1_1 l1_1.length c1_1] 24 (0, 0)) (by refine blk_put (cs := #[.bool a1_0, .slice none 0 0]) ?_ 1 _ rfl; refine blk_put (cs := #[.bool false, .slice none 0 0]) ?_ 0 _ rfl; exact BK886.out) hb); replace HB := Aside0.mk (below_step (by repeat first | exact HB.out | refine bxSet ?_ (by assumption) | apply below_alloc | apply pw_below_drewN) hb); (try clear hb); (try clear hb2); (try clear hk); (try clear hi); have hcz42_0 := bc0 BK881.out; have hcz42_1 := bc1 BK881.out; have hfz42_0 := blk_frozen BK881.out 0; have hfz42_1 := blk_frozen BK881.out 1) | ((with_reducible refine gate_callee (f := 19) rfl ?_); refine goL (some 21) Tryd.func19 [.agg #[.bool a0_0, .slice A0_1 l0_1.length c0_1]] ?_; (with_reducible refine (gudgeonref02_Neg.calls k a0_0 _ _ l0_1 t888 t889 _ ?side1 ?side2 A16.out).mono ?_); (case side1 => exact (Kd.C_below HR0_1.out HB.out)); (case side2 => exact HC0_1.out); rintro e w43 ⟨v890, rfl, ho0, hb⟩; refine ⟨_, rfl, ?_⟩; have HO891 := Aside0.mk (Kd.R_lower ho0 (below_size HB.out)); replace BK881 := Aside0.mk (blk_below BK881.out hb); replace BK882 := Aside0.mk (blk_below BK882.out hb); replace BK883 := Aside0.mk (blk_below BK883.out hb); replace BK885 := Aside0.mk (blk_below BK885.out hb); replace BK886 := Aside0.mk (blk_below BK886.out hb); replace HB := Aside0.mk (below_step HB.out hb); have hcz44_0 := bc0 BK885.out; have hcz44_1 := bc1 BK885.out; have hfz44_0 := blk_frozen BK885.out 0; have hfz44_1 := blk_frozen BK885.out 1; obtain ⟨Ao45, co45, eo45⟩ := Kd.R_slice HO891.out; subst eo45; have hcz46_0 := bc0 BK882.out; have hcz46_1 := bc1 BK882.out; have hfz46_0 := blk_frozen BK882.out 0; have hfz46_1 := blk_frozen BK882.out 1) | ((with_reducible refine gate_callee (f := 19) rfl ?_); refine goL (some 23) Tryd.func19 [.agg #[.bool a1_0, .slice A1_1 l1_1.length c1_1]] ?_; (with_reducible refine (gudgeonref02_Neg.calls k a1_0 _ _ l1_1 t892 t893 _ ?side1 ?side2 A17.out).mono ?_); (case side1 => exact Kd.C_below HR1_1.out (by repeat first | exact HB.out | refine bxSet ?_ (by assumption) | apply below_alloc | apply pw_below_drewN)); (case side2 => exact HC1_1.out); rintro e w47 ⟨v894, rfl, ho0, hb⟩; refine ⟨_, rfl, ?_⟩; have HO895 := Aside0.mk (Kd.R_lower (Kd.R_new' ho0 (Kd.R_lt (Kd.R_mono (Kd.R_far (p := ⟨gb885, 1, none⟩) (Kd.R_far (p := ⟨gb885, 0, none⟩) (Kd.R_types HO891.out BK885.out (by decide)) (fun _ hk => hk.2) (.bool t888)) (fun _ hk => hk.2) (.slice Ao45 t889.length co45)) (fun _ h_ => h_.1)))) (below_size (by repeat first | exact HB.out | refine bxSet ?_ (by assumption) | apply below_alloc | apply pw_below_drewN))); replace HO891 := Aside0.mk (Kd.R_elder' (Kd.R_mono (Kd.R_far (p := ⟨gb885, 1, none⟩) (Kd.R_far (p := ⟨gb885, 0, none⟩) (Kd.R_types HO891.out BK885.out (by decide)) (fun _ hk => hk.2) (.bool t888)) (fun _ hk => hk.2) (.slice Ao45 t889.length co45)) (fun _ h_ => h_.1)) (Kd.R_base ho0) hb); replace BK881 := Aside0.mk (blk_below (g := gb881) (o := .cells #[.bool a0_0, .slice A0_1 l0_1.length c0_1] 24 (0, 0)) (by refine blk_far ?_ NB881_885.out _; refine blk_far ?_ NB881_885.out _; exact BK881.out) hb); replace BK882 := Aside0.mk (blk_below (g := gb882) (o := .cells #[.bool a1_0, .slice A1_1 l1_1.length c1_1] 24 (0, 0)) (by refine blk_far ?_ NB882_885.out _; refine blk_far ?_ NB882_885.out _; exact BK882.out) hb); replace BK883 := Aside0.mk (blk_below (g := gb883) (o := .cells #[.bool false, .slice none 0 0] 24 (0, 0)) (by refine blk_far ?_ NB883_885.out _; refine blk_far ?_ NB883_885.out _; exact BK883.out) hb); replace BK885 := Aside0.mk (blk_below (g := gb885) (o := .cells #[.bool t888, .slice Ao45 t889.length co45] 24 (0, 0)) (by refine blk_put (cs := #[.bool t888, .slice A0_1 l0_1.length c0_1]) ?_ 1 _ rfl; refine blk_put (cs := #[.bool a0_0, .slice A0_1 l0_1.length c0_1]) ?_ 0 _ rfl; exact BK885.out) hb); replace BK886 := Aside0.mk (blk_below (g := gb886) (o := .cells #[.bool a1_0, .slice A1_1 l1_1.length c1_1] 24 (0, 0)) (by refine blk_far ?_ NB886_885.out _; refine blk_far ?_ NB886_885.out _; exact BK886.out) hb); replace HB := Aside0.mk (below_step (by repeat first | exact HB.out | refine bxSet ?_ (by assumption) | apply below_alloc | apply pw_below_drewN) hb); have hcz48_0 := bc0 BK886.out; have hcz48_1 := bc1 BK886.out; have hfz48_0 := blk_frozen BK886.out 0; have hfz48_1 := blk_frozen BK886.out 1; obtain ⟨Ao49, co49, eo49⟩ := Kd.R_slice HO895.out; subst eo49; have hcz50_0 := bc0 BK885.out; have hcz50_1 := bc1 BK885.out; have hfz50_0 := blk_frozen BK885.out 0; have hfz50_1 := blk_frozen BK885.out 1) | ((with_reducible refine gate_callee (f := 12) rfl ?_); refine goL (some 27) Tryd.func12 [.agg #[.bool t888, .slice Ao45 t889.length co45], .agg #[.bool t892, .slice Ao49 t893.length co49]] ?_; (with_reducible refine (gudgeonref02_DivMod.calls k t888 _ _ t889 t892 _ _ t893 t896 t897 t900 t901 t904 _ ?side1 ?side2 ?side3 ?side4 A18.out).mono ?_); (case side1 => refine (Kd.R_reads' (e := 51) (base := w.heap.size) (ok := fun k_ => (True ∧ some k_ ≠ (.slice Ao49 t893.length co49 : Value).ownBlock)) (n := t889.length) (c := co45) ?_).2.2; exact (Kd.R_mono (Kd.R_far (p := ⟨gb886, 1, none⟩) (Kd.R_far (p := ⟨gb886, 0, none⟩) (Kd.R_types HO891.out BK886.out (by decide)) (fun _ hk => hk.2) (.bool t892)) (fun _ hk => hk.2) (.slice Ao49 t893.length co49)) (fun _ h_ => h_.1))); (case side2 => exact (Kd.R_reads' HO891.out).2.1); (case side3 => refine (Kd.R_reads' (e := 51) (base := w.heap.size) (ok := fun k_ => (True ∧ some k_ ≠ (.slice Ao45 t889.length co45 : Value).ownBlock)) (n := t893.length) (c := co49) ?_).2.2; exact (Kd.R_mono (Kd.R_far (p := ⟨gb886, 1, none⟩) (Kd.R_far (p := ⟨gb886, 0, none⟩) (Kd.R_types HO895.out BK886.out (by decide)) (fun _ hk => hk.2) (.bool t892)) (fun _ hk => hk.2) (.slice Ao49 t893.length co49)) (fun _ h_ => h_.1))); (case side4 => exact (Kd.R_reads' HO895.out).2.1); rintro e w51 ⟨v898, v902, rfl, ho0, ho1, hb⟩; refine ⟨_, rfl, ?_⟩; have HO899 := Aside0.mk (Kd.R_lower (Kd.R_new' (Kd.R_new' ho0 (Kd.R_lt (Kd.R_mono (Kd.R_far (p := ⟨gb886, 1, none⟩) (Kd.R_far (p := ⟨gb886, 0, none⟩) (Kd.R_types HO891.out BK886.out (by decide)) (fun _ hk => hk.2) (.bool t892)) (fun _ hk => hk.2) (.slice Ao49 t893.length co49)) (fun _ h_ => h_.1)))) (Kd.R_lt (Kd.R_mono (Kd.R_far (p := ⟨gb886, 1, none⟩) (Kd.R_far (p := ⟨gb886, 0, none⟩) (Kd.R_types HO895.out BK886.out (by decide)) (fun _ hk => hk.2) (.bool t892)) (fun _ hk => hk.2) (.slice Ao49 t893.length co49)) (fun _ h_ => h_.1)))) (below_size (by repeat first | exact HB.out | refine bxSet ?_ (by assumption) | apply below_alloc | apply pw_below_drewN))); have HO903 := Aside0.mk (Kd.R_lower (Kd.R_new' (Kd.R_new' ho1 (Kd.R_lt (Kd.R_mono (Kd.R_far (p := ⟨gb886, 1, none⟩) (Kd.R_far (p := ⟨gb886, 0, none⟩) (Kd.R_types HO891.out BK886.out (by decide)) (fun _ hk => hk.2) (.bool t892)) (fun _ hk => hk.2) (.slice Ao49 t893.length co49)) (fun _ h_ => h_.1)))) (Kd.R_lt (Kd.R_mono (Kd.R_far (p := ⟨gb886, 1, none⟩) (Kd.R_far (p := ⟨gb886, 0, none⟩) (Kd.R_types HO895.out BK886.out (by decide)) (fun _ hk => hk.2) (.bool t892)) (fun _ hk => hk.2) (.slice Ao49 t893.length co49)) (fun _ h_ => h_.1)))) (below_size (by repeat first | exact HB.out | refine bxSet ?_ (by assumption) | apply below_alloc | apply pw_below_drewN))); replace HO891 := Aside0.mk (Kd.R_mono (Kd.R_told (Kd.R_told (Kd.R_old (Kd.R_mono (Kd.R_far (p := ⟨gb886, 1, none⟩) (Kd.R_far (p := ⟨gb886, 0, none⟩) (Kd.R_types HO891.out BK886.out (by decide)) (fun _ hk => hk.2) (.bool t892)) (fun _ hk => hk.2) (.slice Ao49 t893.length co49)) (fun _ h_ => h_.1)) hb) (Kd.R_base ho0)) (Kd.R_base ho1)) (fun _ h_ => h_.1)); replace HO895 := Aside0.mk (Kd.R_mono (Kd.R_told (Kd.R_told (Kd.R_old (Kd.R_mono (Kd.R_far (p := ⟨gb886, 1, none⟩) (Kd.R_far (p := ⟨gb886, 0, none⟩) (Kd.R_types HO895.out BK886.out (by decide)) (fun _ hk => hk.2) (.bool t892)) (fun _ hk => hk.2) (.slice Ao49 t893.length co49)) (fun _ h_ => h_.1)) hb) (Kd.R_base ho0)) (Kd.R_base ho1)) (fun _ h_ => h_.1)); replace BK881 := Aside0.mk (blk_below (g := gb881) (o := .cells #[.bool a0_0, .slice A0_1 l0_1.length c0_1] 24 (0, 0)) (by refine blk_far ?_ NB881_886.out _; refine blk_far ?_ NB881_886.out _; exact BK881.out) hb); replace BK882 := Aside0.mk (blk_below (g := gb882) (o := .cells #[.bool a1_0, .slice A1_1 l1_1.length c1_1] 24 (0, 0)) (by refine blk_far ?_ NB882_886.out _; refine blk_far ?_ NB882_886.out _; exact BK882.out) hb); replace BK883 := Aside0.mk (blk_below (g := gb883) (o := .cells #[.bool false, .slice none 0 0] 24 (0, 0)) (by refine blk_far ?_ NB883_886.out _; refine blk_far ?_ NB883_886.out _; exact BK883.out) hb); replace BK885 := Aside0.mk (blk_below (g := gb885) (o := .cells #[.bool t888, .slice Ao45 t889.length co45] 24 (0, 0)) (by refine blk_far ?_ NB885_886.out _; refine blk_far ?_ NB885_886.out _; exact BK885.out) hb); replace BK886 := Aside0.mk (blk_below (g := gb886) (o := .cells #[.bool t892, .slice Ao49 t893.length co49] 24 (0, 0)) (by refine blk_put (cs := #[.bool t892, .slice A1_1 l1_1.length c1_1]) ?_ 1 _ rfl; refine blk_put (cs := #[.bool a1_0, .slice A1_1 l1_1.length c1_1]) ?_ 0 _ rfl; exact BK886.out) hb); replace HB := Aside0.mk (below_step (by repeat first | exact HB.out | refine bxSet ?_ (by assumption) | apply below_alloc | apply pw_below_drewN) hb); (try clear ho1)) | ((with_reducible refine gate_dst (N := 8) rfl ?_); refine box_event ?hg (N := 8) ?hd (cs := #[.bool false, .slice none 0 0]) (t := 24) ?hr ?_; (case hd => rfl); (case hg => rfl); (case hr => first | (go_simp; done) | (go_simp; rfl)); intro gb905 hg w52 hbox hb; replace HO891 := Aside0.mk (Kd.R_below HO891.out hb); replace HO895 := Aside0.mk (Kd.R_below HO895.out hb); replace HO899 := Aside0.mk (Kd.R_below HO899.out hb); replace HO903 := Aside0.mk (Kd.R_below HO903.out hb); have BK905 := Aside0.mk (hbox); have GW905 := Aside0.mk (bxLe HB.out hg); have GE905 := GW905; replace HB := Aside0.mk (below_step HB.out hb); have NB881_905 := Aside0.mk (neL BK881.out hg); have NB905_881 := Aside0.mk (neR BK881.out hg); replace BK881 := Aside0.mk (blk_below BK881.out hb); have NB882_905 := Aside0.mk (neL BK882.out hg); have NB905_882 := Aside0.mk (neR BK882.out hg); replace BK882 := Aside0.mk (blk_below BK882.out hb); have NB883_905 := Aside0.mk (neL BK883.out hg); have NB905_883 := Aside0.mk (neR BK883.out hg); replace BK883 := Aside0.mk (blk_below BK883.out hb); have NB885_905 := Aside0.mk (neL BK885.out hg); have NB905_885 := Aside0.mk (neR BK885.out hg); replace BK885 := Aside0.mk (blk_below BK885.out hb); have NB886_905 := Aside0.mk (neL BK886.out hg); have NB905_886 := Aside0.mk (neR BK886.out hg); replace BK886 := Aside0.mk (blk_below BK886.out hb); clear hb hbox hg) | ((with_reducible refine gate_dst (N := 9) rfl ?_); refine box_event ?hg (N := 9) ?hd (cs := #[.bool false, .slice none 0 0]) (t := 24) ?hr ?_; (case hd => rfl); (case hg => rfl); (case hr => first | (go_simp; done) | (go_simp; rfl)); intro gb906 hg w53 hbox hb; replace HO891 := Aside0.mk (Kd.R_below HO891.out hb); replace HO895 := Aside0.mk (Kd.R_below HO895.out hb); replace HO899 := Aside0.mk (Kd.R_below HO899.out hb); replace HO903 := Aside0.mk (Kd.R_below HO903.out hb); have BK906 := Aside0.mk (hbox); have GW906 := Aside0.mk (bxLe HB.out hg); have GE906 := GW906; replace HB := Aside0.mk (below_step HB.out hb); have NB881_906 := Aside0.mk (neL BK881.out hg); have NB906_881 := Aside0.mk (neR BK881.out hg); replace BK881 := Aside0.mk (blk_below BK881.out hb); have NB882_906 := Aside0.mk (neL BK882.out hg); have NB906_882 := Aside0.mk (neR BK882.out hg); replace BK882 := Aside0.mk (blk_below BK882.out hb); have NB883_906 := Aside0.mk (neL BK883.out hg); have NB906_883 := Aside0.mk (neR BK883.out hg); replace BK883 := Aside0.mk (blk_below BK883.out hb); have NB885_906 := Aside0.mk (neL BK885.out hg); have NB906_885 := Aside0.mk (neR BK885.out hg); replace BK885 := Aside0.mk (blk_below BK885.out hb); have NB886_906 := Aside0.mk (neL BK886.out hg); have NB906_886 := Aside0.mk (neR BK886.out hg); replace BK886 := Aside0.mk (blk_below BK886.out hb); have NB905_906 := Aside0.mk (neL BK905.out hg); have NB906_905 := Aside0.mk (neR BK905.out hg); replace BK905 := Aside0.mk (blk_below BK905.out hb); clear hb hbox hg; have hnb54 := NB905_881.out; have hnc54 := NB881_905.out; have hnb55 := NB905_882.out; have hnc55 := NB882_905.out; have hnb56 := NB905_883.out; have hnc56 := NB883_905.out; have hnb57 := NB905_885.out; have hnc57 := NB885_905.out; have hnb58 := NB905_886.out; have hnc58 := NB886_905.out; have hnb59 := NB905_906.out; have hnc59 := NB906_905.out; have hcz60_0 := bc0 BK905.out; have hcz60_1 := bc1 BK905.out; have hfz60_0 := blk_frozen BK905.out 0; have hfz60_1 := blk_frozen BK905.out 1; obtain ⟨Ao61, co61, eo61⟩ := Kd.R_slice HO899.out; subst eo61; have hnb62 := NB906_881.out; have hnc62 := NB881_906.out; have hnb63 := NB906_882.out; have hnc63 := NB882_906.out; have hnb64 := NB906_883.out; have hnc64 := NB883_906.out; have hnb65 := NB906_885.out; have hnc65 := NB885_906.out; have hnb66 := NB906_886.out; have hnc66 := NB886_906.out; have hcz67_0 := bc0 BK906.out; have hcz67_1 := bc1 BK906.out; have hfz67_0 := blk_frozen BK906.out 0; have hfz67_1 := blk_frozen BK906.out 1; obtain ⟨Ao68, co68, eo68⟩ := Kd.R_slice HO903.out; subst eo68; have hcz69_0 := bc0 BK883.out; have hcz69_1 := bc1 BK883.out; have hfz69_0 := blk_frozen BK883.out 0; have hfz69_1 := blk_frozen BK883.out 1))
   refine bodyPost_ret (results_ct rfl _ _ gb883 24 #[.bool t896, .slice Ao61 t897.length co61] (0, 0) _ rfl (by refine blk_put (cs := #[.bool t896, .slice none 0 0]) ?_ 1 _ rfl; refine blk_put (cs := #[.bool false, .slice none 0 0]) ?_ 0 _ rfl; refine blk_far ?_ NB883_906.out _; refine blk_far ?_ NB883_906.out _; refine blk_far ?_ NB883_905.out _; refine blk_far ?_ NB883_905.out _; exact BK883.out) Tryd.underlying24 rfl (by kernel_rfl)) rfl ?_
   exact ⟨_, by first | rfl | (simp [errW_none, errW_some] <;> rfl) | (simp [*, errW_none, errW_some] <;> rfl), by (with_reducible repeat (first | apply Kd.R_alloc | apply Kd.R_drewN | apply Kd.R_drew)); exact Kd.R_mono (Kd.R_far (p := ⟨gb883, 1, none⟩) (Kd.R_far (p := ⟨gb883, 0, none⟩) (Kd.R_far (p := ⟨gb906, 1, none⟩) (Kd.R_far (p := ⟨gb906, 0, none⟩) (Kd.R_far (p := ⟨gb905, 1, none⟩) (Kd.R_far (p := ⟨gb905, 0, none⟩) (Kd.R_types (Kd.R_types (Kd.R_types HO899.out BK905.out (by decide)) BK906.out (by decide)) BK883.out (by decide)) (fun _ hk => hk.1.1.2) (.bool t896)) (fun _ hk => hk.1.1.2) (.slice Ao61 t897.length co61)) (fun _ hk => hk.1.2) (.bool t900)) (fun _ hk => hk.1.2) (.slice Ao68 t901.length co68)) (fun _ hk => hk.2) (.bool t896)) (fun _ hk => hk.2) (.slice Ao61 t897.length co61)) (fun _ hk => trivial), by repeat (first | (with_reducible first | exact HB.out | apply below_alloc | apply pw_below_drewN | apply below_drew1 | refine below_set ?_ GE881.out | refine below_set ?_ GE882.out | refine below_set ?_ GE883.out | refine below_set ?_ GE885.out | refine below_set ?_ GE886.out | refine below_set ?_ GE905.out | refine below_set ?_ GE906.out) | exact HB.out)⟩
  ·rw [if_neg c15] at H
   have c15b0 : decide (t887 < 0) = false := decide_eq_false c15
   clear c15
   replace H := Option.bind_eq_some_iff.mp H
   obtain ⟨⟨t907, t908, t911, t912, t915⟩, A700, H⟩ := H
   replace H : (some (t907, t908, 0)) = some (r1, r2, r3) := H
   have A70 := Aside0.mk A700
   clear A700
   simp only [Option.some.injEq, Prod.mk.injEq] at H
   obtain ⟨rfl, rfl, rfl⟩ := H
   go_enter Tryd.func14, Tryd.ntmps14
   go_wp2_with (first | ((with_reducible refine gate_dst (N := 2) rfl ?_); refine box_event ?hg (N := 2) ?hd (cs := #[.bool a0_0, .slice A0_1 l0_1.length c0_1]) (t := 24) ?hr ?_; (case hd => rfl); (case hg => rfl); (case hr => first | (go_simp; done) | (go_simp; rfl)); intro gb881 hg w71 hbox hb; have BK881 := Aside0.mk (hbox); have GW881 := Aside0.mk (bxLe HB.out hg); have GE881 := GW881; replace HB := Aside0.mk (below_step HB.out hb); clear hb hbox hg) | ((with_reducible refine gate_dst (N := 3) rfl ?_); refine box_event ?hg (N := 3) ?hd (cs := #[.bool a1_0, .slice A1_1 l1_1.length c1_1]) (t := 24) ?hr ?_; (case hd => rfl); (case hg => rfl); (case hr => first | (go_simp; done) | (go_simp; rfl)); intro gb882 hg w72 hbox hb; have BK882 := Aside0.mk (hbox); have GW882 := Aside0.mk (bxLe HB.out hg); have GE882 := GW882; replace HB := Aside0.mk (below_step HB.out hb); have NB881_882 := Aside0.mk (neL BK881.out hg); have NB882_881 := Aside0.mk (neR BK881.out hg); replace BK881 := Aside0.mk (blk_below BK881.out hb); clear hb hbox hg) | ((with_reducible refine gate_dst (N := 4) rfl ?_); refine box_event ?hg (N := 4) ?hd (cs := #[.bool false, .slice none 0 0]) (t := 24) ?hr ?_; (case hd => rfl); (case hg => rfl); (case hr => first | (go_simp; done) | (go_simp; rfl)); intro gb883 hg w73 hbox hb; have BK883 := Aside0.mk (hbox); have GW883 := Aside0.mk (bxLe HB.out hg); have GE883 := GW883; replace HB := Aside0.mk (below_step HB.out hb); have NB881_883 := Aside0.mk (neL BK881.out hg); have NB883_881 := Aside0.mk (neR BK881.out hg); replace BK881 := Aside0.mk (blk_below BK881.out hb); have NB882_883 := Aside0.mk (neL BK882.out hg); have NB883_882 := Aside0.mk (neR BK882.out hg); replace BK882 := Aside0.mk (blk_below BK882.out hb); clear hb hbox hg; have hnb74 := NB882_881.out; have hnc74 := NB881_882.out; have hnb75 := NB882_883.out; have hnc75 := NB883_882.out; have hcz76_0 := bc0 BK882.out; have hcz76_1 := bc1 BK882.out; have hfz76_0 := blk_frozen BK882.out 0; have hfz76_1 := blk_frozen BK882.out 1) | ((with_reducible refine gate_callee (f := 29) rfl ?_); refine goL (some 12) Tryd.func29 [.agg #[.bool a1_0, .slice A1_1 l1_1.length c1_1]] ?_; (with_reducible refine (gudgeonref02_Sign.calls k a1_0 _ _ l1_1 t884 _ ?side1 ?side2 A3.out).mono ?_); (case side1 => exact (Kd.C_below HR1_1.out HB.out)); (case side2 => exact HC1_1.out); rintro e w77 ⟨rfl, hb⟩; refine ⟨_, rfl, ?_⟩; replace BK881 := Aside0.mk (blk_below BK881.out hb); replace BK882 := Aside0.mk (blk_below BK882.out hb); replace BK883 := Aside0.mk (blk_below BK883.out hb); replace HB := Aside0.mk (below_step HB.out hb); (try clear hb); (try clear hb2); (try clear hk); (try clear hi); have hnb78 := NB881_883.out; have hnc78 := NB883_881.out; have hcz79_0 := bc0 BK881.out; have hcz79_1 := bc1 BK881.out; have hfz79_0 := blk_frozen BK881.out 0; have hfz79_1 := blk_frozen BK881.out 1) | ((with_reducible refine gate_dst (N := 6) rfl ?_); refine box_event ?hg (N := 6) ?hd (cs := #[.bool false, .slice none 0 0]) (t := 24) ?hr ?_; (case hd => rfl); (case hg => rfl); (case hr => first | (go_simp; done) | (go_simp; rfl)); intro gb885 hg w80 hbox hb; have BK885 := Aside0.mk (hbox); have GW885 := Aside0.mk (bxLe HB.out hg); have GE885 := GW885; replace HB := Aside0.mk (below_step HB.out hb); have NB881_885 := Aside0.mk (neL BK881.out hg); have NB885_881 := Aside0.mk (neR BK881.out hg); replace BK881 := Aside0.mk (blk_below BK881.out hb); have NB882_885 := Aside0.mk (neL BK882.out hg); have NB885_882 := Aside0.mk (neR BK882.out hg); replace BK882 := Aside0.mk (blk_below BK882.out hb); have NB883_885 := Aside0.mk (neL BK883.out hg); have NB885_883 := Aside0.mk (neR BK883.out hg); replace BK883 := Aside0.mk (blk_below BK883.out hb); clear hb hbox hg; have hnb81 := NB885_881.out; have hnc81 := NB881_885.out; have hnb82 := NB885_882.out; have hnc82 := NB882_885.out; have hnb83 := NB885_883.out; have hnc83 := NB883_885.out; have hcz84_0 := bc0 BK885.out; have hcz84_1 := bc1 BK885.out; have hfz84_0 := blk_frozen BK885.out 0; have hfz84_1 := blk_frozen BK885.out 1; have hcz85_0 := bc0 BK882.out; have hcz85_1 := bc1 BK882.out; have hfz85_0 := blk_frozen BK882.out 0; have hfz85_1 := blk_frozen BK882.out 1) | ((with_reducible refine gate_dst (N := 7) rfl ?_); refine box_event ?hg (N := 7) ?hd (cs := #[.bool false, .slice none 0 0]) (t := 24) ?hr ?_; (case hd => rfl); (case hg => rfl); (case hr => first | (go_simp; done) | (go_simp; rfl)); intro gb886 hg w86 hbox hb; have BK886 := Aside0.mk (hbox); have GW886 := Aside0.mk (bxLe (by repeat first | exact HB.out | refine bxSet ?_ (by assumption) | apply below_alloc | apply pw_below_drewN) hg); have GE886 := GW886; replace HB := Aside0.mk (below_step (by repeat first | exact HB.out | refine bxSet ?_ (by assumption) | apply below_alloc | apply pw_below_drewN) hb); have NB881_886 := Aside0.mk ((by rw [hg]; exact Nat.ne_of_lt (blk_lt (g := gb881) (o := .cells #[.bool a0_0, .slice A0_1 l0_1.length c0_1] 24 (0, 0)) (by refine blk_far ?_ NB881_885.out _; refine blk_far ?_ NB881_885.out _; exact BK881.out)) : gb881 ≠ gb886)); have NB886_881 := Aside0.mk ((by rw [hg]; exact Nat.ne_of_gt (blk_lt (g := gb881) (o := .cells #[.bool a0_0, .slice A0_1 l0_1.length c0_1] 24 (0, 0)) (by refine blk_far ?_ NB881_885.out _; refine blk_far ?_ NB881_885.out _; exact BK881.out)) : gb886 ≠ gb881)); replace BK881 := Aside0.mk (blk_below (g := gb881) (o := .cells #[.bool a0_0, .slice A0_1 l0_1.length c0_1] 24 (0, 0)) (by refine blk_far ?_ NB881_885.out _; refine blk_far ?_ NB881_885.out _; exact BK881.out) hb); have NB882_886 := Aside0.mk ((by rw [hg]; exact Nat.ne_of_lt (blk_lt (g := gb882) (o := .cells #[.bool a1_0, .slice A1_1 l1_1.length c1_1] 24 (0, 0)) (by refine blk_far ?_ NB882_885.out _; refine blk_far ?_ NB882_885.out _; exact BK882.out)) : gb882 ≠ gb886)); have NB886_882 := Aside0.mk ((by rw [hg]; exact Nat.ne_of_gt (blk_lt (g := gb882) (o := .cells #[.bool a1_0, .slice A1_1 l1_1.length c1_1] 24 (0, 0)) (by refine blk_far ?_ NB882_885.out _; refine blk_far ?_ NB882_885.out _; exact BK882.out)) : gb886 ≠ gb882)); replace BK882 := Aside0.mk (blk_below (g := gb882) (o := .cells #[.bool a1_0, .slice A1_1 l1_1.length c1_1] 24 (0, 0)) (by refine blk_far ?_ NB882_885.out _; refine blk_far ?_ NB882_885.out _; exact BK882.out) hb); have NB883_886 := Aside0.mk ((by rw [hg]; exact Nat.ne_of_lt (blk_lt (g := gb883) (o := .cells #[.bool false, .slice none 0 0] 24 (0, 0)) (by refine blk_far ?_ NB883_885.out _; refine blk_far ?_ NB883_885.out _; exact BK883.out)) : gb883 ≠ gb886)); have NB886_883 := Aside0.mk ((by rw [hg]; exact Nat.ne_of_gt (blk_lt (g := gb883) (o := .cells #[.bool false, .slice none 0 0] 24 (0, 0)) (by refine blk_far ?_ NB883_885.out _; refine blk_far ?_ NB883_885.out _; exact BK883.out)) : gb886 ≠ gb883)); replace BK883 := Aside0.mk (blk_below (g := gb883) (o := .cells #[.bool false, .slice none 0 0] 24 (0, 0)) (by refine blk_far ?_ NB883_885.out _; refine blk_far ?_ NB883_885.out _; exact BK883.out) hb); have NB885_886 := Aside0.mk ((by rw [hg]; exact Nat.ne_of_lt (blk_lt (g := gb885) (o := .cells #[.bool a0_0, .slice A0_1 l0_1.length c0_1] 24 (0, 0)) (by refine blk_put (cs := #[.bool a0_0, .slice none 0 0]) ?_ 1 _ rfl; refine blk_put (cs := #[.bool false, .slice none 0 0]) ?_ 0 _ rfl; exact BK885.out)) : gb885 ≠ gb886)); have NB886_885 := Aside0.mk ((by rw [hg]; exact Nat.ne_of_gt (blk_lt (g := gb885) (o := .cells #[.bool a0_0, .slice A0_1 l0_1.length c0_1] 24 (0, 0)) (by refine blk_put (cs := #[.bool a0_0, .slice none 0 0]) ?_ 1 _ rfl; refine blk_put (cs := #[.bool false, .slice none 0 0]) ?_ 0 _ rfl; exact BK885.out)) : gb886 ≠ gb885)); replace BK885 := Aside0.mk (blk_below (g := gb885) (o := .cells #[.bool a0_0, .slice A0_1 l0_1.length c0_1] 24 (0, 0)) (by refine blk_put (cs := #[.bool a0_0, .slice none 0 0]) ?_ 1 _ rfl; refine blk_put (cs := #[.bool false, .slice none 0 0]) ?_ 0 _ rfl; exact BK885.out) hb); clear hb hbox hg; have hnb87 := NB886_881.out; have hnc87 := NB881_886.out; have hnb88 := NB886_882.out; have hnc88 := NB882_886.out; have hnb89 := NB886_883.out; have hnc89 := NB883_886.out; have hnb90 := NB886_885.out; have hnc90 := NB885_886.out; have hcz91_0 := bc0 BK886.out; have hcz91_1 := bc1 BK886.out; have hfz91_0 := blk_frozen BK886.out 0; have hfz91_1 := blk_frozen BK886.out 1; have hcz92_0 := bc0 BK882.out; have hcz92_1 := bc1 BK882.out; have hfz92_0 := blk_frozen BK882.out 0; have hfz92_1 := blk_frozen BK882.out 1) | ((with_reducible refine gate_callee (f := 29) rfl ?_); refine goL (some 18) Tryd.func29 [.agg #[.bool a1_0, .slice A1_1 l1_1.length c1_1]] ?_; (with_reducible refine (gudgeonref02_Sign.calls k a1_0 _ _ l1_1 t887 _ ?side1 ?side2 A14.out).mono ?_); (case side1 => exact Kd.C_below HR1_1.out (by repeat first | exact HB.out | refine bxSet ?_ (by assumption) | apply below_alloc | apply pw_below_drewN)); (case side2 => exact HC1_1.out); rintro e w93 ⟨rfl, hb⟩; refine ⟨_, rfl, ?_⟩; replace BK881 := Aside0.mk (blk_below (g := gb881) (o := .cells #[.bool a0_0, .slice A0_1 l0_1.length c0_1] 24 (0, 0)) (by refine blk_far ?_ NB881_886.out _; refine blk_far ?_ NB881_886.out _; exact BK881.out) hb); replace BK882 := Aside0.mk (blk_below (g := gb882) (o := .cells #[.bool a1_0, .slice A1_1 l1_1.length c1_1] 24 (0, 0)) (by refine blk_far ?_ NB882_886.out _; refine blk_far ?_ NB882_886.out _; exact BK882.out) hb); replace BK883 := Aside0.mk (blk_below (g := gb883) (o := .cells #[.bool false, .slice none 0 0] 24 (0, 0)) (by refine blk_far ?_ NB883_886.out _; refine blk_far ?_ NB883_886.out _; exact BK883.out) hb); replace BK885 := Aside0.mk (blk_below (g := gb885) (o := .cells #[.bool a0_0, .slice A0_1 l0_1.length c0_1] 24 (0, 0)) (by refine blk_far ?_ NB885_886.out _; refine blk_far ?_ NB885_886.out _; exact BK885.out) hb); replace BK886 := Aside0.mk (blk_below (g := gb886) (o := .cells #[.bool a1_0, .slice A1_1 l1_1.length c1_1] 24 (0, 0)) (by refine blk_put (cs := #[.bool a1_0, .slice none 0 0]) ?_ 1 _ rfl; refine blk_put (cs := #[.bool false, .slice none 0 0]) ?_ 0 _ rfl; exact BK886.out) hb); replace HB := Aside0.mk (below_step (by repeat first | exact HB.out | refine bxSet ?_ (by assumption) | apply below_alloc | apply pw_below_drewN) hb); (try clear hb); (try clear hb2); (try clear hk); (try clear hi); have hcz94_0 := bc0 BK885.out; have hcz94_1 := bc1 BK885.out; have hfz94_0 := blk_frozen BK885.out 0; have hfz94_1 := blk_frozen BK885.out 1; have hcz95_0 := bc0 BK886.out; have hcz95_1 := bc1 BK886.out; have hfz95_0 := blk_frozen BK886.out 0; have hfz95_1 := blk_frozen BK886.out 1) | ((with_reducible refine gate_callee (f := 12) rfl ?_); refine goL (some 27) Tryd.func12 [.agg #[.bool a0_0, .slice A0_1 l0_1.length c0_1], .agg #[.bool a1_0, .slice A1_1 l1_1.length c1_1]] ?_; (with_reducible refine (gudgeonref02_DivMod.calls k a0_0 _ _ l0_1 a1_0 _ _ l1_1 t907 t908 t911 t912 t915 _ ?side1 ?side2 ?side3 ?side4 A70.out).mono ?_); (case side1 => exact (Kd.C_below HR0_1.out HB.out)); (case side2 => exact HC0_1.out); (case side3 => exact (Kd.C_below HR1_1.out HB.out)); (case side4 => exact HC1_1.out); rintro e w96 ⟨v909, v913, rfl, ho0, ho1, hb⟩; refine ⟨_, rfl, ?_⟩; have HO910 := Aside0.mk (Kd.R_lower ho0 (below_size HB.out)); have HO914 := Aside0.mk (Kd.R_lower ho1 (below_size HB.out)); replace BK881 := Aside0.mk (blk_below BK881.out hb); replace BK882 := Aside0.mk (blk_below BK882.out hb); replace BK883 := Aside0.mk (blk_below BK883.out hb); replace BK885 := Aside0.mk (blk_below BK885.out hb); replace BK886 := Aside0.mk (blk_below BK886.out hb); replace HB := Aside0.mk (below_step HB.out hb); (try clear ho1)) | ((with_reducible refine gate_dst (N := 8) rfl ?_); refine box_event ?hg (N := 8) ?hd (cs := #[.bool false, .slice none 0 0]) (t := 24) ?hr ?_; (case hd => rfl); (case hg => rfl); (case hr => first | (go_simp; done) | (go_simp; rfl)); intro gb916 hg w97 hbox hb; replace HO910 := Aside0.mk (Kd.R_below HO910.out hb); replace HO914 := Aside0.mk (Kd.R_below HO914.out hb); have BK916 := Aside0.mk (hbox); have GW916 := Aside0.mk (bxLe HB.out hg); have GE916 := GW916; replace HB := Aside0.mk (below_step HB.out hb); have NB881_916 := Aside0.mk (neL BK881.out hg); have NB916_881 := Aside0.mk (neR BK881.out hg); replace BK881 := Aside0.mk (blk_below BK881.out hb); have NB882_916 := Aside0.mk (neL BK882.out hg); have NB916_882 := Aside0.mk (neR BK882.out hg); replace BK882 := Aside0.mk (blk_below BK882.out hb); have NB883_916 := Aside0.mk (neL BK883.out hg); have NB916_883 := Aside0.mk (neR BK883.out hg); replace BK883 := Aside0.mk (blk_below BK883.out hb); have NB885_916 := Aside0.mk (neL BK885.out hg); have NB916_885 := Aside0.mk (neR BK885.out hg); replace BK885 := Aside0.mk (blk_below BK885.out hb); have NB886_916 := Aside0.mk (neL BK886.out hg); have NB916_886 := Aside0.mk (neR BK886.out hg); replace BK886 := Aside0.mk (blk_below BK886.out hb); clear hb hbox hg) | ((with_reducible refine gate_dst (N := 9) rfl ?_); refine box_event ?hg (N := 9) ?hd (cs := #[.bool false, .slice none 0 0]) (t := 24) ?hr ?_; (case hd => rfl); (case hg => rfl); (case hr => first | (go_simp; done) | (go_simp; rfl)); intro gb917 hg w98 hbox hb; replace HO910 := Aside0.mk (Kd.R_below HO910.out hb); replace HO914 := Aside0.mk (Kd.R_below HO914.out hb); have BK917 := Aside0.mk (hbox); have GW917 := Aside0.mk (bxLe HB.out hg); have GE917 := GW917; replace HB := Aside0.mk (below_step HB.out hb); have NB881_917 := Aside0.mk (neL BK881.out hg); have NB917_881 := Aside0.mk (neR BK881.out hg); replace BK881 := Aside0.mk (blk_below BK881.out hb); have NB882_917 := Aside0.mk (neL BK882.out hg); have NB917_882 := Aside0.mk (neR BK882.out hg); replace BK882 := Aside0.mk (blk_below BK882.out hb); have NB883_917 := Aside0.mk (neL BK883.out hg); have NB917_883 := Aside0.mk (neR BK883.out hg); replace BK883 := Aside0.mk (blk_below BK883.out hb); have NB885_917 := Aside0.mk (neL BK885.out hg); have NB917_885 := Aside0.mk (neR BK885.out hg); replace BK885 := Aside0.mk (blk_below BK885.out hb); have NB886_917 := Aside0.mk (neL BK886.out hg); have NB917_886 := Aside0.mk (neR BK886.out hg); replace BK886 := Aside0.mk (blk_below BK886.out hb); have NB916_917 := Aside0.mk (neL BK916.out hg); have NB917_916 := Aside0.mk (neR BK916.out hg); replace BK916 := Aside0.mk (blk_below BK916.out hb); clear hb hbox hg; have hnb99 := NB916_881.out; have hnc99 := NB881_916.out; have hnb100 := NB916_882.out; have hnc100 := NB882_916.out; have hnb101 := NB916_883.out; have hnc101 := NB883_916.out; have hnb102 := NB916_885.out; have hnc102 := NB885_916.out; have hnb103 := NB916_886.out; have hnc103 := NB886_916.out; have hnb104 := NB916_917.out; have hnc104 := NB917_916.out; have hcz105_0 := bc0 BK916.out; have hcz105_1 := bc1 BK916.out; have hfz105_0 := blk_frozen BK916.out 0; have hfz105_1 := blk_frozen BK916.out 1; obtain ⟨Ao106, co106, eo106⟩ := Kd.R_slice HO910.out; subst eo106; have hnb107 := NB917_881.out; have hnc107 := NB881_917.out; have hnb108 := NB917_882.out; have hnc108 := NB882_917.out; have hnb109 := NB917_883.out; have hnc109 := NB883_917.out; have hnb110 := NB917_885.out; have hnc110 := NB885_917.out; have hnb111 := NB917_886.out; have hnc111 := NB886_917.out; have hcz112_0 := bc0 BK917.out; have hcz112_1 := bc1 BK917.out; have hfz112_0 := blk_frozen BK917.out 0; have hfz112_1 := blk_frozen BK917.out 1; obtain ⟨Ao113, co113, eo113⟩ := Kd.R_slice HO914.out; subst eo113; have hcz114_0 := bc0 BK883.out; have hcz114_1 := bc1 BK883.out; have hfz114_0 := blk_frozen BK883.out 0; have hfz114_1 := blk_frozen BK883.out 1))
   refine bodyPost_ret (results_ct rfl _ _ gb883 24 #[.bool t907, .slice Ao106 t908.length co106] (0, 0) _ rfl (by refine blk_put (cs := #[.bool t907, .slice none 0 0]) ?_ 1 _ rfl; refine blk_put (cs := #[.bool false, .slice none 0 0]) ?_ 0 _ rfl; refine blk_far ?_ NB883_917.out _; refine blk_far ?_ NB883_917.out _; refine blk_far ?_ NB883_916.out _; refine blk_far ?_ NB883_916.out _; exact BK883.out) Tryd.underlying24 rfl (by kernel_rfl)) rfl ?_
   exact ⟨_, by first | rfl | (simp [errW_none, errW_some] <;> rfl) | (simp [*, errW_none, errW_some] <;> rfl), by (with_reducible repeat (first | apply Kd.R_alloc | apply Kd.R_drewN | apply Kd.R_drew)); exact Kd.R_mono (Kd.R_far (p := ⟨gb883, 1, none⟩) (Kd.R_far (p := ⟨gb883, 0, none⟩) (Kd.R_far (p := ⟨gb917, 1, none⟩) (Kd.R_far (p := ⟨gb917, 0, none⟩) (Kd.R_far (p := ⟨gb916, 1, none⟩) (Kd.R_far (p := ⟨gb916, 0, none⟩) (Kd.R_types (Kd.R_types (Kd.R_types HO910.out BK916.out (by decide)) BK917.out (by decide)) BK883.out (by decide)) (fun _ hk => hk.1.1.2) (.bool t907)) (fun _ hk => hk.1.1.2) (.slice Ao106 t908.length co106)) (fun _ hk => hk.1.2) (.bool t911)) (fun _ hk => hk.1.2) (.slice Ao113 t912.length co113)) (fun _ hk => hk.2) (.bool t907)) (fun _ hk => hk.2) (.slice Ao106 t908.length co106)) (fun _ hk => trivial), by repeat (first | (with_reducible first | exact HB.out | apply below_alloc | apply pw_below_drewN | apply below_drew1 | refine below_set ?_ GE881.out | refine below_set ?_ GE882.out | refine below_set ?_ GE883.out | refine below_set ?_ GE885.out | refine below_set ?_ GE886.out | refine below_set ?_ GE916.out | refine below_set ?_ GE917.out) | exact HB.out)⟩

end Go.Proofs.YthnfmmaolkenkaaDoor.PA
/- Written by a program of this session, wip/tools/patch_print.py, over the kit's print of the loaded functions. -/
namespace Go.Proofs.YthnfmmaolkenkaaDoor.H
end Go.Proofs.YthnfmmaolkenkaaDoor.H
namespace Go.Proofs.YthnfmmaolkenkaaDoor.PA
open Go.RowKit Go.Proofs.YthnfmmaolkenkaaDoorW.PrintWords Go.Proofs.YthnfmmaolkenkaaDoorW.PrintLast Go.Proofs.YthnfmmaolkenkaaDoorW.PrintMore Go.Proofs.YthnfmmaolkenkaaDoor.H
attribute [local go_sem] max2_int min2_int max_two min_two max_three min_three max_four min_four   -- for this text's walks alone
attribute [local go_sem] box_twice
set_option linter.unusedVariables false
set_option linter.unusedSimpArgs false

/-! ### gudgeonlaw02_WholeParts: function 3 -/
def gudgeonlaw02_WholeParts.j0 : Nat → Bool → Bool → Bool → List Int → Bool → List Int → Option (Bool)
 | 0, _, _, _, _, _, _ => none
 | k + 1, x5, x29, x919000, x919001, x920000, x920001 => if x29 = true then (some x5) else ((whole_DivMod.f k x919000 x919001 x920000 x920001).bind fun bt922 => ((gudgeonref02_DivMod.f k x919000 x919001 x920000 x920001).bind fun bt933 => ((whole_Floor.f k x919000 x919001 x920000 x920001).bind fun bt944 => ((gudgeonref02_Floor.f k x919000 x919001 x920000 x920001).bind fun bt950 => ((gudgeonref02_Same.f k bt922.1 bt922.2.1 bt933.1 bt933.2.1).bind fun t956 => ((gudgeonref02_Same.f k bt922.2.2.1 bt922.2.2.2.1 bt933.2.2.1 bt933.2.2.2.1).bind fun t957 => ((gudgeonref02_Same.f k bt944.1 bt944.2.1 bt950.1 bt950.2.1).bind fun t958 => (if t956 = true then (if t957 = true then (if t958 = true then (if bt922.2.2.2.2 = bt933.2.2.2.2 then (some (bt944.2.2 == bt950.2.2)) else (none)) else (none)) else (none)) else (none)))))))))
def gudgeonlaw02_WholeParts.f (k : Nat) (a0_0 : Bool) (l0_1 : List Int) (a1_0 : Bool) (l1_1 : List Int) : Option (Bool) := (gudgeonlaw02_awake.f k).bind fun t920 => ((gudgeonlaw02_few.f a0_0 l0_1 a1_0 l1_1 16).bind fun t921 => (if t920 = true then (gudgeonlaw02_WholeParts.j0 k t920 (!t921) a0_0 l0_1 a1_0 l1_1) else (gudgeonlaw02_WholeParts.j0 k t920 true a0_0 l0_1 a1_0 l1_1)))
set_option maxHeartbeats 8000000 in
set_option maxRecDepth 100000 in
theorem gudgeonlaw02_WholeParts.calls (k : Nat) (a0_0 : Bool) (A0_1 : Option Addr) (c0_1 : Nat) (l0_1 : List Int) (a1_0 : Bool) (A1_1 : Option Addr) (c1_1 : Nat) (l1_1 : List Int) (r : Bool) (w : World) (hr0_1 : Kd.C (Kd.int .u32) w A0_1 l0_1.length l0_1) (hc0_1 : l0_1.length ≤ c0_1) (hr1_1 : Kd.C (Kd.int .u32) w A1_1 l1_1.length l1_1) (hc1_1 : l1_1.length ≤ c1_1) (h : gudgeonlaw02_WholeParts.f k a0_0 l0_1 a1_0 l1_1 = some r) :
  Calls Tryd.prog 3 #[.agg #[.bool a0_0, .slice A0_1 l0_1.length c0_1], .agg #[.bool a1_0, .slice A1_1 l1_1.length c1_1]] w fun e w' => e = .returned (.bool r) ∧ Below w.heap.size w w' := by
 have hu24 := Tryd.underlying24
 have HR0_1 := Aside0.mk hr0_1
 have HC0_1 := Aside0.mk hc0_1
 clear hr0_1 hc0_1
 have HR1_1 := Aside0.mk hr1_1
 have HC1_1 := Aside0.mk hc1_1
 clear hr1_1 hc1_1
 have HB := Aside0.mk (Below.refl w.heap.size w)
 have H : ((gudgeonlaw02_awake.f k).bind fun t920 => ((gudgeonlaw02_few.f a0_0 l0_1 a1_0 l1_1 16).bind fun t921 => (if t920 = true then (gudgeonlaw02_WholeParts.j0 k t920 (!t921) a0_0 l0_1 a1_0 l1_1) else (gudgeonlaw02_WholeParts.j0 k t920 true a0_0 l0_1 a1_0 l1_1)))) = some r := h
 clear h
 obtain ⟨t920, A30, H⟩ := Option.bind_eq_some_iff.mp H
 try dsimp only at H
 have A3 := Aside0.mk A30
 clear A30
 obtain ⟨t921, A40, H⟩ := Option.bind_eq_some_iff.mp H
 try dsimp only at H
 have A4 := Aside0.mk A40
 clear A40
 have HC5 := Aside0.mk H
 clear H
 go_enter Tryd.func3, Tryd.ntmps3
 go_upto_region 3 with (first | ((with_reducible refine gate_dst (N := 2) rfl ?_); refine box_event ?hg (N := 2) ?hd (cs := #[.bool a0_0, .slice A0_1 l0_1.length c0_1]) (t := 24) ?hr ?_; (case hd => rfl); (case hg => rfl); (case hr => first | (go_simp; done) | (go_simp; rfl)); intro gb918 hg w6 hbox hb; have BK918 := Aside0.mk (hbox); have GW918 := Aside0.mk (bxLe HB.out hg); have GE918 := GW918; replace HB := Aside0.mk (below_step HB.out hb); clear hb hbox hg) | ((with_reducible refine gate_dst (N := 3) rfl ?_); refine box_event ?hg (N := 3) ?hd (cs := #[.bool a1_0, .slice A1_1 l1_1.length c1_1]) (t := 24) ?hr ?_; (case hd => rfl); (case hg => rfl); (case hr => first | (go_simp; done) | (go_simp; rfl)); intro gb919 hg w7 hbox hb; have BK919 := Aside0.mk (hbox); have GW919 := Aside0.mk (bxLe HB.out hg); have GE919 := GW919; replace HB := Aside0.mk (below_step HB.out hb); have NB918_919 := Aside0.mk (neL BK918.out hg); have NB919_918 := Aside0.mk (neR BK918.out hg); replace BK918 := Aside0.mk (blk_below BK918.out hb); clear hb hbox hg) | ((with_reducible refine gate_callee (f := 9) rfl ?_); refine goL (some 20) Tryd.func9 [] ?_; (with_reducible refine (gudgeonlaw02_awake.calls k  t920 _ A3.out).mono ?_); rintro e w8 ⟨rfl, hb⟩; refine ⟨_, rfl, ?_⟩; replace BK918 := Aside0.mk (blk_below BK918.out hb); replace BK919 := Aside0.mk (blk_below BK919.out hb); replace HB := Aside0.mk (below_step HB.out hb); (try clear hb); (try clear hb2); (try clear hk); (try clear hi); have hnb9 := NB918_919.out; have hnc9 := NB919_918.out; have hcz10_0 : w8.cell? ⟨gb918, 0, none⟩ = some (.bool a0_0) := bc0 BK918.out; have hcz10_1 : w8.cell? ⟨gb918, 1, none⟩ = some (.slice A0_1 l0_1.length c0_1) := bc1 BK918.out; have hfz10_0 := blk_frozen BK918.out 0; have hfz10_1 := blk_frozen BK918.out 1; have hcz11_0 : w8.cell? ⟨gb919, 0, none⟩ = some (.bool a1_0) := bc0 BK919.out; have hcz11_1 : w8.cell? ⟨gb919, 1, none⟩ = some (.slice A1_1 l1_1.length c1_1) := bc1 BK919.out; have hfz11_0 := blk_frozen BK919.out 0; have hfz11_1 := blk_frozen BK919.out 1) | ((with_reducible refine gate_callee (f := 10) rfl ?_); refine goL (some 23) Tryd.func10 [.agg #[.bool a0_0, .slice A0_1 l0_1.length c0_1], .agg #[.bool a1_0, .slice A1_1 l1_1.length c1_1], .int .i64 16] ?_; (with_reducible refine (gudgeonlaw02_few.calls a0_0 _ _ l0_1 a1_0 _ _ l1_1 16 t921 _ ?side1 ?side2 ?side3 ?side4 A4.out).mono ?_); (case side1 => exact (Kd.C_below HR0_1.out HB.out)); (case side2 => exact HC0_1.out); (case side3 => exact (Kd.C_below HR1_1.out HB.out)); (case side4 => exact HC1_1.out); rintro e w12 ⟨rfl, hb⟩; refine ⟨_, rfl, ?_⟩; replace BK918 := Aside0.mk (blk_below BK918.out hb); replace BK919 := Aside0.mk (blk_below BK919.out hb); replace HB := Aside0.mk (below_step HB.out hb); (try clear hb); (try clear hb2); (try clear hk); (try clear hi)))
 (try simp only [Act.put, List.setIfInBounds_toArray, List.set_cons_zero, List.set_cons_succ])
 go_cut [29] (fun v29 wc => ∃ (kq : Nat) (x29_4 : Bool), v29 = .bool x29_4 ∧ Aside0 (gudgeonlaw02_WholeParts.j0 kq t920 x29_4 a0_0 l0_1 a1_0 l1_1 = some r) ∧ Aside0 (kq ≤ k) ∧ Aside0 (wc.heap[gb918]? = some (.cells #[.bool a0_0, (.slice A0_1 l0_1.length c0_1)] 24 (0, 0))) ∧ Aside0 (wc.heap[gb919]? = some (.cells #[.bool a1_0, (.slice A1_1 l1_1.length c1_1)] 24 (0, 0))) ∧ Aside0 (Below w.heap.size w wc))
 case first =>
  have H := HC5.out
  clear HC5
  by_cases c13 : t920 = true
  ·subst c13
   rw [if_pos rfl] at H
   have H' := Aside0.mk H
   clear H
   go_wp2
   go_meet
   case rel => exact ⟨_, (!t921), (by first | rfl | (simp; done)), H', ⟨by first | omega | exact Nat.le_refl _⟩, ⟨BK918.out⟩, ⟨BK919.out⟩, ⟨HB.out⟩⟩
  ·replace c13 := Bool.eq_false_iff.mpr c13
   subst c13
   rw [if_neg (show ¬ (false = true) by decide)] at H
   have H' := Aside0.mk H
   clear H
   go_wp2
   go_meet
   case rel => exact ⟨_, (true), (by first | rfl | (simp; done)), H', ⟨by first | omega | exact Nat.le_refl _⟩, ⟨BK918.out⟩, ⟨BK919.out⟩, ⟨HB.out⟩⟩
 case rest =>
  clear HC5
  try clear c1
  try clear p2
  try clear c3
  try clear c9
  try clear c10
  try clear c13
  try clear hcz10_0
  try clear hcz10_1
  try clear hcz11_0
  try clear hcz11_1
  try clear hfz10_0
  try clear hfz10_1
  try clear hfz11_0
  try clear hfz11_1
  obtain ⟨kq, x29_4, rfl, HA, HJ4, BK918, BK919, HB⟩ := hcut
  cases kq with
  | zero => exact absurd HA.out (by simp [gudgeonlaw02_WholeParts.j0])
  | succ kj4 =>
   have H := HA.out
   clear HA
   simp only [gudgeonlaw02_WholeParts.j0] at H
   by_cases c14 : x29_4 = true
   ·subst c14
    rw [if_pos rfl] at H
    obtain rfl := Option.some.inj H
    go_wp2
    go_ret
    exact ⟨by first | rfl | (simp [errW_none, errW_some] <;> rfl) | (refine congrArg (fun z_ => Ending.returned (Value.bool z_)) (decide_eq_decide.mpr ?_); unfold wrap64; omega) | (simp [*, errW_none, errW_some] <;> rfl), HB.out⟩
   ·replace c14 := Bool.eq_false_iff.mpr c14
    subst c14
    rw [if_neg (show ¬ (false = true) by decide)] at H
    obtain ⟨⟨t922, t923, t926, t927, t930⟩, A150, H⟩ := Option.bind_eq_some_iff.mp H
    try dsimp only at H
    have A15 := Aside0.mk A150
    clear A150
    obtain ⟨⟨t933, t934, t937, t938, t941⟩, A160, H⟩ := Option.bind_eq_some_iff.mp H
    try dsimp only at H
    have A16 := Aside0.mk A160
    clear A160
    obtain ⟨⟨t944, t945, t948⟩, A170, H⟩ := Option.bind_eq_some_iff.mp H
    try dsimp only at H
    have A17 := Aside0.mk A170
    clear A170
    obtain ⟨⟨t950, t951, t954⟩, A180, H⟩ := Option.bind_eq_some_iff.mp H
    try dsimp only at H
    have A18 := Aside0.mk A180
    clear A180
    obtain ⟨t956, A190, H⟩ := Option.bind_eq_some_iff.mp H
    try dsimp only at H
    have A19 := Aside0.mk A190
    clear A190
    obtain ⟨t957, A200, H⟩ := Option.bind_eq_some_iff.mp H
    try dsimp only at H
    have A20 := Aside0.mk A200
    clear A200
    obtain ⟨t958, A210, H⟩ := Option.bind_eq_some_iff.mp H
    try dsimp only at H
    have A21 := Aside0.mk A210
    clear A210
    by_cases c22 : t956 = true
    ·subst c22
     rw [if_pos rfl] at H
     by_cases c23 : t957 = true
     ·subst c23
      rw [if_pos rfl] at H
      by_cases c24 : t958 = true
      ·subst c24
       rw [if_pos rfl] at H
       by_cases c25 : t930 = t941
       ·rw [if_pos c25] at H
        have c25b0 : (t930 == t941) = true := beq_iff_eq.mpr c25
        have c25b1 : (t930 != t941) = false := bne_eq_false_iff_eq.mpr c25
        clear c25
        obtain rfl := Option.some.inj H
        have hnb26 := NB918_919.out
        have hnc26 := NB919_918.out
        have hcz27_0 : wc.cell? ⟨gb918, 0, none⟩ = some (.bool a0_0) := bc0 BK918.out
        have hcz27_1 : wc.cell? ⟨gb918, 1, none⟩ = some (.slice A0_1 l0_1.length c0_1) := bc1 BK918.out
        have hfz27_0 := blk_frozen BK918.out 0
        have hfz27_1 := blk_frozen BK918.out 1
        have hcz28_0 : wc.cell? ⟨gb919, 0, none⟩ = some (.bool a1_0) := bc0 BK919.out
        have hcz28_1 : wc.cell? ⟨gb919, 1, none⟩ = some (.slice A1_1 l1_1.length c1_1) := bc1 BK919.out
        have hfz28_0 := blk_frozen BK919.out 0
        have hfz28_1 := blk_frozen BK919.out 1
        go_wp2_with (first | ((with_reducible refine gate_callee (f := 11) rfl ?_); refine goL (some 34) Tryd.func11 [.agg #[.bool a0_0, .slice A0_1 l0_1.length c0_1], .agg #[.bool a1_0, .slice A1_1 l1_1.length c1_1]] ?_; (with_reducible refine (whole_DivMod.calls kj4 a0_0 _ _ l0_1 a1_0 _ _ l1_1 t922 t923 t926 t927 t930 _ ?side1 ?side2 ?side3 ?side4 A15.out).mono ?_); (case side1 => exact (Kd.C_below HR0_1.out HB.out)); (case side2 => exact HC0_1.out); (case side3 => exact (Kd.C_below HR1_1.out HB.out)); (case side4 => exact HC1_1.out); rintro e w29 ⟨v924, v928, rfl, ho0, ho1, hb⟩; refine ⟨_, rfl, ?_⟩; have HO925 := Aside0.mk (Kd.R_lower ho0 (below_size HB.out)); have HO929 := Aside0.mk (Kd.R_lower ho1 (below_size HB.out)); replace BK918 := Aside0.mk (blk_below BK918.out hb); replace BK919 := Aside0.mk (blk_below BK919.out hb); replace HB := Aside0.mk (below_step HB.out hb); (try clear ho1)) | ((with_reducible refine gate_dst (N := 7) rfl ?_); refine box_event ?hg (N := 7) ?hd (cs := #[.bool false, .slice none 0 0]) (t := 24) ?hr ?_; (case hd => rfl); (case hg => rfl); (case hr => first | (go_simp; done) | (go_simp; rfl)); intro gb931 hg w30 hbox hb; replace HO925 := Aside0.mk (Kd.R_below HO925.out hb); replace HO929 := Aside0.mk (Kd.R_below HO929.out hb); have BK931 := Aside0.mk (hbox); have GW931 := Aside0.mk (bxLe HB.out hg); have GE931 := GW931; replace HB := Aside0.mk (below_step HB.out hb); have NB918_931 := Aside0.mk (neL BK918.out hg); have NB931_918 := Aside0.mk (neR BK918.out hg); replace BK918 := Aside0.mk (blk_below BK918.out hb); have NB919_931 := Aside0.mk (neL BK919.out hg); have NB931_919 := Aside0.mk (neR BK919.out hg); replace BK919 := Aside0.mk (blk_below BK919.out hb); clear hb hbox hg) | ((with_reducible refine gate_dst (N := 8) rfl ?_); refine box_event ?hg (N := 8) ?hd (cs := #[.bool false, .slice none 0 0]) (t := 24) ?hr ?_; (case hd => rfl); (case hg => rfl); (case hr => first | (go_simp; done) | (go_simp; rfl)); intro gb932 hg w31 hbox hb; replace HO925 := Aside0.mk (Kd.R_below HO925.out hb); replace HO929 := Aside0.mk (Kd.R_below HO929.out hb); have BK932 := Aside0.mk (hbox); have GW932 := Aside0.mk (bxLe HB.out hg); have GE932 := GW932; replace HB := Aside0.mk (below_step HB.out hb); have NB918_932 := Aside0.mk (neL BK918.out hg); have NB932_918 := Aside0.mk (neR BK918.out hg); replace BK918 := Aside0.mk (blk_below BK918.out hb); have NB919_932 := Aside0.mk (neL BK919.out hg); have NB932_919 := Aside0.mk (neR BK919.out hg); replace BK919 := Aside0.mk (blk_below BK919.out hb); have NB931_932 := Aside0.mk (neL BK931.out hg); have NB932_931 := Aside0.mk (neR BK931.out hg); replace BK931 := Aside0.mk (blk_below BK931.out hb); clear hb hbox hg; have hnb32 := NB931_918.out; have hnc32 := NB918_931.out; have hnb33 := NB931_919.out; have hnc33 := NB919_931.out; have hnb34 := NB931_932.out; have hnc34 := NB932_931.out; have hcz35_0 : w31.cell? ⟨gb931, 0, none⟩ = some (.bool false) := bc0 BK931.out; have hcz35_1 : w31.cell? ⟨gb931, 1, none⟩ = some (.slice none 0 0) := bc1 BK931.out; have hfz35_0 := blk_frozen BK931.out 0; have hfz35_1 := blk_frozen BK931.out 1; obtain ⟨Ao36, co36, eo36⟩ := Kd.R_slice HO925.out; subst eo36; have hnb37 := NB932_918.out; have hnc37 := NB918_932.out; have hnb38 := NB932_919.out; have hnc38 := NB919_932.out; have hcz39_0 : w31.cell? ⟨gb932, 0, none⟩ = some (.bool false) := bc0 BK932.out; have hcz39_1 : w31.cell? ⟨gb932, 1, none⟩ = some (.slice none 0 0) := bc1 BK932.out; have hfz39_0 := blk_frozen BK932.out 0; have hfz39_1 := blk_frozen BK932.out 1; obtain ⟨Ao40, co40, eo40⟩ := Kd.R_slice HO929.out; subst eo40; have hcz41_0 : w31.cell? ⟨gb918, 0, none⟩ = some (.bool a0_0) := bc0 BK918.out; have hcz41_1 : w31.cell? ⟨gb918, 1, none⟩ = some (.slice A0_1 l0_1.length c0_1) := bc1 BK918.out; have hfz41_0 := blk_frozen BK918.out 0; have hfz41_1 := blk_frozen BK918.out 1; have hcz42_0 : w31.cell? ⟨gb919, 0, none⟩ = some (.bool a1_0) := bc0 BK919.out; have hcz42_1 : w31.cell? ⟨gb919, 1, none⟩ = some (.slice A1_1 l1_1.length c1_1) := bc1 BK919.out; have hfz42_0 := blk_frozen BK919.out 0; have hfz42_1 := blk_frozen BK919.out 1) | ((with_reducible refine gate_callee (f := 12) rfl ?_); refine goL (some 41) Tryd.func12 [.agg #[.bool a0_0, .slice A0_1 l0_1.length c0_1], .agg #[.bool a1_0, .slice A1_1 l1_1.length c1_1]] ?_; (with_reducible refine (gudgeonref02_DivMod.calls kj4 a0_0 _ _ l0_1 a1_0 _ _ l1_1 t933 t934 t937 t938 t941 _ ?side1 ?side2 ?side3 ?side4 A16.out).mono ?_); (case side1 => exact Kd.C_below HR0_1.out (by repeat first | exact HB.out | refine bxSet ?_ (by assumption) | apply below_alloc | apply pw_below_drewN)); (case side2 => exact HC0_1.out); (case side3 => exact Kd.C_below HR1_1.out (by repeat first | exact HB.out | refine bxSet ?_ (by assumption) | apply below_alloc | apply pw_below_drewN)); (case side4 => exact HC1_1.out); rintro e w43 ⟨v935, v939, rfl, ho0, ho1, hb⟩; refine ⟨_, rfl, ?_⟩; have HO936 := Aside0.mk (Kd.R_lower (Kd.R_new' (Kd.R_new' ho0 (Kd.R_lt (Kd.R_mono (Kd.R_mono (Kd.R_far (p := ⟨gb932, 1, none⟩) (Kd.R_far (p := ⟨gb932, 0, none⟩) (Kd.R_far (p := ⟨gb931, 1, none⟩) (Kd.R_far (p := ⟨gb931, 0, none⟩) (Kd.R_types (Kd.R_types HO925.out BK931.out (by decide)) BK932.out (by decide)) (fun _ hk => hk.1.2) (.bool t922)) (fun _ hk => hk.1.2) (.slice Ao36 t923.length co36)) (fun _ hk => hk.2) (.bool t926)) (fun _ hk => hk.2) (.slice Ao40 t927.length co40)) (fun _ h_ => h_.1)) (fun _ h_ => h_.1)))) (Kd.R_lt (Kd.R_mono (Kd.R_mono (Kd.R_far (p := ⟨gb932, 1, none⟩) (Kd.R_far (p := ⟨gb932, 0, none⟩) (Kd.R_far (p := ⟨gb931, 1, none⟩) (Kd.R_far (p := ⟨gb931, 0, none⟩) (Kd.R_types (Kd.R_types HO929.out BK931.out (by decide)) BK932.out (by decide)) (fun _ hk => hk.1.2) (.bool t922)) (fun _ hk => hk.1.2) (.slice Ao36 t923.length co36)) (fun _ hk => hk.2) (.bool t926)) (fun _ hk => hk.2) (.slice Ao40 t927.length co40)) (fun _ h_ => h_.1)) (fun _ h_ => h_.1)))) (below_size (by repeat first | exact HB.out | refine bxSet ?_ (by assumption) | apply below_alloc | apply pw_below_drewN))); have HO940 := Aside0.mk (Kd.R_lower (Kd.R_new' (Kd.R_new' ho1 (Kd.R_lt (Kd.R_mono (Kd.R_mono (Kd.R_far (p := ⟨gb932, 1, none⟩) (Kd.R_far (p := ⟨gb932, 0, none⟩) (Kd.R_far (p := ⟨gb931, 1, none⟩) (Kd.R_far (p := ⟨gb931, 0, none⟩) (Kd.R_types (Kd.R_types HO925.out BK931.out (by decide)) BK932.out (by decide)) (fun _ hk => hk.1.2) (.bool t922)) (fun _ hk => hk.1.2) (.slice Ao36 t923.length co36)) (fun _ hk => hk.2) (.bool t926)) (fun _ hk => hk.2) (.slice Ao40 t927.length co40)) (fun _ h_ => h_.1)) (fun _ h_ => h_.1)))) (Kd.R_lt (Kd.R_mono (Kd.R_mono (Kd.R_far (p := ⟨gb932, 1, none⟩) (Kd.R_far (p := ⟨gb932, 0, none⟩) (Kd.R_far (p := ⟨gb931, 1, none⟩) (Kd.R_far (p := ⟨gb931, 0, none⟩) (Kd.R_types (Kd.R_types HO929.out BK931.out (by decide)) BK932.out (by decide)) (fun _ hk => hk.1.2) (.bool t922)) (fun _ hk => hk.1.2) (.slice Ao36 t923.length co36)) (fun _ hk => hk.2) (.bool t926)) (fun _ hk => hk.2) (.slice Ao40 t927.length co40)) (fun _ h_ => h_.1)) (fun _ h_ => h_.1)))) (below_size (by repeat first | exact HB.out | refine bxSet ?_ (by assumption) | apply below_alloc | apply pw_below_drewN))); replace HO925 := Aside0.mk (Kd.R_mono (Kd.R_told (Kd.R_told (Kd.R_old (Kd.R_mono (Kd.R_mono (Kd.R_far (p := ⟨gb932, 1, none⟩) (Kd.R_far (p := ⟨gb932, 0, none⟩) (Kd.R_far (p := ⟨gb931, 1, none⟩) (Kd.R_far (p := ⟨gb931, 0, none⟩) (Kd.R_types (Kd.R_types HO925.out BK931.out (by decide)) BK932.out (by decide)) (fun _ hk => hk.1.2) (.bool t922)) (fun _ hk => hk.1.2) (.slice Ao36 t923.length co36)) (fun _ hk => hk.2) (.bool t926)) (fun _ hk => hk.2) (.slice Ao40 t927.length co40)) (fun _ h_ => h_.1)) (fun _ h_ => h_.1)) hb) (Kd.R_base ho0)) (Kd.R_base ho1)) (fun _ h_ => h_.1)); replace HO929 := Aside0.mk (Kd.R_mono (Kd.R_told (Kd.R_told (Kd.R_old (Kd.R_mono (Kd.R_mono (Kd.R_far (p := ⟨gb932, 1, none⟩) (Kd.R_far (p := ⟨gb932, 0, none⟩) (Kd.R_far (p := ⟨gb931, 1, none⟩) (Kd.R_far (p := ⟨gb931, 0, none⟩) (Kd.R_types (Kd.R_types HO929.out BK931.out (by decide)) BK932.out (by decide)) (fun _ hk => hk.1.2) (.bool t922)) (fun _ hk => hk.1.2) (.slice Ao36 t923.length co36)) (fun _ hk => hk.2) (.bool t926)) (fun _ hk => hk.2) (.slice Ao40 t927.length co40)) (fun _ h_ => h_.1)) (fun _ h_ => h_.1)) hb) (Kd.R_base ho0)) (Kd.R_base ho1)) (fun _ h_ => h_.1)); replace BK918 := Aside0.mk (blk_below (g := gb918) (o := .cells #[.bool a0_0, .slice A0_1 l0_1.length c0_1] 24 (0, 0)) (by refine blk_far ?_ NB918_932.out _; refine blk_far ?_ NB918_932.out _; refine blk_far ?_ NB918_931.out _; refine blk_far ?_ NB918_931.out _; exact BK918.out) hb); replace BK919 := Aside0.mk (blk_below (g := gb919) (o := .cells #[.bool a1_0, .slice A1_1 l1_1.length c1_1] 24 (0, 0)) (by refine blk_far ?_ NB919_932.out _; refine blk_far ?_ NB919_932.out _; refine blk_far ?_ NB919_931.out _; refine blk_far ?_ NB919_931.out _; exact BK919.out) hb); replace BK931 := Aside0.mk (blk_below (g := gb931) (o := .cells #[.bool t922, .slice Ao36 t923.length co36] 24 (0, 0)) (by refine blk_far ?_ NB931_932.out _; refine blk_far ?_ NB931_932.out _; refine blk_put (cs := #[.bool t922, .slice none 0 0]) ?_ 1 _ rfl; refine blk_put (cs := #[.bool false, .slice none 0 0]) ?_ 0 _ rfl; exact BK931.out) hb); replace BK932 := Aside0.mk (blk_below (g := gb932) (o := .cells #[.bool t926, .slice Ao40 t927.length co40] 24 (0, 0)) (by refine blk_put (cs := #[.bool t926, .slice none 0 0]) ?_ 1 _ rfl; refine blk_put (cs := #[.bool false, .slice none 0 0]) ?_ 0 _ rfl; refine blk_far ?_ NB932_931.out _; refine blk_far ?_ NB932_931.out _; exact BK932.out) hb); replace HB := Aside0.mk (below_step (by repeat first | exact HB.out | refine bxSet ?_ (by assumption) | apply below_alloc | apply pw_below_drewN) hb); (try clear ho1)) | ((with_reducible refine gate_dst (N := 10) rfl ?_); refine box_event ?hg (N := 10) ?hd (cs := #[.bool false, .slice none 0 0]) (t := 24) ?hr ?_; (case hd => rfl); (case hg => rfl); (case hr => first | (go_simp; done) | (go_simp; rfl)); intro gb942 hg w44 hbox hb; replace HO925 := Aside0.mk (Kd.R_below HO925.out hb); replace HO929 := Aside0.mk (Kd.R_below HO929.out hb); replace HO936 := Aside0.mk (Kd.R_below HO936.out hb); replace HO940 := Aside0.mk (Kd.R_below HO940.out hb); have BK942 := Aside0.mk (hbox); have GW942 := Aside0.mk (bxLe HB.out hg); have GE942 := GW942; replace HB := Aside0.mk (below_step HB.out hb); have NB918_942 := Aside0.mk (neL BK918.out hg); have NB942_918 := Aside0.mk (neR BK918.out hg); replace BK918 := Aside0.mk (blk_below BK918.out hb); have NB919_942 := Aside0.mk (neL BK919.out hg); have NB942_919 := Aside0.mk (neR BK919.out hg); replace BK919 := Aside0.mk (blk_below BK919.out hb); have NB931_942 := Aside0.mk (neL BK931.out hg); have NB942_931 := Aside0.mk (neR BK931.out hg); replace BK931 := Aside0.mk (blk_below BK931.out hb); have NB932_942 := Aside0.mk (neL BK932.out hg); have NB942_932 := Aside0.mk (neR BK932.out hg); replace BK932 := Aside0.mk (blk_below BK932.out hb); clear hb hbox hg) | ((with_reducible refine gate_dst (N := 11) rfl ?_); refine box_event ?hg (N := 11) ?hd (cs := #[.bool false, .slice none 0 0]) (t := 24) ?hr ?_; (case hd => rfl); (case hg => rfl); (case hr => first | (go_simp; done) | (go_simp; rfl)); intro gb943 hg w45 hbox hb; replace HO925 := Aside0.mk (Kd.R_below HO925.out hb); replace HO929 := Aside0.mk (Kd.R_below HO929.out hb); replace HO936 := Aside0.mk (Kd.R_below HO936.out hb); replace HO940 := Aside0.mk (Kd.R_below HO940.out hb); have BK943 := Aside0.mk (hbox); have GW943 := Aside0.mk (bxLe HB.out hg); have GE943 := GW943; replace HB := Aside0.mk (below_step HB.out hb); have NB918_943 := Aside0.mk (neL BK918.out hg); have NB943_918 := Aside0.mk (neR BK918.out hg); replace BK918 := Aside0.mk (blk_below BK918.out hb); have NB919_943 := Aside0.mk (neL BK919.out hg); have NB943_919 := Aside0.mk (neR BK919.out hg); replace BK919 := Aside0.mk (blk_below BK919.out hb); have NB931_943 := Aside0.mk (neL BK931.out hg); have NB943_931 := Aside0.mk (neR BK931.out hg); replace BK931 := Aside0.mk (blk_below BK931.out hb); have NB932_943 := Aside0.mk (neL BK932.out hg); have NB943_932 := Aside0.mk (neR BK932.out hg); replace BK932 := Aside0.mk (blk_below BK932.out hb); have NB942_943 := Aside0.mk (neL BK942.out hg); have NB943_942 := Aside0.mk (neR BK942.out hg); replace BK942 := Aside0.mk (blk_below BK942.out hb); clear hb hbox hg; have hnb46 := NB942_918.out; have hnc46 := NB918_942.out; have hnb47 := NB942_919.out; have hnc47 := NB919_942.out; have hnb48 := NB942_931.out; have hnc48 := NB931_942.out; have hnb49 := NB942_932.out; have hnc49 := NB932_942.out; have hnb50 := NB942_943.out; have hnc50 := NB943_942.out; have hcz51_0 : w45.cell? ⟨gb942, 0, none⟩ = some (.bool false) := bc0 BK942.out; have hcz51_1 : w45.cell? ⟨gb942, 1, none⟩ = some (.slice none 0 0) := bc1 BK942.out; have hfz51_0 := blk_frozen BK942.out 0; have hfz51_1 := blk_frozen BK942.out 1; obtain ⟨Ao52, co52, eo52⟩ := Kd.R_slice HO936.out; subst eo52; have hnb53 := NB943_918.out; have hnc53 := NB918_943.out; have hnb54 := NB943_919.out; have hnc54 := NB919_943.out; have hnb55 := NB943_931.out; have hnc55 := NB931_943.out; have hnb56 := NB943_932.out; have hnc56 := NB932_943.out; have hcz57_0 : w45.cell? ⟨gb943, 0, none⟩ = some (.bool false) := bc0 BK943.out; have hcz57_1 : w45.cell? ⟨gb943, 1, none⟩ = some (.slice none 0 0) := bc1 BK943.out; have hfz57_0 := blk_frozen BK943.out 0; have hfz57_1 := blk_frozen BK943.out 1; obtain ⟨Ao58, co58, eo58⟩ := Kd.R_slice HO940.out; subst eo58; have hcz59_0 : w45.cell? ⟨gb918, 0, none⟩ = some (.bool a0_0) := bc0 BK918.out; have hcz59_1 : w45.cell? ⟨gb918, 1, none⟩ = some (.slice A0_1 l0_1.length c0_1) := bc1 BK918.out; have hfz59_0 := blk_frozen BK918.out 0; have hfz59_1 := blk_frozen BK918.out 1; have hcz60_0 : w45.cell? ⟨gb919, 0, none⟩ = some (.bool a1_0) := bc0 BK919.out; have hcz60_1 : w45.cell? ⟨gb919, 1, none⟩ = some (.slice A1_1 l1_1.length c1_1) := bc1 BK919.out; have hfz60_0 := blk_frozen BK919.out 0; have hfz60_1 := blk_frozen BK919.out 1) | ((with_reducible refine gate_callee (f := 13) rfl ?_); refine goL (some 48) Tryd.func13 [.agg #[.bool a0_0, .slice A0_1 l0_1.length c0_1], .agg #[.bool a1_0, .slice A1_1 l1_1.length c1_1]] ?_; (with_reducible refine (whole_Floor.calls kj4 a0_0 _ _ l0_1 a1_0 _ _ l1_1 t944 t945 t948 _ ?side1 ?side2 ?side3 ?side4 A17.out).mono ?_); (case side1 => exact Kd.C_below HR0_1.out (by repeat first | exact HB.out | refine bxSet ?_ (by assumption) | apply below_alloc | apply pw_below_drewN)); (case side2 => exact HC0_1.out); (case side3 => exact Kd.C_below HR1_1.out (by repeat first | exact HB.out | refine bxSet ?_ (by assumption) | apply below_alloc | apply pw_below_drewN)); (case side4 => exact HC1_1.out); rintro e w61 ⟨v946, rfl, ho0, hb⟩; refine ⟨_, rfl, ?_⟩; have HO947 := Aside0.mk (Kd.R_lower (Kd.R_new' (Kd.R_new' (Kd.R_new' (Kd.R_new' ho0 (Kd.R_lt (Kd.R_mono (Kd.R_mono (Kd.R_far (p := ⟨gb943, 1, none⟩) (Kd.R_far (p := ⟨gb943, 0, none⟩) (Kd.R_far (p := ⟨gb942, 1, none⟩) (Kd.R_far (p := ⟨gb942, 0, none⟩) (Kd.R_types (Kd.R_types HO925.out BK942.out (by decide)) BK943.out (by decide)) (fun _ hk => hk.1.2) (.bool t933)) (fun _ hk => hk.1.2) (.slice Ao52 t934.length co52)) (fun _ hk => hk.2) (.bool t937)) (fun _ hk => hk.2) (.slice Ao58 t938.length co58)) (fun _ h_ => h_.1)) (fun _ h_ => h_.1)))) (Kd.R_lt (Kd.R_mono (Kd.R_mono (Kd.R_far (p := ⟨gb943, 1, none⟩) (Kd.R_far (p := ⟨gb943, 0, none⟩) (Kd.R_far (p := ⟨gb942, 1, none⟩) (Kd.R_far (p := ⟨gb942, 0, none⟩) (Kd.R_types (Kd.R_types HO929.out BK942.out (by decide)) BK943.out (by decide)) (fun _ hk => hk.1.2) (.bool t933)) (fun _ hk => hk.1.2) (.slice Ao52 t934.length co52)) (fun _ hk => hk.2) (.bool t937)) (fun _ hk => hk.2) (.slice Ao58 t938.length co58)) (fun _ h_ => h_.1)) (fun _ h_ => h_.1)))) (Kd.R_lt (Kd.R_mono (Kd.R_mono (Kd.R_far (p := ⟨gb943, 1, none⟩) (Kd.R_far (p := ⟨gb943, 0, none⟩) (Kd.R_far (p := ⟨gb942, 1, none⟩) (Kd.R_far (p := ⟨gb942, 0, none⟩) (Kd.R_types (Kd.R_types HO936.out BK942.out (by decide)) BK943.out (by decide)) (fun _ hk => hk.1.2) (.bool t933)) (fun _ hk => hk.1.2) (.slice Ao52 t934.length co52)) (fun _ hk => hk.2) (.bool t937)) (fun _ hk => hk.2) (.slice Ao58 t938.length co58)) (fun _ h_ => h_.1)) (fun _ h_ => h_.1)))) (Kd.R_lt (Kd.R_mono (Kd.R_mono (Kd.R_far (p := ⟨gb943, 1, none⟩) (Kd.R_far (p := ⟨gb943, 0, none⟩) (Kd.R_far (p := ⟨gb942, 1, none⟩) (Kd.R_far (p := ⟨gb942, 0, none⟩) (Kd.R_types (Kd.R_types HO940.out BK942.out (by decide)) BK943.out (by decide)) (fun _ hk => hk.1.2) (.bool t933)) (fun _ hk => hk.1.2) (.slice Ao52 t934.length co52)) (fun _ hk => hk.2) (.bool t937)) (fun _ hk => hk.2) (.slice Ao58 t938.length co58)) (fun _ h_ => h_.1)) (fun _ h_ => h_.1)))) (below_size (by repeat first | exact HB.out | refine bxSet ?_ (by assumption) | apply below_alloc | apply pw_below_drewN))); replace HO925 := Aside0.mk (Kd.R_elder' (Kd.R_mono (Kd.R_mono (Kd.R_far (p := ⟨gb943, 1, none⟩) (Kd.R_far (p := ⟨gb943, 0, none⟩) (Kd.R_far (p := ⟨gb942, 1, none⟩) (Kd.R_far (p := ⟨gb942, 0, none⟩) (Kd.R_types (Kd.R_types HO925.out BK942.out (by decide)) BK943.out (by decide)) (fun _ hk => hk.1.2) (.bool t933)) (fun _ hk => hk.1.2) (.slice Ao52 t934.length co52)) (fun _ hk => hk.2) (.bool t937)) (fun _ hk => hk.2) (.slice Ao58 t938.length co58)) (fun _ h_ => h_.1)) (fun _ h_ => h_.1)) (Kd.R_base ho0) hb); replace HO929 := Aside0.mk (Kd.R_elder' (Kd.R_mono (Kd.R_mono (Kd.R_far (p := ⟨gb943, 1, none⟩) (Kd.R_far (p := ⟨gb943, 0, none⟩) (Kd.R_far (p := ⟨gb942, 1, none⟩) (Kd.R_far (p := ⟨gb942, 0, none⟩) (Kd.R_types (Kd.R_types HO929.out BK942.out (by decide)) BK943.out (by decide)) (fun _ hk => hk.1.2) (.bool t933)) (fun _ hk => hk.1.2) (.slice Ao52 t934.length co52)) (fun _ hk => hk.2) (.bool t937)) (fun _ hk => hk.2) (.slice Ao58 t938.length co58)) (fun _ h_ => h_.1)) (fun _ h_ => h_.1)) (Kd.R_base ho0) hb); replace HO936 := Aside0.mk (Kd.R_elder' (Kd.R_mono (Kd.R_mono (Kd.R_far (p := ⟨gb943, 1, none⟩) (Kd.R_far (p := ⟨gb943, 0, none⟩) (Kd.R_far (p := ⟨gb942, 1, none⟩) (Kd.R_far (p := ⟨gb942, 0, none⟩) (Kd.R_types (Kd.R_types HO936.out BK942.out (by decide)) BK943.out (by decide)) (fun _ hk => hk.1.2) (.bool t933)) (fun _ hk => hk.1.2) (.slice Ao52 t934.length co52)) (fun _ hk => hk.2) (.bool t937)) (fun _ hk => hk.2) (.slice Ao58 t938.length co58)) (fun _ h_ => h_.1)) (fun _ h_ => h_.1)) (Kd.R_base ho0) hb); replace HO940 := Aside0.mk (Kd.R_elder' (Kd.R_mono (Kd.R_mono (Kd.R_far (p := ⟨gb943, 1, none⟩) (Kd.R_far (p := ⟨gb943, 0, none⟩) (Kd.R_far (p := ⟨gb942, 1, none⟩) (Kd.R_far (p := ⟨gb942, 0, none⟩) (Kd.R_types (Kd.R_types HO940.out BK942.out (by decide)) BK943.out (by decide)) (fun _ hk => hk.1.2) (.bool t933)) (fun _ hk => hk.1.2) (.slice Ao52 t934.length co52)) (fun _ hk => hk.2) (.bool t937)) (fun _ hk => hk.2) (.slice Ao58 t938.length co58)) (fun _ h_ => h_.1)) (fun _ h_ => h_.1)) (Kd.R_base ho0) hb); replace BK918 := Aside0.mk (blk_below (g := gb918) (o := .cells #[.bool a0_0, .slice A0_1 l0_1.length c0_1] 24 (0, 0)) (by refine blk_far ?_ NB918_943.out _; refine blk_far ?_ NB918_943.out _; refine blk_far ?_ NB918_942.out _; refine blk_far ?_ NB918_942.out _; exact BK918.out) hb); replace BK919 := Aside0.mk (blk_below (g := gb919) (o := .cells #[.bool a1_0, .slice A1_1 l1_1.length c1_1] 24 (0, 0)) (by refine blk_far ?_ NB919_943.out _; refine blk_far ?_ NB919_943.out _; refine blk_far ?_ NB919_942.out _; refine blk_far ?_ NB919_942.out _; exact BK919.out) hb); replace BK931 := Aside0.mk (blk_below (g := gb931) (o := .cells #[.bool t922, .slice Ao36 t923.length co36] 24 (0, 0)) (by refine blk_far ?_ NB931_943.out _; refine blk_far ?_ NB931_943.out _; refine blk_far ?_ NB931_942.out _; refine blk_far ?_ NB931_942.out _; exact BK931.out) hb); replace BK932 := Aside0.mk (blk_below (g := gb932) (o := .cells #[.bool t926, .slice Ao40 t927.length co40] 24 (0, 0)) (by refine blk_far ?_ NB932_943.out _; refine blk_far ?_ NB932_943.out _; refine blk_far ?_ NB932_942.out _; refine blk_far ?_ NB932_942.out _; exact BK932.out) hb); replace BK942 := Aside0.mk (blk_below (g := gb942) (o := .cells #[.bool t933, .slice Ao52 t934.length co52] 24 (0, 0)) (by refine blk_far ?_ NB942_943.out _; refine blk_far ?_ NB942_943.out _; refine blk_put (cs := #[.bool t933, .slice none 0 0]) ?_ 1 _ rfl; refine blk_put (cs := #[.bool false, .slice none 0 0]) ?_ 0 _ rfl; exact BK942.out) hb); replace BK943 := Aside0.mk (blk_below (g := gb943) (o := .cells #[.bool t937, .slice Ao58 t938.length co58] 24 (0, 0)) (by refine blk_put (cs := #[.bool t937, .slice none 0 0]) ?_ 1 _ rfl; refine blk_put (cs := #[.bool false, .slice none 0 0]) ?_ 0 _ rfl; refine blk_far ?_ NB943_942.out _; refine blk_far ?_ NB943_942.out _; exact BK943.out) hb); replace HB := Aside0.mk (below_step (by repeat first | exact HB.out | refine bxSet ?_ (by assumption) | apply below_alloc | apply pw_below_drewN) hb)) | ((with_reducible refine gate_dst (N := 13) rfl ?_); refine box_event ?hg (N := 13) ?hd (cs := #[.bool false, .slice none 0 0]) (t := 24) ?hr ?_; (case hd => rfl); (case hg => rfl); (case hr => first | (go_simp; done) | (go_simp; rfl)); intro gb949 hg w62 hbox hb; replace HO925 := Aside0.mk (Kd.R_below HO925.out hb); replace HO929 := Aside0.mk (Kd.R_below HO929.out hb); replace HO936 := Aside0.mk (Kd.R_below HO936.out hb); replace HO940 := Aside0.mk (Kd.R_below HO940.out hb); replace HO947 := Aside0.mk (Kd.R_below HO947.out hb); have BK949 := Aside0.mk (hbox); have GW949 := Aside0.mk (bxLe HB.out hg); have GE949 := GW949; replace HB := Aside0.mk (below_step HB.out hb); have NB918_949 := Aside0.mk (neL BK918.out hg); have NB949_918 := Aside0.mk (neR BK918.out hg); replace BK918 := Aside0.mk (blk_below BK918.out hb); have NB919_949 := Aside0.mk (neL BK919.out hg); have NB949_919 := Aside0.mk (neR BK919.out hg); replace BK919 := Aside0.mk (blk_below BK919.out hb); have NB931_949 := Aside0.mk (neL BK931.out hg); have NB949_931 := Aside0.mk (neR BK931.out hg); replace BK931 := Aside0.mk (blk_below BK931.out hb); have NB932_949 := Aside0.mk (neL BK932.out hg); have NB949_932 := Aside0.mk (neR BK932.out hg); replace BK932 := Aside0.mk (blk_below BK932.out hb); have NB942_949 := Aside0.mk (neL BK942.out hg); have NB949_942 := Aside0.mk (neR BK942.out hg); replace BK942 := Aside0.mk (blk_below BK942.out hb); have NB943_949 := Aside0.mk (neL BK943.out hg); have NB949_943 := Aside0.mk (neR BK943.out hg); replace BK943 := Aside0.mk (blk_below BK943.out hb); clear hb hbox hg; have hnb63 := NB949_918.out; have hnc63 := NB918_949.out; have hnb64 := NB949_919.out; have hnc64 := NB919_949.out; have hnb65 := NB949_931.out; have hnc65 := NB931_949.out; have hnb66 := NB949_932.out; have hnc66 := NB932_949.out; have hnb67 := NB949_942.out; have hnc67 := NB942_949.out; have hnb68 := NB949_943.out; have hnc68 := NB943_949.out; have hcz69_0 : w62.cell? ⟨gb949, 0, none⟩ = some (.bool false) := bc0 BK949.out; have hcz69_1 : w62.cell? ⟨gb949, 1, none⟩ = some (.slice none 0 0) := bc1 BK949.out; have hfz69_0 := blk_frozen BK949.out 0; have hfz69_1 := blk_frozen BK949.out 1; obtain ⟨Ao70, co70, eo70⟩ := Kd.R_slice HO947.out; subst eo70; have hcz71_0 : w62.cell? ⟨gb918, 0, none⟩ = some (.bool a0_0) := bc0 BK918.out; have hcz71_1 : w62.cell? ⟨gb918, 1, none⟩ = some (.slice A0_1 l0_1.length c0_1) := bc1 BK918.out; have hfz71_0 := blk_frozen BK918.out 0; have hfz71_1 := blk_frozen BK918.out 1; have hcz72_0 : w62.cell? ⟨gb919, 0, none⟩ = some (.bool a1_0) := bc0 BK919.out; have hcz72_1 : w62.cell? ⟨gb919, 1, none⟩ = some (.slice A1_1 l1_1.length c1_1) := bc1 BK919.out; have hfz72_0 := blk_frozen BK919.out 0; have hfz72_1 := blk_frozen BK919.out 1) | ((with_reducible refine gate_callee (f := 14) rfl ?_); refine goL (some 54) Tryd.func14 [.agg #[.bool a0_0, .slice A0_1 l0_1.length c0_1], .agg #[.bool a1_0, .slice A1_1 l1_1.length c1_1]] ?_; (with_reducible refine (gudgeonref02_Floor.calls kj4 a0_0 _ _ l0_1 a1_0 _ _ l1_1 t950 t951 t954 _ ?side1 ?side2 ?side3 ?side4 A18.out).mono ?_); (case side1 => exact Kd.C_below HR0_1.out (by repeat first | exact HB.out | refine bxSet ?_ (by assumption) | apply below_alloc | apply pw_below_drewN)); (case side2 => exact HC0_1.out); (case side3 => exact Kd.C_below HR1_1.out (by repeat first | exact HB.out | refine bxSet ?_ (by assumption) | apply below_alloc | apply pw_below_drewN)); (case side4 => exact HC1_1.out); rintro e w73 ⟨v952, rfl, ho0, hb⟩; refine ⟨_, rfl, ?_⟩; have HO953 := Aside0.mk (Kd.R_lower (Kd.R_new' (Kd.R_new' (Kd.R_new' (Kd.R_new' (Kd.R_new' ho0 (Kd.R_lt (Kd.R_mono (Kd.R_far (p := ⟨gb949, 1, none⟩) (Kd.R_far (p := ⟨gb949, 0, none⟩) (Kd.R_types HO925.out BK949.out (by decide)) (fun _ hk => hk.2) (.bool t944)) (fun _ hk => hk.2) (.slice Ao70 t945.length co70)) (fun _ h_ => h_.1)))) (Kd.R_lt (Kd.R_mono (Kd.R_far (p := ⟨gb949, 1, none⟩) (Kd.R_far (p := ⟨gb949, 0, none⟩) (Kd.R_types HO929.out BK949.out (by decide)) (fun _ hk => hk.2) (.bool t944)) (fun _ hk => hk.2) (.slice Ao70 t945.length co70)) (fun _ h_ => h_.1)))) (Kd.R_lt (Kd.R_mono (Kd.R_far (p := ⟨gb949, 1, none⟩) (Kd.R_far (p := ⟨gb949, 0, none⟩) (Kd.R_types HO936.out BK949.out (by decide)) (fun _ hk => hk.2) (.bool t944)) (fun _ hk => hk.2) (.slice Ao70 t945.length co70)) (fun _ h_ => h_.1)))) (Kd.R_lt (Kd.R_mono (Kd.R_far (p := ⟨gb949, 1, none⟩) (Kd.R_far (p := ⟨gb949, 0, none⟩) (Kd.R_types HO940.out BK949.out (by decide)) (fun _ hk => hk.2) (.bool t944)) (fun _ hk => hk.2) (.slice Ao70 t945.length co70)) (fun _ h_ => h_.1)))) (Kd.R_lt (Kd.R_mono (Kd.R_far (p := ⟨gb949, 1, none⟩) (Kd.R_far (p := ⟨gb949, 0, none⟩) (Kd.R_types HO947.out BK949.out (by decide)) (fun _ hk => hk.2) (.bool t944)) (fun _ hk => hk.2) (.slice Ao70 t945.length co70)) (fun _ h_ => h_.1)))) (below_size (by repeat first | exact HB.out | refine bxSet ?_ (by assumption) | apply below_alloc | apply pw_below_drewN))); replace HO925 := Aside0.mk (Kd.R_elder' (Kd.R_mono (Kd.R_far (p := ⟨gb949, 1, none⟩) (Kd.R_far (p := ⟨gb949, 0, none⟩) (Kd.R_types HO925.out BK949.out (by decide)) (fun _ hk => hk.2) (.bool t944)) (fun _ hk => hk.2) (.slice Ao70 t945.length co70)) (fun _ h_ => h_.1)) (Kd.R_base ho0) hb); replace HO929 := Aside0.mk (Kd.R_elder' (Kd.R_mono (Kd.R_far (p := ⟨gb949, 1, none⟩) (Kd.R_far (p := ⟨gb949, 0, none⟩) (Kd.R_types HO929.out BK949.out (by decide)) (fun _ hk => hk.2) (.bool t944)) (fun _ hk => hk.2) (.slice Ao70 t945.length co70)) (fun _ h_ => h_.1)) (Kd.R_base ho0) hb); replace HO936 := Aside0.mk (Kd.R_elder' (Kd.R_mono (Kd.R_far (p := ⟨gb949, 1, none⟩) (Kd.R_far (p := ⟨gb949, 0, none⟩) (Kd.R_types HO936.out BK949.out (by decide)) (fun _ hk => hk.2) (.bool t944)) (fun _ hk => hk.2) (.slice Ao70 t945.length co70)) (fun _ h_ => h_.1)) (Kd.R_base ho0) hb); replace HO940 := Aside0.mk (Kd.R_elder' (Kd.R_mono (Kd.R_far (p := ⟨gb949, 1, none⟩) (Kd.R_far (p := ⟨gb949, 0, none⟩) (Kd.R_types HO940.out BK949.out (by decide)) (fun _ hk => hk.2) (.bool t944)) (fun _ hk => hk.2) (.slice Ao70 t945.length co70)) (fun _ h_ => h_.1)) (Kd.R_base ho0) hb); replace HO947 := Aside0.mk (Kd.R_elder' (Kd.R_mono (Kd.R_far (p := ⟨gb949, 1, none⟩) (Kd.R_far (p := ⟨gb949, 0, none⟩) (Kd.R_types HO947.out BK949.out (by decide)) (fun _ hk => hk.2) (.bool t944)) (fun _ hk => hk.2) (.slice Ao70 t945.length co70)) (fun _ h_ => h_.1)) (Kd.R_base ho0) hb); replace BK918 := Aside0.mk (blk_below (g := gb918) (o := .cells #[.bool a0_0, .slice A0_1 l0_1.length c0_1] 24 (0, 0)) (by refine blk_far ?_ NB918_949.out _; refine blk_far ?_ NB918_949.out _; exact BK918.out) hb); replace BK919 := Aside0.mk (blk_below (g := gb919) (o := .cells #[.bool a1_0, .slice A1_1 l1_1.length c1_1] 24 (0, 0)) (by refine blk_far ?_ NB919_949.out _; refine blk_far ?_ NB919_949.out _; exact BK919.out) hb); replace BK931 := Aside0.mk (blk_below (g := gb931) (o := .cells #[.bool t922, .slice Ao36 t923.length co36] 24 (0, 0)) (by refine blk_far ?_ NB931_949.out _; refine blk_far ?_ NB931_949.out _; exact BK931.out) hb); replace BK932 := Aside0.mk (blk_below (g := gb932) (o := .cells #[.bool t926, .slice Ao40 t927.length co40] 24 (0, 0)) (by refine blk_far ?_ NB932_949.out _; refine blk_far ?_ NB932_949.out _; exact BK932.out) hb); replace BK942 := Aside0.mk (blk_below (g := gb942) (o := .cells #[.bool t933, .slice Ao52 t934.length co52] 24 (0, 0)) (by refine blk_far ?_ NB942_949.out _; refine blk_far ?_ NB942_949.out _; exact BK942.out) hb); replace BK943 := Aside0.mk (blk_below (g := gb943) (o := .cells #[.bool t937, .slice Ao58 t938.length co58] 24 (0, 0)) (by refine blk_far ?_ NB943_949.out _; refine blk_far ?_ NB943_949.out _; exact BK943.out) hb); replace BK949 := Aside0.mk (blk_below (g := gb949) (o := .cells #[.bool t944, .slice Ao70 t945.length co70] 24 (0, 0)) (by refine blk_put (cs := #[.bool t944, .slice none 0 0]) ?_ 1 _ rfl; refine blk_put (cs := #[.bool false, .slice none 0 0]) ?_ 0 _ rfl; exact BK949.out) hb); replace HB := Aside0.mk (below_step (by repeat first | exact HB.out | refine bxSet ?_ (by assumption) | apply below_alloc | apply pw_below_drewN) hb)) | ((with_reducible refine gate_dst (N := 15) rfl ?_); refine box_event ?hg (N := 15) ?hd (cs := #[.bool false, .slice none 0 0]) (t := 24) ?hr ?_; (case hd => rfl); (case hg => rfl); (case hr => first | (go_simp; done) | (go_simp; rfl)); intro gb955 hg w74 hbox hb; replace HO925 := Aside0.mk (Kd.R_below HO925.out hb); replace HO929 := Aside0.mk (Kd.R_below HO929.out hb); replace HO936 := Aside0.mk (Kd.R_below HO936.out hb); replace HO940 := Aside0.mk (Kd.R_below HO940.out hb); replace HO947 := Aside0.mk (Kd.R_below HO947.out hb); replace HO953 := Aside0.mk (Kd.R_below HO953.out hb); have BK955 := Aside0.mk (hbox); have GW955 := Aside0.mk (bxLe HB.out hg); have GE955 := GW955; replace HB := Aside0.mk (below_step HB.out hb); have NB918_955 := Aside0.mk (neL BK918.out hg); have NB955_918 := Aside0.mk (neR BK918.out hg); have NB919_955 := Aside0.mk (neL BK919.out hg); have NB955_919 := Aside0.mk (neR BK919.out hg); have NB931_955 := Aside0.mk (neL BK931.out hg); have NB955_931 := Aside0.mk (neR BK931.out hg); replace BK931 := Aside0.mk (blk_below BK931.out hb); have NB932_955 := Aside0.mk (neL BK932.out hg); have NB955_932 := Aside0.mk (neR BK932.out hg); replace BK932 := Aside0.mk (blk_below BK932.out hb); have NB942_955 := Aside0.mk (neL BK942.out hg); have NB955_942 := Aside0.mk (neR BK942.out hg); replace BK942 := Aside0.mk (blk_below BK942.out hb); have NB943_955 := Aside0.mk (neL BK943.out hg); have NB955_943 := Aside0.mk (neR BK943.out hg); replace BK943 := Aside0.mk (blk_below BK943.out hb); have NB949_955 := Aside0.mk (neL BK949.out hg); have NB955_949 := Aside0.mk (neR BK949.out hg); replace BK949 := Aside0.mk (blk_below BK949.out hb); clear hb hbox hg; have hnb75 := NB955_918.out; have hnc75 := NB918_955.out; have hnb76 := NB955_919.out; have hnc76 := NB919_955.out; have hnb77 := NB955_931.out; have hnc77 := NB931_955.out; have hnb78 := NB955_932.out; have hnc78 := NB932_955.out; have hnb79 := NB955_942.out; have hnc79 := NB942_955.out; have hnb80 := NB955_943.out; have hnc80 := NB943_955.out; have hnb81 := NB955_949.out; have hnc81 := NB949_955.out; have hcz82_0 : w74.cell? ⟨gb955, 0, none⟩ = some (.bool false) := bc0 BK955.out; have hcz82_1 : w74.cell? ⟨gb955, 1, none⟩ = some (.slice none 0 0) := bc1 BK955.out; have hfz82_0 := blk_frozen BK955.out 0; have hfz82_1 := blk_frozen BK955.out 1; obtain ⟨Ao83, co83, eo83⟩ := Kd.R_slice HO953.out; subst eo83; have hcz84_0 : w74.cell? ⟨gb931, 0, none⟩ = some (.bool t922) := bc0 BK931.out; have hcz84_1 : w74.cell? ⟨gb931, 1, none⟩ = some (.slice Ao36 t923.length co36) := bc1 BK931.out; have hfz84_0 := blk_frozen BK931.out 0; have hfz84_1 := blk_frozen BK931.out 1; have hcz85_0 : w74.cell? ⟨gb942, 0, none⟩ = some (.bool t933) := bc0 BK942.out; have hcz85_1 : w74.cell? ⟨gb942, 1, none⟩ = some (.slice Ao52 t934.length co52) := bc1 BK942.out; have hfz85_0 := blk_frozen BK942.out 0; have hfz85_1 := blk_frozen BK942.out 1) | ((with_reducible refine gate_callee (f := 15) rfl ?_); refine goL (some 59) Tryd.func15 [.agg #[.bool t922, .slice Ao36 t923.length co36], .agg #[.bool t933, .slice Ao52 t934.length co52]] ?_; (with_reducible refine (gudgeonref02_Same.calls kj4 t922 _ _ t923 t933 _ _ t934 true _ ?side1 ?side2 ?side3 ?side4 A19.out).mono ?_); (case side1 => refine (Kd.R_reads' (e := 51) (base := w.heap.size) (ok := fun k_ => ((((some k_ ≠ (.slice Ao40 t927.length co40 : Value).ownBlock ∧ some k_ ≠ (.slice Ao52 t934.length co52 : Value).ownBlock) ∧ some k_ ≠ (.slice Ao58 t938.length co58 : Value).ownBlock) ∧ some k_ ≠ (.slice Ao70 t945.length co70 : Value).ownBlock) ∧ some k_ ≠ (.slice Ao83 t951.length co83 : Value).ownBlock)) (n := t923.length) (c := co36) ?_).2.2; exact (Kd.R_mono (Kd.R_far (p := ⟨gb955, 1, none⟩) (Kd.R_far (p := ⟨gb955, 0, none⟩) (Kd.R_types HO925.out BK955.out (by decide)) (fun _ hk => hk.2) (.bool t950)) (fun _ hk => hk.2) (.slice Ao83 t951.length co83)) (fun _ h_ => h_.1))); (case side2 => exact (Kd.R_reads' HO925.out).2.1); (case side3 => refine (Kd.R_reads' (e := 51) (base := w.heap.size) (ok := fun k_ => ((((some k_ ≠ (.slice Ao58 t938.length co58 : Value).ownBlock ∧ some k_ ≠ (.slice Ao36 t923.length co36 : Value).ownBlock) ∧ some k_ ≠ (.slice Ao40 t927.length co40 : Value).ownBlock) ∧ some k_ ≠ (.slice Ao70 t945.length co70 : Value).ownBlock) ∧ some k_ ≠ (.slice Ao83 t951.length co83 : Value).ownBlock)) (n := t934.length) (c := co52) ?_).2.2; exact (Kd.R_mono (Kd.R_far (p := ⟨gb955, 1, none⟩) (Kd.R_far (p := ⟨gb955, 0, none⟩) (Kd.R_types HO936.out BK955.out (by decide)) (fun _ hk => hk.2) (.bool t950)) (fun _ hk => hk.2) (.slice Ao83 t951.length co83)) (fun _ h_ => h_.1))); (case side4 => exact (Kd.R_reads' HO936.out).2.1); rintro e w86 ⟨rfl, hb⟩; refine ⟨_, rfl, ?_⟩; replace HO929 := Aside0.mk (Kd.R_below (Kd.R_mono (Kd.R_far (p := ⟨gb955, 1, none⟩) (Kd.R_far (p := ⟨gb955, 0, none⟩) (Kd.R_types HO929.out BK955.out (by decide)) (fun _ hk => hk.2) (.bool t950)) (fun _ hk => hk.2) (.slice Ao83 t951.length co83)) (fun _ h_ => h_.1)) hb); replace HO940 := Aside0.mk (Kd.R_below (Kd.R_mono (Kd.R_far (p := ⟨gb955, 1, none⟩) (Kd.R_far (p := ⟨gb955, 0, none⟩) (Kd.R_types HO940.out BK955.out (by decide)) (fun _ hk => hk.2) (.bool t950)) (fun _ hk => hk.2) (.slice Ao83 t951.length co83)) (fun _ h_ => h_.1)) hb); replace HO947 := Aside0.mk (Kd.R_below (Kd.R_mono (Kd.R_far (p := ⟨gb955, 1, none⟩) (Kd.R_far (p := ⟨gb955, 0, none⟩) (Kd.R_types HO947.out BK955.out (by decide)) (fun _ hk => hk.2) (.bool t950)) (fun _ hk => hk.2) (.slice Ao83 t951.length co83)) (fun _ h_ => h_.1)) hb); replace HO953 := Aside0.mk (Kd.R_below (Kd.R_mono (Kd.R_far (p := ⟨gb955, 1, none⟩) (Kd.R_far (p := ⟨gb955, 0, none⟩) (Kd.R_types HO953.out BK955.out (by decide)) (fun _ hk => hk.2) (.bool t950)) (fun _ hk => hk.2) (.slice Ao83 t951.length co83)) (fun _ h_ => h_.1)) hb); replace BK932 := Aside0.mk (blk_below (g := gb932) (o := .cells #[.bool t926, .slice Ao40 t927.length co40] 24 (0, 0)) (by refine blk_far ?_ NB932_955.out _; refine blk_far ?_ NB932_955.out _; exact BK932.out) hb); replace BK943 := Aside0.mk (blk_below (g := gb943) (o := .cells #[.bool t937, .slice Ao58 t938.length co58] 24 (0, 0)) (by refine blk_far ?_ NB943_955.out _; refine blk_far ?_ NB943_955.out _; exact BK943.out) hb); replace BK949 := Aside0.mk (blk_below (g := gb949) (o := .cells #[.bool t944, .slice Ao70 t945.length co70] 24 (0, 0)) (by refine blk_far ?_ NB949_955.out _; refine blk_far ?_ NB949_955.out _; exact BK949.out) hb); replace BK955 := Aside0.mk (blk_below (g := gb955) (o := .cells #[.bool t950, .slice Ao83 t951.length co83] 24 (0, 0)) (by refine blk_put (cs := #[.bool t950, .slice none 0 0]) ?_ 1 _ rfl; refine blk_put (cs := #[.bool false, .slice none 0 0]) ?_ 0 _ rfl; exact BK955.out) hb); replace HB := Aside0.mk (below_step (by repeat first | exact HB.out | refine bxSet ?_ (by assumption) | apply below_alloc | apply pw_below_drewN) hb); (try clear hb); (try clear hb2); (try clear hk); (try clear hi); have hcz87_0 : w86.cell? ⟨gb932, 0, none⟩ = some (.bool t926) := bc0 BK932.out; have hcz87_1 : w86.cell? ⟨gb932, 1, none⟩ = some (.slice Ao40 t927.length co40) := bc1 BK932.out; have hfz87_0 := blk_frozen BK932.out 0; have hfz87_1 := blk_frozen BK932.out 1; have hcz88_0 : w86.cell? ⟨gb943, 0, none⟩ = some (.bool t937) := bc0 BK943.out; have hcz88_1 : w86.cell? ⟨gb943, 1, none⟩ = some (.slice Ao58 t938.length co58) := bc1 BK943.out; have hfz88_0 := blk_frozen BK943.out 0; have hfz88_1 := blk_frozen BK943.out 1) | ((with_reducible refine gate_callee (f := 15) rfl ?_); refine goL (some 62) Tryd.func15 [.agg #[.bool t926, .slice Ao40 t927.length co40], .agg #[.bool t937, .slice Ao58 t938.length co58]] ?_; (with_reducible refine (gudgeonref02_Same.calls kj4 t926 _ _ t927 t937 _ _ t938 true _ ?side1 ?side2 ?side3 ?side4 A20.out).mono ?_); (case side1 => exact (Kd.R_reads' HO929.out).2.2); (case side2 => exact (Kd.R_reads' HO929.out).2.1); (case side3 => exact (Kd.R_reads' HO940.out).2.2); (case side4 => exact (Kd.R_reads' HO940.out).2.1); rintro e w89 ⟨rfl, hb⟩; refine ⟨_, rfl, ?_⟩; replace HO947 := Aside0.mk (Kd.R_below HO947.out hb); replace HO953 := Aside0.mk (Kd.R_below HO953.out hb); replace BK949 := Aside0.mk (blk_below BK949.out hb); replace BK955 := Aside0.mk (blk_below BK955.out hb); replace HB := Aside0.mk (below_step HB.out hb); (try clear hb); (try clear hb2); (try clear hk); (try clear hi); have hcz90_0 : w89.cell? ⟨gb949, 0, none⟩ = some (.bool t944) := bc0 BK949.out; have hcz90_1 : w89.cell? ⟨gb949, 1, none⟩ = some (.slice Ao70 t945.length co70) := bc1 BK949.out; have hfz90_0 := blk_frozen BK949.out 0; have hfz90_1 := blk_frozen BK949.out 1; have hcz91_0 : w89.cell? ⟨gb955, 0, none⟩ = some (.bool t950) := bc0 BK955.out; have hcz91_1 : w89.cell? ⟨gb955, 1, none⟩ = some (.slice Ao83 t951.length co83) := bc1 BK955.out; have hfz91_0 := blk_frozen BK955.out 0; have hfz91_1 := blk_frozen BK955.out 1) | ((with_reducible refine gate_callee (f := 15) rfl ?_); refine goL (some 65) Tryd.func15 [.agg #[.bool t944, .slice Ao70 t945.length co70], .agg #[.bool t950, .slice Ao83 t951.length co83]] ?_; (with_reducible refine (gudgeonref02_Same.calls kj4 t944 _ _ t945 t950 _ _ t951 true _ ?side1 ?side2 ?side3 ?side4 A21.out).mono ?_); (case side1 => exact (Kd.R_reads' HO947.out).2.2); (case side2 => exact (Kd.R_reads' HO947.out).2.1); (case side3 => exact (Kd.R_reads' HO953.out).2.2); (case side4 => exact (Kd.R_reads' HO953.out).2.1); rintro e w92 ⟨rfl, hb⟩; refine ⟨_, rfl, ?_⟩; replace HB := Aside0.mk (below_step HB.out hb); (try clear hb); (try clear hb2); (try clear hk); (try clear hi)))
        go_ret
        exact ⟨by first | rfl | (simp [errW_none, errW_some] <;> rfl) | (refine congrArg (fun z_ => Ending.returned (Value.bool z_)) (decide_eq_decide.mpr ?_); unfold wrap64; omega) | (simp [*, errW_none, errW_some] <;> rfl), HB.out⟩
       ·rw [if_neg c25] at H
        exact absurd H (by simp)
      ·replace c24 := Bool.eq_false_iff.mpr c24
       subst c24
       rw [if_neg (show ¬ (false = true) by decide)] at H
       exact absurd H (by simp)
     ·replace c23 := Bool.eq_false_iff.mpr c23
      subst c23
      rw [if_neg (show ¬ (false = true) by decide)] at H
      exact absurd H (by simp)
    ·replace c22 := Bool.eq_false_iff.mpr c22
     subst c22
     rw [if_neg (show ¬ (false = true) by decide)] at H
     exact absurd H (by simp)

end Go.Proofs.YthnfmmaolkenkaaDoor.PA
/- Numbers by limbs: what a list of limbs is worth, and its own form. -/
namespace Go.Proofs.YthnfmmaolkenkaaDoor.V
set_option linter.unusedVariables false
set_option linter.unusedSimpArgs false

/-- What limbs are worth. -/
def val : List Int → Int
  | [] => 0
  | x :: r => x + 4294967296 * val r
/-- Limbs of 32 bits. -/
def Lim (l : List Int) : Prop := ∀ x ∈ l, 0 ≤ x ∧ x < 4294967296
theorem Lim.nil : Lim [] := fun _ h => by cases h
theorem Lim.cons {x : Int} {l : List Int} (h0 : 0 ≤ x) (h1 : x < 4294967296) (h : Lim l) : Lim (x :: l) := fun y hy => by
  rcases List.mem_cons.1 hy with rfl | hy
  · exact ⟨h0, h1⟩
  · exact h y hy
theorem Lim.head {x : Int} {l : List Int} (h : Lim (x :: l)) : 0 ≤ x ∧ x < 4294967296 := h x List.mem_cons_self
theorem Lim.tail {x : Int} {l : List Int} (h : Lim (x :: l)) : Lim l := fun y hy => h y (List.mem_cons_of_mem _ hy)
theorem Lim.append {a b : List Int} (ha : Lim a) (hb : Lim b) : Lim (a ++ b) := fun y hy => by
  rcases List.mem_append.1 hy with hy | hy
  · exact ha y hy
  · exact hb y hy
theorem Lim.left {a b : List Int} (h : Lim (a ++ b)) : Lim a := fun y hy => h y (List.mem_append_left _ hy)
theorem Lim.right {a b : List Int} (h : Lim (a ++ b)) : Lim b := fun y hy => h y (List.mem_append_right _ hy)
theorem Lim.take {a : List Int} (n : Nat) (h : Lim a) : Lim (a.take n) := fun y hy => h y (List.mem_of_mem_take hy)
theorem Lim.drop {a : List Int} (n : Nat) (h : Lim a) : Lim (a.drop n) := fun y hy => h y (List.mem_of_mem_drop hy)
theorem Lim.get {l : List Int} (h : Lim l) (i : Nat) (hi : i < l.length) : 0 ≤ l[i] ∧ l[i] < 4294967296 := h _ (List.getElem_mem hi)
theorem Lim.set {l : List Int} (h : Lim l) (i : Nat) {x : Int} (h0 : 0 ≤ x) (h1 : x < 4294967296) : Lim (l.set i x) := fun y hy => by
  rcases List.mem_or_eq_of_mem_set hy with hy | rfl
  · exact h y hy
  · exact ⟨h0, h1⟩
theorem Lim.zeros (n : Nat) : Lim (List.replicate n 0) := fun y hy => by
  obtain rfl := List.eq_of_mem_replicate hy
  omega
theorem val_nonneg {l : List Int} (h : Lim l) : 0 ≤ val l := by
  induction l with
  | nil => simp [val]
  | cons x l ih =>
    have := ih h.tail
    have := h.head
    simp only [val]; omega
/-- The weight of the limb at a place. -/
def pw (n : Nat) : Int := 4294967296 ^ n
theorem pw_zero : pw 0 = 1 := rfl
theorem pw_succ (n : Nat) : pw (n + 1) = 4294967296 * pw n := by unfold pw; rw [Int.pow_succ]; omega
theorem pw_pos (n : Nat) : 0 < pw n := by
  induction n with
  | zero => decide
  | succ n ih => rw [pw_succ]; omega
theorem pw_add (m n : Nat) : pw (m + n) = pw m * pw n := by unfold pw; exact Int.pow_add ..
theorem val_lt {l : List Int} (h : Lim l) : val l < pw l.length := by
  induction l with
  | nil => simp [val, pw_zero]
  | cons x l ih =>
    have := ih h.tail
    have := h.head
    simp only [val, List.length_cons, pw_succ]; omega
theorem val_append (a b : List Int) : val (a ++ b) = val a + pw a.length * val b := by
  induction a with
  | nil => simp [val, pw_zero]
  | cons x a ih => simp only [List.cons_append, val, ih, List.length_cons, pw_succ]; grind
theorem val_zeros (n : Nat) : val (List.replicate n 0) = 0 := by
  induction n with
  | zero => rfl
  | succ n ih => simp only [List.replicate_succ, val, ih]; omega
/-- The limbs of a number, without noughts behind. -/
def digN (n : Nat) : List Int := if h : n = 0 then [] else ((n % 4294967296 : Nat) : Int) :: digN (n / 4294967296)
termination_by n
decreasing_by omega
def dig (n : Int) : List Int := digN n.toNat
theorem digN_lim (n : Nat) : Lim (digN n) := by
  induction n using Nat.strongRecOn with
  | _ n ih =>
    rw [digN]
    split
    · exact Lim.nil
    · exact Lim.cons (by omega) (by omega) (ih _ (by omega))
theorem val_digN (n : Nat) : val (digN n) = n := by
  induction n using Nat.strongRecOn with
  | _ n ih =>
    rw [digN]
    split
    · rename_i h; simp [val, h]
    · simp only [val]; rw [ih _ (by omega)]; omega
theorem dig_lim (n : Int) : Lim (dig n) := digN_lim _
theorem val_dig {n : Int} (h : 0 ≤ n) : val (dig n) = n := by unfold dig; rw [val_digN]; omega
theorem dig_zero : dig 0 = [] := by unfold dig; rw [digN]; rfl
theorem dig_eq_nil {n : Int} (h : 0 ≤ n) : dig n = [] ↔ n = 0 := by
  constructor
  · intro e
    have := val_dig h
    rw [e] at this
    exact this.symm
  · rintro rfl; exact dig_zero
theorem dig_cons {x n : Int} (h0 : 0 ≤ x) (h1 : x < 4294967296) (hn : 0 ≤ n) (h : x + 4294967296 * n ≠ 0) : dig (x + 4294967296 * n) = x :: dig n := by
  unfold dig
  rw [digN]
  rw [dif_neg (by omega)]
  have e1 : (((x + 4294967296 * n).toNat % 4294967296 : Nat) : Int) = x := by omega
  have e2 : (x + 4294967296 * n).toNat / 4294967296 = n.toNat := by omega
  rw [e1, e2]
theorem dig_length_le {n : Int} {k : Nat} (h0 : 0 ≤ n) (h : n < pw k) : (dig n).length ≤ k := by
  induction k generalizing n with
  | zero => rw [pw_zero] at h; rw [show n = 0 by omega, dig_zero]; simp
  | succ k ih =>
    rw [pw_succ] at h
    by_cases hn : n = 0
    · rw [hn, dig_zero]; simp
    · have e : n = n % 4294967296 + 4294967296 * (n / 4294967296) := by omega
      rw [e, dig_cons (by omega) (by omega) (by omega) (by omega)]
      have := ih (n := n / 4294967296) (by omega) (by omega)
      simp; omega
theorem lt_of_dig_length {n : Int} {k : Nat} (h0 : 0 ≤ n) (h : (dig n).length ≤ k) : n < pw k := by
  have := val_lt (dig_lim n)
  rw [val_dig h0] at this
  have hp : pw (dig n).length ≤ pw k := by
    obtain ⟨d, hd⟩ := Nat.exists_eq_add_of_le h
    rw [hd, pw_add]
    have := pw_pos (dig n).length
    have := pw_pos d
    calc pw (dig n).length = pw (dig n).length * 1 := by omega
      _ ≤ _ := Int.mul_le_mul_of_nonneg_left (by omega) (by omega)
  omega
/-- Without the noughts behind: as the machine's Norm. -/
theorem dropWhile_zeros (l : List Int) (h : Lim l) : (l.reverse.dropWhile (fun x => x == 0)).reverse = dig (val l) := by
  induction l with
  | nil => simp [val, dig_zero]
  | cons x l ih =>
    have ih := ih h.tail
    have hx := h.head
    have hv := val_nonneg h.tail
    simp only [val, List.reverse_cons]
    rw [List.dropWhile_append]
    by_cases hz : val l = 0
    · rw [hz, dig_zero] at ih
      have e : (List.dropWhile (fun x => x == 0) l.reverse) = [] := by simpa using ih
      rw [e, hz]
      by_cases h0 : x = 0
      · subst h0; simp [dig_zero]
      · have : dig (x + 4294967296 * 0) = x :: dig 0 := dig_cons (by omega) (by omega) (by omega) (by omega)
        rw [this, dig_zero]
        simp [h0]
    · have hne : dig (val l) ≠ [] := by rw [Ne, dig_eq_nil hv]; exact hz
      rw [dig_cons (by omega) (by omega) hv (by omega), ← ih]
      have e : (List.dropWhile (fun x => x == 0) l.reverse).isEmpty = false := by
        rw [← ih] at hne
        cases hd : List.dropWhile (fun x => x == 0) l.reverse with
        | nil => rw [hd] at hne; simp at hne
        | cons _ _ => rfl
      rw [e]; simp
theorem dig_last {n : Int} (hne : dig n ≠ []) : (dig n).getLast hne ≠ 0 := by
  have key : ∀ (m : Nat) (hne : digN m ≠ []), (digN m).getLast hne ≠ 0 := by
    intro m
    induction m using Nat.strongRecOn with
    | _ m ih =>
      rw [digN]
      split
      · intro h; exact absurd rfl h
      · intro _
        by_cases hd : digN (m / 4294967296) = []
        · have : m / 4294967296 = 0 := by
            have hv := val_digN (m / 4294967296)
            rw [hd] at hv
            simp only [val] at hv
            omega
          simp only [hd, List.getLast_singleton]
          omega
        · rw [List.getLast_cons hd]
          exact ih _ (by omega) hd
  exact key _ hne
theorem val_take_getD (l : List Int) (i : Nat) : val (l.take (i + 1)) = val (l.take i) + pw i * l.getD i 0 := by
  by_cases h : i < l.length
  · rw [List.take_succ_eq_append_getElem h, val_append, List.length_take, Nat.min_eq_left (Nat.le_of_lt h)]
    simp [val, h]
  · rw [List.take_of_length_le (by omega), List.take_of_length_le (by omega), List.getD_eq_getElem?_getD, List.getElem?_eq_none (by omega)]
    simp
theorem val_set_take (l : List Int) (i : Nat) (x : Int) (h : i < l.length) : val ((l.set i x).take (i + 1)) = val (l.take i) + pw i * x := by
  rw [val_take_getD, List.take_set_of_le (Nat.le_refl i)]
  simp [List.getD_eq_getElem?_getD, h]
theorem val_set (l : List Int) (i : Nat) (x : Int) (h : i < l.length) : val (l.set i x) = val l + pw i * (x - l[i]) := by
  induction l generalizing i with
  | nil => simp at h
  | cons y l ih =>
    cases i with
    | zero => simp [val, pw_zero]; omega
    | succ i =>
      have := ih i (by simpa using h)
      simp only [List.set_cons_succ, val, this, pw_succ, List.getElem_cons_succ]
      grind
theorem lim_one {x : Int} (h0 : 0 ≤ x) (h1 : x < 4294967296) : Lim [x] := Lim.cons h0 h1 Lim.nil
theorem val_one (x : Int) : val [x] = x := by simp [val]
theorem val_take_drop (l : List Int) (i : Nat) (h : i ≤ l.length) : val l = val (l.take i) + pw i * val (l.drop i) := by
  have := val_append (l.take i) (l.drop i)
  rwa [List.take_append_drop, List.length_take, Nat.min_eq_left h] at this
theorem val_take_succ (l : List Int) (i : Nat) (h : i < l.length) : val (l.take (i + 1)) = val (l.take i) + pw i * l[i] := by
  rw [List.take_succ_eq_append_getElem h, val_append, List.length_take, Nat.min_eq_left (Nat.le_of_lt h)]
  simp [val]
theorem val_drop_cons (l : List Int) (i : Nat) (h : i < l.length) : val (l.drop i) = l[i] + 4294967296 * val (l.drop (i + 1)) := by
  rw [List.drop_eq_getElem_cons h]; rfl
end Go.Proofs.YthnfmmaolkenkaaDoor.V
/- What nat's functions compute, as numbers: the order, sums, differences, products, a number by a small one, moved bits. -/
namespace Go.Proofs.YthnfmmaolkenkaaDoor.V
set_option linter.unusedVariables false
set_option linter.unusedSimpArgs false
open Go.RowKit Go.Proofs.YthnfmmaolkenkaaDoor.PA Go.Proofs.YthnfmmaolkenkaaDoor.H Go.Proofs.YthnfmmaolkenkaaDoorW.PrintWords Go.Proofs.YthnfmmaolkenkaaDoorW.PrintLast Go.Proofs.YthnfmmaolkenkaaDoorW.PrintMore

theorem w64 {x : Int} (h0 : -9223372036854775808 ≤ x) (h1 : x ≤ 9223372036854775807) : wrap64 x = x := by unfold wrap64; omega
theorem w01 : wrap64 1 = 1 := w64 (by omega) (by omega)
theorem w11 : wrap64 2 = 2 := w64 (by omega) (by omega)
theorem w21 : wrap64 3 = 3 := w64 (by omega) (by omega)
theorem wm1 : wrap64 (-1) = -1 := w64 (by omega) (by omega)
theorem wm2 : wrap64 (-2) = -2 := w64 (by omega) (by omega)
theorem wm0 : wrap64 0 = 0 := w64 (by omega) (by omega)
theorem u64 {x : Int} (h0 : 0 ≤ x) (h1 : x < 18446744073709551616) : IntKind.u64.wrap x = x := by rw [IntKind.wrap_u64]; omega
theorem u64e (x : Int) : IntKind.u64.wrap x = x % 18446744073709551616 := IntKind.wrap_u64 x
theorem rd_get (l : List Int) (i : Nat) (h : i < l.length) : rd l (i : Int) = l[i] := by simp [rd, h]
theorem rd_D (l : List Int) (i : Nat) : rd l (i : Int) = l.getD i 0 := by simp [rd]
theorem Lim.getD {l : List Int} (h : Lim l) (i : Nat) : 0 ≤ l.getD i 0 ∧ l.getD i 0 < 4294967296 := by
  by_cases hi : i < l.length
  · have := h.get i hi
    simpa [List.getD_eq_getElem?_getD, hi] using this
  · rw [List.getD_eq_getElem?_getD, List.getElem?_eq_none (by omega)]
    simp
theorem norm_ev (l : List Int) (h : Lim l) (hn : l.length ≤ 1000000000000) : nat_Norm.f l = some (dig (val l)) := by
  unfold nat_Norm.f
  rw [if_pos hn]
  unfold normL
  rw [dropWhile_zeros l h]
theorem limb_ev (l : List Int) (i : Nat) (h : Lim l) : nat_limb.f l (i : Int) = some (l.getD i 0) := by
  have hg := h.getD i
  unfold nat_limb.f
  by_cases hi : i < l.length
  · rw [if_neg (by omega), if_pos (by omega), if_pos (by omega), rd_D, u64 hg.1 (by omega)]
  · rw [if_pos (by omega), List.getD_eq_getElem?_getD, List.getElem?_eq_none (by omega)]
    rfl
theorem sign_ev (n : Int) : nat_sign.f n = some (if n < 0 then -1 else if n > 0 then 1 else 0) := by
  unfold nat_sign.f
  split
  · rfl
  · split <;> rfl
/-- The order of two numbers. -/
def cmpI (a b : Int) : Int := if a < b then -1 else if b < a then 1 else 0
theorem val_lt_of_length {a b : List Int} (ha : Lim a) (hb : Lim b) (hl : a.length < b.length) (hne : ∀ h : b ≠ [], b.getLast h ≠ 0) : val a < val b := by
  have h1 := val_lt ha
  obtain ⟨b', x, rfl⟩ : ∃ b' x, b = b' ++ [x] := by
    have hb0 : b ≠ [] := by rintro rfl; simp at hl
    exact ⟨b.dropLast, b.getLast hb0, (List.dropLast_concat_getLast hb0).symm⟩
  have hx : x ≠ 0 := by simpa using hne (by simp)
  have hx0 := (hb x (by simp)).1
  rw [val_append]
  have h2 := val_nonneg hb.left
  have h3 : pw a.length ≤ pw b'.length := by
    simp at hl
    obtain ⟨d, hd⟩ := Nat.exists_eq_add_of_le (show a.length ≤ b'.length by omega)
    rw [hd, pw_add]
    have := pw_pos a.length
    have := pw_pos d
    calc pw a.length = pw a.length * 1 := by omega
      _ ≤ _ := Int.mul_le_mul_of_nonneg_left (by omega) (by omega)
  have h4 : pw b'.length * 1 ≤ pw b'.length * val [x] := Int.mul_le_mul_of_nonneg_left (by simp [val]; omega) (Int.le_of_lt (pw_pos _))
  omega
theorem cmp_l0 (a b : List Int) (ha : Lim a) (hb : Lim b) (hl : a.length = b.length) (hn : a.length ≤ 1000000000000) (d : Nat) (hd : d ≤ a.length) (he : a.drop d = b.drop d) :
    Ev (fun k => nat_Cmp.l0 k a b ((d : Int) - 1)) (cmpI (val a) (val b)) := by
  induction d with
  | zero =>
    simp only [List.drop_zero] at he
    refine Ev.step (f := fun _ => some _) (fun k => ?_) (Ev.now _)
    simp only [nat_Cmp.l0]
    rw [if_neg (by omega), he]
    unfold cmpI
    rw [if_neg (by omega), if_neg (by omega)]
  | succ d ih =>
    have hda : d < a.length := by omega
    have hdb : d < b.length := by omega
    have e0 : ((d + 1 : Nat) : Int) - 1 = (d : Int) := by omega
    rw [e0]
    have xa := ha.get d hda
    have xb := hb.get d hdb
    by_cases hx : a[d] = b[d]
    · refine Ev.step (fun k => ?_) (ih (by omega) (by rw [List.drop_eq_getElem_cons hda, List.drop_eq_getElem_cons hdb, he, hx]))
      simp only [nat_Cmp.l0]
      rw [if_pos (by omega), if_pos (by omega), if_pos (by omega), if_pos (by omega), rd_get _ _ hda, rd_get _ _ hdb, if_pos hx, w64 (by omega) (by omega)]
    · refine Ev.step (f := fun _ => some _) (fun k => ?_) (Ev.now _)
      simp only [nat_Cmp.l0]
      rw [if_pos (by omega), if_pos (by omega), if_pos (by omega), if_pos (by omega), rd_get _ _ hda, rd_get _ _ hdb, if_neg hx, w64 (x := a[d]) (by omega) (by omega), w64 (x := b[d]) (by omega) (by omega), w64 (by omega) (by omega), sign_ev]
      simp only [Option.bind_some]
      have e1 := val_take_drop a (d + 1) hd
      have e2 := val_take_drop b (d + 1) (by omega)
      rw [he] at e1
      rw [val_take_succ a d hda] at e1
      rw [val_take_succ b d hdb] at e2
      have b1 := val_nonneg (ha.take d)
      have b2 := val_nonneg (hb.take d)
      have b3 := val_lt (ha.take d)
      have b4 := val_lt (hb.take d)
      rw [List.length_take, Nat.min_eq_left (by omega)] at b3 b4
      unfold cmpI
      congr 1
      by_cases hlt : a[d] < b[d]
      · have h5 : pw d * (a[d] + 1) ≤ pw d * b[d] := Int.mul_le_mul_of_nonneg_left (by omega) (Int.le_of_lt (pw_pos _))
        rw [Int.mul_add, Int.mul_one] at h5
        rw [if_pos (by omega), if_pos (by omega)]
      · have h5 : pw d * (b[d] + 1) ≤ pw d * a[d] := Int.mul_le_mul_of_nonneg_left (by omega) (Int.le_of_lt (pw_pos _))
        rw [Int.mul_add, Int.mul_one] at h5
        rw [if_neg (by omega), if_pos (by omega), if_neg (by omega), if_pos (by omega)]
theorem dig_length (l : List Int) (h : Lim l) : (dig (val l)).length ≤ l.length := dig_length_le (val_nonneg h) (val_lt h)
theorem cmp_ev (a b : List Int) (ha : Lim a) (hb : Lim b) (hna : a.length ≤ 1000000000000) (hnb : b.length ≤ 1000000000000) : Ev (fun k => nat_Cmp.f k a b) (cmpI (val a) (val b)) := by
  have va := val_nonneg ha
  have vb := val_nonneg hb
  have la := dig_length a ha
  have lb := dig_length b hb
  by_cases hl : (dig (val a)).length = (dig (val b)).length
  · have := cmp_l0 (dig (val a)) (dig (val b)) (dig_lim _) (dig_lim _) hl (by omega) _ (Nat.le_refl _) (by rw [List.drop_eq_nil_of_le (by omega), List.drop_eq_nil_of_le (by omega)])
    rw [val_dig va, val_dig vb] at this
    refine Ev.congr (fun k => ?_) this
    unfold nat_Cmp.f
    rw [norm_ev a ha hna, norm_ev b hb hnb]
    simp only [Option.bind_some]
    rw [if_pos (by omega), w64 (by omega) (by omega)]
  · refine Ev.congr (f := fun _ => some _) (fun k => ?_) (Ev.now _)
    unfold nat_Cmp.f
    rw [norm_ev a ha hna, norm_ev b hb hnb]
    simp only [Option.bind_some]
    rw [if_neg (by omega), w64 (by omega) (by omega), sign_ev]
    simp only [Option.bind_some]
    congr 1
    unfold cmpI
    by_cases hlt : (dig (val a)).length < (dig (val b)).length
    · have := val_lt_of_length (dig_lim _) (dig_lim _) hlt (fun h => dig_last h)
      rw [val_dig va, val_dig vb] at this
      rw [if_pos (by omega), if_pos (by omega)]
    · have := val_lt_of_length (dig_lim _) (dig_lim _) (show (dig (val b)).length < (dig (val a)).length by omega) (fun h => dig_last h)
      rw [val_dig va, val_dig vb] at this
      rw [if_neg (by omega), if_pos (by omega), if_neg (by omega), if_pos (by omega)]
theorem of_ev (n : Int) (h0 : 0 ≤ n) (h1 : n < 18446744073709551616) : nat_Of.f n = some (dig n) := by
  unfold nat_Of.f
  rw [norm_ev _ (Lim.cons (by omega) (by omega) (Lim.cons (by omega) (by omega) Lim.nil)) (by simp)]
  simp only [Option.bind_some, val]
  congr 2
  omega
theorem pw_le_pw {a b : Nat} (h : a ≤ b) : pw a ≤ pw b := by
  obtain ⟨d, rfl⟩ := Nat.exists_eq_add_of_le h
  rw [pw_add]
  have := pw_pos a
  have := pw_pos d
  calc pw a = pw a * 1 := by omega
    _ ≤ _ := Int.mul_le_mul_of_nonneg_left (by omega) (by omega)

/-! ### sums -/
theorem step_add {P V A Bv c x y q r : Int} (h : V + P * c = A + Bv) (e : r + 4294967296 * q = c + (x + y)) : V + P * r + (4294967296 * P) * q = A + P * x + (Bv + P * y) := by grind
theorem add_l0 (a b : List Int) (ha : Lim a) (hb : Lim b) (n : Nat) (hna : a.length < n) (hnb : b.length < n) (hn : n ≤ 1000000000000) (d : Nat) : ∀ (i : Nat) (out : List Int) (c : Int), i + d = n → out.length = n → Lim out → 0 ≤ c → c ≤ 1 → val (out.take i) + pw i * c = val (a.take i) + val (b.take i) →
    Ev (fun k => nat_Add.l0 k a b out c (n : Int) (i : Int)) (dig (val a + val b)) := by
  induction d with
  | zero =>
    intro i out c hi ho hL c0 c1 hv
    obtain rfl : i = n := by omega
    refine Ev.step (f := fun _ => some _) (fun k => ?_) (Ev.now _)
    simp only [nat_Add.l0]
    rw [if_neg (by omega), norm_ev out hL (by omega)]
    simp only [Option.bind_some]
    rw [List.take_of_length_le (by omega), List.take_of_length_le (by omega), List.take_of_length_le (by omega)] at hv
    have h1 := val_lt ha
    have h2 := val_lt hb
    have h3 := val_nonneg hL
    obtain ⟨m, rfl⟩ : ∃ m, i = m + 1 := ⟨i - 1, by omega⟩
    have h4 := pw_le_pw (show a.length ≤ m by omega)
    have h5 := pw_le_pw (show b.length ≤ m by omega)
    have h6 := pw_succ m
    have h7 := pw_pos m
    have hc : c = 0 := by
      by_cases hc : c = 0
      · exact hc
      · have : c = 1 := by omega
        subst this
        omega
    subst hc
    congr 2
    omega
  | succ d ih =>
    intro i out c hi ho hL c0 c1 hv
    have ga := ha.getD i
    have gb := hb.getD i
    have hio : i < out.length := by omega
    refine Ev.step (fun k => ?_) (ih (i + 1) (out.set i ((c + (a.getD i 0 + b.getD i 0)) % 4294967296)) ((c + (a.getD i 0 + b.getD i 0)) / 4294967296) (by omega) (by simpa using ho) (hL.set i (by omega) (by omega)) (by omega) (by omega) ?_)
    · simp only [nat_Add.l0]
      rw [if_pos (by omega), limb_ev a i ha, limb_ev b i hb]
      simp only [Option.bind_some]
      rw [if_pos (by omega), if_pos (by omega), u64 (x := a.getD i 0 + b.getD i 0) (by omega) (by omega), u64 (by omega) (by omega), w64 (by omega) (by omega), Int.toNat_natCast]
      rfl
    · rw [val_set_take _ _ _ hio, val_take_getD a, val_take_getD b, pw_succ]
      exact step_add hv (by omega)
theorem mx_len (a b : List Int) : mx (a.length : Int) (b.length : Int) = ((max a.length b.length : Nat) : Int) := by unfold mx; split <;> omega
theorem add_ev (a b : List Int) (ha : Lim a) (hb : Lim b) (hna : a.length < 1000000000) (hnb : b.length < 1000000000) : Ev (fun k => nat_Add.f k a b) (dig (val a + val b)) := by
  have := add_l0 a b ha hb (max a.length b.length + 1) (by omega) (by omega) (by omega) (max a.length b.length + 1) 0 (List.replicate (max a.length b.length + 1) 0) 0 (by omega) (by simp) (Lim.zeros _) (by omega) (by omega) (by simp [val])
  refine Ev.congr (fun k => ?_) this
  unfold nat_Add.f
  rw [mx_len, w64 (by omega) (by omega), if_pos (by omega), if_pos (by omega)]
  congr 1 <;> omega

end Go.Proofs.YthnfmmaolkenkaaDoor.V
