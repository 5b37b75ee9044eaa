/- Joined by wip/tools/shake.py for the claim of LinForms: PAx7, WhoA, HLNorm, HLBy, PAx9, LinB, LinG, HLTight. -/
import Derived.Test.YtdicjemjmlbmlaaJLinForms2
import Derived.Test.YtdicjemjmlbmlaaJLinForms3
import Derived.OpenShut
import Derived.Shelf.RegionOpenPlain
import Derived.Lib.SliceRun
import Derived.WalkKit
import Derived.KernelRfl
/- Written by a program of this session, wip/tools/patch_print.py, over the kit's print of the loaded functions. -/
namespace Go.Proofs.Ytdicjemjmlbmlaa.H
end Go.Proofs.Ytdicjemjmlbmlaa.H
namespace Go.Proofs.Ytdicjemjmlbmlaa.PA
open Go.RowKit Go.Proofs.YtdicjemjmlbmlaaW.PrintWords Go.Proofs.YtdicjemjmlbmlaaW.PrintLast Go.Proofs.YtdicjemjmlbmlaaW.PrintMore Go.Proofs.Ytdicjemjmlbmlaa.H
attribute [local go_sem] max2_int min2_int max_two min_two max_three min_three max_four min_four   -- for this text's walks alone
attribute [local go_sem] box_twice
set_option linter.unusedVariables false
set_option linter.unusedSimpArgs false

/-! ### whole_DivMod: function 48 -/
def whole_DivMod.j0 : Nat → List Int → List Int → Bool → Bool → List Int → Bool → List Int → Option (Bool × List Int × Bool × List Int × Int)
 | 0, _, _, _, _, _, _, _ => none
 | k + 1, x7, x8, x39, x340000, x340001, x341000, x341001 => if x39 = true then ((whole_made.f (x340000 != x341000) x7).bind fun bt359 => ((whole_made.f false x8).bind fun bt363 => (some (bt359.1, bt359.2, bt363.1, bt363.2, 0)))) else ((nat_Sub.f k x341001 x8).bind fun bt367 => ((nat_Add.f k x7 (([1] : List Int))).bind fun t374 => ((whole_made.f (x340000 != x341000) t374).bind fun bt377 => ((whole_made.f false bt367.1).bind fun bt381 => (some (bt377.1, bt377.2, bt381.1, bt381.2, 0))))))
def whole_DivMod.f (k : Nat) (a0_0 : Bool) (l0_1 : List Int) (a1_0 : Bool) (l1_1 : List Int) : Option (Bool × List Int × Bool × List Int × Int) := (whole_Norm.f a0_0 l0_1).bind fun bt343 => ((whole_Norm.f a1_0 l1_1).bind fun bt347 => ((nat_DivMod.f k bt343.2 bt347.2).bind fun bt351 => (if bt351.2.2 = 0 then (if bt343.1 = true then (whole_DivMod.j0 k bt351.1 bt351.2.1 ((bt351.2.1.length : Int) == 0) bt343.1 bt343.2 bt347.1 bt347.2) else (whole_DivMod.j0 k bt351.1 bt351.2.1 true bt343.1 bt343.2 bt347.1 bt347.2)) else (some (false, ([] : List Int), false, ([] : List Int), bt351.2.2)))))
set_option maxHeartbeats 8000000 in
set_option maxRecDepth 100000 in
theorem whole_DivMod.calls (k : Nat) (a0_0 : Bool) (A0_1 : Option Addr) (c0_1 : Nat) (l0_1 : List Int) (a1_0 : Bool) (A1_1 : Option Addr) (c1_1 : Nat) (l1_1 : List Int) (r1 : Bool) (r2 : List Int) (r3 : Bool) (r4 : List Int) (r5 : Int) (w : World) (hr0_1 : Kd.C (Kd.int .u32) w A0_1 l0_1.length l0_1) (hc0_1 : l0_1.length ≤ c0_1) (hr1_1 : Kd.C (Kd.int .u32) w A1_1 l1_1.length l1_1) (hc1_1 : l1_1.length ≤ c1_1) (h : whole_DivMod.f k a0_0 l0_1 a1_0 l1_1 = some (r1, r2, r3, r4, r5)) :
  Calls Try.prog 48 #[.agg #[.bool a0_0, .slice A0_1 l0_1.length c0_1], .agg #[.bool a1_0, .slice A1_1 l1_1.length c1_1]] w fun e w' => ∃ v1_ v3_ : Value, e = .returned (.tuple #[.agg #[.bool r1, v1_], .agg #[.bool r3, v3_], .int .i64 r5]) ∧ Kd.R (Kd.int .u32) 81 w' w.heap.size (fun k_ => some k_ ≠ (v3_ : Value).ownBlock) v1_ r2 ∧ Kd.R (Kd.int .u32) 81 w' w.heap.size (fun k_ => some k_ ≠ (v1_ : Value).ownBlock) v3_ r4 ∧ Below w.heap.size w w' := by
 have hu24 := Try.underlying24
 have HR0_1 := Aside0.mk hr0_1
 have HC0_1 := Aside0.mk hc0_1
 clear hr0_1 hc0_1
 have HR1_1 := Aside0.mk hr1_1
 have HC1_1 := Aside0.mk hc1_1
 clear hr1_1 hc1_1
 have HB := Aside0.mk (Below.refl w.heap.size w)
 have H : ((whole_Norm.f a0_0 l0_1).bind fun bt343 => ((whole_Norm.f a1_0 l1_1).bind fun bt347 => ((nat_DivMod.f k bt343.2 bt347.2).bind fun bt351 => (if bt351.2.2 = 0 then (if bt343.1 = true then (whole_DivMod.j0 k bt351.1 bt351.2.1 ((bt351.2.1.length : Int) == 0) bt343.1 bt343.2 bt347.1 bt347.2) else (whole_DivMod.j0 k bt351.1 bt351.2.1 true bt343.1 bt343.2 bt347.1 bt347.2)) else (some (false, ([] : List Int), false, ([] : List Int), bt351.2.2)))))) = some (r1, r2, r3, r4, r5) := h
 clear h
 obtain ⟨⟨t343, t344⟩, A30, H⟩ := Option.bind_eq_some_iff.mp H
 try dsimp only at H
 have A3 := Aside0.mk A30
 clear A30
 obtain ⟨⟨t347, t348⟩, A40, H⟩ := Option.bind_eq_some_iff.mp H
 try dsimp only at H
 have A4 := Aside0.mk A40
 clear A40
 obtain ⟨⟨t351, t352, t353⟩, A50, H⟩ := Option.bind_eq_some_iff.mp H
 try dsimp only at H
 have A5 := Aside0.mk A50
 clear A50
 by_cases c6 : t353 = 0
 ·rw [if_pos c6] at H
  have c6b0 : (t353 == 0) = true := beq_iff_eq.mpr c6
  have c6b1 : (t353 != 0) = false := bne_eq_false_iff_eq.mpr c6
  clear c6
  have HC7 := Aside0.mk H
  clear H
  go_enter Try.func48, Try.ntmps48
  try go_wp2_with (first | ((with_reducible refine gate_dst (N := 2) rfl ?_); (try (refine gate_guard (by rfl) ?_; dsimp only)); refine box_event ?hg (N := 2) ?hd (cs := #[.bool a0_0, .slice A0_1 l0_1.length c0_1]) (t := 24) ?hr ?_; (case hd => rfl); (case hg => rfl); (case hr => first | (go_simp; done) | (go_simp; rfl)); intro gb339 hg w8 hbox hb; have BK339 := Aside0.mk (hbox); have GW339 := Aside0.mk (bxLe HB.out hg); have GE339 := GW339; replace HB := Aside0.mk (below_step HB.out hb); clear hb hbox hg) | ((with_reducible refine gate_dst (N := 3) rfl ?_); (try (refine gate_guard (by rfl) ?_; dsimp only)); refine box_event ?hg (N := 3) ?hd (cs := #[.bool a1_0, .slice A1_1 l1_1.length c1_1]) (t := 24) ?hr ?_; (case hd => rfl); (case hg => rfl); (case hr => first | (go_simp; done) | (go_simp; rfl)); intro gb340 hg w9 hbox hb; have BK340 := Aside0.mk (hbox); have GW340 := Aside0.mk (bxLe HB.out hg); have GE340 := GW340; replace HB := Aside0.mk (below_step HB.out hb); have NB339_340 := Aside0.mk (neL BK339.out hg); have NB340_339 := Aside0.mk (neR BK339.out hg); replace BK339 := Aside0.mk (blk_below BK339.out hb); clear hb hbox hg) | ((with_reducible refine gate_dst (N := 4) rfl ?_); (try (refine gate_guard (by rfl) ?_; dsimp only)); refine box_event ?hg (N := 4) ?hd (cs := #[.bool false, .slice none 0 0]) (t := 24) ?hr ?_; (case hd => rfl); (case hg => rfl); (case hr => first | (go_simp; done) | (go_simp; rfl)); intro gb341 hg w10 hbox hb; have BK341 := Aside0.mk (hbox); have GW341 := Aside0.mk (bxLe HB.out hg); have GE341 := GW341; replace HB := Aside0.mk (below_step HB.out hb); have NB339_341 := Aside0.mk (neL BK339.out hg); have NB341_339 := Aside0.mk (neR BK339.out hg); replace BK339 := Aside0.mk (blk_below BK339.out hb); have NB340_341 := Aside0.mk (neL BK340.out hg); have NB341_340 := Aside0.mk (neR BK340.out hg); replace BK340 := Aside0.mk (blk_below BK340.out hb); clear hb hbox hg) | ((with_reducible refine gate_dst (N := 5) rfl ?_); (try (refine gate_guard (by rfl) ?_; dsimp only)); refine box_event ?hg (N := 5) ?hd (cs := #[.bool false, .slice none 0 0]) (t := 24) ?hr ?_; (case hd => rfl); (case hg => rfl); (case hr => first | (go_simp; done) | (go_simp; rfl)); intro gb342 hg w11 hbox hb; have BK342 := Aside0.mk (hbox); have GW342 := Aside0.mk (bxLe HB.out hg); have GE342 := GW342; replace HB := Aside0.mk (below_step HB.out hb); have NB339_342 := Aside0.mk (neL BK339.out hg); have NB342_339 := Aside0.mk (neR BK339.out hg); replace BK339 := Aside0.mk (blk_below BK339.out hb); have NB340_342 := Aside0.mk (neL BK340.out hg); have NB342_340 := Aside0.mk (neR BK340.out hg); replace BK340 := Aside0.mk (blk_below BK340.out hb); have NB341_342 := Aside0.mk (neL BK341.out hg); have NB342_341 := Aside0.mk (neR BK341.out hg); replace BK341 := Aside0.mk (blk_below BK341.out hb); clear hb hbox hg))
  replace BK339 := Aside0.mk (blk_drew BK339.out)
  replace BK340 := Aside0.mk (blk_drew BK340.out)
  replace BK341 := Aside0.mk (blk_drew BK341.out)
  replace BK342 := Aside0.mk (blk_drew BK342.out)
  replace HB := Aside0.mk (below_drew1 HB.out)
  refine start_ (n := 6) (S := fun w' => w'.cell? ⟨gb339, 0, none⟩ = some (.bool a0_0) ∧ w'.cell? ⟨gb339, 1, none⟩ = some (.slice A0_1 l0_1.length c0_1) ∧ w'.cell? ⟨gb340, 0, none⟩ = some (.bool a1_0) ∧ w'.cell? ⟨gb340, 1, none⟩ = some (.slice A1_1 l1_1.length c1_1)) (ds := [4, 5]) #[false, false, false, false, false, false] (by kernel_rfl) rfl rfl ⟨bc0 BK339.out, bc1 BK339.out, bc0 BK340.out, bc1 BK340.out⟩ (fun hHeld => ?_)
  generalize w11.drew = w12 at BK339 BK340 BK341 BK342 HB hHeld ⊢
  refine take_ (i := 0) (N := some 13) (v := ?_) (a' := ?_) #[true, false, false, false, false, false] rfl rfl (by kernel_rfl) (fun _ _ _ h => h) (Or.inl ⟨by rfl, ?_⟩) hHeld ?_ ?_
  rotate_left
  ·rintro w' ⟨s0, s1, s2, s3⟩
   go_simp
   with_reducible rfl
  rotate_left
  ·simp only [Act.put, List.setIfInBounds_toArray, List.set_cons_zero, List.set_cons_succ, i64_w, i32_w]
   rfl
  refine take_ (i := 2) (N := some 15) (v := ?_) (a' := ?_) #[true, false, true, false, false, false] rfl rfl (by kernel_rfl) (fun _ _ _ h => h) (Or.inl ⟨by rfl, ?_⟩) hHeld ?_ ?_
  rotate_left
  ·rintro w' ⟨s0, s1, s2, s3⟩
   go_simp
   with_reducible rfl
  rotate_left
  ·simp only [Act.put, List.setIfInBounds_toArray, List.set_cons_zero, List.set_cons_succ, i64_w, i32_w]
   rfl
  refine one_ (i := 1) (N := some 14) #[true, true, true, false, false, false] rfl rfl (by kernel_rfl) (by decide) (fun K hK => ?_)
  refine goR Try.func51 [.agg #[.bool a0_0, .slice A0_1 l0_1.length c0_1]] ?_
  with_reducible refine (whole_Norm.calls a0_0 _ _ l0_1 t343 t344 _ ?side1 ?side2 A3.out).mono ?_
  (case side1 => exact (Kd.C_below HR0_1.out HB.out))
  (case side2 => exact HC0_1.out)
  rintro e w13 ⟨v345, rfl, ho0, hb⟩
  refine ⟨_, rfl, ?_⟩
  have HO346 := Aside0.mk (Kd.R_lower ho0 (below_size HB.out))
  replace BK339 := Aside0.mk (blk_below BK339.out hb)
  replace BK340 := Aside0.mk (blk_below BK340.out hb)
  replace BK341 := Aside0.mk (blk_below BK341.out hb)
  replace BK342 := Aside0.mk (blk_below BK342.out hb)
  replace HB := Aside0.mk (below_step HB.out hb)
  (try clear hb)
  (try clear hb2)
  (try clear hk)
  (try clear hi)
  (try clear ho0)
  refine hK.out _ _ ⟨bc0 BK339.out, bc1 BK339.out, bc0 BK340.out, bc1 BK340.out⟩ (fun hHeld => ?_)
  clear hK K
  refine norm_ (a' := ?_) ?_ ?_
  rotate_left
  ·show Act.put _ (some 14) _ = _
   simp only [Act.put, List.setIfInBounds_toArray, List.set_cons_zero, List.set_cons_succ, i64_w, i32_w]
   rfl
  refine one_ (i := 3) (N := some 16) #[true, true, true, true, false, false] rfl rfl (by kernel_rfl) (by decide) (fun K hK => ?_)
  refine goR Try.func51 [.agg #[.bool a1_0, .slice A1_1 l1_1.length c1_1]] ?_
  with_reducible refine (whole_Norm.calls a1_0 _ _ l1_1 t347 t348 _ ?side1 ?side2 A4.out).mono ?_
  (case side1 => exact (Kd.C_below HR1_1.out HB.out))
  (case side2 => exact HC1_1.out)
  rintro e w14 ⟨v349, rfl, ho0, hb⟩
  refine ⟨_, rfl, ?_⟩
  have HO350 := Aside0.mk (Kd.R_lower (Kd.R_new' ho0 (Kd.R_lt HO346.out)) (below_size HB.out))
  replace HO346 := Aside0.mk (Kd.R_elder' HO346.out (Kd.R_base ho0) hb)
  replace BK339 := Aside0.mk (blk_below BK339.out hb)
  replace BK340 := Aside0.mk (blk_below BK340.out hb)
  replace BK341 := Aside0.mk (blk_below BK341.out hb)
  replace BK342 := Aside0.mk (blk_below BK342.out hb)
  replace HB := Aside0.mk (below_step HB.out hb)
  (try clear hb)
  (try clear hb2)
  (try clear hk)
  (try clear hi)
  (try clear ho0)
  obtain ⟨Ao16, co16, eo16⟩ := Kd.R_slice HO346.out
  subst eo16
  obtain ⟨Ao19, co19, eo19⟩ := Kd.R_slice HO350.out
  subst eo19
  refine hK.out _ _ ⟨bc0 BK339.out, bc1 BK339.out, bc0 BK340.out, bc1 BK340.out⟩ (fun hHeld => ?_)
  clear hK K
  refine norm_ (a' := ?_) ?_ ?_
  rotate_left
  ·show Act.put _ (some 16) _ = _
   simp only [Act.put, List.setIfInBounds_toArray, List.set_cons_zero, List.set_cons_succ, i64_w, i32_w]
   rfl
  refine last_ (i := 4) (N := none) #[true, true, true, true, true, false] rfl rfl (by kernel_rfl) (by decide) (fun K hK => ?_)
  have hs15 : w14.cell? ⟨gb339, 0, none⟩ = some (.bool a0_0) := bc0 BK339.out
  have hfs15 := blk_frozen BK339.out 0
  have hns15_1 := NB340_339.out
  have hns15_2 := NB341_339.out
  have hns15_3 := NB342_339.out
  have hms15_1 := NB339_340.out
  have hms15_2 := NB339_341.out
  have hms15_3 := NB339_342.out
  have hs17 : w14.cell? ⟨gb339, 1, none⟩ = some (.slice A0_1 l0_1.length c0_1) := bc1 BK339.out
  have hfs17 := blk_frozen BK339.out 1
  have hns17_1 := NB340_339.out
  have hns17_2 := NB341_339.out
  have hns17_3 := NB342_339.out
  have hms17_1 := NB339_340.out
  have hms17_2 := NB339_341.out
  have hms17_3 := NB339_342.out
  refine skip_ (w1 := ?_) (by rfl) rfl ?_ ?_
  rotate_left
  ·go_simp
   rfl
  refine hK.out _ _ ?_
  clear hK K
  refine last_ (i := 5) (N := none) #[true, true, true, true, true, true] rfl rfl (by kernel_rfl) (by decide) (fun K hK => ?_)
  have hs18 : w14.cell? ⟨gb340, 0, none⟩ = some (.bool a1_0) := bc0 BK340.out
  have hfs18 := blk_frozen BK340.out 0
  have hns18_0 := NB339_340.out
  have hns18_2 := NB341_340.out
  have hns18_3 := NB342_340.out
  have hms18_0 := NB340_339.out
  have hms18_2 := NB340_341.out
  have hms18_3 := NB340_342.out
  have hs20 : w14.cell? ⟨gb340, 1, none⟩ = some (.slice A1_1 l1_1.length c1_1) := bc1 BK340.out
  have hfs20 := blk_frozen BK340.out 1
  have hns20_0 := NB339_340.out
  have hns20_2 := NB341_340.out
  have hns20_3 := NB342_340.out
  have hms20_0 := NB340_339.out
  have hms20_2 := NB340_341.out
  have hms20_3 := NB340_342.out
  refine skip_ (w1 := ?_) (by rfl) rfl ?_ ?_
  rotate_left
  ·go_simp
   rfl
  refine hK.out _ _ ?_
  clear hK K
  refine done_ (by kernel_rfl) ?_
  have hnb21 := NB339_340.out
  have hnc21 := NB340_339.out
  have hnb22 := NB339_341.out
  have hnc22 := NB341_339.out
  have hnb23 := NB339_342.out
  have hnc23 := NB342_339.out
  have hcz24_0 : w14.cell? ⟨gb339, 0, none⟩ = some (.bool a0_0) := bc0 BK339.out
  have hcz24_1 : w14.cell? ⟨gb339, 1, none⟩ = some (.slice A0_1 l0_1.length c0_1) := bc1 BK339.out
  have hfz24_0 := blk_frozen BK339.out 0
  have hfz24_1 := blk_frozen BK339.out 1
  have hnb25 := NB340_341.out
  have hnc25 := NB341_340.out
  have hnb26 := NB340_342.out
  have hnc26 := NB342_340.out
  have hcz27_0 : w14.cell? ⟨gb340, 0, none⟩ = some (.bool a1_0) := bc0 BK340.out
  have hcz27_1 : w14.cell? ⟨gb340, 1, none⟩ = some (.slice A1_1 l1_1.length c1_1) := bc1 BK340.out
  have hfz27_0 := blk_frozen BK340.out 0
  have hfz27_1 := blk_frozen BK340.out 1
  go_upto_region 6 with (first | ((with_reducible refine gate_callee (f := 72) rfl ?_); refine goL (some 22) Try.func72 [.slice Ao16 t344.length co16, .slice Ao19 t348.length co19] ?_; (with_reducible refine (nat_DivMod.calls k _ _ t344 _ _ t348 t351 t352 t353 _ ?side1 ?side2 ?side3 ?side4 A5.out).mono ?_); (case side1 => refine (Kd.R_reads' (e := 81) (base := w.heap.size) (ok := fun k_ => (True ∧ some k_ ≠ (.slice Ao19 t348.length co19 : Value).ownBlock)) (n := t344.length) (c := co16) ?_).2.2; exact (Kd.R_mono (Kd.R_mono (Kd.R_far (p := ⟨gb340, 1, none⟩) (Kd.R_far (p := ⟨gb340, 0, none⟩) (Kd.R_far (p := ⟨gb339, 1, none⟩) (Kd.R_far (p := ⟨gb339, 0, none⟩) (Kd.R_types (Kd.R_types HO346.out BK339.out (by decide)) BK340.out (by decide)) (fun _ hk => hk.1.2) (.bool t343)) (fun _ hk => hk.1.2) (.slice Ao16 t344.length co16)) (fun _ hk => hk.2) (.bool t347)) (fun _ hk => hk.2) (.slice Ao19 t348.length co19)) (fun _ h_ => h_.1)) (fun _ h_ => h_.1))); (case side2 => exact (Kd.R_reads' HO346.out).2.1); (case side3 => refine (Kd.R_reads' (e := 81) (base := w.heap.size) (ok := fun k_ => (True ∧ some k_ ≠ (.slice Ao16 t344.length co16 : Value).ownBlock)) (n := t348.length) (c := co19) ?_).2.2; exact (Kd.R_mono (Kd.R_mono (Kd.R_far (p := ⟨gb340, 1, none⟩) (Kd.R_far (p := ⟨gb340, 0, none⟩) (Kd.R_far (p := ⟨gb339, 1, none⟩) (Kd.R_far (p := ⟨gb339, 0, none⟩) (Kd.R_types (Kd.R_types HO350.out BK339.out (by decide)) BK340.out (by decide)) (fun _ hk => hk.1.2) (.bool t343)) (fun _ hk => hk.1.2) (.slice Ao16 t344.length co16)) (fun _ hk => hk.2) (.bool t347)) (fun _ hk => hk.2) (.slice Ao19 t348.length co19)) (fun _ h_ => h_.1)) (fun _ h_ => h_.1))); (case side4 => exact (Kd.R_reads' HO350.out).2.1); rintro e w28 ⟨v354, v356, rfl, ho0, ho1, hb⟩; refine ⟨_, rfl, ?_⟩; have HO355 := Aside0.mk (Kd.R_lower (Kd.R_new' (Kd.R_new' ho0 (Kd.R_lt (Kd.R_mono (Kd.R_mono (Kd.R_far (p := ⟨gb340, 1, none⟩) (Kd.R_far (p := ⟨gb340, 0, none⟩) (Kd.R_far (p := ⟨gb339, 1, none⟩) (Kd.R_far (p := ⟨gb339, 0, none⟩) (Kd.R_types (Kd.R_types HO346.out BK339.out (by decide)) BK340.out (by decide)) (fun _ hk => hk.1.2) (.bool t343)) (fun _ hk => hk.1.2) (.slice Ao16 t344.length co16)) (fun _ hk => hk.2) (.bool t347)) (fun _ hk => hk.2) (.slice Ao19 t348.length co19)) (fun _ h_ => h_.1)) (fun _ h_ => h_.1)))) (Kd.R_lt (Kd.R_mono (Kd.R_mono (Kd.R_far (p := ⟨gb340, 1, none⟩) (Kd.R_far (p := ⟨gb340, 0, none⟩) (Kd.R_far (p := ⟨gb339, 1, none⟩) (Kd.R_far (p := ⟨gb339, 0, none⟩) (Kd.R_types (Kd.R_types HO350.out BK339.out (by decide)) BK340.out (by decide)) (fun _ hk => hk.1.2) (.bool t343)) (fun _ hk => hk.1.2) (.slice Ao16 t344.length co16)) (fun _ hk => hk.2) (.bool t347)) (fun _ hk => hk.2) (.slice Ao19 t348.length co19)) (fun _ h_ => h_.1)) (fun _ h_ => h_.1)))) (below_size (by repeat first | exact HB.out | refine bxSet ?_ (by assumption) | apply below_alloc | apply pw_below_drewN))); have HO357 := Aside0.mk (Kd.R_lower (Kd.R_new' (Kd.R_new' ho1 (Kd.R_lt (Kd.R_mono (Kd.R_mono (Kd.R_far (p := ⟨gb340, 1, none⟩) (Kd.R_far (p := ⟨gb340, 0, none⟩) (Kd.R_far (p := ⟨gb339, 1, none⟩) (Kd.R_far (p := ⟨gb339, 0, none⟩) (Kd.R_types (Kd.R_types HO346.out BK339.out (by decide)) BK340.out (by decide)) (fun _ hk => hk.1.2) (.bool t343)) (fun _ hk => hk.1.2) (.slice Ao16 t344.length co16)) (fun _ hk => hk.2) (.bool t347)) (fun _ hk => hk.2) (.slice Ao19 t348.length co19)) (fun _ h_ => h_.1)) (fun _ h_ => h_.1)))) (Kd.R_lt (Kd.R_mono (Kd.R_mono (Kd.R_far (p := ⟨gb340, 1, none⟩) (Kd.R_far (p := ⟨gb340, 0, none⟩) (Kd.R_far (p := ⟨gb339, 1, none⟩) (Kd.R_far (p := ⟨gb339, 0, none⟩) (Kd.R_types (Kd.R_types HO350.out BK339.out (by decide)) BK340.out (by decide)) (fun _ hk => hk.1.2) (.bool t343)) (fun _ hk => hk.1.2) (.slice Ao16 t344.length co16)) (fun _ hk => hk.2) (.bool t347)) (fun _ hk => hk.2) (.slice Ao19 t348.length co19)) (fun _ h_ => h_.1)) (fun _ h_ => h_.1)))) (below_size (by repeat first | exact HB.out | refine bxSet ?_ (by assumption) | apply below_alloc | apply pw_below_drewN))); replace HO346 := Aside0.mk (Kd.R_mono (Kd.R_told (Kd.R_told (Kd.R_old (Kd.R_mono (Kd.R_mono (Kd.R_far (p := ⟨gb340, 1, none⟩) (Kd.R_far (p := ⟨gb340, 0, none⟩) (Kd.R_far (p := ⟨gb339, 1, none⟩) (Kd.R_far (p := ⟨gb339, 0, none⟩) (Kd.R_types (Kd.R_types HO346.out BK339.out (by decide)) BK340.out (by decide)) (fun _ hk => hk.1.2) (.bool t343)) (fun _ hk => hk.1.2) (.slice Ao16 t344.length co16)) (fun _ hk => hk.2) (.bool t347)) (fun _ hk => hk.2) (.slice Ao19 t348.length co19)) (fun _ h_ => h_.1)) (fun _ h_ => h_.1)) hb) (Kd.R_base ho0)) (Kd.R_base ho1)) (fun _ h_ => h_.1)); replace HO350 := Aside0.mk (Kd.R_mono (Kd.R_told (Kd.R_told (Kd.R_old (Kd.R_mono (Kd.R_mono (Kd.R_far (p := ⟨gb340, 1, none⟩) (Kd.R_far (p := ⟨gb340, 0, none⟩) (Kd.R_far (p := ⟨gb339, 1, none⟩) (Kd.R_far (p := ⟨gb339, 0, none⟩) (Kd.R_types (Kd.R_types HO350.out BK339.out (by decide)) BK340.out (by decide)) (fun _ hk => hk.1.2) (.bool t343)) (fun _ hk => hk.1.2) (.slice Ao16 t344.length co16)) (fun _ hk => hk.2) (.bool t347)) (fun _ hk => hk.2) (.slice Ao19 t348.length co19)) (fun _ h_ => h_.1)) (fun _ h_ => h_.1)) hb) (Kd.R_base ho0)) (Kd.R_base ho1)) (fun _ h_ => h_.1)); replace BK339 := Aside0.mk (blk_below (g := gb339) (o := .cells #[.bool t343, .slice Ao16 t344.length co16] 24 (0, 0)) (by refine blk_far ?_ NB339_340.out _; refine blk_far ?_ NB339_340.out _; refine blk_put (cs := #[.bool t343, .slice A0_1 l0_1.length c0_1]) ?_ 1 _ rfl; refine blk_put (cs := #[.bool a0_0, .slice A0_1 l0_1.length c0_1]) ?_ 0 _ rfl; exact BK339.out) hb); replace BK340 := Aside0.mk (blk_below (g := gb340) (o := .cells #[.bool t347, .slice Ao19 t348.length co19] 24 (0, 0)) (by refine blk_put (cs := #[.bool t347, .slice A1_1 l1_1.length c1_1]) ?_ 1 _ rfl; refine blk_put (cs := #[.bool a1_0, .slice A1_1 l1_1.length c1_1]) ?_ 0 _ rfl; refine blk_far ?_ NB340_339.out _; refine blk_far ?_ NB340_339.out _; exact BK340.out) hb); replace BK341 := Aside0.mk (blk_below (g := gb341) (o := .cells #[.bool false, .slice none 0 0] 24 (0, 0)) (by refine blk_far ?_ NB341_340.out _; refine blk_far ?_ NB341_340.out _; refine blk_far ?_ NB341_339.out _; refine blk_far ?_ NB341_339.out _; exact BK341.out) hb); replace BK342 := Aside0.mk (blk_below (g := gb342) (o := .cells #[.bool false, .slice none 0 0] 24 (0, 0)) (by refine blk_far ?_ NB342_340.out _; refine blk_far ?_ NB342_340.out _; refine blk_far ?_ NB342_339.out _; refine blk_far ?_ NB342_339.out _; exact BK342.out) hb); replace HB := Aside0.mk (below_step (by repeat first | exact HB.out | refine bxSet ?_ (by assumption) | apply below_alloc | apply pw_below_drewN) hb); (try clear ho1)))
  (try simp only [Act.put, List.setIfInBounds_toArray, List.set_cons_zero, List.set_cons_succ])
  go_cut [39] (fun v39 wc => ∃ (kq : Nat) (x39_6 : Bool), v39 = .bool x39_6 ∧ Aside0 (whole_DivMod.j0 kq t351 t352 x39_6 t343 t344 t347 t348 = some (r1, r2, r3, r4, r5)) ∧ Aside0 (kq ≤ k) ∧ Aside0 (Kd.R (Kd.int .u32) 81 wc w.heap.size (fun k_ => some k_ ≠ (v356 : Value).ownBlock ∧ some k_ ≠ ((.slice Ao16 t344.length co16) : Value).ownBlock ∧ some k_ ≠ ((.slice Ao19 t348.length co19) : Value).ownBlock) v354 t351) ∧ Aside0 (Kd.R (Kd.int .u32) 81 wc w.heap.size (fun k_ => some k_ ≠ (v354 : Value).ownBlock ∧ some k_ ≠ ((.slice Ao16 t344.length co16) : Value).ownBlock ∧ some k_ ≠ ((.slice Ao19 t348.length co19) : Value).ownBlock) v356 t352) ∧ Aside0 (Kd.R (Kd.int .u32) 81 wc w.heap.size (fun k_ => some k_ ≠ (v354 : Value).ownBlock ∧ some k_ ≠ (v356 : Value).ownBlock ∧ some k_ ≠ ((.slice Ao19 t348.length co19) : Value).ownBlock) (.slice Ao16 t344.length co16) t344) ∧ Aside0 (Kd.R (Kd.int .u32) 81 wc w.heap.size (fun k_ => some k_ ≠ (v354 : Value).ownBlock ∧ some k_ ≠ (v356 : Value).ownBlock ∧ some k_ ≠ ((.slice Ao16 t344.length co16) : Value).ownBlock) (.slice Ao19 t348.length co19) t348) ∧ Aside0 (wc.heap[gb339]? = some (.cells #[.bool t343, (.slice Ao16 t344.length co16)] 24 (0, 0))) ∧ Aside0 (wc.heap[gb340]? = some (.cells #[.bool t347, (.slice Ao19 t348.length co19)] 24 (0, 0))) ∧ Aside0 (wc.heap[gb341]? = some (.cells #[.bool false, (.slice none 0 0)] 24 (0, 0))) ∧ Aside0 (wc.heap[gb342]? = some (.cells #[.bool false, (.slice none 0 0)] 24 (0, 0))) ∧ Aside0 (Below w.heap.size w wc))
  case first =>
   have H := HC7.out
   clear HC7
   by_cases c29 : t343 = true
   ·subst c29
    rw [if_pos rfl] at H
    have H' := Aside0.mk H
    clear H
    have hnb30 := NB339_340.out
    have hnc30 := NB340_339.out
    have hnb31 := NB339_341.out
    have hnc31 := NB341_339.out
    have hnb32 := NB339_342.out
    have hnc32 := NB342_339.out
    have hcz33_0 : w28.cell? ⟨gb339, 0, none⟩ = some (.bool true) := bc0 BK339.out
    have hcz33_1 : w28.cell? ⟨gb339, 1, none⟩ = some (.slice Ao16 t344.length co16) := bc1 BK339.out
    have hfz33_0 := blk_frozen BK339.out 0
    have hfz33_1 := blk_frozen BK339.out 1
    obtain ⟨Ao34, co34, eo34⟩ := Kd.R_slice HO357.out
    subst eo34
    go_wp2
    go_meet
    case rel => exact ⟨_, (((t352.length : Int) == 0)), (by first | rfl | (simp; done)), H', ⟨by first | omega | exact Nat.le_refl _⟩, ⟨Kd.R_mono HO355.out (fun _ hk => ⟨hk.1.1, ⟨hk.1.2, hk.2⟩⟩)⟩, ⟨Kd.R_mono HO357.out (fun _ hk => ⟨hk.1.1, ⟨hk.1.2, hk.2⟩⟩)⟩, ⟨Kd.R_mono HO346.out (fun _ hk => ⟨hk.1.2, ⟨hk.2, hk.1.1.2⟩⟩)⟩, ⟨Kd.R_mono HO350.out (fun _ hk => ⟨hk.1.2, ⟨hk.2, hk.1.1.2⟩⟩)⟩, ⟨BK339.out⟩, ⟨BK340.out⟩, ⟨BK341.out⟩, ⟨BK342.out⟩, ⟨HB.out⟩⟩
   ·replace c29 := Bool.eq_false_iff.mpr c29
    subst c29
    rw [if_neg (show ¬ (false = true) by decide)] at H
    have H' := Aside0.mk H
    clear H
    have hnb35 := NB339_340.out
    have hnc35 := NB340_339.out
    have hnb36 := NB339_341.out
    have hnc36 := NB341_339.out
    have hnb37 := NB339_342.out
    have hnc37 := NB342_339.out
    have hcz38_0 : w28.cell? ⟨gb339, 0, none⟩ = some (.bool false) := bc0 BK339.out
    have hcz38_1 : w28.cell? ⟨gb339, 1, none⟩ = some (.slice Ao16 t344.length co16) := bc1 BK339.out
    have hfz38_0 := blk_frozen BK339.out 0
    have hfz38_1 := blk_frozen BK339.out 1
    go_wp2
    go_meet
    case rel => exact ⟨_, (true), (by first | rfl | (simp; done)), H', ⟨by first | omega | exact Nat.le_refl _⟩, ⟨Kd.R_mono HO355.out (fun _ hk => ⟨hk.1.1, ⟨hk.1.2, hk.2⟩⟩)⟩, ⟨Kd.R_mono HO357.out (fun _ hk => ⟨hk.1.1, ⟨hk.1.2, hk.2⟩⟩)⟩, ⟨Kd.R_mono HO346.out (fun _ hk => ⟨hk.1.2, ⟨hk.2, hk.1.1.2⟩⟩)⟩, ⟨Kd.R_mono HO350.out (fun _ hk => ⟨hk.1.2, ⟨hk.2, hk.1.1.2⟩⟩)⟩, ⟨BK339.out⟩, ⟨BK340.out⟩, ⟨BK341.out⟩, ⟨BK342.out⟩, ⟨HB.out⟩⟩
  case rest =>
   clear HC7
   try clear c1
   try clear c2
   try clear p2
   try clear c3
   try clear c4
   try clear c5
   try clear c6
   try clear c6b0
   try clear c6b1
   try clear c7
   try clear c21
   try clear c22
   try clear c23
   try clear c25
   try clear c26
   try clear c29
   try clear c30
   try clear c31
   try clear c32
   try clear c35
   try clear c36
   try clear c37
   try clear hcz24_0
   try clear hcz24_1
   try clear hcz27_0
   try clear hcz27_1
   try clear hcz33_0
   try clear hcz33_1
   try clear hcz38_0
   try clear hcz38_1
   try clear hfz24_0
   try clear hfz24_1
   try clear hfz27_0
   try clear hfz27_1
   try clear hfz33_0
   try clear hfz33_1
   try clear hfz38_0
   try clear hfz38_1
   obtain ⟨kq, x39_6, rfl, HA, HJ6, HO_7, HO_8, HO_340001, HO_341001, BK339, BK340, BK341, BK342, HB⟩ := hcut
   cases kq with
   | zero => exact absurd HA.out (by simp [whole_DivMod.j0])
   | succ kj6 =>
    have H := HA.out
    clear HA
    simp only [whole_DivMod.j0] at H
    by_cases c39 : x39_6 = true
    ·subst c39
     rw [if_pos rfl] at H
     obtain ⟨⟨t359, t360⟩, A400, H⟩ := Option.bind_eq_some_iff.mp H
     try dsimp only at H
     have A40 := Aside0.mk A400
     clear A400
     obtain ⟨⟨t363, t364⟩, A410, H⟩ := Option.bind_eq_some_iff.mp H
     try dsimp only at H
     have A41 := Aside0.mk A410
     clear A410
     simp only [Option.some.injEq, Prod.mk.injEq] at H
     obtain ⟨rfl, rfl, rfl, rfl, rfl⟩ := H
     obtain ⟨Ao42, co42, eo42⟩ := Kd.R_slice HO_7.out
     subst eo42
     go_wp2_with (first | (go_at_call 73; (with_reducible refine (whole_DivMod_1.calls gb339 gb340 t343 t347 _ _ t351 t359 t360 _ ?side1 ?side2 A40.out ?side3 ?side4).mono ?_); (case side1 => exact (Kd.R_reads' HO_7.out).2.2); (case side2 => exact (Kd.R_reads' HO_7.out).2.1); (case side3 => exact bc0 BK339.out); (case side4 => exact bc0 BK340.out); rintro e w43 ⟨v361, rfl, ho0, hb⟩; have n0_ := Aside0.mk (Kd.R_elder' HO_7.out (Kd.R_base ho0) hb); have n1_ := Aside0.mk (Kd.R_elder' HO_8.out (Kd.R_base ho0) hb); have n2_ := Aside0.mk (Kd.R_elder' HO_340001.out (Kd.R_base ho0) hb); have n3_ := Aside0.mk (Kd.R_elder' HO_341001.out (Kd.R_base ho0) hb); have n4_ := Aside0.mk (Kd.R_lower (Kd.R_new' (Kd.R_new' (Kd.R_new' (Kd.R_new' ho0 (Kd.R_lt HO_7.out)) (Kd.R_lt HO_8.out)) (Kd.R_lt HO_340001.out)) (Kd.R_lt HO_341001.out)) (below_size HB.out)); have n5_ := Aside0.mk (blk_below BK339.out hb); have n6_ := Aside0.mk (blk_below BK340.out hb); have n7_ := Aside0.mk (blk_below BK341.out hb); have n8_ := Aside0.mk (blk_below BK342.out hb); have n9_ := Aside0.mk (below_step HB.out hb); clear HO_7; clear HO_8; clear HO_340001; clear HO_341001; clear BK339; clear BK340; clear BK341; clear BK342; clear HB; have HO_7 := n0_; have HO_8 := n1_; have HO_340001 := n2_; have HO_341001 := n3_; have HO362 := n4_; have BK339 := n5_; have BK340 := n6_; have BK341 := n7_; have BK342 := n8_; have HB := n9_; clear n0_ n1_ n2_ n3_ n4_ n5_ n6_ n7_ n8_ n9_; obtain ⟨Ao44, co44, eo44⟩ := Kd.R_slice HO_8.out; subst eo44) | ((with_reducible refine gate_callee (f := 63) rfl ?_); refine goL (some 44) Try.func63 [.bool false, .slice Ao44 t352.length co44] ?_; (with_reducible refine (whole_made.calls false _ _ t352 t363 t364 _ ?side1 ?side2 A41.out).mono ?_); (case side1 => exact (Kd.R_reads' HO_8.out).2.2); (case side2 => exact (Kd.R_reads' HO_8.out).2.1); rintro e w45 ⟨v365, rfl, ho0, hb⟩; refine ⟨_, rfl, ?_⟩; have HO366 := Aside0.mk (Kd.R_lower (Kd.R_new' (Kd.R_new' (Kd.R_new' (Kd.R_new' (Kd.R_new' ho0 (Kd.R_lt HO_7.out)) (Kd.R_lt HO_8.out)) (Kd.R_lt HO_340001.out)) (Kd.R_lt HO_341001.out)) (Kd.R_lt HO362.out)) (below_size HB.out)); replace HO362 := Aside0.mk (Kd.R_elder' HO362.out (Kd.R_base ho0) hb); replace BK341 := Aside0.mk (blk_below BK341.out hb); replace BK342 := Aside0.mk (blk_below BK342.out hb); replace HB := Aside0.mk (below_step HB.out hb); have hnb46 := NB341_339.out; have hnc46 := NB339_341.out; have hnb47 := NB341_340.out; have hnc47 := NB340_341.out; have hnb48 := NB341_342.out; have hnc48 := NB342_341.out; have hcz49_0 : w45.cell? ⟨gb341, 0, none⟩ = some (.bool false) := bc0 BK341.out; have hcz49_1 : w45.cell? ⟨gb341, 1, none⟩ = some (.slice none 0 0) := bc1 BK341.out; have hfz49_0 := blk_frozen BK341.out 0; have hfz49_1 := blk_frozen BK341.out 1; obtain ⟨Ao50, co50, eo50⟩ := Kd.R_slice HO362.out; subst eo50; have hnb51 := NB342_339.out; have hnc51 := NB339_342.out; have hnb52 := NB342_340.out; have hnc52 := NB340_342.out; have hcz53_0 : w45.cell? ⟨gb342, 0, none⟩ = some (.bool false) := bc0 BK342.out; have hcz53_1 : w45.cell? ⟨gb342, 1, none⟩ = some (.slice none 0 0) := bc1 BK342.out; have hfz53_0 := blk_frozen BK342.out 0; have hfz53_1 := blk_frozen BK342.out 1; obtain ⟨Ao54, co54, eo54⟩ := Kd.R_slice HO366.out; subst eo54))
     refine bodyPost_ret (results_list (rs := [.cell 4 24, .cell 5 24, .tmp 6]) rfl (by simp) (.cell gb341 24 #[.bool t359, .slice Ao50 t360.length co50] (0, 0) _ rfl (by refine blk_far ?_ NB341_342.out _; refine blk_far ?_ NB341_342.out _; refine blk_put (cs := #[.bool t359, .slice none 0 0]) ?_ 1 _ rfl; refine blk_put (cs := #[.bool false, .slice none 0 0]) ?_ 0 _ rfl; exact BK341.out) Try.underlying24 rfl (by kernel_rfl) (.cell gb342 24 #[.bool t363, .slice Ao54 t364.length co54] (0, 0) _ rfl (by refine blk_put (cs := #[.bool t363, .slice none 0 0]) ?_ 1 _ rfl; refine blk_put (cs := #[.bool false, .slice none 0 0]) ?_ 0 _ rfl; refine blk_far ?_ NB342_341.out _; refine blk_far ?_ NB342_341.out _; exact BK342.out) Try.underlying24 rfl (by kernel_rfl) (.tmp .nil)))) rfl ?_
     exact ⟨_, _, rfl, Kd.R_mono (Kd.R_far (p := ⟨gb342, 1, none⟩) (Kd.R_far (p := ⟨gb342, 0, none⟩) (Kd.R_far (p := ⟨gb341, 1, none⟩) (Kd.R_far (p := ⟨gb341, 0, none⟩) (Kd.R_types (Kd.R_types HO362.out BK341.out (by decide)) BK342.out (by decide)) (fun _ hk => hk.1.2) (.bool t359)) (fun _ hk => hk.1.2) (.slice Ao50 t360.length co50)) (fun _ hk => hk.2) (.bool t363)) (fun _ hk => hk.2) (.slice Ao54 t364.length co54)) (fun _ hk => hk.1.1.2), Kd.R_mono (Kd.R_far (p := ⟨gb342, 1, none⟩) (Kd.R_far (p := ⟨gb342, 0, none⟩) (Kd.R_far (p := ⟨gb341, 1, none⟩) (Kd.R_far (p := ⟨gb341, 0, none⟩) (Kd.R_types (Kd.R_types HO366.out BK341.out (by decide)) BK342.out (by decide)) (fun _ hk => hk.1.2) (.bool t359)) (fun _ hk => hk.1.2) (.slice Ao50 t360.length co50)) (fun _ hk => hk.2) (.bool t363)) (fun _ hk => hk.2) (.slice Ao54 t364.length co54)) (fun _ hk => hk.1.1.2), by repeat first | exact HB.out | refine bxSet ?_ (by assumption) | apply below_alloc | apply pw_below_drewN⟩
    ·replace c39 := Bool.eq_false_iff.mpr c39
     subst c39
     rw [if_neg (show ¬ (false = true) by decide)] at H
     obtain ⟨⟨t367, t368⟩, A550, H⟩ := Option.bind_eq_some_iff.mp H
     try dsimp only at H
     have A55 := Aside0.mk A550
     clear A550
     obtain ⟨y371, hy371⟩ : ∃ y_ : List Int, y_ = (([1] : List Int)) := ⟨_, rfl⟩
     replace H : ((nat_Add.f kj6 t351 y371).bind fun t374 => ((whole_made.f (t343 != t347) t374).bind fun bt377 => ((whole_made.f false t367).bind fun bt381 => (some (bt377.1, bt377.2, bt381.1, bt381.2, 0))))) = some (r1, r2, r3, r4, r5) := by first | (rw [hy371]; with_reducible exact H) | (have H2_ := (Option.bind_some _ _).symm.trans H; rw [hy371]; with_reducible exact H2_) | (have H2_ := (Option.bind_some _ _).symm.trans H; with_reducible exact H2_) | with_reducible exact H | (rw [hy371]; exact H) | exact H
     have Ny371 := Aside0.mk hy371
     clear hy371
     obtain ⟨t374, A560, H⟩ := Option.bind_eq_some_iff.mp H
     try dsimp only at H
     have A56 := Aside0.mk A560
     clear A560
     obtain ⟨⟨t377, t378⟩, A570, H⟩ := Option.bind_eq_some_iff.mp H
     try dsimp only at H
     have A57 := Aside0.mk A570
     clear A570
     obtain ⟨⟨t381, t382⟩, A580, H⟩ := Option.bind_eq_some_iff.mp H
     try dsimp only at H
     have A58 := Aside0.mk A580
     clear A580
     simp only [Option.some.injEq, Prod.mk.injEq] at H
     obtain ⟨rfl, rfl, rfl, rfl, rfl⟩ := H
     have hnb59 := NB340_339.out
     have hnc59 := NB339_340.out
     have hnb60 := NB340_341.out
     have hnc60 := NB341_340.out
     have hnb61 := NB340_342.out
     have hnc61 := NB342_340.out
     have hcz62_0 : wc.cell? ⟨gb340, 0, none⟩ = some (.bool t347) := bc0 BK340.out
     have hcz62_1 : wc.cell? ⟨gb340, 1, none⟩ = some (.slice Ao19 t348.length co19) := bc1 BK340.out
     have hfz62_0 := blk_frozen BK340.out 0
     have hfz62_1 := blk_frozen BK340.out 1
     obtain ⟨Ao63, co63, eo63⟩ := Kd.R_slice HO_8.out
     subst eo63
     go_wp2_with (first | ((with_reducible refine gate_callee (f := 68) rfl ?_); refine goL (some 49) Try.func68 [.slice Ao19 t348.length co19, .slice Ao63 t352.length co63] ?_; (with_reducible refine (nat_Sub.calls kj6 _ _ t348 _ _ t352 t367 t368 _ ?side1 ?side2 ?side3 ?side4 A55.out).mono ?_); (case side1 => exact (Kd.R_reads' HO_341001.out).2.2); (case side2 => exact (Kd.R_reads' HO_341001.out).2.1); (case side3 => exact (Kd.R_reads' HO_8.out).2.2); (case side4 => exact (Kd.R_reads' HO_8.out).2.1); rintro e w64 ⟨v369, rfl, ho0, hb⟩; refine ⟨_, rfl, ?_⟩; have HO370 := Aside0.mk (Kd.R_lower (Kd.R_new' (Kd.R_new' (Kd.R_new' (Kd.R_new' ho0 (Kd.R_lt HO_7.out)) (Kd.R_lt HO_8.out)) (Kd.R_lt HO_340001.out)) (Kd.R_lt HO_341001.out)) (below_size HB.out)); replace HO_7 := Aside0.mk (Kd.R_elder' HO_7.out (Kd.R_base ho0) hb); replace HO_8 := Aside0.mk (Kd.R_elder' HO_8.out (Kd.R_base ho0) hb); replace HO_340001 := Aside0.mk (Kd.R_elder' HO_340001.out (Kd.R_base ho0) hb); replace HO_341001 := Aside0.mk (Kd.R_elder' HO_341001.out (Kd.R_base ho0) hb); replace BK339 := Aside0.mk (blk_below BK339.out hb); replace BK340 := Aside0.mk (blk_below BK340.out hb); replace BK341 := Aside0.mk (blk_below BK341.out hb); replace BK342 := Aside0.mk (blk_below BK342.out hb); replace HB := Aside0.mk (below_step HB.out hb)) | ((with_reducible refine gate_dst (N := 54) rfl ?_); (try (refine gate_guard (by rfl) ?_; dsimp only)); refine Kd.R_lit (Kd.int .u32) _ 81 ?hg (N := 54) ?hd (xs := ([1] : List Int)) (inner := [.int .u32 1]) (ok := fun _ => True) (okp := fun _ => True) ?hr ?hp (fun _ hk => hk) trivial (Below.refl _ _) (Nat.le_refl _) (by simp) ?_; (case hd => rfl); (case hg => rfl); (case hr => first | (go_simp; done) | (go_simp; rfl)); (case hp => exact (Reps.one (show Kd.M (Kd.int .u32) _ _ _ 1 [.int .u32 1] from rfl) (Reps.none _ _))); intro v372 w65 ho66 hb hg_ hnew_; clear hg_ hnew_; (first | rw [← Ny371.out] at ho66 | (simp only [Int.reduceToNat] at ho66; rw [← Ny371.out] at ho66)); have HO373 := Aside0.mk (Kd.R_lower (Kd.R_new' (Kd.R_new' (Kd.R_new' (Kd.R_new' (Kd.R_new' ho66 (Kd.R_lt HO_7.out)) (Kd.R_lt HO_8.out)) (Kd.R_lt HO_340001.out)) (Kd.R_lt HO_341001.out)) (Kd.R_lt HO370.out)) (below_size HB.out)); replace HO_7 := Aside0.mk (Kd.R_elder' HO_7.out (Kd.R_base ho66) hb); replace HO_8 := Aside0.mk (Kd.R_elder' HO_8.out (Kd.R_base ho66) hb); replace HO_340001 := Aside0.mk (Kd.R_elder' HO_340001.out (Kd.R_base ho66) hb); replace HO_341001 := Aside0.mk (Kd.R_elder' HO_341001.out (Kd.R_base ho66) hb); replace HO370 := Aside0.mk (Kd.R_elder' HO370.out (Kd.R_base ho66) hb); replace BK339 := Aside0.mk (blk_below BK339.out hb); replace BK340 := Aside0.mk (blk_below BK340.out hb); replace BK341 := Aside0.mk (blk_below BK341.out hb); replace BK342 := Aside0.mk (blk_below BK342.out hb); replace HB := Aside0.mk (below_step HB.out hb); clear hb ho66; obtain ⟨Ao67, co67, eo67⟩ := Kd.R_slice HO_7.out; subst eo67; obtain ⟨Ao68, co68, eo68⟩ := Kd.R_slice HO373.out; subst eo68) | ((with_reducible refine gate_callee (f := 66) rfl ?_); refine goL (some 55) Try.func66 [.slice Ao67 t351.length co67, .slice Ao68 y371.length co68] ?_; (with_reducible refine (nat_Add.calls kj6 _ _ t351 _ _ y371 t374 _ ?side1 ?side2 ?side3 ?side4 A56.out).mono ?_); (case side1 => exact (Kd.R_reads' HO_7.out).2.2); (case side2 => exact (Kd.R_reads' HO_7.out).2.1); (case side3 => exact (Kd.R_reads' HO373.out).2.2); (case side4 => exact (Kd.R_reads' HO373.out).2.1); rintro e w69 ⟨v375, rfl, ho0, hb⟩; refine ⟨_, rfl, ?_⟩; have HO376 := Aside0.mk (Kd.R_lower (Kd.R_new' (Kd.R_new' (Kd.R_new' (Kd.R_new' (Kd.R_new' (Kd.R_new' ho0 (Kd.R_lt HO_7.out)) (Kd.R_lt HO_8.out)) (Kd.R_lt HO_340001.out)) (Kd.R_lt HO_341001.out)) (Kd.R_lt HO370.out)) (Kd.R_lt HO373.out)) (below_size HB.out)); replace HO_7 := Aside0.mk (Kd.R_elder' HO_7.out (Kd.R_base ho0) hb); replace HO_8 := Aside0.mk (Kd.R_elder' HO_8.out (Kd.R_base ho0) hb); replace HO_340001 := Aside0.mk (Kd.R_elder' HO_340001.out (Kd.R_base ho0) hb); replace HO_341001 := Aside0.mk (Kd.R_elder' HO_341001.out (Kd.R_base ho0) hb); replace HO370 := Aside0.mk (Kd.R_elder' HO370.out (Kd.R_base ho0) hb); replace HO373 := Aside0.mk (Kd.R_elder' HO373.out (Kd.R_base ho0) hb); replace BK339 := Aside0.mk (blk_below BK339.out hb); replace BK340 := Aside0.mk (blk_below BK340.out hb); replace BK341 := Aside0.mk (blk_below BK341.out hb); replace BK342 := Aside0.mk (blk_below BK342.out hb); replace HB := Aside0.mk (below_step HB.out hb); obtain ⟨Ao70, co70, eo70⟩ := Kd.R_slice HO376.out; subst eo70) | (go_at_call 73; (with_reducible refine (whole_DivMod_1.calls gb339 gb340 t343 t347 _ _ t374 t377 t378 _ ?side1 ?side2 A57.out ?side3 ?side4).mono ?_); (case side1 => exact (Kd.R_reads' HO376.out).2.2); (case side2 => exact (Kd.R_reads' HO376.out).2.1); (case side3 => exact bc0 BK339.out); (case side4 => exact bc0 BK340.out); rintro e w71 ⟨v379, rfl, ho0, hb⟩; have n0_ := Aside0.mk (Kd.R_elder' HO_7.out (Kd.R_base ho0) hb); have n1_ := Aside0.mk (Kd.R_elder' HO_8.out (Kd.R_base ho0) hb); have n2_ := Aside0.mk (Kd.R_elder' HO_340001.out (Kd.R_base ho0) hb); have n3_ := Aside0.mk (Kd.R_elder' HO_341001.out (Kd.R_base ho0) hb); have n4_ := Aside0.mk (Kd.R_elder' HO370.out (Kd.R_base ho0) hb); have n5_ := Aside0.mk (Kd.R_elder' HO373.out (Kd.R_base ho0) hb); have n6_ := Aside0.mk (Kd.R_elder' HO376.out (Kd.R_base ho0) hb); have n7_ := Aside0.mk (Kd.R_lower (Kd.R_new' (Kd.R_new' (Kd.R_new' (Kd.R_new' (Kd.R_new' (Kd.R_new' (Kd.R_new' ho0 (Kd.R_lt HO_7.out)) (Kd.R_lt HO_8.out)) (Kd.R_lt HO_340001.out)) (Kd.R_lt HO_341001.out)) (Kd.R_lt HO370.out)) (Kd.R_lt HO373.out)) (Kd.R_lt HO376.out)) (below_size HB.out)); have n8_ := Aside0.mk (blk_below BK339.out hb); have n9_ := Aside0.mk (blk_below BK340.out hb); have n10_ := Aside0.mk (blk_below BK341.out hb); have n11_ := Aside0.mk (blk_below BK342.out hb); have n12_ := Aside0.mk (below_step HB.out hb); clear HO_7; clear HO_8; clear HO_340001; clear HO_341001; clear HO370; clear HO373; clear HO376; clear BK339; clear BK340; clear BK341; clear BK342; clear HB; have HO_7 := n0_; have HO_8 := n1_; have HO_340001 := n2_; have HO_341001 := n3_; have HO370 := n4_; have HO373 := n5_; have HO376 := n6_; have HO380 := n7_; have BK339 := n8_; have BK340 := n9_; have BK341 := n10_; have BK342 := n11_; have HB := n12_; clear n0_ n1_ n2_ n3_ n4_ n5_ n6_ n7_ n8_ n9_ n10_ n11_ n12_; obtain ⟨Ao72, co72, eo72⟩ := Kd.R_slice HO370.out; subst eo72) | ((with_reducible refine gate_callee (f := 63) rfl ?_); refine goL (some 58) Try.func63 [.bool false, .slice Ao72 t367.length co72] ?_; (with_reducible refine (whole_made.calls false _ _ t367 t381 t382 _ ?side1 ?side2 A58.out).mono ?_); (case side1 => exact (Kd.R_reads' HO370.out).2.2); (case side2 => exact (Kd.R_reads' HO370.out).2.1); rintro e w73 ⟨v383, rfl, ho0, hb⟩; refine ⟨_, rfl, ?_⟩; have HO384 := Aside0.mk (Kd.R_lower (Kd.R_new' (Kd.R_new' (Kd.R_new' (Kd.R_new' (Kd.R_new' (Kd.R_new' (Kd.R_new' (Kd.R_new' ho0 (Kd.R_lt HO_7.out)) (Kd.R_lt HO_8.out)) (Kd.R_lt HO_340001.out)) (Kd.R_lt HO_341001.out)) (Kd.R_lt HO370.out)) (Kd.R_lt HO373.out)) (Kd.R_lt HO376.out)) (Kd.R_lt HO380.out)) (below_size HB.out)); replace HO380 := Aside0.mk (Kd.R_elder' HO380.out (Kd.R_base ho0) hb); replace BK341 := Aside0.mk (blk_below BK341.out hb); replace BK342 := Aside0.mk (blk_below BK342.out hb); replace HB := Aside0.mk (below_step HB.out hb); have hnb74 := NB341_339.out; have hnc74 := NB339_341.out; have hnb75 := NB341_342.out; have hnc75 := NB342_341.out; have hcz76_0 : w73.cell? ⟨gb341, 0, none⟩ = some (.bool false) := bc0 BK341.out; have hcz76_1 : w73.cell? ⟨gb341, 1, none⟩ = some (.slice none 0 0) := bc1 BK341.out; have hfz76_0 := blk_frozen BK341.out 0; have hfz76_1 := blk_frozen BK341.out 1; obtain ⟨Ao77, co77, eo77⟩ := Kd.R_slice HO380.out; subst eo77; have hnb78 := NB342_339.out; have hnc78 := NB339_342.out; have hcz79_0 : w73.cell? ⟨gb342, 0, none⟩ = some (.bool false) := bc0 BK342.out; have hcz79_1 : w73.cell? ⟨gb342, 1, none⟩ = some (.slice none 0 0) := bc1 BK342.out; have hfz79_0 := blk_frozen BK342.out 0; have hfz79_1 := blk_frozen BK342.out 1; obtain ⟨Ao80, co80, eo80⟩ := Kd.R_slice HO384.out; subst eo80))
     refine bodyPost_ret (results_list (rs := [.cell 4 24, .cell 5 24, .tmp 6]) rfl (by simp) (.cell gb341 24 #[.bool t377, .slice Ao77 t378.length co77] (0, 0) _ rfl (by refine blk_far ?_ NB341_342.out _; refine blk_far ?_ NB341_342.out _; refine blk_put (cs := #[.bool t377, .slice none 0 0]) ?_ 1 _ rfl; refine blk_put (cs := #[.bool false, .slice none 0 0]) ?_ 0 _ rfl; exact BK341.out) Try.underlying24 rfl (by kernel_rfl) (.cell gb342 24 #[.bool t381, .slice Ao80 t382.length co80] (0, 0) _ rfl (by refine blk_put (cs := #[.bool t381, .slice none 0 0]) ?_ 1 _ rfl; refine blk_put (cs := #[.bool false, .slice none 0 0]) ?_ 0 _ rfl; refine blk_far ?_ NB342_341.out _; refine blk_far ?_ NB342_341.out _; exact BK342.out) Try.underlying24 rfl (by kernel_rfl) (.tmp .nil)))) rfl ?_
     exact ⟨_, _, rfl, Kd.R_mono (Kd.R_far (p := ⟨gb342, 1, none⟩) (Kd.R_far (p := ⟨gb342, 0, none⟩) (Kd.R_far (p := ⟨gb341, 1, none⟩) (Kd.R_far (p := ⟨gb341, 0, none⟩) (Kd.R_types (Kd.R_types HO380.out BK341.out (by decide)) BK342.out (by decide)) (fun _ hk => hk.1.2) (.bool t377)) (fun _ hk => hk.1.2) (.slice Ao77 t378.length co77)) (fun _ hk => hk.2) (.bool t381)) (fun _ hk => hk.2) (.slice Ao80 t382.length co80)) (fun _ hk => hk.1.1.2), Kd.R_mono (Kd.R_far (p := ⟨gb342, 1, none⟩) (Kd.R_far (p := ⟨gb342, 0, none⟩) (Kd.R_far (p := ⟨gb341, 1, none⟩) (Kd.R_far (p := ⟨gb341, 0, none⟩) (Kd.R_types (Kd.R_types HO384.out BK341.out (by decide)) BK342.out (by decide)) (fun _ hk => hk.1.2) (.bool t377)) (fun _ hk => hk.1.2) (.slice Ao77 t378.length co77)) (fun _ hk => hk.2) (.bool t381)) (fun _ hk => hk.2) (.slice Ao80 t382.length co80)) (fun _ hk => hk.1.1.2), by repeat first | exact HB.out | refine bxSet ?_ (by assumption) | apply below_alloc | apply pw_below_drewN⟩
 ·rw [if_neg c6] at H
  have c6b0 : (t353 == 0) = false := beq_eq_false_iff_ne.mpr c6
  have c6b1 : (t353 != 0) = true := bne_iff_ne.mpr c6
  simp only [Option.some.injEq, Prod.mk.injEq] at H
  obtain ⟨rfl, rfl, rfl, rfl, rfl⟩ := H
  go_enter Try.func48, Try.ntmps48
  try go_wp2_with (first | ((with_reducible refine gate_dst (N := 2) rfl ?_); (try (refine gate_guard (by rfl) ?_; dsimp only)); refine box_event ?hg (N := 2) ?hd (cs := #[.bool a0_0, .slice A0_1 l0_1.length c0_1]) (t := 24) ?hr ?_; (case hd => rfl); (case hg => rfl); (case hr => first | (go_simp; done) | (go_simp; rfl)); intro gb339 hg w81 hbox hb; have BK339 := Aside0.mk (hbox); have GW339 := Aside0.mk (bxLe HB.out hg); have GE339 := GW339; replace HB := Aside0.mk (below_step HB.out hb); clear hb hbox hg) | ((with_reducible refine gate_dst (N := 3) rfl ?_); (try (refine gate_guard (by rfl) ?_; dsimp only)); refine box_event ?hg (N := 3) ?hd (cs := #[.bool a1_0, .slice A1_1 l1_1.length c1_1]) (t := 24) ?hr ?_; (case hd => rfl); (case hg => rfl); (case hr => first | (go_simp; done) | (go_simp; rfl)); intro gb340 hg w82 hbox hb; have BK340 := Aside0.mk (hbox); have GW340 := Aside0.mk (bxLe HB.out hg); have GE340 := GW340; replace HB := Aside0.mk (below_step HB.out hb); have NB339_340 := Aside0.mk (neL BK339.out hg); have NB340_339 := Aside0.mk (neR BK339.out hg); replace BK339 := Aside0.mk (blk_below BK339.out hb); clear hb hbox hg) | ((with_reducible refine gate_dst (N := 4) rfl ?_); (try (refine gate_guard (by rfl) ?_; dsimp only)); refine box_event ?hg (N := 4) ?hd (cs := #[.bool false, .slice none 0 0]) (t := 24) ?hr ?_; (case hd => rfl); (case hg => rfl); (case hr => first | (go_simp; done) | (go_simp; rfl)); intro gb341 hg w83 hbox hb; have BK341 := Aside0.mk (hbox); have GW341 := Aside0.mk (bxLe HB.out hg); have GE341 := GW341; replace HB := Aside0.mk (below_step HB.out hb); have NB339_341 := Aside0.mk (neL BK339.out hg); have NB341_339 := Aside0.mk (neR BK339.out hg); replace BK339 := Aside0.mk (blk_below BK339.out hb); have NB340_341 := Aside0.mk (neL BK340.out hg); have NB341_340 := Aside0.mk (neR BK340.out hg); replace BK340 := Aside0.mk (blk_below BK340.out hb); clear hb hbox hg) | ((with_reducible refine gate_dst (N := 5) rfl ?_); (try (refine gate_guard (by rfl) ?_; dsimp only)); refine box_event ?hg (N := 5) ?hd (cs := #[.bool false, .slice none 0 0]) (t := 24) ?hr ?_; (case hd => rfl); (case hg => rfl); (case hr => first | (go_simp; done) | (go_simp; rfl)); intro gb342 hg w84 hbox hb; have BK342 := Aside0.mk (hbox); have GW342 := Aside0.mk (bxLe HB.out hg); have GE342 := GW342; replace HB := Aside0.mk (below_step HB.out hb); have NB339_342 := Aside0.mk (neL BK339.out hg); have NB342_339 := Aside0.mk (neR BK339.out hg); replace BK339 := Aside0.mk (blk_below BK339.out hb); have NB340_342 := Aside0.mk (neL BK340.out hg); have NB342_340 := Aside0.mk (neR BK340.out hg); replace BK340 := Aside0.mk (blk_below BK340.out hb); have NB341_342 := Aside0.mk (neL BK341.out hg); have NB342_341 := Aside0.mk (neR BK341.out hg); replace BK341 := Aside0.mk (blk_below BK341.out hb); clear hb hbox hg))
  replace BK339 := Aside0.mk (blk_drew BK339.out)
  replace BK340 := Aside0.mk (blk_drew BK340.out)
  replace BK341 := Aside0.mk (blk_drew BK341.out)
  replace BK342 := Aside0.mk (blk_drew BK342.out)
  replace HB := Aside0.mk (below_drew1 HB.out)
  refine start_ (n := 6) (S := fun w' => w'.cell? ⟨gb339, 0, none⟩ = some (.bool a0_0) ∧ w'.cell? ⟨gb339, 1, none⟩ = some (.slice A0_1 l0_1.length c0_1) ∧ w'.cell? ⟨gb340, 0, none⟩ = some (.bool a1_0) ∧ w'.cell? ⟨gb340, 1, none⟩ = some (.slice A1_1 l1_1.length c1_1)) (ds := [4, 5]) #[false, false, false, false, false, false] (by kernel_rfl) rfl rfl ⟨bc0 BK339.out, bc1 BK339.out, bc0 BK340.out, bc1 BK340.out⟩ (fun hHeld => ?_)
  generalize w84.drew = w85 at BK339 BK340 BK341 BK342 HB hHeld ⊢
  refine take_ (i := 0) (N := some 13) (v := ?_) (a' := ?_) #[true, false, false, false, false, false] rfl rfl (by kernel_rfl) (fun _ _ _ h => h) (Or.inl ⟨by rfl, ?_⟩) hHeld ?_ ?_
  rotate_left
  ·rintro w' ⟨s0, s1, s2, s3⟩
   go_simp
   with_reducible rfl
  rotate_left
  ·simp only [Act.put, List.setIfInBounds_toArray, List.set_cons_zero, List.set_cons_succ, i64_w, i32_w]
   rfl
  refine take_ (i := 2) (N := some 15) (v := ?_) (a' := ?_) #[true, false, true, false, false, false] rfl rfl (by kernel_rfl) (fun _ _ _ h => h) (Or.inl ⟨by rfl, ?_⟩) hHeld ?_ ?_
  rotate_left
  ·rintro w' ⟨s0, s1, s2, s3⟩
   go_simp
   with_reducible rfl
  rotate_left
  ·simp only [Act.put, List.setIfInBounds_toArray, List.set_cons_zero, List.set_cons_succ, i64_w, i32_w]
   rfl
  refine one_ (i := 1) (N := some 14) #[true, true, true, false, false, false] rfl rfl (by kernel_rfl) (by decide) (fun K hK => ?_)
  refine goR Try.func51 [.agg #[.bool a0_0, .slice A0_1 l0_1.length c0_1]] ?_
  with_reducible refine (whole_Norm.calls a0_0 _ _ l0_1 t343 t344 _ ?side1 ?side2 A3.out).mono ?_
  (case side1 => exact (Kd.C_below HR0_1.out HB.out))
  (case side2 => exact HC0_1.out)
  rintro e w86 ⟨v345, rfl, ho0, hb⟩
  refine ⟨_, rfl, ?_⟩
  have HO346 := Aside0.mk (Kd.R_lower ho0 (below_size HB.out))
  replace BK339 := Aside0.mk (blk_below BK339.out hb)
  replace BK340 := Aside0.mk (blk_below BK340.out hb)
  replace BK341 := Aside0.mk (blk_below BK341.out hb)
  replace BK342 := Aside0.mk (blk_below BK342.out hb)
  replace HB := Aside0.mk (below_step HB.out hb)
  (try clear hb)
  (try clear hb2)
  (try clear hk)
  (try clear hi)
  (try clear ho0)
  refine hK.out _ _ ⟨bc0 BK339.out, bc1 BK339.out, bc0 BK340.out, bc1 BK340.out⟩ (fun hHeld => ?_)
  clear hK K
  refine norm_ (a' := ?_) ?_ ?_
  rotate_left
  ·show Act.put _ (some 14) _ = _
   simp only [Act.put, List.setIfInBounds_toArray, List.set_cons_zero, List.set_cons_succ, i64_w, i32_w]
   rfl
  refine one_ (i := 3) (N := some 16) #[true, true, true, true, false, false] rfl rfl (by kernel_rfl) (by decide) (fun K hK => ?_)
  refine goR Try.func51 [.agg #[.bool a1_0, .slice A1_1 l1_1.length c1_1]] ?_
  with_reducible refine (whole_Norm.calls a1_0 _ _ l1_1 t347 t348 _ ?side1 ?side2 A4.out).mono ?_
  (case side1 => exact (Kd.C_below HR1_1.out HB.out))
  (case side2 => exact HC1_1.out)
  rintro e w87 ⟨v349, rfl, ho0, hb⟩
  refine ⟨_, rfl, ?_⟩
  have HO350 := Aside0.mk (Kd.R_lower (Kd.R_new' ho0 (Kd.R_lt HO346.out)) (below_size HB.out))
  replace HO346 := Aside0.mk (Kd.R_elder' HO346.out (Kd.R_base ho0) hb)
  replace BK339 := Aside0.mk (blk_below BK339.out hb)
  replace BK340 := Aside0.mk (blk_below BK340.out hb)
  replace BK341 := Aside0.mk (blk_below BK341.out hb)
  replace BK342 := Aside0.mk (blk_below BK342.out hb)
  replace HB := Aside0.mk (below_step HB.out hb)
  (try clear hb)
  (try clear hb2)
  (try clear hk)
  (try clear hi)
  (try clear ho0)
  obtain ⟨Ao89, co89, eo89⟩ := Kd.R_slice HO346.out
  subst eo89
  obtain ⟨Ao92, co92, eo92⟩ := Kd.R_slice HO350.out
  subst eo92
  refine hK.out _ _ ⟨bc0 BK339.out, bc1 BK339.out, bc0 BK340.out, bc1 BK340.out⟩ (fun hHeld => ?_)
  clear hK K
  refine norm_ (a' := ?_) ?_ ?_
  rotate_left
  ·show Act.put _ (some 16) _ = _
   simp only [Act.put, List.setIfInBounds_toArray, List.set_cons_zero, List.set_cons_succ, i64_w, i32_w]
   rfl
  refine last_ (i := 4) (N := none) #[true, true, true, true, true, false] rfl rfl (by kernel_rfl) (by decide) (fun K hK => ?_)
  have hs88 : w87.cell? ⟨gb339, 0, none⟩ = some (.bool a0_0) := bc0 BK339.out
  have hfs88 := blk_frozen BK339.out 0
  have hns88_1 := NB340_339.out
  have hns88_2 := NB341_339.out
  have hns88_3 := NB342_339.out
  have hms88_1 := NB339_340.out
  have hms88_2 := NB339_341.out
  have hms88_3 := NB339_342.out
  have hs90 : w87.cell? ⟨gb339, 1, none⟩ = some (.slice A0_1 l0_1.length c0_1) := bc1 BK339.out
  have hfs90 := blk_frozen BK339.out 1
  have hns90_1 := NB340_339.out
  have hns90_2 := NB341_339.out
  have hns90_3 := NB342_339.out
  have hms90_1 := NB339_340.out
  have hms90_2 := NB339_341.out
  have hms90_3 := NB339_342.out
  refine skip_ (w1 := ?_) (by rfl) rfl ?_ ?_
  rotate_left
  ·go_simp
   rfl
  refine hK.out _ _ ?_
  clear hK K
  refine last_ (i := 5) (N := none) #[true, true, true, true, true, true] rfl rfl (by kernel_rfl) (by decide) (fun K hK => ?_)
  have hs91 : w87.cell? ⟨gb340, 0, none⟩ = some (.bool a1_0) := bc0 BK340.out
  have hfs91 := blk_frozen BK340.out 0
  have hns91_0 := NB339_340.out
  have hns91_2 := NB341_340.out
  have hns91_3 := NB342_340.out
  have hms91_0 := NB340_339.out
  have hms91_2 := NB340_341.out
  have hms91_3 := NB340_342.out
  have hs93 : w87.cell? ⟨gb340, 1, none⟩ = some (.slice A1_1 l1_1.length c1_1) := bc1 BK340.out
  have hfs93 := blk_frozen BK340.out 1
  have hns93_0 := NB339_340.out
  have hns93_2 := NB341_340.out
  have hns93_3 := NB342_340.out
  have hms93_0 := NB340_339.out
  have hms93_2 := NB340_341.out
  have hms93_3 := NB340_342.out
  refine skip_ (w1 := ?_) (by rfl) rfl ?_ ?_
  rotate_left
  ·go_simp
   rfl
  refine hK.out _ _ ?_
  clear hK K
  refine done_ (by kernel_rfl) ?_
  have hnb94 := NB339_340.out
  have hnc94 := NB340_339.out
  have hnb95 := NB339_341.out
  have hnc95 := NB341_339.out
  have hnb96 := NB339_342.out
  have hnc96 := NB342_339.out
  have hcz97_0 : w87.cell? ⟨gb339, 0, none⟩ = some (.bool a0_0) := bc0 BK339.out
  have hcz97_1 : w87.cell? ⟨gb339, 1, none⟩ = some (.slice A0_1 l0_1.length c0_1) := bc1 BK339.out
  have hfz97_0 := blk_frozen BK339.out 0
  have hfz97_1 := blk_frozen BK339.out 1
  have hnb98 := NB340_341.out
  have hnc98 := NB341_340.out
  have hnb99 := NB340_342.out
  have hnc99 := NB342_340.out
  have hcz100_0 : w87.cell? ⟨gb340, 0, none⟩ = some (.bool a1_0) := bc0 BK340.out
  have hcz100_1 : w87.cell? ⟨gb340, 1, none⟩ = some (.slice A1_1 l1_1.length c1_1) := bc1 BK340.out
  have hfz100_0 := blk_frozen BK340.out 0
  have hfz100_1 := blk_frozen BK340.out 1
  try go_wp2_with (first | ((with_reducible refine gate_callee (f := 72) rfl ?_); refine goL (some 22) Try.func72 [.slice Ao89 t344.length co89, .slice Ao92 t348.length co92] ?_; (with_reducible refine (nat_DivMod.calls k _ _ t344 _ _ t348 t351 t352 t353 _ ?side1 ?side2 ?side3 ?side4 A5.out).mono ?_); (case side1 => refine (Kd.R_reads' (e := 81) (base := w.heap.size) (ok := fun k_ => (True ∧ some k_ ≠ (.slice Ao92 t348.length co92 : Value).ownBlock)) (n := t344.length) (c := co89) ?_).2.2; exact (Kd.R_mono (Kd.R_mono (Kd.R_far (p := ⟨gb340, 1, none⟩) (Kd.R_far (p := ⟨gb340, 0, none⟩) (Kd.R_far (p := ⟨gb339, 1, none⟩) (Kd.R_far (p := ⟨gb339, 0, none⟩) (Kd.R_types (Kd.R_types HO346.out BK339.out (by decide)) BK340.out (by decide)) (fun _ hk => hk.1.2) (.bool t343)) (fun _ hk => hk.1.2) (.slice Ao89 t344.length co89)) (fun _ hk => hk.2) (.bool t347)) (fun _ hk => hk.2) (.slice Ao92 t348.length co92)) (fun _ h_ => h_.1)) (fun _ h_ => h_.1))); (case side2 => exact (Kd.R_reads' HO346.out).2.1); (case side3 => refine (Kd.R_reads' (e := 81) (base := w.heap.size) (ok := fun k_ => (True ∧ some k_ ≠ (.slice Ao89 t344.length co89 : Value).ownBlock)) (n := t348.length) (c := co92) ?_).2.2; exact (Kd.R_mono (Kd.R_mono (Kd.R_far (p := ⟨gb340, 1, none⟩) (Kd.R_far (p := ⟨gb340, 0, none⟩) (Kd.R_far (p := ⟨gb339, 1, none⟩) (Kd.R_far (p := ⟨gb339, 0, none⟩) (Kd.R_types (Kd.R_types HO350.out BK339.out (by decide)) BK340.out (by decide)) (fun _ hk => hk.1.2) (.bool t343)) (fun _ hk => hk.1.2) (.slice Ao89 t344.length co89)) (fun _ hk => hk.2) (.bool t347)) (fun _ hk => hk.2) (.slice Ao92 t348.length co92)) (fun _ h_ => h_.1)) (fun _ h_ => h_.1))); (case side4 => exact (Kd.R_reads' HO350.out).2.1); rintro e w101 ⟨v354, v356, rfl, ho0, ho1, hb⟩; refine ⟨_, rfl, ?_⟩; replace BK341 := Aside0.mk (blk_below (g := gb341) (o := .cells #[.bool false, .slice none 0 0] 24 (0, 0)) (by refine blk_far ?_ NB341_340.out _; refine blk_far ?_ NB341_340.out _; refine blk_far ?_ NB341_339.out _; refine blk_far ?_ NB341_339.out _; exact BK341.out) hb); replace BK342 := Aside0.mk (blk_below (g := gb342) (o := .cells #[.bool false, .slice none 0 0] 24 (0, 0)) (by refine blk_far ?_ NB342_340.out _; refine blk_far ?_ NB342_340.out _; refine blk_far ?_ NB342_339.out _; refine blk_far ?_ NB342_339.out _; exact BK342.out) hb); replace HB := Aside0.mk (below_step (by repeat first | exact HB.out | refine bxSet ?_ (by assumption) | apply below_alloc | apply pw_below_drewN) hb); (try clear ho1); have hnb102 := NB341_342.out; have hnc102 := NB342_341.out; have hcz103_0 : w101.cell? ⟨gb341, 0, none⟩ = some (.bool false) := bc0 BK341.out; have hcz103_1 : w101.cell? ⟨gb341, 1, none⟩ = some (.slice none 0 0) := bc1 BK341.out; have hfz103_0 := blk_frozen BK341.out 0; have hfz103_1 := blk_frozen BK341.out 1; have hcz104_0 : w101.cell? ⟨gb342, 0, none⟩ = some (.bool false) := bc0 BK342.out; have hcz104_1 : w101.cell? ⟨gb342, 1, none⟩ = some (.slice none 0 0) := bc1 BK342.out; have hfz104_0 := blk_frozen BK342.out 0; have hfz104_1 := blk_frozen BK342.out 1))
  refine bodyPost_ret (results_list (rs := [.cell 4 24, .cell 5 24, .tmp 6]) rfl (by simp) (.cell gb341 24 #[.bool false, .slice none 0 0] (0, 0) _ rfl (by refine blk_far ?_ NB341_342.out _; refine blk_far ?_ NB341_342.out _; refine blk_put (cs := #[.bool false, .slice none 0 0]) ?_ 1 _ rfl; refine blk_put (cs := #[.bool false, .slice none 0 0]) ?_ 0 _ rfl; exact BK341.out) Try.underlying24 rfl (by kernel_rfl) (.cell gb342 24 #[.bool false, .slice none 0 0] (0, 0) _ rfl (by refine blk_put (cs := #[.bool false, .slice none 0 0]) ?_ 1 _ rfl; refine blk_put (cs := #[.bool false, .slice none 0 0]) ?_ 0 _ rfl; refine blk_far ?_ NB342_341.out _; refine blk_far ?_ NB342_341.out _; exact BK342.out) Try.underlying24 rfl (by kernel_rfl) (.tmp .nil)))) rfl ?_
  exact ⟨_, _, by first | rfl | (simp [errW_none, errW_some] <;> rfl), by first | exact Kd.R_nil _ _ _ _ _ | exact Kd.N_nil _ _ _ _ _ | exact Kd.V_nil _ _ _ _ _ | exact Kd.Q_nil _ _ _ _ _ | exact Kd.S_nil _ _ _ _ _, by first | exact Kd.R_nil _ _ _ _ _ | exact Kd.N_nil _ _ _ _ _ | exact Kd.V_nil _ _ _ _ _ | exact Kd.Q_nil _ _ _ _ _ | exact Kd.S_nil _ _ _ _ _, by repeat first | exact HB.out | refine bxSet ?_ (by assumption) | apply below_alloc | apply pw_below_drewN⟩

/-! ### whole_Floor: function 42 -/
def whole_Floor.f (k : Nat) (a0_0 : Bool) (l0_1 : List Int) (a1_0 : Bool) (l1_1 : List Int) : Option (Bool × List Int × Int) := (whole_Sign.f a1_0 l1_1).bind fun t388 => (if t388 < 0 then ((whole_Neg.f a0_0 l0_1).bind fun bt389 => ((whole_Neg.f a1_0 l1_1).bind fun bt393 => ((whole_DivMod.f k bt389.1 bt389.2 bt393.1 bt393.2).bind fun bt397 => (some (bt397.1, bt397.2.1, bt397.2.2.2.2))))) else ((whole_DivMod.f k a0_0 l0_1 a1_0 l1_1).bind fun bt408 => (some (bt408.1, bt408.2.1, bt408.2.2.2.2))))
set_option maxHeartbeats 8000000 in
set_option maxRecDepth 100000 in
theorem whole_Floor.calls (k : Nat) (a0_0 : Bool) (A0_1 : Option Addr) (c0_1 : Nat) (l0_1 : List Int) (a1_0 : Bool) (A1_1 : Option Addr) (c1_1 : Nat) (l1_1 : List Int) (r1 : Bool) (r2 : List Int) (r3 : Int) (w : World) (hr0_1 : Kd.C (Kd.int .u32) w A0_1 l0_1.length l0_1) (hc0_1 : l0_1.length ≤ c0_1) (hr1_1 : Kd.C (Kd.int .u32) w A1_1 l1_1.length l1_1) (hc1_1 : l1_1.length ≤ c1_1) (h : whole_Floor.f k a0_0 l0_1 a1_0 l1_1 = some (r1, r2, r3)) :
  Calls Try.prog 42 #[.agg #[.bool a0_0, .slice A0_1 l0_1.length c0_1], .agg #[.bool a1_0, .slice A1_1 l1_1.length c1_1]] w fun e w' => ∃ v1_ : Value, e = .returned (.tuple #[.agg #[.bool r1, v1_], .int .i64 r3]) ∧ Kd.R (Kd.int .u32) 81 w' w.heap.size (fun _ => True) v1_ r2 ∧ Below w.heap.size w w' := by
 have hu24 := Try.underlying24
 have HR0_1 := Aside0.mk hr0_1
 have HC0_1 := Aside0.mk hc0_1
 clear hr0_1 hc0_1
 have HR1_1 := Aside0.mk hr1_1
 have HC1_1 := Aside0.mk hc1_1
 clear hr1_1 hc1_1
 have HB := Aside0.mk (Below.refl w.heap.size w)
 have H : ((whole_Sign.f a1_0 l1_1).bind fun t388 => (if t388 < 0 then ((whole_Neg.f a0_0 l0_1).bind fun bt389 => ((whole_Neg.f a1_0 l1_1).bind fun bt393 => ((whole_DivMod.f k bt389.1 bt389.2 bt393.1 bt393.2).bind fun bt397 => (some (bt397.1, bt397.2.1, bt397.2.2.2.2))))) else ((whole_DivMod.f k a0_0 l0_1 a1_0 l1_1).bind fun bt408 => (some (bt408.1, bt408.2.1, bt408.2.2.2.2))))) = some (r1, r2, r3) := h
 clear h
 obtain ⟨t388, A30, H⟩ := Option.bind_eq_some_iff.mp H
 try dsimp only at H
 have A3 := Aside0.mk A30
 clear A30
 by_cases c4 : t388 < 0
 ·rw [if_pos c4] at H
  have c4b0 : decide (t388 < 0) = true := decide_eq_true c4
  clear c4
  obtain ⟨⟨t389, t390⟩, A50, H⟩ := Option.bind_eq_some_iff.mp H
  try dsimp only at H
  have A5 := Aside0.mk A50
  clear A50
  obtain ⟨⟨t393, t394⟩, A60, H⟩ := Option.bind_eq_some_iff.mp H
  try dsimp only at H
  have A6 := Aside0.mk A60
  clear A60
  obtain ⟨⟨t397, t398, t401, t402, t405⟩, A70, H⟩ := Option.bind_eq_some_iff.mp H
  try dsimp only at H
  have A7 := Aside0.mk A70
  clear A70
  simp only [Option.some.injEq, Prod.mk.injEq] at H
  obtain ⟨rfl, rfl, rfl⟩ := H
  go_enter Try.func42, Try.ntmps42
  try go_wp2_with (first | ((with_reducible refine gate_dst (N := 2) rfl ?_); refine box_event ?hg (N := 2) ?hd (cs := #[.bool a0_0, .slice A0_1 l0_1.length c0_1]) (t := 24) ?hr ?_; (case hd => rfl); (case hg => rfl); (case hr => first | (go_simp; done) | (go_simp; rfl)); intro gb385 hg w8 hbox hb; have BK385 := Aside0.mk (hbox); have GW385 := Aside0.mk (bxLe HB.out hg); have GE385 := GW385; replace HB := Aside0.mk (below_step HB.out hb); clear hb hbox hg) | ((with_reducible refine gate_dst (N := 3) rfl ?_); refine box_event ?hg (N := 3) ?hd (cs := #[.bool a1_0, .slice A1_1 l1_1.length c1_1]) (t := 24) ?hr ?_; (case hd => rfl); (case hg => rfl); (case hr => first | (go_simp; done) | (go_simp; rfl)); intro gb386 hg w9 hbox hb; have BK386 := Aside0.mk (hbox); have GW386 := Aside0.mk (bxLe HB.out hg); have GE386 := GW386; replace HB := Aside0.mk (below_step HB.out hb); have NB385_386 := Aside0.mk (neL BK385.out hg); have NB386_385 := Aside0.mk (neR BK385.out hg); replace BK385 := Aside0.mk (blk_below BK385.out hb); clear hb hbox hg) | ((with_reducible refine gate_dst (N := 4) rfl ?_); refine box_event ?hg (N := 4) ?hd (cs := #[.bool false, .slice none 0 0]) (t := 24) ?hr ?_; (case hd => rfl); (case hg => rfl); (case hr => first | (go_simp; done) | (go_simp; rfl)); intro gb387 hg w10 hbox hb; have BK387 := Aside0.mk (hbox); have GW387 := Aside0.mk (bxLe HB.out hg); have GE387 := GW387; replace HB := Aside0.mk (below_step HB.out hb); have NB385_387 := Aside0.mk (neL BK385.out hg); have NB387_385 := Aside0.mk (neR BK385.out hg); replace BK385 := Aside0.mk (blk_below BK385.out hb); have NB386_387 := Aside0.mk (neL BK386.out hg); have NB387_386 := Aside0.mk (neR BK386.out hg); replace BK386 := Aside0.mk (blk_below BK386.out hb); clear hb hbox hg; have hnb11 := NB386_385.out; have hnc11 := NB385_386.out; have hnb12 := NB386_387.out; have hnc12 := NB387_386.out; have hcz13_0 : w10.cell? ⟨gb386, 0, none⟩ = some (.bool a1_0) := bc0 BK386.out; have hcz13_1 : w10.cell? ⟨gb386, 1, none⟩ = some (.slice A1_1 l1_1.length c1_1) := bc1 BK386.out; have hfz13_0 := blk_frozen BK386.out 0; have hfz13_1 := blk_frozen BK386.out 1) | ((with_reducible refine gate_callee (f := 19) rfl ?_); refine goL (some 10) Try.func19 [.agg #[.bool a1_0, .slice A1_1 l1_1.length c1_1]] ?_; (with_reducible refine (whole_Sign.calls a1_0 _ _ l1_1 t388 _ ?side1 ?side2 A3.out).mono ?_); (case side1 => exact (Kd.C_below HR1_1.out HB.out)); (case side2 => exact HC1_1.out); rintro e w14 ⟨rfl, hb⟩; refine ⟨_, rfl, ?_⟩; replace BK385 := Aside0.mk (blk_below BK385.out hb); replace BK386 := Aside0.mk (blk_below BK386.out hb); replace BK387 := Aside0.mk (blk_below BK387.out hb); replace HB := Aside0.mk (below_step HB.out hb); (try clear hb); (try clear hb2); (try clear hk); (try clear hi)))
  replace BK385 := Aside0.mk (blk_drew BK385.out)
  replace BK386 := Aside0.mk (blk_drew BK386.out)
  replace BK387 := Aside0.mk (blk_drew BK387.out)
  replace HB := Aside0.mk (below_drew1 HB.out)
  refine start_ (n := 6) (S := fun w' => w'.cell? ⟨gb385, 0, none⟩ = some (.bool a0_0) ∧ w'.cell? ⟨gb385, 1, none⟩ = some (.slice A0_1 l0_1.length c0_1) ∧ w'.cell? ⟨gb386, 0, none⟩ = some (.bool a1_0) ∧ w'.cell? ⟨gb386, 1, none⟩ = some (.slice A1_1 l1_1.length c1_1)) (ds := [4, 5]) #[false, false, false, false, false, false] (by kernel_rfl) rfl rfl ⟨bc0 BK385.out, bc1 BK385.out, bc0 BK386.out, bc1 BK386.out⟩ (fun hHeld => ?_)
  generalize w14.drew = w15 at BK385 BK386 BK387 HB hHeld ⊢
  refine take_ (i := 0) (N := some 12) (v := ?_) (a' := ?_) #[true, false, false, false, false, false] rfl rfl (by kernel_rfl) (fun _ _ _ h => h) (Or.inl ⟨by rfl, ?_⟩) hHeld ?_ ?_
  rotate_left
  ·rintro w' ⟨s0, s1, s2, s3⟩
   go_simp
   with_reducible rfl
  rotate_left
  ·simp only [Act.put, List.setIfInBounds_toArray, List.set_cons_zero, List.set_cons_succ, i64_w, i32_w]
   rfl
  refine take_ (i := 2) (N := some 14) (v := ?_) (a' := ?_) #[true, false, true, false, false, false] rfl rfl (by kernel_rfl) (fun _ _ _ h => h) (Or.inl ⟨by rfl, ?_⟩) hHeld ?_ ?_
  rotate_left
  ·rintro w' ⟨s0, s1, s2, s3⟩
   go_simp
   with_reducible rfl
  rotate_left
  ·simp only [Act.put, List.setIfInBounds_toArray, List.set_cons_zero, List.set_cons_succ, i64_w, i32_w]
   rfl
  refine one_ (i := 1) (N := some 13) #[true, true, true, false, false, false] rfl rfl (by kernel_rfl) (by decide) (fun K hK => ?_)
  refine goR Try.func69 [.agg #[.bool a0_0, .slice A0_1 l0_1.length c0_1]] ?_
  with_reducible refine (whole_Neg.calls a0_0 _ _ l0_1 t389 t390 _ ?side1 ?side2 A5.out).mono ?_
  (case side1 => exact (Kd.C_below HR0_1.out HB.out))
  (case side2 => exact HC0_1.out)
  rintro e w16 ⟨v391, rfl, ho0, hb⟩
  refine ⟨_, rfl, ?_⟩
  have HO392 := Aside0.mk (Kd.R_lower ho0 (below_size HB.out))
  replace BK385 := Aside0.mk (blk_below BK385.out hb)
  replace BK386 := Aside0.mk (blk_below BK386.out hb)
  replace BK387 := Aside0.mk (blk_below BK387.out hb)
  replace HB := Aside0.mk (below_step HB.out hb)
  (try clear hb)
  (try clear hb2)
  (try clear hk)
  (try clear hi)
  (try clear ho0)
  refine hK.out _ _ ⟨bc0 BK385.out, bc1 BK385.out, bc0 BK386.out, bc1 BK386.out⟩ (fun hHeld => ?_)
  clear hK K
  refine norm_ (a' := ?_) ?_ ?_
  rotate_left
  ·show Act.put _ (some 13) _ = _
   simp only [Act.put, List.setIfInBounds_toArray, List.set_cons_zero, List.set_cons_succ, i64_w, i32_w]
   rfl
  refine one_ (i := 3) (N := some 15) #[true, true, true, true, false, false] rfl rfl (by kernel_rfl) (by decide) (fun K hK => ?_)
  refine goR Try.func69 [.agg #[.bool a1_0, .slice A1_1 l1_1.length c1_1]] ?_
  with_reducible refine (whole_Neg.calls a1_0 _ _ l1_1 t393 t394 _ ?side1 ?side2 A6.out).mono ?_
  (case side1 => exact (Kd.C_below HR1_1.out HB.out))
  (case side2 => exact HC1_1.out)
  rintro e w17 ⟨v395, rfl, ho0, hb⟩
  refine ⟨_, rfl, ?_⟩
  have HO396 := Aside0.mk (Kd.R_lower (Kd.R_new' ho0 (Kd.R_lt HO392.out)) (below_size HB.out))
  replace HO392 := Aside0.mk (Kd.R_elder' HO392.out (Kd.R_base ho0) hb)
  replace BK385 := Aside0.mk (blk_below BK385.out hb)
  replace BK386 := Aside0.mk (blk_below BK386.out hb)
  replace BK387 := Aside0.mk (blk_below BK387.out hb)
  replace HB := Aside0.mk (below_step HB.out hb)
  (try clear hb)
  (try clear hb2)
  (try clear hk)
  (try clear hi)
  (try clear ho0)
  obtain ⟨Ao19, co19, eo19⟩ := Kd.R_slice HO392.out
  subst eo19
  obtain ⟨Ao22, co22, eo22⟩ := Kd.R_slice HO396.out
  subst eo22
  refine hK.out _ _ ⟨bc0 BK385.out, bc1 BK385.out, bc0 BK386.out, bc1 BK386.out⟩ (fun hHeld => ?_)
  clear hK K
  refine norm_ (a' := ?_) ?_ ?_
  rotate_left
  ·show Act.put _ (some 15) _ = _
   simp only [Act.put, List.setIfInBounds_toArray, List.set_cons_zero, List.set_cons_succ, i64_w, i32_w]
   rfl
  refine last_ (i := 4) (N := none) #[true, true, true, true, true, false] rfl rfl (by kernel_rfl) (by decide) (fun K hK => ?_)
  have hs18 : w17.cell? ⟨gb385, 0, none⟩ = some (.bool a0_0) := bc0 BK385.out
  have hfs18 := blk_frozen BK385.out 0
  have hns18_1 := NB386_385.out
  have hns18_2 := NB387_385.out
  have hms18_1 := NB385_386.out
  have hms18_2 := NB385_387.out
  have hs20 : w17.cell? ⟨gb385, 1, none⟩ = some (.slice A0_1 l0_1.length c0_1) := bc1 BK385.out
  have hfs20 := blk_frozen BK385.out 1
  have hns20_1 := NB386_385.out
  have hns20_2 := NB387_385.out
  have hms20_1 := NB385_386.out
  have hms20_2 := NB385_387.out
  refine skip_ (w1 := ?_) (by rfl) rfl ?_ ?_
  rotate_left
  ·go_simp
   rfl
  refine hK.out _ _ ?_
  clear hK K
  refine last_ (i := 5) (N := none) #[true, true, true, true, true, true] rfl rfl (by kernel_rfl) (by decide) (fun K hK => ?_)
  have hs21 : w17.cell? ⟨gb386, 0, none⟩ = some (.bool a1_0) := bc0 BK386.out
  have hfs21 := blk_frozen BK386.out 0
  have hns21_0 := NB385_386.out
  have hns21_2 := NB387_386.out
  have hms21_0 := NB386_385.out
  have hms21_2 := NB386_387.out
  have hs23 : w17.cell? ⟨gb386, 1, none⟩ = some (.slice A1_1 l1_1.length c1_1) := bc1 BK386.out
  have hfs23 := blk_frozen BK386.out 1
  have hns23_0 := NB385_386.out
  have hns23_2 := NB387_386.out
  have hms23_0 := NB386_385.out
  have hms23_2 := NB386_387.out
  refine skip_ (w1 := ?_) (by rfl) rfl ?_ ?_
  rotate_left
  ·go_simp
   rfl
  refine hK.out _ _ ?_
  clear hK K
  refine done_ (by kernel_rfl) ?_
  have hnb24 := NB385_387.out
  have hnc24 := NB387_385.out
  have hcz25_0 : w17.cell? ⟨gb385, 0, none⟩ = some (.bool a0_0) := bc0 BK385.out
  have hcz25_1 : w17.cell? ⟨gb385, 1, none⟩ = some (.slice A0_1 l0_1.length c0_1) := bc1 BK385.out
  have hfz25_0 := blk_frozen BK385.out 0
  have hfz25_1 := blk_frozen BK385.out 1
  have hcz26_0 : w17.cell? ⟨gb386, 0, none⟩ = some (.bool a1_0) := bc0 BK386.out
  have hcz26_1 : w17.cell? ⟨gb386, 1, none⟩ = some (.slice A1_1 l1_1.length c1_1) := bc1 BK386.out
  have hfz26_0 := blk_frozen BK386.out 0
  have hfz26_1 := blk_frozen BK386.out 1
  try go_wp2_with (first | ((with_reducible refine gate_callee (f := 48) rfl ?_); refine goL (some 19) Try.func48 [.agg #[.bool t389, .slice Ao19 t390.length co19], .agg #[.bool t393, .slice Ao22 t394.length co22]] ?_; (with_reducible refine (whole_DivMod.calls k t389 _ _ t390 t393 _ _ t394 t397 t398 t401 t402 t405 _ ?side1 ?side2 ?side3 ?side4 A7.out).mono ?_); (case side1 => refine (Kd.R_reads' (e := 81) (base := w.heap.size) (ok := fun k_ => (True ∧ some k_ ≠ (.slice Ao22 t394.length co22 : Value).ownBlock)) (n := t390.length) (c := co19) ?_).2.2; exact (Kd.R_mono (Kd.R_mono (Kd.R_far (p := ⟨gb386, 1, none⟩) (Kd.R_far (p := ⟨gb386, 0, none⟩) (Kd.R_far (p := ⟨gb385, 1, none⟩) (Kd.R_far (p := ⟨gb385, 0, none⟩) (Kd.R_types (Kd.R_types HO392.out BK385.out (by decide)) BK386.out (by decide)) (fun _ hk => hk.1.2) (.bool t389)) (fun _ hk => hk.1.2) (.slice Ao19 t390.length co19)) (fun _ hk => hk.2) (.bool t393)) (fun _ hk => hk.2) (.slice Ao22 t394.length co22)) (fun _ h_ => h_.1)) (fun _ h_ => h_.1))); (case side2 => exact (Kd.R_reads' HO392.out).2.1); (case side3 => refine (Kd.R_reads' (e := 81) (base := w.heap.size) (ok := fun k_ => (True ∧ some k_ ≠ (.slice Ao19 t390.length co19 : Value).ownBlock)) (n := t394.length) (c := co22) ?_).2.2; exact (Kd.R_mono (Kd.R_mono (Kd.R_far (p := ⟨gb386, 1, none⟩) (Kd.R_far (p := ⟨gb386, 0, none⟩) (Kd.R_far (p := ⟨gb385, 1, none⟩) (Kd.R_far (p := ⟨gb385, 0, none⟩) (Kd.R_types (Kd.R_types HO396.out BK385.out (by decide)) BK386.out (by decide)) (fun _ hk => hk.1.2) (.bool t389)) (fun _ hk => hk.1.2) (.slice Ao19 t390.length co19)) (fun _ hk => hk.2) (.bool t393)) (fun _ hk => hk.2) (.slice Ao22 t394.length co22)) (fun _ h_ => h_.1)) (fun _ h_ => h_.1))); (case side4 => exact (Kd.R_reads' HO396.out).2.1); rintro e w27 ⟨v399, v403, rfl, ho0, ho1, hb⟩; refine ⟨_, rfl, ?_⟩; have HO400 := Aside0.mk (Kd.R_lower (Kd.R_new' (Kd.R_new' ho0 (Kd.R_lt (Kd.R_mono (Kd.R_mono (Kd.R_far (p := ⟨gb386, 1, none⟩) (Kd.R_far (p := ⟨gb386, 0, none⟩) (Kd.R_far (p := ⟨gb385, 1, none⟩) (Kd.R_far (p := ⟨gb385, 0, none⟩) (Kd.R_types (Kd.R_types HO392.out BK385.out (by decide)) BK386.out (by decide)) (fun _ hk => hk.1.2) (.bool t389)) (fun _ hk => hk.1.2) (.slice Ao19 t390.length co19)) (fun _ hk => hk.2) (.bool t393)) (fun _ hk => hk.2) (.slice Ao22 t394.length co22)) (fun _ h_ => h_.1)) (fun _ h_ => h_.1)))) (Kd.R_lt (Kd.R_mono (Kd.R_mono (Kd.R_far (p := ⟨gb386, 1, none⟩) (Kd.R_far (p := ⟨gb386, 0, none⟩) (Kd.R_far (p := ⟨gb385, 1, none⟩) (Kd.R_far (p := ⟨gb385, 0, none⟩) (Kd.R_types (Kd.R_types HO396.out BK385.out (by decide)) BK386.out (by decide)) (fun _ hk => hk.1.2) (.bool t389)) (fun _ hk => hk.1.2) (.slice Ao19 t390.length co19)) (fun _ hk => hk.2) (.bool t393)) (fun _ hk => hk.2) (.slice Ao22 t394.length co22)) (fun _ h_ => h_.1)) (fun _ h_ => h_.1)))) (below_size (by repeat first | exact HB.out | refine bxSet ?_ (by assumption) | apply below_alloc | apply pw_below_drewN))); have HO404 := Aside0.mk (Kd.R_lower (Kd.R_new' (Kd.R_new' ho1 (Kd.R_lt (Kd.R_mono (Kd.R_mono (Kd.R_far (p := ⟨gb386, 1, none⟩) (Kd.R_far (p := ⟨gb386, 0, none⟩) (Kd.R_far (p := ⟨gb385, 1, none⟩) (Kd.R_far (p := ⟨gb385, 0, none⟩) (Kd.R_types (Kd.R_types HO392.out BK385.out (by decide)) BK386.out (by decide)) (fun _ hk => hk.1.2) (.bool t389)) (fun _ hk => hk.1.2) (.slice Ao19 t390.length co19)) (fun _ hk => hk.2) (.bool t393)) (fun _ hk => hk.2) (.slice Ao22 t394.length co22)) (fun _ h_ => h_.1)) (fun _ h_ => h_.1)))) (Kd.R_lt (Kd.R_mono (Kd.R_mono (Kd.R_far (p := ⟨gb386, 1, none⟩) (Kd.R_far (p := ⟨gb386, 0, none⟩) (Kd.R_far (p := ⟨gb385, 1, none⟩) (Kd.R_far (p := ⟨gb385, 0, none⟩) (Kd.R_types (Kd.R_types HO396.out BK385.out (by decide)) BK386.out (by decide)) (fun _ hk => hk.1.2) (.bool t389)) (fun _ hk => hk.1.2) (.slice Ao19 t390.length co19)) (fun _ hk => hk.2) (.bool t393)) (fun _ hk => hk.2) (.slice Ao22 t394.length co22)) (fun _ h_ => h_.1)) (fun _ h_ => h_.1)))) (below_size (by repeat first | exact HB.out | refine bxSet ?_ (by assumption) | apply below_alloc | apply pw_below_drewN))); replace BK385 := Aside0.mk (blk_below (g := gb385) (o := .cells #[.bool t389, .slice Ao19 t390.length co19] 24 (0, 0)) (by refine blk_far ?_ NB385_386.out _; refine blk_far ?_ NB385_386.out _; refine blk_put (cs := #[.bool t389, .slice A0_1 l0_1.length c0_1]) ?_ 1 _ rfl; refine blk_put (cs := #[.bool a0_0, .slice A0_1 l0_1.length c0_1]) ?_ 0 _ rfl; exact BK385.out) hb); replace BK386 := Aside0.mk (blk_below (g := gb386) (o := .cells #[.bool t393, .slice Ao22 t394.length co22] 24 (0, 0)) (by refine blk_put (cs := #[.bool t393, .slice A1_1 l1_1.length c1_1]) ?_ 1 _ rfl; refine blk_put (cs := #[.bool a1_0, .slice A1_1 l1_1.length c1_1]) ?_ 0 _ rfl; refine blk_far ?_ NB386_385.out _; refine blk_far ?_ NB386_385.out _; exact BK386.out) hb); replace BK387 := Aside0.mk (blk_below (g := gb387) (o := .cells #[.bool false, .slice none 0 0] 24 (0, 0)) (by refine blk_far ?_ NB387_386.out _; refine blk_far ?_ NB387_386.out _; refine blk_far ?_ NB387_385.out _; refine blk_far ?_ NB387_385.out _; exact BK387.out) hb); replace HB := Aside0.mk (below_step (by repeat first | exact HB.out | refine bxSet ?_ (by assumption) | apply below_alloc | apply pw_below_drewN) hb); (try clear ho1)) | ((with_reducible refine gate_dst (N := 6) rfl ?_); refine box_event ?hg (N := 6) ?hd (cs := #[.bool false, .slice none 0 0]) (t := 24) ?hr ?_; (case hd => rfl); (case hg => rfl); (case hr => first | (go_simp; done) | (go_simp; rfl)); intro gb406 hg w28 hbox hb; replace HO400 := Aside0.mk (Kd.R_below HO400.out hb); replace HO404 := Aside0.mk (Kd.R_below HO404.out hb); have BK406 := Aside0.mk (hbox); have GW406 := Aside0.mk (bxLe HB.out hg); have GE406 := GW406; replace HB := Aside0.mk (below_step HB.out hb); have NB385_406 := Aside0.mk (neL BK385.out hg); have NB406_385 := Aside0.mk (neR BK385.out hg); replace BK385 := Aside0.mk (blk_below BK385.out hb); have NB386_406 := Aside0.mk (neL BK386.out hg); have NB406_386 := Aside0.mk (neR BK386.out hg); replace BK386 := Aside0.mk (blk_below BK386.out hb); have NB387_406 := Aside0.mk (neL BK387.out hg); have NB406_387 := Aside0.mk (neR BK387.out hg); replace BK387 := Aside0.mk (blk_below BK387.out hb); clear hb hbox hg) | ((with_reducible refine gate_dst (N := 7) rfl ?_); refine box_event ?hg (N := 7) ?hd (cs := #[.bool false, .slice none 0 0]) (t := 24) ?hr ?_; (case hd => rfl); (case hg => rfl); (case hr => first | (go_simp; done) | (go_simp; rfl)); intro gb407 hg w29 hbox hb; replace HO400 := Aside0.mk (Kd.R_below HO400.out hb); replace HO404 := Aside0.mk (Kd.R_below HO404.out hb); have BK407 := Aside0.mk (hbox); have GW407 := Aside0.mk (bxLe HB.out hg); have GE407 := GW407; replace HB := Aside0.mk (below_step HB.out hb); have NB385_407 := Aside0.mk (neL BK385.out hg); have NB407_385 := Aside0.mk (neR BK385.out hg); have NB386_407 := Aside0.mk (neL BK386.out hg); have NB407_386 := Aside0.mk (neR BK386.out hg); have NB387_407 := Aside0.mk (neL BK387.out hg); have NB407_387 := Aside0.mk (neR BK387.out hg); replace BK387 := Aside0.mk (blk_below BK387.out hb); have NB406_407 := Aside0.mk (neL BK406.out hg); have NB407_406 := Aside0.mk (neR BK406.out hg); replace BK406 := Aside0.mk (blk_below BK406.out hb); clear hb hbox hg; have hnb30 := NB406_385.out; have hnc30 := NB385_406.out; have hnb31 := NB406_386.out; have hnc31 := NB386_406.out; have hnb32 := NB406_387.out; have hnc32 := NB387_406.out; have hnb33 := NB406_407.out; have hnc33 := NB407_406.out; have hcz34_0 : w29.cell? ⟨gb406, 0, none⟩ = some (.bool false) := bc0 BK406.out; have hcz34_1 : w29.cell? ⟨gb406, 1, none⟩ = some (.slice none 0 0) := bc1 BK406.out; have hfz34_0 := blk_frozen BK406.out 0; have hfz34_1 := blk_frozen BK406.out 1; obtain ⟨Ao35, co35, eo35⟩ := Kd.R_slice HO400.out; subst eo35; have hnb36 := NB407_385.out; have hnc36 := NB385_407.out; have hnb37 := NB407_386.out; have hnc37 := NB386_407.out; have hnb38 := NB407_387.out; have hnc38 := NB387_407.out; have hcz39_0 : w29.cell? ⟨gb407, 0, none⟩ = some (.bool false) := bc0 BK407.out; have hcz39_1 : w29.cell? ⟨gb407, 1, none⟩ = some (.slice none 0 0) := bc1 BK407.out; have hfz39_0 := blk_frozen BK407.out 0; have hfz39_1 := blk_frozen BK407.out 1; obtain ⟨Ao40, co40, eo40⟩ := Kd.R_slice HO404.out; subst eo40; have hcz41_0 : w29.cell? ⟨gb387, 0, none⟩ = some (.bool false) := bc0 BK387.out; have hcz41_1 : w29.cell? ⟨gb387, 1, none⟩ = some (.slice none 0 0) := bc1 BK387.out; have hfz41_0 := blk_frozen BK387.out 0; have hfz41_1 := blk_frozen BK387.out 1))
  refine bodyPost_ret (results_ct rfl _ _ gb387 24 #[.bool t397, .slice Ao35 t398.length co35] (0, 0) _ rfl (by refine blk_put (cs := #[.bool t397, .slice none 0 0]) ?_ 1 _ rfl; refine blk_put (cs := #[.bool false, .slice none 0 0]) ?_ 0 _ rfl; refine blk_far ?_ NB387_407.out _; refine blk_far ?_ NB387_407.out _; refine blk_far ?_ NB387_406.out _; refine blk_far ?_ NB387_406.out _; exact BK387.out) Try.underlying24 rfl (by kernel_rfl)) rfl ?_
  exact ⟨_, rfl, Kd.R_mono (Kd.R_far (p := ⟨gb387, 1, none⟩) (Kd.R_far (p := ⟨gb387, 0, none⟩) (Kd.R_far (p := ⟨gb407, 1, none⟩) (Kd.R_far (p := ⟨gb407, 0, none⟩) (Kd.R_far (p := ⟨gb406, 1, none⟩) (Kd.R_far (p := ⟨gb406, 0, none⟩) (Kd.R_types (Kd.R_types (Kd.R_types HO400.out BK406.out (by decide)) BK407.out (by decide)) BK387.out (by decide)) (fun _ hk => hk.1.1.2) (.bool t397)) (fun _ hk => hk.1.1.2) (.slice Ao35 t398.length co35)) (fun _ hk => hk.1.2) (.bool t401)) (fun _ hk => hk.1.2) (.slice Ao40 t402.length co40)) (fun _ hk => hk.2) (.bool t397)) (fun _ hk => hk.2) (.slice Ao35 t398.length co35)) (fun _ hk => trivial), by repeat first | exact HB.out | refine bxSet ?_ (by assumption) | apply below_alloc | apply pw_below_drewN⟩
 ·rw [if_neg c4] at H
  have c4b0 : decide (t388 < 0) = false := decide_eq_false c4
  clear c4
  obtain ⟨⟨t408, t409, t412, t413, t416⟩, A420, H⟩ := Option.bind_eq_some_iff.mp H
  try dsimp only at H
  have A42 := Aside0.mk A420
  clear A420
  simp only [Option.some.injEq, Prod.mk.injEq] at H
  obtain ⟨rfl, rfl, rfl⟩ := H
  go_enter Try.func42, Try.ntmps42
  go_wp2_with (first | ((with_reducible refine gate_dst (N := 2) rfl ?_); refine box_event ?hg (N := 2) ?hd (cs := #[.bool a0_0, .slice A0_1 l0_1.length c0_1]) (t := 24) ?hr ?_; (case hd => rfl); (case hg => rfl); (case hr => first | (go_simp; done) | (go_simp; rfl)); intro gb385 hg w43 hbox hb; have BK385 := Aside0.mk (hbox); have GW385 := Aside0.mk (bxLe HB.out hg); have GE385 := GW385; replace HB := Aside0.mk (below_step HB.out hb); clear hb hbox hg) | ((with_reducible refine gate_dst (N := 3) rfl ?_); refine box_event ?hg (N := 3) ?hd (cs := #[.bool a1_0, .slice A1_1 l1_1.length c1_1]) (t := 24) ?hr ?_; (case hd => rfl); (case hg => rfl); (case hr => first | (go_simp; done) | (go_simp; rfl)); intro gb386 hg w44 hbox hb; have BK386 := Aside0.mk (hbox); have GW386 := Aside0.mk (bxLe HB.out hg); have GE386 := GW386; replace HB := Aside0.mk (below_step HB.out hb); have NB385_386 := Aside0.mk (neL BK385.out hg); have NB386_385 := Aside0.mk (neR BK385.out hg); replace BK385 := Aside0.mk (blk_below BK385.out hb); clear hb hbox hg) | ((with_reducible refine gate_dst (N := 4) rfl ?_); refine box_event ?hg (N := 4) ?hd (cs := #[.bool false, .slice none 0 0]) (t := 24) ?hr ?_; (case hd => rfl); (case hg => rfl); (case hr => first | (go_simp; done) | (go_simp; rfl)); intro gb387 hg w45 hbox hb; have BK387 := Aside0.mk (hbox); have GW387 := Aside0.mk (bxLe HB.out hg); have GE387 := GW387; replace HB := Aside0.mk (below_step HB.out hb); have NB385_387 := Aside0.mk (neL BK385.out hg); have NB387_385 := Aside0.mk (neR BK385.out hg); replace BK385 := Aside0.mk (blk_below BK385.out hb); have NB386_387 := Aside0.mk (neL BK386.out hg); have NB387_386 := Aside0.mk (neR BK386.out hg); replace BK386 := Aside0.mk (blk_below BK386.out hb); clear hb hbox hg; have hnb46 := NB386_385.out; have hnc46 := NB385_386.out; have hnb47 := NB386_387.out; have hnc47 := NB387_386.out; have hcz48_0 : w45.cell? ⟨gb386, 0, none⟩ = some (.bool a1_0) := bc0 BK386.out; have hcz48_1 : w45.cell? ⟨gb386, 1, none⟩ = some (.slice A1_1 l1_1.length c1_1) := bc1 BK386.out; have hfz48_0 := blk_frozen BK386.out 0; have hfz48_1 := blk_frozen BK386.out 1) | ((with_reducible refine gate_callee (f := 19) rfl ?_); refine goL (some 10) Try.func19 [.agg #[.bool a1_0, .slice A1_1 l1_1.length c1_1]] ?_; (with_reducible refine (whole_Sign.calls a1_0 _ _ l1_1 t388 _ ?side1 ?side2 A3.out).mono ?_); (case side1 => exact (Kd.C_below HR1_1.out HB.out)); (case side2 => exact HC1_1.out); rintro e w49 ⟨rfl, hb⟩; refine ⟨_, rfl, ?_⟩; replace BK385 := Aside0.mk (blk_below BK385.out hb); replace BK386 := Aside0.mk (blk_below BK386.out hb); replace BK387 := Aside0.mk (blk_below BK387.out hb); replace HB := Aside0.mk (below_step HB.out hb); (try clear hb); (try clear hb2); (try clear hk); (try clear hi); have hnb50 := NB385_387.out; have hnc50 := NB387_385.out; have hcz51_0 : w49.cell? ⟨gb385, 0, none⟩ = some (.bool a0_0) := bc0 BK385.out; have hcz51_1 : w49.cell? ⟨gb385, 1, none⟩ = some (.slice A0_1 l0_1.length c0_1) := bc1 BK385.out; have hfz51_0 := blk_frozen BK385.out 0; have hfz51_1 := blk_frozen BK385.out 1; have hcz52_0 : w49.cell? ⟨gb386, 0, none⟩ = some (.bool a1_0) := bc0 BK386.out; have hcz52_1 : w49.cell? ⟨gb386, 1, none⟩ = some (.slice A1_1 l1_1.length c1_1) := bc1 BK386.out; have hfz52_0 := blk_frozen BK386.out 0; have hfz52_1 := blk_frozen BK386.out 1) | ((with_reducible refine gate_callee (f := 48) rfl ?_); refine goL (some 19) Try.func48 [.agg #[.bool a0_0, .slice A0_1 l0_1.length c0_1], .agg #[.bool a1_0, .slice A1_1 l1_1.length c1_1]] ?_; (with_reducible refine (whole_DivMod.calls k a0_0 _ _ l0_1 a1_0 _ _ l1_1 t408 t409 t412 t413 t416 _ ?side1 ?side2 ?side3 ?side4 A42.out).mono ?_); (case side1 => exact (Kd.C_below HR0_1.out HB.out)); (case side2 => exact HC0_1.out); (case side3 => exact (Kd.C_below HR1_1.out HB.out)); (case side4 => exact HC1_1.out); rintro e w53 ⟨v410, v414, rfl, ho0, ho1, hb⟩; refine ⟨_, rfl, ?_⟩; have HO411 := Aside0.mk (Kd.R_lower ho0 (below_size HB.out)); have HO415 := Aside0.mk (Kd.R_lower ho1 (below_size HB.out)); replace BK385 := Aside0.mk (blk_below BK385.out hb); replace BK386 := Aside0.mk (blk_below BK386.out hb); replace BK387 := Aside0.mk (blk_below BK387.out hb); replace HB := Aside0.mk (below_step HB.out hb); (try clear ho1)) | ((with_reducible refine gate_dst (N := 6) rfl ?_); refine box_event ?hg (N := 6) ?hd (cs := #[.bool false, .slice none 0 0]) (t := 24) ?hr ?_; (case hd => rfl); (case hg => rfl); (case hr => first | (go_simp; done) | (go_simp; rfl)); intro gb417 hg w54 hbox hb; replace HO411 := Aside0.mk (Kd.R_below HO411.out hb); replace HO415 := Aside0.mk (Kd.R_below HO415.out hb); have BK417 := Aside0.mk (hbox); have GW417 := Aside0.mk (bxLe HB.out hg); have GE417 := GW417; replace HB := Aside0.mk (below_step HB.out hb); have NB385_417 := Aside0.mk (neL BK385.out hg); have NB417_385 := Aside0.mk (neR BK385.out hg); replace BK385 := Aside0.mk (blk_below BK385.out hb); have NB386_417 := Aside0.mk (neL BK386.out hg); have NB417_386 := Aside0.mk (neR BK386.out hg); replace BK386 := Aside0.mk (blk_below BK386.out hb); have NB387_417 := Aside0.mk (neL BK387.out hg); have NB417_387 := Aside0.mk (neR BK387.out hg); replace BK387 := Aside0.mk (blk_below BK387.out hb); clear hb hbox hg) | ((with_reducible refine gate_dst (N := 7) rfl ?_); refine box_event ?hg (N := 7) ?hd (cs := #[.bool false, .slice none 0 0]) (t := 24) ?hr ?_; (case hd => rfl); (case hg => rfl); (case hr => first | (go_simp; done) | (go_simp; rfl)); intro gb418 hg w55 hbox hb; replace HO411 := Aside0.mk (Kd.R_below HO411.out hb); replace HO415 := Aside0.mk (Kd.R_below HO415.out hb); have BK418 := Aside0.mk (hbox); have GW418 := Aside0.mk (bxLe HB.out hg); have GE418 := GW418; replace HB := Aside0.mk (below_step HB.out hb); have NB385_418 := Aside0.mk (neL BK385.out hg); have NB418_385 := Aside0.mk (neR BK385.out hg); have NB386_418 := Aside0.mk (neL BK386.out hg); have NB418_386 := Aside0.mk (neR BK386.out hg); have NB387_418 := Aside0.mk (neL BK387.out hg); have NB418_387 := Aside0.mk (neR BK387.out hg); replace BK387 := Aside0.mk (blk_below BK387.out hb); have NB417_418 := Aside0.mk (neL BK417.out hg); have NB418_417 := Aside0.mk (neR BK417.out hg); replace BK417 := Aside0.mk (blk_below BK417.out hb); clear hb hbox hg; have hnb56 := NB417_385.out; have hnc56 := NB385_417.out; have hnb57 := NB417_386.out; have hnc57 := NB386_417.out; have hnb58 := NB417_387.out; have hnc58 := NB387_417.out; have hnb59 := NB417_418.out; have hnc59 := NB418_417.out; have hcz60_0 : w55.cell? ⟨gb417, 0, none⟩ = some (.bool false) := bc0 BK417.out; have hcz60_1 : w55.cell? ⟨gb417, 1, none⟩ = some (.slice none 0 0) := bc1 BK417.out; have hfz60_0 := blk_frozen BK417.out 0; have hfz60_1 := blk_frozen BK417.out 1; obtain ⟨Ao61, co61, eo61⟩ := Kd.R_slice HO411.out; subst eo61; have hnb62 := NB418_385.out; have hnc62 := NB385_418.out; have hnb63 := NB418_386.out; have hnc63 := NB386_418.out; have hnb64 := NB418_387.out; have hnc64 := NB387_418.out; have hcz65_0 : w55.cell? ⟨gb418, 0, none⟩ = some (.bool false) := bc0 BK418.out; have hcz65_1 : w55.cell? ⟨gb418, 1, none⟩ = some (.slice none 0 0) := bc1 BK418.out; have hfz65_0 := blk_frozen BK418.out 0; have hfz65_1 := blk_frozen BK418.out 1; obtain ⟨Ao66, co66, eo66⟩ := Kd.R_slice HO415.out; subst eo66; have hcz67_0 : w55.cell? ⟨gb387, 0, none⟩ = some (.bool false) := bc0 BK387.out; have hcz67_1 : w55.cell? ⟨gb387, 1, none⟩ = some (.slice none 0 0) := bc1 BK387.out; have hfz67_0 := blk_frozen BK387.out 0; have hfz67_1 := blk_frozen BK387.out 1))
  refine bodyPost_ret (results_ct rfl _ _ gb387 24 #[.bool t408, .slice Ao61 t409.length co61] (0, 0) _ rfl (by refine blk_put (cs := #[.bool t408, .slice none 0 0]) ?_ 1 _ rfl; refine blk_put (cs := #[.bool false, .slice none 0 0]) ?_ 0 _ rfl; refine blk_far ?_ NB387_418.out _; refine blk_far ?_ NB387_418.out _; refine blk_far ?_ NB387_417.out _; refine blk_far ?_ NB387_417.out _; exact BK387.out) Try.underlying24 rfl (by kernel_rfl)) rfl ?_
  exact ⟨_, rfl, Kd.R_mono (Kd.R_far (p := ⟨gb387, 1, none⟩) (Kd.R_far (p := ⟨gb387, 0, none⟩) (Kd.R_far (p := ⟨gb418, 1, none⟩) (Kd.R_far (p := ⟨gb418, 0, none⟩) (Kd.R_far (p := ⟨gb417, 1, none⟩) (Kd.R_far (p := ⟨gb417, 0, none⟩) (Kd.R_types (Kd.R_types (Kd.R_types HO411.out BK417.out (by decide)) BK418.out (by decide)) BK387.out (by decide)) (fun _ hk => hk.1.1.2) (.bool t408)) (fun _ hk => hk.1.1.2) (.slice Ao61 t409.length co61)) (fun _ hk => hk.1.2) (.bool t412)) (fun _ hk => hk.1.2) (.slice Ao66 t413.length co66)) (fun _ hk => hk.2) (.bool t408)) (fun _ hk => hk.2) (.slice Ao61 t409.length co61)) (fun _ hk => trivial), by repeat first | exact HB.out | refine bxSet ?_ (by assumption) | apply below_alloc | apply pw_below_drewN⟩

end Go.Proofs.Ytdicjemjmlbmlaa.PA
/- What the functions of whole are, as numbers. -/
namespace Go.Proofs.Ytdicjemjmlbmlaa.S
set_option linter.unusedVariables false
set_option linter.unusedSimpArgs false
open Go.RowKit Go.Proofs.Ytdicjemjmlbmlaa.V Go.Proofs.Ytdicjemjmlbmlaa.PA Go.Proofs.Ytdicjemjmlbmlaa.H Go.Proofs.YtdicjemjmlbmlaaW.PrintWords Go.Proofs.YtdicjemjmlbmlaaW.PrintLast Go.Proofs.YtdicjemjmlbmlaaW.PrintMore

theorem evC {α β : Type} {o : Option α} {f : Nat → α → Option β} {a : α} {r : β} (h : o = some a) (k : Ev (fun n => f n a) r) : Ev (fun n => o.bind (f n)) r := by
 subst h; exact k
theorem evP {α : Type} {c : Prop} [Decidable c] {f g : Nat → Option α} {r : α} (h : c) (k : Ev f r) : Ev (fun n => if c then f n else g n) r := by
 simp only [if_pos h]; exact k
theorem evN {α : Type} {c : Prop} [Decidable c] {f g : Nat → Option α} {r : α} (h : ¬ c) (k : Ev g r) : Ev (fun n => if c then f n else g n) r := by
 simp only [if_neg h]; exact k
theorem evR {α : Type} {a r : α} (h : a = r) : Ev (fun _ => some a) r := by subst h; exact Ev.now _
theorem lim_wf {l : List Int} (h : ∀ x ∈ l, (Lit.int .u32 x).wf = true) : Lim l := fun x hx => by have := bounds_u32 (h x hx); omega
theorem len_add {x y : Int} (hx : 0 ≤ x) (hy : 0 ≤ y) : (dig (x + y)).length ≤ max (dig x).length (dig y).length + 1 := by
 refine dig_length_le (by omega) ?_
 have h1 := lt_of_dig_length (k := max (dig x).length (dig y).length) hx (by omega)
 have h2 := lt_of_dig_length (k := max (dig x).length (dig y).length) hy (by omega)
 rw [pw_succ]; have := pw_pos (max (dig x).length (dig y).length); omega
theorem len_mul {x y : Int} (hx : 0 ≤ x) (hy : 0 ≤ y) : (dig (x * y)).length ≤ (dig x).length + (dig y).length := by
 have h1 := lt_of_dig_length (k := (dig x).length) hx (Nat.le_refl _)
 have h2 := lt_of_dig_length (k := (dig y).length) hy (Nat.le_refl _)
 refine dig_length_le (Int.mul_nonneg hx hy) ?_
 rw [pw_add]
 have p1 := pw_pos (dig x).length
 exact Int.lt_of_le_of_lt (Int.mul_le_mul_of_nonneg_right (Int.le_of_lt h1) hy) (Int.mul_lt_mul_of_pos_left h2 p1)
theorem len_le {x y : Int} (hx : 0 ≤ x) (h : x ≤ y) : (dig x).length ≤ (dig y).length := by
 have h2 := lt_of_dig_length (k := (dig y).length) (Int.le_trans hx h) (Nat.le_refl _)
 exact dig_length_le hx (Int.lt_of_le_of_lt h h2)

/-- The number of a sign and limbs. -/
def wv (n : Bool) (l : List Int) : Int := if n then -val l else val l
def az (z : Int) : Int := if z < 0 then -z else z
theorem az_nonneg (z : Int) : 0 ≤ az z := by unfold az; split <;> omega
theorem az_neg (z : Int) : az (-z) = az z := by unfold az; split <;> split <;> omega
/-- A number in its own form. -/
def W (z : Int) : Bool × List Int := (decide (z < 0), dig (az z))
theorem W_lim (z : Int) : Lim (W z).2 := dig_lim _
theorem wv_W (z : Int) : wv (W z).1 (W z).2 = z := by
 unfold wv W az
 by_cases h : z < 0
 ·rw [decide_eq_true h, if_pos rfl, if_pos h, val_dig (by omega)]; omega
 ·rw [decide_eq_false h, if_neg Bool.false_ne_true, if_neg h, val_dig (by omega)]
theorem val_W (z : Int) : val (W z).2 = az z := val_dig (az_nonneg z)
theorem az_wv (n : Bool) {l : List Int} (h : Lim l) : az (wv n l) = val l := by
 have := val_nonneg h
 unfold az wv; cases n <;> simp <;> omega
/-- At most so many limbs. -/
def B (n : Nat) (z : Int) : Prop := (dig (az z)).length ≤ n
theorem B_in (n : Bool) {l : List Int} (h : Lim l) : B l.length (wv n l) := by unfold B; rw [az_wv n h]; exact dig_length l h
theorem B.mono {m n : Nat} {z : Int} (h : B m z) (hmn : m ≤ n) : B n z := Nat.le_trans h hmn
theorem B.neg {n : Nat} {z : Int} (h : B n z) : B n (-z) := by unfold B; rw [az_neg]; exact h
theorem B.add {m : Nat} {x y : Int} (hx : B m x) (hy : B m y) : B (m + 1) (x + y) := by
 have hl : az (x + y) ≤ az x + az y := by unfold az; split <;> split <;> split <;> omega
 have h1 := len_le (az_nonneg _) hl
 have h2 := len_add (az_nonneg x) (az_nonneg y)
 unfold B at *; omega
theorem az_mul (x y : Int) : az (x * y) = az x * az y := by
 unfold az
 rcases Int.lt_trichotomy x 0 with hx | hx | hx
 ·rcases Int.lt_trichotomy y 0 with hy | hy | hy
  ·have := Int.mul_pos_of_neg_of_neg hx hy
   rw [if_neg (by omega), if_pos hx, if_pos hy, Int.neg_mul_neg]
  ·subst hy; simp
  ·have := Int.mul_neg_of_neg_of_pos hx hy
   rw [if_pos this, if_pos hx, if_neg (by omega), Int.neg_mul]
 ·subst hx; simp
 ·rcases Int.lt_trichotomy y 0 with hy | hy | hy
  ·have := Int.mul_neg_of_pos_of_neg hx hy
   rw [if_pos this, if_neg (by omega), if_pos hy, Int.mul_neg]
  ·subst hy; simp
  ·have := Int.mul_pos hx hy
   rw [if_neg (by omega), if_neg (by omega), if_neg (by omega)]
theorem B.mul {m n : Nat} {x y : Int} (hx : B m x) (hy : B n y) : B (m + n) (x * y) := by
 have h2 := len_mul (az_nonneg x) (az_nonneg y)
 unfold B at *; rw [az_mul]; omega
theorem B.le {n : Nat} {x y : Int} (hy : B n y) (h : az x ≤ az y) : B n x := by
 have h1 := len_le (az_nonneg _) h
 unfold B at *; omega
theorem B.len {n : Nat} {z : Int} (h : B n z) : (W z).2.length ≤ n := h

theorem made_ev (b : Bool) (l : List Int) (h : Lim l) (hn : l.length ≤ 1000000000000) : whole_made.f b l = some (W (wv b l)) := by
 have v := val_nonneg h
 unfold whole_made.f W
 rw [norm_ev l h hn, Option.bind_some, az_wv b h]
 cases b with
 | true =>
  rw [if_pos rfl]
  congr 2
  refine decide_eq_decide.2 ?_
  have := dig_eq_nil v
  unfold wv; rw [if_pos rfl]
  constructor
  ·intro z
   have hne : ¬ val l = 0 := fun y => by rw [this.2 y] at z; simp at z
   omega
  ·intro z
   have hne : dig (val l) ≠ [] := fun y => by have := this.1 y; omega
   have := List.length_pos_iff.2 hne
   omega
 | false =>
  rw [if_neg (by decide)]
  congr 2
  unfold wv; rw [if_neg (by decide)]
  exact (decide_eq_false (by omega)).symm
theorem made2 (b : Bool) (l : List Int) (h : Lim l) (hn : l.length ≤ 1000000000000) : ((whole_made.f b l).bind fun bt => some (bt.1, bt.2)) = some (W (wv b l)) := by
 rw [made_ev b l h hn]; rfl
theorem wNorm_ev (b : Bool) (l : List Int) (h : Lim l) (hn : l.length ≤ 1000000000000) : whole_Norm.f b l = some (W (wv b l)) := made2 b l h hn
theorem wNeg_ev (b : Bool) (l : List Int) (h : Lim l) (hn : l.length ≤ 1000000000000) : whole_Neg.f b l = some (W (-wv b l)) := by
 unfold whole_Neg.f
 rw [made2 _ l h hn]
 congr 2; unfold wv; cases b <;> simp
def sg (z : Int) : Int := if z < 0 then -1 else if z > 0 then 1 else 0
theorem dig_az (z : Int) : ((dig (az z)).length : Int) > 0 ↔ z ≠ 0 := by
 have := dig_eq_nil (az_nonneg z)
 have e : az z = 0 ↔ z = 0 := by unfold az; split <;> omega
 constructor
 ·intro h hz
  rw [this.2 (e.2 hz)] at h; simp at h
 ·intro h
  have hne : dig (az z) ≠ [] := fun y => h (e.1 (this.1 y))
  have := List.length_pos_iff.2 hne
  omega
theorem wSign_ev (b : Bool) (l : List Int) (h : Lim l) (hn : l.length ≤ 1000000000000) : whole_Sign.f b l = some (sg (wv b l)) := by
 unfold whole_Sign.f
 rw [wNorm_ev b l h hn, Option.bind_some]
 generalize wv b l = z
 unfold W sg
 by_cases h1 : z < 0
 ·rw [decide_eq_true h1, if_pos rfl, if_pos h1]
 ·rw [decide_eq_false h1, if_neg Bool.false_ne_true, if_neg h1]
  by_cases h2 : z > 0
  ·rw [if_pos ((dig_az z).2 (by omega)), if_pos h2]
  ·rw [if_neg (fun y => (dig_az z).1 y (by omega)), if_neg h2]
theorem wOf_ev (n : Int) (h0 : -9223372036854775808 ≤ n) (h1 : n ≤ 9223372036854775807) : whole_Of.f n = some (W n) := by
 unfold whole_Of.f
 by_cases h : n < 0
 ·have e : IntKind.u64.wrap (-(IntKind.u64.wrap n)) = -n := by rw [u64e, u64e]; omega
  have hl : (dig (-n)).length ≤ 2 := dig_length_le (by omega) (by rw [show pw 2 = 18446744073709551616 from rfl]; omega)
  rw [if_pos h, e, of_ev (-n) (by omega) (by omega), Option.bind_some, made2 true _ (dig_lim _) (by omega)]
  congr 2; unfold wv; rw [if_pos rfl, val_dig (by omega)]; omega
 ·have e : IntKind.u64.wrap n = n := by rw [u64e]; omega
  have hl : (dig n).length ≤ 2 := dig_length_le (by omega) (by rw [show pw 2 = 18446744073709551616 from rfl]; omega)
  rw [if_neg h, e, of_ev n (by omega) (by omega), Option.bind_some, made2 false _ (dig_lim _) (by omega)]
  congr 2; unfold wv; rw [if_neg (by decide), val_dig (by omega)]
theorem wAdd_ev (a b : Bool) (x y : List Int) (hx : Lim x) (hy : Lim y) (nx : x.length < 1000000000) (ny : y.length < 1000000000) : Ev (fun k => whole_Add.f k a x b y) (W (wv a x + wv b y)) := by
 have vx := val_nonneg hx
 have vy := val_nonneg hy
 have dx := dig_length x hx
 have dy := dig_length y hy
 have lxy := len_add vx vy
 by_cases h : a = b
 ·subst h
  refine Ev.congr (fun k => rfl) (evP (by simp) (Ev.bind (add_ev x y hx hy nx ny) ?_))
  refine Ev.congr (fun k => made2 a _ (dig_lim _) (by omega)) (evR ?_)
  congr 1; unfold wv; rw [val_dig (by omega)]; cases a <;> simp <;> omega
 ·have hb : b = !a := by cases a <;> cases b <;> simp_all
  refine Ev.congr (fun k => rfl) (evN (by simpa using h) (Ev.bind (cmp_ev x y hx hy (by omega) (by omega)) ?_))
  by_cases hlt : val x < val y
  ·have l1 := len_le (x := val y - val x) (y := val y) (by omega) (by omega)
   refine evP (by unfold cmpI; rw [if_pos hlt]; decide) (Ev.bind (sub_ev y x hy hx ny nx) ?_)
   rw [if_neg (by omega)]
   refine Ev.congr (fun k => made2 b _ (dig_lim _) (by show (dig (val y - val x)).length ≤ _; omega)) (evR ?_)
   congr 1; show wv b (dig (val y - val x)) = _; rw [hb]; unfold wv; rw [val_dig (by omega)]; cases a <;> simp <;> omega
  ·have l1 := len_le (x := val x - val y) (y := val x) (by omega) (by omega)
   refine evN (by unfold cmpI; rw [if_neg hlt]; split <;> decide) (Ev.bind (sub_ev x y hx hy nx ny) ?_)
   rw [if_neg (by omega)]
   refine Ev.congr (fun k => made2 a _ (dig_lim _) (by show (dig (val x - val y)).length ≤ _; omega)) (evR ?_)
   congr 1; show wv a (dig (val x - val y)) = _; rw [hb]; unfold wv; rw [val_dig (by omega)]; cases a <;> simp <;> omega
theorem wMul_ev (a b : Bool) (x y : List Int) (hx : Lim x) (hy : Lim y) (nx : x.length < 100000000) (ny : y.length < 100000000) : Ev (fun k => whole_Mul.f k a x b y) (W (wv a x * wv b y)) := by
 have vx := val_nonneg hx
 have vy := val_nonneg hy
 have dx := dig_length x hx
 have dy := dig_length y hy
 have lxy := len_mul vx vy
 refine Ev.congr (fun k => rfl) (Ev.bind (mul_ev x y hx hy (by omega) (by omega)) ?_)
 refine Ev.congr (fun k => made2 _ _ (dig_lim _) (by omega)) (evR ?_)
 congr 1; unfold wv; rw [val_dig (Int.mul_nonneg vx vy)]; cases a <;> cases b <;> simp [Int.neg_mul, Int.mul_neg]
theorem euclid {a b q r : Int} (hb : b ≠ 0) (h : b * q + r = a) (h0 : 0 ≤ r) (h1 : r < b.natAbs) : a / b = q ∧ a % b = r := by
 by_cases hp : 0 < b
 ·exact div_unique hp (by rw [Int.mul_comm]; exact h) h0 (by omega)
 ·have := div_unique (a := a) (b := -b) (q := -q) (r := r) (by omega) (by rw [Int.neg_mul_neg, Int.mul_comm]; exact h) h0 (by omega)
  rw [Int.ediv_neg, Int.emod_neg] at this
  exact ⟨by omega, this.2⟩
theorem lim1 : Lim [1] := lim_one (by omega) (by omega)
theorem wDivMod_ev (a b : Bool) (x y : List Int) (hx : Lim x) (hy : Lim y) (nx : x.length < 100000000) (ny : y.length < 100000000) :
  Ev (fun k => whole_DivMod.f k a x b y) (if wv b y = 0 then (false, [], false, [], 7) else ((W (wv a x / wv b y)).1, (W (wv a x / wv b y)).2, (W (wv a x % wv b y)).1, (W (wv a x % wv b y)).2, 0)) := by
 have bx := B_in a hx
 have by' := B_in b hy
 refine Ev.congr (fun k => rfl) (evC (wNorm_ev a x hx (by omega)) (evC (wNorm_ev b y hy (by omega)) ?_))
 generalize wv a x = p at *
 generalize wv b y = q at *
 have lp := bx.len
 have lq := by'.len
 refine Ev.bind (divmod_ev _ _ (W_lim p) (W_lim q) (by omega) (by omega)) ?_
 rw [val_W, val_W]
 by_cases h0 : q = 0
 ·subst h0
  rw [show az 0 = 0 from rfl, if_pos rfl, if_pos rfl]
  exact evN (by decide) (evR rfl)
 have hq : az q ≠ 0 := by unfold az; split <;> omega
 have hq0 := az_nonneg q
 have hp0 := az_nonneg p
 rw [if_neg hq, if_neg h0]
 refine evP rfl ?_
 have d0 : 0 ≤ az p / az q := Int.ediv_nonneg hp0 hq0
 have m0 : 0 ≤ az p % az q := Int.emod_nonneg _ hq
 have m1 : az p % az q < az q := Int.emod_lt_of_pos _ (by omega)
 have dm : az q * (az p / az q) + az p % az q = az p := Int.mul_ediv_add_emod _ _
 have dle : az p / az q ≤ az p := Int.ediv_le_self _ hp0
 have l1 := len_le d0 dle
 have l2 := len_le m0 (Int.le_of_lt m1)
 have lW : ∀ z : Int, (W z).2.length = (dig (az z)).length := fun z => rfl
 rw [lW] at lp lq
 have plain : (p < 0 → az p % az q = 0) → p / q = wv (decide (p < 0) != decide (q < 0)) (dig (az p / az q)) ∧ p % q = az p % az q := by
  intro hs
  have hu : q * wv (decide (p < 0) != decide (q < 0)) (dig (az p / az q)) + az p % az q = p := by
   unfold wv
   rw [val_dig d0]
   generalize az p / az q = D at *
   unfold az at *
   by_cases h1 : p < 0
   ·have := hs h1
    by_cases h2 : q < 0
    ·simp only [h1, h2, decide_true, bne_self_eq_false, Bool.false_eq_true, if_false, if_true] at *
     grind
    ·simp only [h1, h2, decide_true, decide_false, if_false, if_true] at *
     simp at *
     grind
   ·by_cases h2 : q < 0
    ·simp only [h1, h2, decide_true, decide_false, if_false, if_true] at *
     simp at *
     grind
    ·simp only [h1, h2, decide_false, bne_self_eq_false, Bool.false_eq_true, if_false] at *
     exact dm
  have hr : az p % az q < q.natAbs := by
   have : az q = q.natAbs := by unfold az; split <;> omega
   omega
  exact euclid h0 hu m0 hr
 have hlen : ((dig (az p % az q)).length : Int) = 0 ↔ az p % az q = 0 := by
  have := dig_eq_nil m0
  rw [← this, ← List.length_eq_zero_iff]; omega
 have pos : (p < 0 → az p % az q = 0) → Ev (fun k => whole_DivMod.j0 k (dig (az p / az q)) (dig (az p % az q)) true (W p).1 (W p).2 (W q).1 (W q).2) ((W (p / q)).1, (W (p / q)).2, (W (p % q)).1, (W (p % q)).2, 0) := by
  intro hs
  obtain ⟨e1, e2⟩ := plain hs
  refine Ev.step (fun k => by rw [whole_DivMod.j0]) (evP rfl ?_)
  refine evC (made_ev _ _ (dig_lim _) (by omega)) (evC (made_ev _ _ (dig_lim _) (by omega)) (evR ?_))
  have e3 : wv false (dig (az p % az q)) = p % q := by unfold wv; rw [if_neg (by decide), val_dig m0, e2]
  show ((W (wv (decide (p < 0) != decide (q < 0)) (dig (az p / az q)))).1, (W (wv (decide (p < 0) != decide (q < 0)) (dig (az p / az q)))).2, (W (wv false (dig (az p % az q)))).1, (W (wv false (dig (az p % az q)))).2, (0 : Int)) = _
  rw [e3, ← e1]
 by_cases h1 : p < 0
 ·have hW : (W p).1 = true := decide_eq_true h1
  refine evP hW ?_
  by_cases h2 : az p % az q = 0
  ·have e : (((dig (az p % az q)).length : Int) == 0) = true := beq_iff_eq.2 (hlen.2 h2)
   simp only [e]
   exact pos (fun _ => h2)
  ·have e : (((dig (az p % az q)).length : Int) == 0) = false := by rw [beq_eq_false_iff_ne]; exact fun z => h2 (hlen.1 z)
   simp only [e]
   have l3 := len_le (x := az q - az p % az q) (y := az q) (by omega) (by omega)
   have l4 := len_add d0 (show (0 : Int) ≤ 1 by omega)
   have l5 : (dig 1).length ≤ 1 := dig_length_le (by omega) (by rw [show pw 1 = 4294967296 from rfl]; omega)
   have Sb := sub_ev (W q).2 (dig (az p % az q)) (W_lim q) (dig_lim _) (by rw [lW]; omega) (by omega)
   rw [val_W, val_dig m0, if_neg (by omega)] at Sb
   have Ad := add_ev (dig (az p / az q)) [1] (dig_lim _) lim1 (by omega) (by decide)
   rw [val_dig d0, val_one] at Ad
   refine Ev.step (fun k => by rw [whole_DivMod.j0]) (evN (by decide) ?_)
   refine Ev.bind Sb (Ev.bind Ad (evC (made_ev _ _ (dig_lim _) (by omega)) (evC (made_ev _ _ (dig_lim _) (by show (dig (az q - az p % az q)).length ≤ _; omega)) (evR ?_))))
   have e3 : wv false (dig (az q - az p % az q)) = az q - az p % az q := by unfold wv; rw [if_neg (by decide), val_dig (by omega)]
   have hu : q * wv ((W p).1 != (W q).1) (dig (az p / az q + 1)) + (az q - az p % az q) = p := by
    unfold wv
    rw [val_dig (by omega)]
    generalize az p / az q = D at *
    unfold W
    unfold az at *
    by_cases h2 : q < 0
    ·simp only [h1, h2, decide_true, bne_self_eq_false, Bool.false_eq_true, if_false, if_true] at *
     grind
    ·simp only [h1, h2, decide_true, decide_false, if_false, if_true] at *
     simp at *
     grind
   have hr : az q = q.natAbs := by unfold az; split <;> omega
   obtain ⟨z1, z2⟩ := euclid h0 hu (by omega) (by omega)
   show (_, _, (W (wv false (dig (az q - az p % az q)))).1, (W (wv false (dig (az q - az p % az q)))).2, (0 : Int)) = _
   rw [e3, z1, z2]
 ·have hW : (W p).1 = false := decide_eq_false h1
  exact evN (by rw [hW]; decide) (pos (fun y => absurd y h1))
/-- Rounded down. -/
def fl (a b : Int) : Int := if b < 0 then -a / -b else a / b
theorem sg_neg (z : Int) : sg z < 0 ↔ z < 0 := by unfold sg; split <;> (try split) <;> omega
theorem wFloor_ev (a b : Bool) (x y : List Int) (hx : Lim x) (hy : Lim y) (nx : x.length < 100000000) (ny : y.length < 100000000) :
  Ev (fun k => whole_Floor.f k a x b y) (if wv b y = 0 then (false, [], 7) else ((W (fl (wv a x) (wv b y))).1, (W (fl (wv a x) (wv b y))).2, 0)) := by
 have bx := (B_in a hx).neg.len
 have by' := (B_in b hy).neg.len
 refine Ev.congr (fun k => rfl) (evC (wSign_ev b y hy (by omega)) ?_)
 by_cases h : wv b y < 0
 ·refine evP ((sg_neg _).2 h) (evC (wNeg_ev a x hx (by omega)) (evC (wNeg_ev b y hy (by omega)) ?_))
  have D := wDivMod_ev (W (-wv a x)).1 (W (-wv b y)).1 (W (-wv a x)).2 (W (-wv b y)).2 (W_lim _) (W_lim _) (by omega) (by omega)
  rw [wv_W, wv_W, if_neg (by omega)] at D
  refine Ev.bind D (evR ?_)
  rw [if_neg (by omega)]; unfold fl; rw [if_pos h]
 ·refine evN (fun z => h ((sg_neg _).1 z)) (Ev.bind (wDivMod_ev a b x y hx hy nx ny) (evR ?_))
  unfold fl; rw [if_neg h]
  split <;> rfl
end Go.Proofs.Ytdicjemjmlbmlaa.S
/- lin.Norm: a sum's own form, by its numbers. -/
namespace Go.Proofs.Ytdicjemjmlbmlaa.H
set_option linter.unusedSimpArgs false
set_option linter.unusedVariables false
open Go.RowKit Go.Proofs.YtdicjemjmlbmlaaW.PrintWords Go.Proofs.YtdicjemjmlbmlaaW.PrintLast Go.Proofs.YtdicjemjmlbmlaaW.PrintMore Go.Proofs.Ytdicjemjmlbmlaa.PA Go.Proofs.Ytdicjemjmlbmlaa.V Go.Proofs.Ytdicjemjmlbmlaa.S
attribute [local go_sem] box_twice
/-- Limbs alone, and not too many. -/
def limB (l : List Int) : Bool := decide (l.length ≤ 1000000) && l.all (fun x => decide (0 ≤ x) && decide (x < 4294967296))
theorem limB_of {l : List Int} (h : limB l = true) : l.length ≤ 1000000 ∧ Lim l := by
  unfold limB at h
  simp only [Bool.and_eq_true, decide_eq_true_eq, List.all_eq_true] at h
  exact h
def guardL (l1 : List Int) (l2 : List S46) : Bool := limB l1 && decide (l2.length ≤ 1000000) && l2.all (fun x => limB x.f1.f1)
def prM (x : S46) : Int × Int := (x.f0, wv x.f1.f0 x.f1.f1)
def enP (q : Int × Int) : S46 := ⟨q.1, ⟨(W q.2).1, (W q.2).2⟩⟩
def prR (x : RM) : Int × Int := (x.v, wv x.ng x.xs)
theorem pr_toM (rs : List RM) : (rs.map toM).map prM = rs.map prR := by rw [List.map_map]; rfl
def lin_Norm.f (b : Bool) (l1 : List Int) (l2 : List S46) : Option (Bool × List Int × List S46) := if guardL l1 l2 = true then some ((W (wv b l1)).1, (W (wv b l1)).2, (normP (l2.map prM)).map enP) else none
/-- The sum of a group. -/
def sumR (g : List RM) : Int := (g.map (fun x => wv x.ng x.xs)).sum
theorem sumR_snoc (g : List RM) (x : RM) : sumR (g ++ [x]) = sumR g + wv x.ng x.xs := by simp [sumR]
theorem B_sum : ∀ (g : List RM), (∀ x ∈ g, limB x.xs = true) → B (1000000 + g.length) (sumR g)
  | [], _ => by unfold B sumR az; simp [dig, digN]
  | x :: r, h => by
    have h1 := B_sum r (fun y hy => h y (List.mem_cons_of_mem _ hy))
    obtain ⟨h2, h3⟩ := limB_of (h x List.mem_cons_self)
    have h4 := (B_in x.ng h3).mono (n := 1000000 + r.length) (by omega)
    have := h4.add h1
    have e : sumR (x :: r) = wv x.ng x.xs + sumR r := by simp [sumR]
    rw [e]
    exact this.mono (by simp only [List.length_cons]; omega)
/-- A group's own form behind what is less. -/
theorem norm_group (v : Int) : ∀ (g : List RM) (p : List (Int × Int)), (∀ x ∈ p, x.1 < v) → (∀ x ∈ g, x.v = v) → normP (p ++ g.map prR) = normP p ++ onev v (sumR g) := by
  intro g p hp hg
  suffices h : ∀ (g : List RM) (s : Int), (∀ x ∈ g, x.v = v) → (g.map prR).foldl (fun a q => ins q.1 q.2 a) (normP p ++ onev v s) = normP p ++ onev v (s + sumR g) by
    have := h g 0 hg
    rw [Int.zero_add, show onev v 0 = [] from rfl, List.append_nil] at this
    rw [← this]
    unfold normP
    rw [List.foldl_append]
  intro g
  induction g with
  | nil => intro s _; simp [sumR]
  | cons x r ih =>
    intro s h
    have hx := h x List.mem_cons_self
    rw [List.map_cons, List.foldl_cons]
    rw [show (prR x).1 = v from hx, ins_behind v (prR x).2 s (normP p) (fun y hy => by obtain ⟨z, hz, e⟩ := mem_norm hy; have := hp z hz; omega), ih _ (fun y hy => h y (List.mem_cons_of_mem _ hy))]
    congr 2
    have e : sumR (x :: r) = wv x.ng x.xs + sumR r := by simp [sumR]
    rw [e]
    show s + wv x.ng x.xs + sumR r = _
    omega
theorem cM_head {w : World} {A : Option Addr} {x : RM} {r : List RM} (h : Kd.C kM w A (x :: r).length (x :: r)) : ∃ ad, A = some ad ∧ w.cell? ad = some (.int .i64 x.v) ∧ w.cell? ⟨ad.block, ad.off + 1, none⟩ = some (.bool x.ng) ∧ w.cell? ⟨ad.block, ad.off + 2, none⟩ = some (.slice x.A x.xs.length x.c) := by
  obtain ⟨_, _, hc⟩ := h
  obtain ⟨ad, rfl, hcs⟩ := hc (by simp)
  obtain ⟨c, _, hk, hcc⟩ := hcs 0 x rfl
  have hk : c = encM x := hk
  subst hk
  have h0 := hcc 0 _ rfl
  have h1 := hcc 1 _ rfl
  have h2 := hcc 2 _ rfl
  refine ⟨ad, rfl, ?_, ?_, ?_⟩
  · have e : ad.add (0 * kM.sz + 0) = ad := by cases ad; simp [Addr.add]
    rw [e] at h0; exact h0
  · rw [show 0 * kM.sz + 1 = 0 + 1 from rfl, add_field _ 0 1 (by omega)] at h1
    have e : ad.add 0 = ad := by cases ad; rfl
    rw [e] at h1; exact h1
  · rw [show 0 * kM.sz + 2 = 0 + 2 from rfl, add_field _ 0 2 (by omega)] at h2
    have e : ad.add 0 = ad := by cases ad; rfl
    rw [e] at h2; exact h2
theorem cM_at {w : World} {A : Option Addr} {n : Nat} {rs : List RM} (h : Kd.C kM w A n rs) (i : Int) (h0 : 0 ≤ i) (h1 : i < n) : ∃ ad x, A = some ad ∧ rs[i.toNat]? = some x ∧ w.cell? (ad.add (i.toNat * 3)) = some (.int .i64 x.v) ∧ w.cell? ⟨(ad.add (i.toNat * 3)).block, (ad.add (i.toNat * 3)).off + 1, none⟩ = some (.bool x.ng) ∧ w.cell? ⟨(ad.add (i.toNat * 3)).block, (ad.add (i.toNat * 3)).off + 2, none⟩ = some (.slice x.A x.xs.length x.c) := by
  obtain ⟨hl, _, hc⟩ := h
  obtain ⟨ad, rfl, hcs⟩ := hc (by omega)
  have hi : i.toNat < rs.length := by omega
  obtain ⟨c, _, hk, hcc⟩ := hcs i.toNat rs[i.toNat] (List.getElem?_eq_getElem hi)
  have hk : c = encM rs[i.toNat] := hk
  subst hk
  have g0 := hcc 0 _ rfl
  have g1 := hcc 1 _ rfl
  have g2 := hcc 2 _ rfl
  refine ⟨ad, rs[i.toNat], rfl, List.getElem?_eq_getElem hi, g0, ?_, ?_⟩
  · rw [add_field _ _ 1 (by omega)] at g1; exact g1
  · rw [add_field _ _ 2 (by omega)] at g2; exact g2
theorem drop_at {α β : Type} (f : α → β) (l : List α) (i : Int) (h0 : 0 ≤ i) (x : α) (hx : l[i.toNat]? = some x) : (l.take (i + 1).toNat).map f = (l.take i.toNat).map f ++ [f x] := by
  rw [show (i + 1).toNat = i.toNat + 1 by omega, List.take_add_one, hx]; simp
theorem cM_tail {w : World} {ad : Addr} {y : RM} {r : List RM} (h : Kd.C kM w (some ad) (y :: r).length (y :: r)) : Kd.C kM w (some ⟨ad.block, ad.off + 3, none⟩) r.length r := by
  obtain ⟨_, hn, hc⟩ := h
  obtain ⟨ad', e, hcs⟩ := hc (by simp)
  cases e
  refine ⟨rfl, by simp only [List.length_cons] at hn; omega, fun hp => ⟨_, rfl, fun j p hj => ?_⟩⟩
  obtain ⟨c, hl, hk, hcc⟩ := hcs (j + 1) p hj
  refine ⟨c, hl, hk, fun i u hu => ?_⟩
  have h3 := hcc i u hu
  have e1 : (⟨ad.block, ad.off + 3, none⟩ : Addr).add (j * kM.sz + i) = ad.add ((j + 1) * kM.sz + i) := by
    show (⟨ad.block, ad.off + 3, none⟩ : Addr).add (j * 3 + i) = ad.add ((j + 1) * 3 + i)
    have this := add_field ad 0 3 (by omega)
    rw [show ad.add 0 = ad by cases ad; rfl, Nat.zero_add] at this
    rw [show (j + 1) * 3 + i = 3 + (j * 3 + i) by omega, ← Go.Deep.add_add ad 3, this]
  rw [e1]; exact h3
theorem cM_none (w : World) (A : Option Addr) : Kd.C kM w A ([] : List RM).length [] := ⟨rfl, Nat.zero_le _, fun h => absurd h (Nat.lt_irrefl 0)⟩
theorem set2_other (W : World) (g a b : Nat) (u v : Value) (k : Nat) (h : k ≠ g) : ((W.setCell ⟨g, a, none⟩ u).setCell ⟨g, b, none⟩ v).heap[k]? = W.heap[k]? := (Below.heap_setCell _ _ _ k h).trans (Below.heap_setCell _ _ _ k h)
set_option maxHeartbeats 8000000 in
set_option maxRecDepth 100000 in
theorem lin_Norm.calls (a0_0 : Bool) (A0_1 : Option Addr) (c0_1 : Nat) (l0_1 : List Int) (A0_2 : Option Addr) (c0_2 : Nat) (l0_2 : List (S46)) (r1 : Bool) (r2 : List Int) (r3 : List (S46)) (w : World) (hr0_1 : Kd.C (Kd.int .u32) w A0_1 l0_1.length l0_1) (hc0_1 : l0_1.length ≤ c0_1) (hr0_2 : Kd.C k46 w A0_2 l0_2.length l0_2) (hc0_2 : l0_2.length ≤ c0_2) (h : lin_Norm.f a0_0 l0_1 l0_2 = some (r1, r2, r3)) :
    Calls Try.prog 20 #[.agg #[.bool a0_0, .slice A0_1 l0_1.length c0_1, .slice A0_2 l0_2.length c0_2]] w fun e w' => ∃ v1_ v2_ : Value, e = .returned (.agg #[.bool r1, v1_, v2_]) ∧ Kd.R (Kd.int .u32) 81 w' w.heap.size (fun _ => True) v1_ r2 ∧ Kd.S k46 46 w' w.heap.size (fun k_ => some k_ ≠ (v1_ : Value).ownBlock) v2_ r3 ∧ Below w.heap.size w w' := by
  have mixed : Try.prog.follows Departure.mixedOrders = true := by kernel_rfl
  have hu27 := Try.underlying27
  have hu24 := Try.underlying24
  have hu46 := Try.underlying46
  unfold lin_Norm.f at h
  split at h
  case isFalse => cases h
  case isTrue hg =>
  unfold guardL at hg
  rw [Bool.and_eq_true, Bool.and_eq_true, decide_eq_true_eq, List.all_eq_true] at hg
  obtain ⟨⟨hg1, hg2⟩, hg3⟩ := hg
  obtain ⟨hn1, hl1⟩ := limB_of hg1
  have hN := wNorm_ev a0_0 l0_1 hl1 (by omega)
  obtain ⟨rs, rfl, hrs, hld⟩ := raws hr0_2
  rw [List.length_map] at hrs hc0_2 hg2 ⊢
  rw [pr_toM] at h
  simp only [Option.some.injEq, Prod.mk.injEq] at h
  obtain ⟨rfl, rfl, hr3⟩ := h
  have hlm : ∀ x ∈ rs, limB x.xs = true := fun x hx => hg3 (toM x) (List.mem_map_of_mem hx)
  have HR1 := Aside0.mk hr0_1
  have HC1 := Aside0.mk hc0_1
  have HRS := Aside0.mk hrs
  have HLD := Aside0.mk hld
  have HLM := Aside0.mk hlm
  have HLEN := Aside0.mk hg2
  have HR3 := Aside0.mk hr3
  generalize hWn : W (wv a0_0 l0_1) = Wn at hN ⊢
  obtain ⟨nb, nl⟩ := Wn
  have HN := Aside0.mk hN
  clear hr0_1 hc0_1 hrs hld hlm hg2 hr3 hN hWn hg1 hg3 hn1 hl1 hc0_2 hr0_2
  go_enter Try.func20, Try.ntmps20
  go_wp2_with (first
    | ((with_reducible refine gate_dst (N := 1) rfl ?_); refine box_event ?hg (N := 1) ?hd (cs := #[.bool a0_0, .slice A0_1 l0_1.length c0_1, .slice A0_2 rs.length c0_2]) (t := 27) ?hr ?_; (case hd => rfl); (case hg => rfl); (case hr => first | (go_simp; done) | (go_simp; rfl)); intro gA hgA w1 hbox hb; have BA1 := Aside0.mk hbox; have GA := Aside0.mk (show w.heap.size ≤ gA by rw [hgA]; exact Nat.le_refl _); have HB1 := Aside0.mk hb; clear hgA hbox hb)
    | ((with_reducible refine gate_dst (N := 2) rfl ?_); refine box_event ?hg (N := 2) ?hd (cs := #[.bool false, .slice none 0 0, .slice none 0 0]) (t := 27) ?hr ?_; (case hd => rfl); (case hg => rfl); (case hr => first | (go_simp; done) | (go_simp; rfl)); intro gR hgR w2 hbox hb; have BR2 := Aside0.mk hbox; have BA2 := Aside0.mk (blk_below BA1.out hb); have GR := Aside0.mk (show w.heap.size ≤ gR by rw [hgR]; exact below_size HB1.out); have GRA := Aside0.mk (show gA ≠ gR by rw [hgR]; exact Nat.ne_of_lt (Array.getElem?_eq_some_iff.1 BA1.out).1); have HB2 := Aside0.mk (below_step HB1.out hb); clear hgR hbox hb; have hcA2 : w2.cell? ⟨gA, 2, none⟩ = some (.slice A0_2 rs.length c0_2) := (blk_cell BA2.out 2).trans rfl)
    | (go_at_call 57; (with_reducible refine (clone_mono _ _ rs _ ?s1 ?s2).mono ?_); (case s1 => exact Kd.C_below HRS.out HB2.out); (case s2 => have := HLEN.out; omega); rintro e w3 ⟨vl, rfl, ho, hb⟩; have HO3 := Aside0.mk ho; have HB23 := Aside0.mk hb; clear ho hb)
    | (go_at_call 58; refine (sort_mono w2.heap.size vl rs _ HO3.out ?s3).mono ?_; (case s3 => have := HLEN.out; omega); rintro e w4 ⟨rfl, ts, hp, hs, ho, hgr⟩; have HP := Aside0.mk hp; have HS := Aside0.mk hs; have HO4 := Aside0.mk ho; have HB24 := Aside0.mk (Below.grown HB23.out hgr (below_size HB23.out) (fun k hk => Kd.R_base HO3.out k hk)); clear hp hs ho hgr; have BA4 := Aside0.mk (blk_below BA2.out HB24.out); have BR4 := Aside0.mk (blk_below BR2.out HB24.out); have hcA0 : w4.cell? ⟨gA, 0, none⟩ = some (.bool a0_0) := (blk_cell BA4.out 0).trans rfl; have hcA1 : w4.cell? ⟨gA, 1, none⟩ = some (.slice A0_1 l0_1.length c0_1) := (blk_cell BA4.out 1).trans rfl; have HB4 := Aside0.mk (below_step HB2.out HB24.out))
    | (go_at_call 51; (with_reducible refine (whole_Norm.calls a0_0 _ _ l0_1 nb nl _ ?s4 HC1.out HN.out).mono ?_); (case s4 => exact Kd.C_below HR1.out HB4.out); rintro e w5 ⟨vC, rfl, ho, hb⟩; have HOC := Aside0.mk ho; have HB45 := Aside0.mk hb; have HB5 := Aside0.mk (below_step HB4.out hb); have BA5 := Aside0.mk (blk_below BA4.out hb); have BR5 := Aside0.mk (blk_below BR4.out hb); have HO5 := Aside0.mk (Kd.R_below HO4.out hb); clear ho hb; obtain ⟨AC, cC, eC⟩ := Kd.R_slice HOC.out; subst eC)
    | ((with_reducible refine gate_dst (N := 4) rfl ?_); refine box_event ?hg (N := 4) ?hd (cs := #[.bool false, .slice none 0 0, .slice none 0 0]) (t := 27) ?hr ?_; (case hd => rfl); (case hg => rfl); (case hr => first | (go_simp; done) | (go_simp; rfl)); intro gO hgO w6 hbox hb; have BO6 := Aside0.mk hbox; have BA6 := Aside0.mk (blk_below BA5.out hb); have BR6 := Aside0.mk (blk_below BR5.out hb); have GO := Aside0.mk (show w5.heap.size ≤ gO by rw [hgO]; exact Nat.le_refl _); have HB56 := Aside0.mk hb; clear hgO hbox hb; have hcz0 : w6.cell? ⟨gO, 0, none⟩ = some (.bool false) := (blk_cell BO6.out 0).trans rfl; have hcz1 : w6.cell? ⟨gO, 1, none⟩ = some (.slice none 0 0) := (blk_cell BO6.out 1).trans rfl; have hcz2 : w6.cell? ⟨gO, 2, none⟩ = some (.slice none 0 0) := (blk_cell BO6.out 2).trans rfl; have hfz0 := blk_frozen BO6.out 0; have hfz1 := blk_frozen BO6.out 1; have hfz2 := blk_frozen BO6.out 2))
  obtain ⟨AL, cL, eL⟩ := Kd.R_slice HO5.out
  subst eL
  have HCL := Aside0.mk (Kd.R_reads' HO5.out)
  have HPL := Aside0.mk HP.out.length_eq
  have HM := Aside0.mk (fun y (hy : y ∈ ts) => (⟨HLM.out y ((HP.out.mem_iff).1 hy), HLD.out y ((HP.out.mem_iff).1 hy)⟩ : limB y.xs = true ∧ Leads w y))
  go_loopg [3] (ts.length + 1) (fun kq v3 wr => ∃ (A : Option Addr) (c : Nat) (u : Value) (done rest os : List RM), v3 = .slice A rest.length c ∧ Aside0 (ts = done ++ rest) ∧ Aside0 (rest.length < kq) ∧ Aside0 (rest.length ≤ c ∧ Kd.C kM w5 A rest.length rest) ∧ Aside0 (∀ x ∈ done, ∀ y ∈ rest, x.v < y.v) ∧ Aside0 (os.map toM = (normP (done.map prR)).map enP) ∧ Aside0 (wr.heap[gO]? = some (.cells #[.bool nb, .slice AC nl.length cC, u] 27 (0, 0))) ∧ Aside0 (Kd.R kM 46 wr w5.heap.size (fun _ => True) u os) ∧ Aside0 (∀ x ∈ os, OwnK wr w5.heap.size x) ∧ Aside0 (Apart os) ∧ Aside0 (Below w5.heap.size w5 wr))
  case atStart =>
    refine ⟨AL, cL, .slice none 0 0, [], ts, [], rfl, ⟨rfl⟩, ⟨Nat.lt_succ_self _⟩, ⟨HCL.out.2⟩, ⟨by simp⟩, ⟨rfl⟩, ⟨?_⟩, ⟨Kd.R_nil _ _ _ _ _⟩, ⟨by simp⟩, ⟨List.Pairwise.nil⟩, ⟨?_⟩⟩
    · refine blk_put (cs := #[.bool nb, .slice AC nl.length cC, .slice none 0 0]) ?_ 2 _ rfl
      refine blk_put (cs := #[.bool nb, .slice none 0 0, .slice none 0 0]) ?_ 1 _ rfl
      refine blk_put (cs := #[.bool false, .slice none 0 0, .slice none 0 0]) ?_ 0 _ rfl
      exact BO6.out
    · repeat first | exact HB56.out | refine below_set ?_ GO.out
  case round =>
    clear hcz0 hcz1 hcz2 hfz0 hfz1 hfz2 hcA0 hcA1 hcA2
    obtain ⟨A, c, u, done, rest, os, rfl, HT, HQ, HC, HD, HO, BO, HU, HK, HA, HB⟩ := hrel
    obtain ⟨Au, cu, eu⟩ := Kd.R_slice HU.out
    subst eu
    have hco0 : wr.cell? ⟨gO, 0, none⟩ = some (.bool nb) := (blk_cell BO.out 0).trans rfl
    have hco1 : wr.cell? ⟨gO, 1, none⟩ = some (.slice AC nl.length cC) := (blk_cell BO.out 1).trans rfl
    have hco2 : wr.cell? ⟨gO, 2, none⟩ = some (.slice Au os.length cu) := (blk_cell BO.out 2).trans rfl
    cases gk with
    | zero => exact absurd HQ.out (Nat.not_lt_zero _)
    | succ k1 =>
    cases rest with
    | nil =>
      have BR := Aside0.mk (blk_below BR5.out HB.out)
      have hcr0 : wr.cell? ⟨gR, 0, none⟩ = some (.bool false) := (blk_cell BR.out 0).trans rfl
      have hcr1 : wr.cell? ⟨gR, 1, none⟩ = some (.slice none 0 0) := (blk_cell BR.out 1).trans rfl
      have hcr2 : wr.cell? ⟨gR, 2, none⟩ = some (.slice none 0 0) := (blk_cell BR.out 2).trans rfl
      have hfr0 := blk_frozen BR.out 0
      have hfr1 := blk_frozen BR.out 1
      have hfr2 := blk_frozen BR.out 2
      go_wp2
      have hd : done = ts := by have := HT.out; rw [List.append_nil] at this; exact this.symm
      have hne : ∀ (k : Nat) (cells : Array Value) (t : Nat), wr.heap[k]? = some (Obj.cells cells t (0, 0)) → t ≠ 27 → k ≠ gR := fun k cells t hk ht => box_ne BR.out hk (fun e => ht e.symm)
      have hfin : (normP (done.map prR)).map enP = r3 := by rw [hd, norm_perm (HP.out.map prR)]; exact HR3.out
      have hlb : w.heap.size ≤ w5.heap.size := HB5.out.size
      have hclt : ∀ k, (Value.slice AC nl.length cC).ownBlock = some k → k < w5.heap.size := Kd.R_lt HOC.out
      have hcown : OwnK w5 w.heap.size ⟨0, false, AC, cC, nl⟩ := Kd.R_lower HOC.out HB4.out.size
      refine bodyPost_ret (results_cell_row rfl _ _ gR 27 #[.bool nb, .slice AC nl.length cC, .slice Au os.length cu] (0, 0) _ rfl (by refine blk_put (cs := #[.bool nb, .slice AC nl.length cC, .slice none 0 0]) ?_ 2 _ rfl; refine blk_put (cs := #[.bool nb, .slice none 0 0, .slice none 0 0]) ?_ 1 _ rfl; refine blk_put (cs := #[.bool false, .slice none 0 0, .slice none 0 0]) ?_ 0 _ rfl; exact BR.out) Try.underlying27 rfl (by kernel_rfl)) rfl ?_
      refine ⟨_, _, rfl, ?_, ?_, ?_⟩
      · exact (hcown.below HB.out).move (fun k cells hk => set3_other _ _ _ _ _ _ _ _ k (hne k cells _ hk (by decide)))
      · rw [← hfin, ← HO.out]
        refine S_of_outs (Kd.R_lower (kM_move HU.out (fun k cells hk => set3_other _ _ _ _ _ _ _ _ k (hne k cells _ hk (by decide)))) hlb) (fun y hy => ((HK.out y hy).lower hlb).move (fun k cells hk => set3_other _ _ _ _ _ _ _ _ k (hne k cells _ hk (by decide)))) HA.out (fun k hk e => ?_) (fun y hy k hk e => ?_)
        · have h1 := Kd.R_base HU.out k hk
          have h2 := hclt k e.symm
          omega
        · have h1 := ((HK.out y hy).lt k hk).1
          have h2 := hclt k e.symm
          omega
      · repeat first | exact below_step HB5.out HB.out | refine below_set ?_ GR.out
    | cons x r =>
      obtain ⟨wo, rfl⟩ : ∃ wo : World, wo = wr := ⟨_, rfl⟩
      obtain ⟨ad, rfl, hx0, hx1, hx2⟩ := cM_head HC.out.2
      have hy0 := (HB.out.cell (World.block_lt_of_cell? w5 _ hx0)).trans hx0
      have d1 : decide (0 < (x :: r).length) = true := decide_eq_true (by simp)
      have d2 : decide ((0 : Int) < ((x :: r).length : Int)) = true := decide_eq_true (by simp only [List.length_cons]; omega)
      have p1 : (0 < (x :: r).length) = True := eq_true (by simp)
      have p2 : ((0 : Int) < ((x :: r).length : Int)) = True := eq_true (by simp only [List.length_cons]; omega)
      clear hx0 hx1 hx2
      go_wp2_with (first
        | ((with_reducible refine gate_dst (N := 5) rfl ?_); refine box_event ?hg (N := 5) ?hd (cs := #[.int .i64 0, .bool false, .slice none 0 0]) (t := 46) ?hr ?_; (case hd => rfl); (case hg => rfl); (case hr => first | (go_simp; done) | (go_simp; rfl)); intro gX hgX w7 hbox hb; have BX7 := Aside0.mk hbox; have GX := Aside0.mk (show wo.heap.size ≤ gX by rw [hgX]; exact Nat.le_refl _); have HB7 := Aside0.mk hb; clear hgX hbox hb; have hcz0 : w7.cell? ⟨gX, 0, none⟩ = some (.int .i64 0) := (blk_cell BX7.out 0).trans rfl; have hcz1 : w7.cell? ⟨gX, 1, none⟩ = some (.bool false) := (blk_cell BX7.out 1).trans rfl; have hcz2 : w7.cell? ⟨gX, 2, none⟩ = some (.slice none 0 0) := (blk_cell BX7.out 2).trans rfl; have hfz0 := blk_frozen BX7.out 0; have hfz1 := blk_frozen BX7.out 1; have hfz2 := blk_frozen BX7.out 2))
      clear d1 d2 p1 p2 hco0 hco1 hco2 hy0
      go_loopg [3] (r.length + 2) (fun kq v3 w' => ∃ (A2 : Option Addr) (c2 : Nat) (grp rest2 : List RM) (b : Bool) (xs : List Int) (A4 : Option Addr) (c4 : Nat), v3 = .slice A2 rest2.length c2 ∧ Aside0 (x :: r = grp ++ rest2) ∧ Aside0 (rest2.length < kq) ∧ Aside0 (rest2.length ≤ c2 ∧ Kd.C kM w5 A2 rest2.length rest2) ∧ Aside0 (∀ y ∈ grp, y.v = x.v) ∧ Aside0 ((grp = [] ∧ b = false ∧ xs = []) ∨ (grp ≠ [] ∧ (b, xs) = W (sumR grp))) ∧ Aside0 (w'.heap[gX]? = some (.cells #[.int .i64 x.v, .bool b, .slice A4 xs.length c4] 46 (0, 0))) ∧ Aside0 (Kd.R (Kd.int .u32) 81 w' wo.heap.size (fun _ => True) (.slice A4 xs.length c4) xs) ∧ Aside0 (Below wo.heap.size wo w'))
      case atStart =>
        refine ⟨some ad, c, [], x :: r, false, [], none, 0, rfl, ⟨rfl⟩, ⟨by simp⟩, ⟨HC.out⟩, ⟨by simp⟩, ⟨.inl ⟨rfl, rfl, rfl⟩⟩, ⟨?_⟩, ⟨Kd.R_nil _ _ _ _ _⟩, ⟨?_⟩⟩
        · refine blk_put (cs := #[.int .i64 x.v, .bool false, .slice none 0 0]) ?_ 2 _ rfl
          refine blk_put (cs := #[.int .i64 x.v, .bool false, .slice none 0 0]) ?_ 1 _ rfl
          refine blk_put (cs := #[.int .i64 0, .bool false, .slice none 0 0]) ?_ 0 _ rfl
          exact BX7.out
        · repeat first | exact HB7.out | refine below_set ?_ GX.out
      case round =>
        clear hcz0 hcz1 hcz2 hfz0 hfz1 hfz2
        obtain ⟨A2, c2, grp, rest2, b, xs, A4, c4, rfl, HT2, HQ2, HC2, HG, HW, BX, HV, HB2'⟩ := hrel
        have hcx0 : wr.cell? ⟨gX, 0, none⟩ = some (.int .i64 x.v) := (blk_cell BX.out 0).trans rfl
        have hcx1 : wr.cell? ⟨gX, 1, none⟩ = some (.bool b) := (blk_cell BX.out 1).trans rfl
        have hcx2 : wr.cell? ⟨gX, 2, none⟩ = some (.slice A4 xs.length c4) := (blk_cell BX.out 2).trans rfl
        have hfx1 := blk_frozen BX.out 1
        have hfx2 := blk_frozen BX.out 2
        have hts : ts = done ++ (grp ++ rest2) := by rw [← HT2.out]; exact HT.out
        have HTS := Aside0.mk hts
        have hgl : grp.length ≤ 1000000 := by have h1 := congrArg List.length hts; have h2 := HPL.out; have h3 := HLEN.out; rw [List.length_append, List.length_append] at h1; omega
        have hsum : wv b xs = sumR grp ∧ Lim xs ∧ xs.length ≤ 3000000 := by
          rcases HW.out with ⟨rfl, rfl, rfl⟩ | ⟨_, hw⟩
          · exact ⟨rfl, (fun _ h => absurd h List.not_mem_nil), by simp⟩
          · have h1 : b = (W (sumR grp)).1 := congrArg Prod.fst hw
            have h2 : xs = (W (sumR grp)).2 := congrArg Prod.snd hw
            have h3 := (B_sum grp (fun y hy => (HM.out y (by rw [hts]; simp [hy])).1)).len
            rw [h1, h2]
            exact ⟨wv_W _, W_lim _, by omega⟩
        have HSUM := Aside0.mk hsum
        clear hts hsum
        cases gk with
        | zero => exact absurd HQ2.out (Nat.not_lt_zero _)
        | succ k2 =>
        by_cases hex : ∃ y r2, rest2 = y :: r2 ∧ y.v = x.v
        · obtain ⟨y, r2, rfl, hyv⟩ := hex
          obtain ⟨ad2, rfl, hx0, hx1, hx2⟩ := cM_head HC2.out.2
          have hb5 := below_step HB.out HB2'.out
          have hy0 := (hb5.cell (World.block_lt_of_cell? w5 _ hx0)).trans hx0
          have hy1 := (hb5.cell (World.block_lt_of_cell? w5 _ hx1)).trans hx1
          have hy2 := (hb5.cell (World.block_lt_of_cell? w5 _ hx2)).trans hx2
          have d1 : decide (0 < (y :: r2).length) = true := decide_eq_true (by simp)
          have d2 : decide ((0 : Int) < ((y :: r2).length : Int)) = true := decide_eq_true (by simp only [List.length_cons]; omega)
          have p1 : (0 < (y :: r2).length) = True := eq_true (by simp)
          have p2 : ((0 : Int) < ((y :: r2).length : Int)) = True := eq_true (by simp only [List.length_cons]; omega)
          have b1 : (y.v == x.v) = true := beq_iff_eq.2 hyv
          have p3 : (1 ≤ (r2.length : Int) + 1) = True := eq_true (by omega)
          obtain ⟨hyl, hyd⟩ := HM.out y (by rw [HTS.out]; simp)
          obtain ⟨hyn, hyL⟩ := limB_of hyl
          obtain ⟨kA, hkA⟩ := (wAdd_ev b y.ng xs y.xs HSUM.out.2.1 hyL (by have := HSUM.out.2.2; omega) (by omega)).rounds
          rw [HSUM.out.1, ← sumR_snoc] at hkA
          generalize hWE' : W (sumR (grp ++ [y])) = Wn at hkA
          obtain ⟨nb2, nl2⟩ := Wn
          have HKA := Aside0.mk hkA
          have HWE := Aside0.mk hWE'
          have HYD := Aside0.mk (hyd.below (below_step HB5.out hb5))
          have HYV := Aside0.mk hyv
          clear hx0 hx1 hx2 hb5 hyl hyd hyn hyL hkA hWE' hyv
          go_wp2_with fail
          go_big_region_o
          go_wp2_with fail
          refine start_ (n := 12) (S := fun w' => w'.cell? ⟨gX, 1, none⟩ = some (.bool b) ∧ w'.cell? ⟨gX, 2, none⟩ = some (.slice A4 xs.length c4) ∧ w'.cell? ⟨ad2.block, ad2.off + 1, none⟩ = some (.bool y.ng) ∧ w'.cell? ⟨ad2.block, ad2.off + 2, none⟩ = some (.slice y.A y.xs.length y.c)) (ds := [10]) #[false, false, false, false, false, false, false, false, false, false, false, false] (by kernel_rfl) rfl rfl ⟨hcx1, hcx2, hy1, hy2⟩ (fun hHeld => ?_)
          refine pure_ (i := 0) (N := some 35) (v := ?_) (a' := ?_) #[true, false, false, false, false, false, false, false, false, false, false, false] rfl rfl (by kernel_rfl) (fun _ _ _ h => h) (Or.inl ⟨by rfl, ?_⟩) ?_ ?_
          rotate_left
          · intro w'
            go_simp
            with_reducible rfl
          rotate_left
          · simp only [Act.put, List.setIfInBounds_toArray, List.set_cons_zero, List.set_cons_succ, i64_w, i32_w]
            rfl
          refine pure_ (i := 2) (N := some 37) (v := ?_) (a' := ?_) #[true, false, true, false, false, false, false, false, false, false, false, false] rfl rfl (by kernel_rfl) (fun _ _ _ h => h) (Or.inl ⟨by rfl, ?_⟩) ?_ ?_
          rotate_left
          · intro w'
            go_simp
            with_reducible rfl
          rotate_left
          · simp only [Act.put, List.setIfInBounds_toArray, List.set_cons_zero, List.set_cons_succ, i64_w, i32_w]
            rfl
          refine pure_ (i := 3) (N := some 38) (v := ?_) (a' := ?_) #[true, false, true, true, false, false, false, false, false, false, false, false] rfl rfl (by kernel_rfl) (fun _ _ _ h => h) (Or.inl ⟨by rfl, ?_⟩) ?_ ?_
          rotate_left
          · intro w'
            go_simp
            with_reducible rfl
          rotate_left
          · simp only [Act.put, List.setIfInBounds_toArray, List.set_cons_zero, List.set_cons_succ, i64_w, i32_w]
            rfl
          refine pure_ (i := 4) (N := some 39) (v := ?_) (a' := ?_) #[true, false, true, true, true, false, false, false, false, false, false, false] rfl rfl (by kernel_rfl) (fun _ _ _ h => h) (Or.inl ⟨by rfl, ?_⟩) ?_ ?_
          rotate_left
          · intro w'
            go_simp
            with_reducible rfl
          rotate_left
          · simp only [Act.put, List.setIfInBounds_toArray, List.set_cons_zero, List.set_cons_succ, i64_w, i32_w]
            rfl
          refine pure_ (i := 7) (N := some 42) (v := ?_) (a' := ?_) #[true, false, true, true, true, false, false, true, false, false, false, false] rfl rfl (by kernel_rfl) (fun _ _ _ h => h) (Or.inl ⟨by rfl, ?_⟩) ?_ ?_
          rotate_left
          · intro w'
            go_simp
            with_reducible rfl
          rotate_left
          · simp only [Act.put, List.setIfInBounds_toArray, List.set_cons_zero, List.set_cons_succ, i64_w, i32_w]
            rfl
          refine pure_ (i := 8) (N := some 43) (v := ?_) (a' := ?_) #[true, false, true, true, true, false, false, true, true, false, false, false] rfl rfl (by kernel_rfl) (fun _ _ _ h => h) (Or.inl ⟨by rfl, ?_⟩) ?_ ?_
          rotate_left
          · intro w'
            go_simp
            with_reducible rfl
          rotate_left
          · simp only [Act.put, List.setIfInBounds_toArray, List.set_cons_zero, List.set_cons_succ, i64_w, i32_w]
            rfl
          refine take_ (i := 1) (N := some 36) (v := ?_) (a' := ?_) #[true, true, true, true, true, false, false, true, true, false, false, false] rfl rfl (by kernel_rfl) (fun _ _ _ h => h) (Or.inl ⟨by rfl, ?_⟩) hHeld ?_ ?_
          rotate_left
          · rintro w' ⟨s0, s1, s2, s3⟩
            go_simp
            with_reducible rfl
          rotate_left
          · simp only [Act.put, List.setIfInBounds_toArray, List.set_cons_zero, List.set_cons_succ, i64_w, i32_w]
            rfl
          refine take_ (i := 5) (N := some 40) (v := ?_) (a' := ?_) #[true, true, true, true, true, true, false, true, true, false, false, false] rfl rfl (by kernel_rfl) (fun _ _ _ h => h) (Or.inl ⟨by rfl, ?_⟩) hHeld ?_ ?_
          rotate_left
          · rintro w' ⟨s0, s1, s2, s3⟩
            go_simp
            with_reducible rfl
          rotate_left
          · simp only [Act.put, List.setIfInBounds_toArray, List.set_cons_zero, List.set_cons_succ, i64_w, i32_w]
            rfl
          refine one_ (i := 6) (N := some 41) #[true, true, true, true, true, true, true, true, true, false, false, false] rfl rfl (by kernel_rfl) (by decide) (fun K hK => ?_)
          refine goes_ Try.func36 (by kernel_rfl) rfl #[.agg #[.bool b, .slice A4 xs.length c4], .agg #[.bool y.ng, .slice y.A y.xs.length y.c]] (by rfl) rfl rfl (by simp only [List.map_toArray, List.map_cons, List.map_nil]; rfl) ?_
          with_reducible refine (whole_Add.calls kA b _ _ xs y.ng _ _ y.xs nb2 nl2 _ ?s1 ?s2 ?s3 ?s4 HKA.out).mono ?_
          (case s1 => exact (Kd.R_reads' HV.out).2.2)
          (case s2 => exact (Kd.R_reads' HV.out).2.1)
          (case s3 => exact HYD.out.2)
          (case s4 => exact HYD.out.1)
          rintro e w8 ⟨v8, rfl, ho, hb⟩
          obtain ⟨A8, c8, e8⟩ := Kd.R_slice ho
          subst e8
          have HV8 := Aside0.mk ho
          have HB8 := Aside0.mk (below_step (show Below wo.heap.size wo wr.drew.drew by repeat first | exact HB2'.out | apply below_drew1) hb)
          have BX8 := Aside0.mk (blk_below (show wr.drew.drew.heap[gX]? = _ from BX.out) hb)
          have hz1 := (hb.cell (World.block_lt_of_cell? wr _ hy1)).trans hy1
          have hz2 := (hb.cell (World.block_lt_of_cell? wr _ hy2)).trans hy2
          have hcx3 : w8.cell? ⟨gX, 1, none⟩ = some (.bool b) := (blk_cell BX8.out 1).trans rfl
          have hcx4 : w8.cell? ⟨gX, 2, none⟩ = some (.slice A4 xs.length c4) := (blk_cell BX8.out 2).trans rfl
          have hfx3 := blk_frozen BX8.out 1
          have hfx4 := blk_frozen BX8.out 2
          clear ho hb
          refine ⟨_, rfl, ?_⟩
          refine hK.out _ _ ⟨hcx3, hcx4, hz1, hz2⟩ (fun hHeld => ?_)
          clear hK K
          refine norm_ (a' := ?_) ?_ ?_
          rotate_left
          · show Act.put _ (some 41) _ = _
            simp only [Act.put, List.setIfInBounds_toArray, List.set_cons_zero, List.set_cons_succ, i64_w, i32_w]
            rfl
          refine pure_ (i := 9) (N := some 44) (v := ?_) (a' := ?_) #[true, true, true, true, true, true, true, true, true, true, false, false] rfl rfl (by kernel_rfl) (fun _ _ _ h => h) (Or.inl ⟨by rfl, ?_⟩) ?_ ?_
          rotate_left
          · intro w'
            go_simp
            with_reducible rfl
          rotate_left
          · simp only [Act.put, List.setIfInBounds_toArray, List.set_cons_zero, List.set_cons_succ, i64_w, i32_w]
            rfl
          refine last_ (i := 10) (N := none) #[true, true, true, true, true, true, true, true, true, true, true, false] rfl rfl (by kernel_rfl) (by decide) (fun K hK => ?_)
          refine skip_ (w1 := ?_) (by rfl) rfl ?_ ?_
          rotate_left
          · go_simp
            rfl
          refine hK.out _ _ ?_
          clear hK K
          refine pure_ (i := 11) (N := some 3) (v := ?_) (a' := ?_) #[true, true, true, true, true, true, true, true, true, true, true, true] rfl rfl (by kernel_rfl) (fun _ _ _ h => h) (Or.inl ⟨by rfl, ?_⟩) ?_ ?_
          rotate_left
          · intro w'
            go_simp
            with_reducible rfl
          rotate_left
          · simp only [Act.put, List.setIfInBounds_toArray, List.set_cons_zero, List.set_cons_succ, i64_w, i32_w]
            rfl
          refine done_ (by kernel_rfl) ?_
          go_wp2_with fail
          all_goals (
            have hKX : OwnK ((w8.setCell ⟨gX, 1, none⟩ (.bool nb2)).setCell ⟨gX, 2, none⟩ (.slice A8 nl2.length c8)) wo.heap.size ⟨0, false, A8, c8, nl2⟩ :=
              OwnK.move (x := ⟨0, false, A8, c8, nl2⟩) (Kd.R_lower HV8.out HB2'.out.size) (fun k cells hk => set2_other _ _ _ _ _ _ k (box_ne BX8.out hk (by decide)))
            have hBX : ((w8.setCell ⟨gX, 1, none⟩ (.bool nb2)).setCell ⟨gX, 2, none⟩ (.slice A8 nl2.length c8)).heap[gX]? = some (.cells #[.int .i64 x.v, .bool nb2, .slice A8 nl2.length c8] 46 (0, 0)) := by
              refine blk_put (cs := #[.int .i64 x.v, .bool nb2, .slice A4 xs.length c4]) ?_ 2 _ rfl
              refine blk_put (cs := #[.int .i64 x.v, .bool b, .slice A4 xs.length c4]) ?_ 1 _ rfl
              exact BX8.out
            have hBB : Below wo.heap.size wo ((w8.setCell ⟨gX, 1, none⟩ (.bool nb2)).setCell ⟨gX, 2, none⟩ (.slice A8 nl2.length c8)) := by repeat first | exact HB8.out | refine below_set ?_ GX.out
            have hq : r2.length < k2 := by have := HQ2.out; simp only [List.length_cons] at this; omega
            have hg2 : ∀ z ∈ grp ++ [y], z.v = x.v := fun z hz => (List.mem_append.1 hz).elim (HG.out z) (fun h => by rw [List.mem_singleton.1 h]; exact HYV.out)
            have hcap := HC2.out.1
            rw [List.length_cons] at hcap
            go_roundg k2
            case measure => omega
            case rel =>
              refine ⟨_, _, grp ++ [y], r2, nb2, nl2, A8, c8, rfl, ⟨by rw [HT2.out]; simp⟩, ⟨hq⟩, ⟨?_⟩, ⟨hg2⟩, ⟨.inr ⟨by simp, HWE.out.symm⟩⟩, ⟨hBX⟩, ⟨hKX⟩, ⟨hBB⟩⟩
              first
                | exact ⟨by omega, cM_tail HC2.out.2⟩
                | (have e0 : r2 = [] := List.eq_nil_of_length_eq_zero (by omega)
                   subst e0
                   exact ⟨Nat.le_refl _, cM_none _ _⟩))
        · have hwf : grp ≠ [] ∧ (b, xs) = W (sumR grp) := by
            rcases HW.out with ⟨rfl, _⟩ | hw
            · exact absurd ⟨x, r, HT2.out.symm, rfl⟩ hex
            · exact hw
          have HWF := Aside0.mk hwf
          have hrest : rest2 = [] ∨ ∃ y r2, rest2 = y :: r2 ∧ y.v ≠ x.v := by
            cases rest2 with
            | nil => exact .inl rfl
            | cons y r2 => exact .inr ⟨y, r2, rfl, fun e => hex ⟨y, r2, rfl, e⟩⟩
          have HREST := Aside0.mk hrest
          have hHD : ∀ a ∈ done ++ grp, ∀ z ∈ rest2, a.v < z.v := by
            have hsrt := HS.out
            rw [HTS.out, List.pairwise_append] at hsrt
            obtain ⟨_, hs2, _⟩ := hsrt
            rw [List.pairwise_append] at hs2
            obtain ⟨_, hs3, hs4⟩ := hs2
            intro a ha z hz
            rcases List.mem_append.1 ha with ha | ha
            · exact HD.out a ha z (by rw [HT2.out]; simp [hz])
            · have ev := HG.out a ha
              have h1 := hs4 a ha z hz
              rcases hrest with rfl | ⟨y, r2, rfl, hyv⟩
              · cases hz
              · have h2 := hs4 a ha y List.mem_cons_self
                rcases List.mem_cons.1 hz with rfl | hz
                · omega
                · have h3 := (List.pairwise_cons.1 hs3).1 z hz
                  omega
          have HHD := Aside0.mk hHD
          have hgrp := norm_group x.v grp (done.map prR) (fun q hq => by
            obtain ⟨a, ha, rfl⟩ := List.mem_map.1 hq
            exact HD.out a ha x List.mem_cons_self) HG.out
          rw [← List.map_append] at hgrp
          have hsgv := wSign_ev b xs HSUM.out.2.1 (by have := HSUM.out.2.2; omega)
          rw [HSUM.out.1] at hsgv
          have hq3 : rest2.length < k1 := by
            have h1 := HQ.out
            have h2 := congrArg List.length HT2.out
            have h3 : 0 < grp.length := List.length_pos_iff.2 hwf.1
            rw [List.length_append] at h2
            omega
          have HQ3 := Aside0.mk hq3
          clear hwf hex hHD hq3
          by_cases hz : sumR grp = 0
          · have hs0 : sg (sumR grp) = 0 := by rw [hz]; rfl
            rw [hs0] at hsgv
            rw [show onev x.v (sumR grp) = [] by unfold onev; rw [if_pos hz], List.append_nil] at hgrp
            have HGRP := Aside0.mk hgrp
            obtain ⟨s, hs⟩ : ∃ s : Int, s = 0 := ⟨0, rfl⟩
            rw [← hs] at hsgv
            have HSG := Aside0.mk hsgv
            have c1 : (s != 0) = false := by rw [hs]; rfl
            clear hgrp hsgv hs0 hz hs
            rcases hrest with rfl | ⟨y, r2, rfl, hyv⟩
            rotate_left
            obtain ⟨ad2, rfl, hx0, hx1, hx2⟩ := cM_head HC2.out.2
            have hb5 := below_step HB.out HB2'.out
            have hy0 := (hb5.cell (World.block_lt_of_cell? w5 _ hx0)).trans hx0
            have d1 : decide (0 < (y :: r2).length) = true := decide_eq_true (by simp)
            have d2 : decide ((0 : Int) < ((y :: r2).length : Int)) = true := decide_eq_true (by simp only [List.length_cons]; omega)
            have p1 : (0 < (y :: r2).length) = True := eq_true (by simp)
            have p2 : ((0 : Int) < ((y :: r2).length : Int)) = True := eq_true (by simp only [List.length_cons]; omega)
            have b1 : (y.v == x.v) = false := beq_eq_false_iff_ne.2 hyv
            clear hx0 hx1 hx2 hb5
            all_goals go_wp2_with fail
            all_goals go_big_region_o
            all_goals go_wp2_with (go_at_call 19; (with_reducible refine (whole_Sign.calls b _ _ xs s _ ?s1 ?s2 HSG.out).mono ?_); (case s1 => exact (Kd.R_reads' HV.out).2.2); (case s2 => exact (Kd.R_reads' HV.out).2.1); rintro e w9 ⟨rfl, hb⟩; have HB9 := Aside0.mk (below_step (show Below wo.heap.size wo wr.drew by repeat first | exact HB2'.out | apply below_drew1) hb); have BX9 := Aside0.mk (blk_below (show wr.drew.heap[gX]? = _ from BX.out) hb); have HV9 := Aside0.mk (Kd.R_below (show Kd.R (Kd.int .u32) 81 wr.drew wo.heap.size (fun _ => True) (.slice A4 xs.length c4) xs from HV.out) hb); clear hb)
            all_goals (go_roundg k1)
            all_goals (try (case measure => omega))
            all_goals (case rel => first
              | exact ⟨_, _, .slice Au os.length cu, done ++ grp, y :: r2, os, rfl, ⟨by rw [HTS.out, List.append_assoc]⟩, HQ3, HC2, HHD, ⟨by rw [HGRP.out]; exact HO.out⟩, ⟨blk_below BO.out HB9.out⟩, ⟨Kd.R_below HU.out HB9.out⟩, ⟨fun z hz => (HK.out z hz).below HB9.out⟩, HA, ⟨below_step HB.out HB9.out⟩⟩
              | exact ⟨_, _, .slice Au os.length cu, done ++ grp, [], os, rfl, ⟨by rw [HTS.out, List.append_assoc]⟩, HQ3, HC2, HHD, ⟨by rw [HGRP.out]; exact HO.out⟩, ⟨blk_below BO.out HB9.out⟩, ⟨Kd.R_below HU.out HB9.out⟩, ⟨fun z hz => (HK.out z hz).below HB9.out⟩, HA, ⟨below_step HB.out HB9.out⟩⟩)
          · have hs0 : sg (sumR grp) ≠ 0 := by unfold sg; split <;> (try split) <;> omega
            rw [show onev x.v (sumR grp) = [(x.v, sumR grp)] by unfold onev; rw [if_neg hz]] at hgrp
            have HGRP := Aside0.mk hgrp
            obtain ⟨s, hs⟩ : ∃ s : Int, s = sg (sumR grp) := ⟨_, rfl⟩
            rw [← hs] at hsgv hs0
            have HSG := Aside0.mk hsgv
            have c1 : (s != 0) = true := bne_iff_ne.2 hs0
            have HOL := Aside0.mk (show os.length ≤ 1000000 by
              have h1 := congrArg List.length HO.out
              have h2 := norm_len (done.map prR)
              have h3 := congrArg List.length HTS.out
              have h4 := HPL.out
              have h5 := HLEN.out
              rw [List.length_map, List.length_map] at h1
              rw [List.length_map] at h2
              rw [List.length_append] at h3
              omega)
            have hmap : (os ++ [(⟨x.v, b, A4, c4, xs⟩ : RM)]).map toM = (normP ((done ++ grp).map prR)).map enP := by
              rw [HGRP.out, List.map_append, List.map_append, HO.out]
              have e1 : b = (W (sumR grp)).1 := congrArg Prod.fst HWF.out.2
              have e2 : xs = (W (sumR grp)).2 := congrArg Prod.snd HWF.out.2
              rw [e1, e2]; rfl
            have HMAP := Aside0.mk hmap
            clear hmap
            clear hgrp hsgv hs0 hz hs
            rcases hrest with rfl | ⟨y, r2, rfl, hyv⟩
            rotate_left
            obtain ⟨ad2, rfl, hx0, hx1, hx2⟩ := cM_head HC2.out.2
            have hb5 := below_step HB.out HB2'.out
            have hy0 := (hb5.cell (World.block_lt_of_cell? w5 _ hx0)).trans hx0
            have d1 : decide (0 < (y :: r2).length) = true := decide_eq_true (by simp)
            have d2 : decide ((0 : Int) < ((y :: r2).length : Int)) = true := decide_eq_true (by simp only [List.length_cons]; omega)
            have p1 : (0 < (y :: r2).length) = True := eq_true (by simp)
            have p2 : ((0 : Int) < ((y :: r2).length : Int)) = True := eq_true (by simp only [List.length_cons]; omega)
            have b1 : (y.v == x.v) = false := beq_eq_false_iff_ne.2 hyv
            clear hx0 hx1 hx2 hb5
            all_goals go_wp2_with fail
            all_goals go_big_region_o
            all_goals go_wp2_with (first
              | (go_at_call 19; (with_reducible refine (whole_Sign.calls b _ _ xs s _ ?s1 ?s2 HSG.out).mono ?_); (case s1 => exact (Kd.R_reads' HV.out).2.2); (case s2 => exact (Kd.R_reads' HV.out).2.1); rintro e w9 ⟨rfl, hb⟩; have HB9 := Aside0.mk (below_step (show Below wo.heap.size wo wr.drew by repeat first | exact HB2'.out | apply below_drew1) hb); have BX9 := Aside0.mk (blk_below (show wr.drew.heap[gX]? = _ from BX.out) hb); have HV9 := Aside0.mk (Kd.R_below (show Kd.R (Kd.int .u32) 81 wr.drew wo.heap.size (fun _ => True) (.slice A4 xs.length c4) xs from HV.out) hb); have BO9 := Aside0.mk (blk_below BO.out HB9.out); have hcx0 : w9.cell? ⟨gX, 0, none⟩ = some (.int .i64 x.v) := (blk_cell BX9.out 0).trans rfl; have hcx1 : w9.cell? ⟨gX, 1, none⟩ = some (.bool b) := (blk_cell BX9.out 1).trans rfl; have hcx2 : w9.cell? ⟨gX, 2, none⟩ = some (.slice A4 xs.length c4) := (blk_cell BX9.out 2).trans rfl; have hco2 : w9.cell? ⟨gO, 2, none⟩ = some (.slice Au os.length cu) := (blk_cell BO9.out 2).trans rfl; clear hb)
              | ((with_reducible refine gate_builtin (b := .append) (xs := #[.tmp 50, .tmp 52]) rfl ?_); at_builtin; refine Kd.R_append kM (w0 := w5) w5.heap.size rfl (.tmp 50) (.tmp 52) 25 46 (.agg #[.int .i64 0, .bool false, .slice none 0 0]) 40 rfl Try.underlying25 infoM rfl (by decide) (by decide) (.slice Au os.length cu) os ⟨x.v, b, A4, c4, xs⟩ (encM ⟨x.v, b, A4, c4, xs⟩) (fun _ => True) (fun _ => False) rfl rfl rfl (fun _ h => h.elim) (fun _ _ => trivial) ?aO ?aB ?aS ?aL ?_; (case aO => exact Kd.R_below HU.out HB9.out); (case aB => exact below_step HB.out HB9.out); (case aS => exact (below_step HB.out HB9.out).size); (case aL => have := HOL.out; omega); intro v10 w10 ho hb hg hat; obtain ⟨A10, c10, e10⟩ := Kd.R_slice ho; subst e10; rw [List.length_append, List.length_singleton] at ho; have HO10 := Aside0.mk ho; have HB10 := Aside0.mk hb; have HG10 := Aside0.mk hg; have BO10 := Aside0.mk ((hg.block gO (Array.getElem?_eq_some_iff.1 BO9.out).1 (fun e => by obtain ⟨cs, hc⟩ := Kd.R_typed (Kd.R_below HU.out HB9.out) gO e.symm; exact absurd rfl (box_ne BO9.out hc (by decide)))).trans BO9.out); clear ho hb hg hat; have hcp2 : w10.cell? ⟨gO, 2, none⟩ = some (.slice Au os.length cu) := (blk_cell BO10.out 2).trans rfl; have hfp2 := blk_frozen BO10.out 2))
            all_goals (go_roundg k1)
            all_goals (try (case measure => omega))
            all_goals (have hkg := keeps_grown HG10.out (Kd.R_typed (Kd.R_below HU.out HB9.out)) (by decide))
            all_goals (have hks := fun (k : Nat) (cells : Array Value) (t : Nat) (ht : t ≠ 27) (hk : w10.heap[k]? = some (Obj.cells cells t (0, 0))) => Below.heap_setCell w10 ⟨gO, 2, none⟩ (.slice A10 (os.length + 1) c10) k (box_ne BO10.out hk (fun e => ht e.symm)))
            all_goals (have hbo : (w10.setCell ⟨gO, 2, none⟩ (.slice A10 (os.length + 1) c10)).heap[gO]? = some (.cells #[.bool nb, .slice AC nl.length cC, .slice A10 (os.length + 1) c10] 27 (0, 0)) := blk_put (cs := #[.bool nb, .slice AC nl.length cC, .slice Au os.length cu]) BO10.out 2 _ rfl)
            all_goals (have hkk : ∀ z ∈ os ++ [(⟨x.v, b, A4, c4, xs⟩ : RM)], OwnK (w10.setCell ⟨gO, 2, none⟩ (.slice A10 (os.length + 1) c10)) w5.heap.size z := fun z hz => (List.mem_append.1 hz).elim (fun h => (((HK.out z h).below HB9.out).move hkg).move (fun k cells hk => hks k cells _ (by decide) hk)) (fun h => by rw [List.mem_singleton.1 h]; exact ((OwnK.lower (x := ⟨x.v, b, A4, c4, xs⟩) HV9.out HB.out.size).move hkg).move (fun k cells hk => hks k cells _ (by decide) hk)))
            all_goals (have hap : Apart (os ++ [(⟨x.v, b, A4, c4, xs⟩ : RM)]) := apart_snoc HA.out (fun z hz k hk e => by have h1 := ((HK.out z hz).lt k hk).2; have h2 := Kd.R_base HV9.out k e; omega))
            all_goals (case rel => first
              | exact ⟨_, _, _, done ++ grp, y :: r2, os ++ [⟨x.v, b, A4, c4, xs⟩], rfl, ⟨by rw [HTS.out, List.append_assoc]⟩, HQ3, HC2, HHD, HMAP, ⟨hbo⟩, ⟨kM_move HO10.out (fun k cells hk => hks k cells _ (by decide) hk)⟩, ⟨hkk⟩, ⟨hap⟩, ⟨below_set HB10.out GO.out⟩⟩
              | exact ⟨_, _, _, done ++ grp, [], os ++ [⟨x.v, b, A4, c4, xs⟩], rfl, ⟨by rw [HTS.out, List.append_assoc]⟩, HQ3, HC2, HHD, HMAP, ⟨hbo⟩, ⟨kM_move HO10.out (fun k cells hk => hks k cells _ (by decide) hk)⟩, ⟨hkk⟩, ⟨hap⟩, ⟨below_set HB10.out GO.out⟩⟩)
end Go.Proofs.Ytdicjemjmlbmlaa.H
/- lin.by: a sum's parts taken a g-th part as often, by their numbers. -/
namespace Go.Proofs.Ytdicjemjmlbmlaa.H
set_option linter.unusedSimpArgs false
set_option linter.unusedVariables false
open Go.RowKit Go.Proofs.YtdicjemjmlbmlaaW.PrintWords Go.Proofs.YtdicjemjmlbmlaaW.PrintLast Go.Proofs.YtdicjemjmlbmlaaW.PrintMore Go.Proofs.Ytdicjemjmlbmlaa.PA Go.Proofs.Ytdicjemjmlbmlaa.V Go.Proofs.Ytdicjemjmlbmlaa.S
attribute [local go_sem] box_twice
def guardB (l2 : List S46) (b : Bool) (l1 : List Int) : Bool := limB l1 && decide (wv b l1 ≠ 0) && decide (l2.length ≤ 1000000) && l2.all (fun x => limB x.f1.f1)
def quoM (d : Int) (q : Int × Int) : S46 := enP (q.1, q.2 / d)
def lin_by.f (_ : Bool) (_ : List Int) (l2 : List S46) (b : Bool) (l1 : List Int) (b2 : Bool) (l3 : List Int) : Option (Bool × List Int × List S46) := if guardB l2 b l1 = true then some (b2, l3, l2.map (fun x => quoM (wv b l1) (prM x))) else none
set_option maxHeartbeats 8000000 in
set_option maxRecDepth 100000 in
theorem lin_by.calls (a0_0 : Bool) (A0_1 : Option Addr) (c0_1 : Nat) (l0_1 : List Int) (A0_2 : Option Addr) (c0_2 : Nat) (l0_2 : List (S46)) (a1_0 : Bool) (A1_1 : Option Addr) (c1_1 : Nat) (l1_1 : List Int) (a2_0 : Bool) (P2_1_ : Nat → Prop) (A2_1 : Option Addr) (c2_1 : Nat) (l2_1 : List Int) (r1 : Bool) (r2 : List Int) (r3 : List (S46)) (w : World) (hr0_1 : Kd.C (Kd.int .u32) w A0_1 l0_1.length l0_1) (hc0_1 : l0_1.length ≤ c0_1) (hr0_2 : Kd.C k46 w A0_2 l0_2.length l0_2) (hc0_2 : l0_2.length ≤ c0_2) (hr1_1 : Kd.C (Kd.int .u32) w A1_1 l1_1.length l1_1) (hc1_1 : l1_1.length ≤ c1_1) (hs2_1 : Kd.V (Kd.int .u32) 81 w w.heap.size (fun k_ => P2_1_ k_) (.slice A2_1 l2_1.length c2_1) l2_1) (h : lin_by.f a0_0 l0_1 l0_2 a1_0 l1_1 a2_0 l2_1 = some (r1, r2, r3)) :
    Calls Try.prog 43 #[.agg #[.bool a0_0, .slice A0_1 l0_1.length c0_1, .slice A0_2 l0_2.length c0_2], .agg #[.bool a1_0, .slice A1_1 l1_1.length c1_1], .agg #[.bool a2_0, .slice A2_1 l2_1.length c2_1]] w fun e w' => ∃ v1_ v2_ : Value, e = .returned (.agg #[.bool r1, v1_, v2_]) ∧ Kd.V (Kd.int .u32) 81 w' w.heap.size (fun k_ => (P2_1_ k_ ∨ w.heap.size ≤ k_) ∧ some k_ ≠ (v2_ : Value).ownBlock) v1_ r2 ∧ Kd.S k46 46 w' w.heap.size (fun k_ => w.heap.size ≤ k_) v2_ r3 ∧ Below w.heap.size w w' := by
  have mixed : Try.prog.follows Departure.mixedOrders = true := by kernel_rfl
  have hu27 := Try.underlying27
  have hu24 := Try.underlying24
  have hu46 := Try.underlying46
  unfold lin_by.f at h
  split at h
  case isFalse => cases h
  case isTrue hg =>
  unfold guardB at hg
  rw [Bool.and_eq_true, Bool.and_eq_true, Bool.and_eq_true, decide_eq_true_eq, decide_eq_true_eq, List.all_eq_true] at hg
  obtain ⟨⟨⟨hg1, hg0⟩, hg2⟩, hg3⟩ := hg
  obtain ⟨hn1, hl1⟩ := limB_of hg1
  obtain ⟨rs, rfl, hrs, hld⟩ := raws hr0_2
  rw [List.length_map] at hrs hc0_2 hg2 ⊢
  rw [List.map_map] at h
  simp only [Option.some.injEq, Prod.mk.injEq] at h
  obtain ⟨rfl, rfl, hr3⟩ := h
  have hr3 : rs.map (fun x => quoM (wv a1_0 l1_1) (prR x)) = r3 := hr3
  have hlm : ∀ x ∈ rs, limB x.xs = true := fun x hx => hg3 (toM x) (List.mem_map_of_mem hx)
  have HR1 := Aside0.mk hr1_1
  have HC1 := Aside0.mk hc1_1
  have HS2 := Aside0.mk hs2_1
  have HRS := Aside0.mk hrs
  have HLD := Aside0.mk hld
  have HLM := Aside0.mk hlm
  have HLEN := Aside0.mk hg2
  have HR3 := Aside0.mk hr3
  have HG := Aside0.mk (show Lim l1_1 ∧ l1_1.length ≤ 1000000 ∧ wv a1_0 l1_1 ≠ 0 from ⟨hl1, hn1, hg0⟩)
  clear hr0_1 hc0_1 hrs hld hlm hg2 hr3 hg1 hg3 hn1 hl1 hc0_2 hr0_2 hr1_1 hc1_1 hs2_1 hg0
  go_enter Try.func43, Try.ntmps43
  go_wp2_with (first
    | ((with_reducible refine gate_dst (N := 3) rfl ?_); refine box_event ?hg (N := 3) ?hd (cs := #[.bool a0_0, .slice A0_1 l0_1.length c0_1, .slice A0_2 rs.length c0_2]) (t := 27) ?hr ?_; (case hd => rfl); (case hg => rfl); (case hr => first | (go_simp; done) | (go_simp; rfl)); intro gA hgA w1 hbox hb; have BA1 := Aside0.mk hbox; have HB1 := Aside0.mk hb; clear hgA hbox hb)
    | ((with_reducible refine gate_dst (N := 4) rfl ?_); refine box_event ?hg (N := 4) ?hd (cs := #[.bool a1_0, .slice A1_1 l1_1.length c1_1]) (t := 24) ?hr ?_; (case hd => rfl); (case hg => rfl); (case hr => first | (go_simp; done) | (go_simp; rfl)); intro gG hgG w2 hbox hb; have BG2 := Aside0.mk hbox; have BA2 := Aside0.mk (blk_below BA1.out hb); have HB2 := Aside0.mk (below_step HB1.out hb); clear hgG hbox hb)
    | ((with_reducible refine gate_dst (N := 5) rfl ?_); refine box_event ?hg (N := 5) ?hd (cs := #[.bool a2_0, .slice A2_1 l2_1.length c2_1]) (t := 24) ?hr ?_; (case hd => rfl); (case hg => rfl); (case hr => first | (go_simp; done) | (go_simp; rfl)); intro gC hgC w3 hbox hb; have BC3 := Aside0.mk hbox; have BA3 := Aside0.mk (blk_below BA2.out hb); have BG3 := Aside0.mk (blk_below BG2.out hb); have HB3 := Aside0.mk (below_step HB2.out hb); clear hgC hbox hb)
    | ((with_reducible refine gate_dst (N := 6) rfl ?_); refine box_event ?hg (N := 6) ?hd (cs := #[.bool false, .slice none 0 0, .slice none 0 0]) (t := 27) ?hr ?_; (case hd => rfl); (case hg => rfl); (case hr => first | (go_simp; done) | (go_simp; rfl)); intro gR hgR w4 hbox hb; have BR4 := Aside0.mk hbox; have BA4 := Aside0.mk (blk_below BA3.out hb); have BG4 := Aside0.mk (blk_below BG3.out hb); have BC4 := Aside0.mk (blk_below BC3.out hb); have GR := Aside0.mk (show w.heap.size ≤ gR by rw [hgR]; exact below_size HB3.out); have HB4 := Aside0.mk (below_step HB3.out hb); clear hgR hbox hb; have hcC0 : w4.cell? ⟨gC, 0, none⟩ = some (.bool a2_0) := (blk_cell BC4.out 0).trans rfl; have hcC1 : w4.cell? ⟨gC, 1, none⟩ = some (.slice A2_1 l2_1.length c2_1) := (blk_cell BC4.out 1).trans rfl)
    | ((with_reducible refine gate_dst (N := 7) rfl ?_); refine box_event ?hg (N := 7) ?hd (cs := #[.bool false, .slice none 0 0, .slice none 0 0]) (t := 27) ?hr ?_; (case hd => rfl); (case hg => rfl); (case hr => first | (go_simp; done) | (go_simp; rfl)); intro gO hgO w5 hbox hb; have BO5 := Aside0.mk hbox; have BA5 := Aside0.mk (blk_below BA4.out hb); have BG5 := Aside0.mk (blk_below BG4.out hb); have BR5 := Aside0.mk (blk_below BR4.out hb); have GO := Aside0.mk (show w4.heap.size ≤ gO by rw [hgO]; exact Nat.le_refl _); have HB45 := Aside0.mk hb; have hcA2 : w5.cell? ⟨gA, 2, none⟩ = some (.slice A0_2 rs.length c0_2) := (blk_cell BA5.out 2).trans rfl; have NAO := Aside0.mk (show gA ≠ gO by rw [hgO]; exact Nat.ne_of_lt (blk_lt BA4.out)); have nAO : gA ≠ gO := NAO.out; have nOA : gO ≠ gA := fun e => NAO.out e.symm; clear hgO hbox hb; have hcz0 : w5.cell? ⟨gO, 0, none⟩ = some (.bool false) := (blk_cell BO5.out 0).trans rfl; have hcz1 : w5.cell? ⟨gO, 1, none⟩ = some (.slice none 0 0) := (blk_cell BO5.out 1).trans rfl; have hcz2 : w5.cell? ⟨gO, 2, none⟩ = some (.slice none 0 0) := (blk_cell BO5.out 2).trans rfl; have hfz0 := blk_frozen BO5.out 0; have hfz1 := blk_frozen BO5.out 1; have hfz2 := blk_frozen BO5.out 2))
  go_loopg [18] (rs.length + 1) (fun kq v18 wr => ∃ (i : Int) (u : Value) (os : List RM), v18 = .int .i64 i ∧ Aside0 (0 ≤ i ∧ i ≤ (rs.length : Int)) ∧ Aside0 ((rs.length : Int) - i < (kq : Int)) ∧ Aside0 (os.map toM = (rs.take i.toNat).map (fun x => quoM (wv a1_0 l1_1) (prR x))) ∧ Aside0 (wr.heap[gO]? = some (.cells #[.bool a2_0, .slice A2_1 l2_1.length c2_1, u] 27 (0, 0))) ∧ Aside0 (Kd.R kM 46 wr w4.heap.size (fun _ => True) u os) ∧ Aside0 (∀ x ∈ os, OwnK wr w4.heap.size x) ∧ Aside0 (Apart os) ∧ Aside0 (Below w4.heap.size w4 wr))
  case atStart =>
    refine ⟨0, .slice none 0 0, [], rfl, ⟨Int.le_refl 0, by omega⟩, ⟨by omega⟩, ⟨rfl⟩, ⟨?_⟩, ⟨Kd.R_nil _ _ _ _ _⟩, ⟨by simp⟩, ⟨List.Pairwise.nil⟩, ⟨?_⟩⟩
    · refine blk_put (cs := #[.bool a2_0, .slice A2_1 l2_1.length c2_1, .slice none 0 0]) ?_ 2 _ rfl
      refine blk_put (cs := #[.bool a2_0, .slice none 0 0, .slice none 0 0]) ?_ 1 _ rfl
      refine blk_put (cs := #[.bool false, .slice none 0 0, .slice none 0 0]) ?_ 0 _ rfl
      exact BO5.out
    · repeat first | exact HB45.out | refine below_set ?_ GO.out
  case round =>
    clear hcz0 hcz1 hcz2 hfz0 hfz1 hfz2 hcA2 hcC0 hcC1 nAO nOA
    obtain ⟨i, u, os, rfl, HI, HQ, HO, BO, HU, HK, HA, HB⟩ := hrel
    obtain ⟨Au, cu, eu⟩ := Kd.R_slice HU.out
    subst eu
    have hco0 : wr.cell? ⟨gO, 0, none⟩ = some (.bool a2_0) := (blk_cell BO.out 0).trans rfl
    have hco1 : wr.cell? ⟨gO, 1, none⟩ = some (.slice A2_1 l2_1.length c2_1) := (blk_cell BO.out 1).trans rfl
    have hco2 : wr.cell? ⟨gO, 2, none⟩ = some (.slice Au os.length cu) := (blk_cell BO.out 2).trans rfl
    cases gk with
    | zero => exact absurd HQ.out (by have := HI.out; omega)
    | succ k1 =>
    by_cases hc : i < (rs.length : Int)
    · obtain ⟨ad, x, eA, hx, hx0, hx1, hx2⟩ := cM_at HRS.out i HI.out.1 hc
      cases eA
      have hwr := below_step HB4.out HB.out
      have hy0 := (hwr.cell (World.block_lt_of_cell? w _ hx0)).trans hx0
      have hy1 := (hwr.cell (World.block_lt_of_cell? w _ hx1)).trans hx1
      have hy2 := (hwr.cell (World.block_lt_of_cell? w _ hx2)).trans hx2
      have hmem := List.mem_of_getElem? hx
      obtain ⟨hxn, hxL⟩ := limB_of (HLM.out x hmem)
      obtain ⟨kD, hkD⟩ := (wDivMod_ev x.ng a1_0 x.xs l1_1 hxL HG.out.1 (by omega) (by have := HG.out.2.1; omega)).rounds
      rw [if_neg HG.out.2.2] at hkD
      generalize hWE' : W (wv x.ng x.xs / wv a1_0 l1_1) = Wq at hkD
      generalize hWR' : W (wv x.ng x.xs % wv a1_0 l1_1) = Wr at hkD
      obtain ⟨qb, ql⟩ := Wq
      obtain ⟨sb, sl⟩ := Wr
      have HKD := Aside0.mk hkD
      have HWE := Aside0.mk hWE'
      have HXD := Aside0.mk ((HLD.out x hmem).below hwr)
      have HX := Aside0.mk hx
      have BG := Aside0.mk (blk_below BG4.out HB.out)
      have hcg0 : wr.cell? ⟨gG, 0, none⟩ = some (.bool a1_0) := (blk_cell BG.out 0).trans rfl
      have hcg1 : wr.cell? ⟨gG, 1, none⟩ = some (.slice A1_1 l1_1.length c1_1) := (blk_cell BG.out 1).trans rfl
      have HR1w := Aside0.mk (Kd.C_below HR1.out hwr)
      have d1 : decide (i < (rs.length : Int)) = true := decide_eq_true hc
      have d2 : decide (0 ≤ i) = true := decide_eq_true HI.out.1
      have p1 : (0 ≤ i) = True := eq_true HI.out.1
      have p2 : (i < (rs.length : Int)) = True := eq_true hc
      have HC := Aside0.mk hc
      have HOL := Aside0.mk (show os.length ≤ 1000000 by
        have h1 := congrArg List.length HO.out
        rw [List.length_map, List.length_map, List.length_take] at h1
        have := HLEN.out
        omega)
      clear hx0 hx1 hx2 hwr hmem hxn hxL hkD hWE' hWR' hx hc
      go_wp2_with (first
        | ((with_reducible refine gate_dst (N := 9) rfl ?_); refine box_event ?hg (N := 9) ?hd (cs := #[.int .i64 0, .bool false, .slice none 0 0]) (t := 46) ?hr ?_; (case hd => rfl); (case hg => rfl); (case hr => first | (go_simp; done) | (go_simp; rfl)); intro gX hgX w7 hbox hb; have BX7 := Aside0.mk hbox; have GX := Aside0.mk (show wr.heap.size ≤ gX by rw [hgX]; exact Nat.le_refl _); have HB7 := Aside0.mk hb; have nGX : gG ≠ gX := (hgX ▸ Nat.ne_of_lt (blk_lt BG.out)); have nXG : gX ≠ gG := (fun e => nGX e.symm); have BG7 := Aside0.mk (blk_below BG.out hb); clear hgX hbox hb; have hcg7 : w7.cell? ⟨gG, 0, none⟩ = some (.bool a1_0) := (blk_cell BG7.out 0).trans rfl; have hcg8 : w7.cell? ⟨gG, 1, none⟩ = some (.slice A1_1 l1_1.length c1_1) := (blk_cell BG7.out 1).trans rfl; have hcz0 : w7.cell? ⟨gX, 0, none⟩ = some (.int .i64 0) := (blk_cell BX7.out 0).trans rfl; have hcz1 : w7.cell? ⟨gX, 1, none⟩ = some (.bool false) := (blk_cell BX7.out 1).trans rfl; have hcz2 : w7.cell? ⟨gX, 2, none⟩ = some (.slice none 0 0) := (blk_cell BX7.out 2).trans rfl; have hfz0 := blk_frozen BX7.out 0; have hfz1 := blk_frozen BX7.out 1; have hfz2 := blk_frozen BX7.out 2)
        | (go_at_call 48; (with_reducible refine (whole_DivMod.calls kD x.ng _ _ x.xs a1_0 _ _ l1_1 qb ql sb sl 0 _ ?s1 ?s2 ?s3 ?s4 HKD.out).mono ?_); (case s1 => exact Kd.C_below HXD.out.2 (by repeat first | exact HB7.out | refine below_set ?_ GX.out | apply below_drew1)); (case s2 => exact HXD.out.1); (case s3 => exact Kd.C_below HR1w.out (by repeat first | exact HB7.out | refine below_set ?_ GX.out | apply below_drew1)); (case s4 => exact HC1.out); rintro e w8 ⟨vq, vs, rfl, ho, ho2, hb⟩; obtain ⟨Aq, cq, eq⟩ := Kd.R_slice ho; subst eq; obtain ⟨As, cs, es⟩ := Kd.R_slice ho2; subst es; have HOQ := Aside0.mk (show OwnK ((w8.alloc (.cells #[.bool qb, .slice Aq ql.length cq] 24 (0, 0))).alloc (.cells #[.bool sb, .slice As sl.length cs] 24 (0, 0))) wr.heap.size ⟨x.v, qb, Aq, cq, ql⟩ from Kd.R_alloc (Kd.R_alloc (Kd.R_mono (Kd.R_lower ho (Below.size (by repeat first | exact HB7.out | refine below_set ?_ GX.out | apply below_drew1))) (fun _ _ => trivial)) _) _); have HB8 := Aside0.mk (below_step (by repeat first | exact HB7.out | refine below_set ?_ GX.out | apply below_drew1) hb); have BX8 := Aside0.mk (blk_below (g := gX) (o := .cells #[.int .i64 x.v, .bool x.ng, .slice x.A x.xs.length x.c] 46 (0, 0)) (by (with_reducible repeat (first | refine blk_drewN ?_ _ | refine blk_drew ?_ | refine blk_alloc ?_ _)); refine blk_put (cs := #[.int .i64 x.v, .bool x.ng, .slice none 0 0]) ?_ 2 _ rfl; refine blk_put (cs := #[.int .i64 x.v, .bool false, .slice none 0 0]) ?_ 1 _ rfl; refine blk_put (cs := #[.int .i64 0, .bool false, .slice none 0 0]) ?_ 0 _ rfl; exact BX7.out) hb); have BO8 := Aside0.mk (blk_below BO.out HB8.out); have BX9 := Aside0.mk (show ((w8.alloc (.cells #[.bool qb, .slice Aq ql.length cq] 24 (0, 0))).alloc (.cells #[.bool sb, .slice As sl.length cs] 24 (0, 0))).heap[gX]? = _ from blk_alloc (blk_alloc BX8.out _) _); have BO9 := Aside0.mk (show ((w8.alloc (.cells #[.bool qb, .slice Aq ql.length cq] 24 (0, 0))).alloc (.cells #[.bool sb, .slice As sl.length cs] 24 (0, 0))).heap[gO]? = _ from blk_alloc (blk_alloc BO8.out _) _); have hw0 : ((w8.alloc (.cells #[.bool qb, .slice Aq ql.length cq] 24 (0, 0))).alloc (.cells #[.bool sb, .slice As sl.length cs] 24 (0, 0))).cell? ⟨gX, 0, none⟩ = some (.int .i64 x.v) := (blk_cell BX9.out 0).trans rfl; have hw1 : ((w8.alloc (.cells #[.bool qb, .slice Aq ql.length cq] 24 (0, 0))).alloc (.cells #[.bool sb, .slice As sl.length cs] 24 (0, 0))).cell? ⟨gO, 2, none⟩ = some (.slice Au os.length cu) := (blk_cell BO9.out 2).trans rfl; have HB9 := Aside0.mk (below_alloc (below_alloc HB8.out (.cells #[.bool qb, .slice Aq ql.length cq] 24 (0, 0))) (.cells #[.bool sb, .slice As sl.length cs] 24 (0, 0))); clear ho ho2 hb)
        | ((with_reducible refine gate_builtin (b := .append) (xs := #[.tmp 31, .tmp 36]) rfl ?_); at_builtin; refine Kd.R_append kM (w0 := w4) w4.heap.size rfl (.tmp 31) (.tmp 36) 25 46 (.agg #[.int .i64 0, .bool false, .slice none 0 0]) 40 rfl Try.underlying25 infoM rfl (by decide) (by decide) (.slice Au os.length cu) os ⟨x.v, qb, Aq, cq, ql⟩ (encM ⟨x.v, qb, Aq, cq, ql⟩) (fun _ => True) (fun _ => False) rfl ?aX rfl (fun _ h => h.elim) (fun _ _ => trivial) ?aO ?aB ?aS ?aL ?_; (case aX => simp only [World.alloc, Array.size_push]; rfl); (case aO => exact Kd.R_below HU.out HB9.out); (case aB => exact below_step HB.out HB9.out); (case aS => exact (below_step HB.out HB9.out).size); (case aL => have := HOL.out; omega); intro v10 w10 ho hb hg hat; obtain ⟨A10, c10, e10⟩ := Kd.R_slice ho; subst e10; rw [List.length_append, List.length_singleton] at ho; have HO10 := Aside0.mk ho; have HB10 := Aside0.mk hb; have HG10 := Aside0.mk hg; have BO10 := Aside0.mk ((hg.block gO (Array.getElem?_eq_some_iff.1 BO9.out).1 (fun e => by obtain ⟨cs, hc⟩ := Kd.R_typed (Kd.R_below HU.out HB9.out) gO e.symm; exact absurd rfl (box_ne BO9.out hc (by decide)))).trans BO9.out); clear ho hb hg hat; have hcp2 : w10.cell? ⟨gO, 2, none⟩ = some (.slice Au os.length cu) := (blk_cell BO10.out 2).trans rfl; have hfp2 := blk_frozen BO10.out 2))
      have hwi : wrap64 (i + 1) = i + 1 := by
        have h1 := HI.out
        have h2 := HLEN.out
        unfold wrap64; omega
      rw [hwi]
      have hi1 : 0 ≤ i + 1 ∧ i + 1 ≤ (rs.length : Int) := by have h1 := HI.out; have h2 := HC.out; omega
      have hq1 : (rs.length : Int) - (i + 1) < (k1 : Int) := by have h1 := HQ.out; omega
      have hkg := keeps_grown HG10.out (Kd.R_typed (Kd.R_below HU.out HB9.out)) (by decide)
      have hks := fun (k : Nat) (cells : Array Value) (t : Nat) (ht : t ≠ 27) (hk : w10.heap[k]? = some (Obj.cells cells t (0, 0))) => Below.heap_setCell w10 ⟨gO, 2, none⟩ (.slice A10 (os.length + 1) c10) k (box_ne BO10.out hk (fun e => ht e.symm))
      have hbo : (w10.setCell ⟨gO, 2, none⟩ (.slice A10 (os.length + 1) c10)).heap[gO]? = some (.cells #[.bool a2_0, .slice A2_1 l2_1.length c2_1, .slice A10 (os.length + 1) c10] 27 (0, 0)) := blk_put (cs := #[.bool a2_0, .slice A2_1 l2_1.length c2_1, .slice Au os.length cu]) BO10.out 2 _ rfl
      have hkk : ∀ z ∈ os ++ [(⟨x.v, qb, Aq, cq, ql⟩ : RM)], OwnK (w10.setCell ⟨gO, 2, none⟩ (.slice A10 (os.length + 1) c10)) w4.heap.size z := fun z hz => (List.mem_append.1 hz).elim (fun h => (((HK.out z h).below HB9.out).move hkg).move (fun k cells hk => hks k cells _ (by decide) hk)) (fun h => by rw [List.mem_singleton.1 h]; exact ((OwnK.lower HOQ.out HB.out.size).move hkg).move (fun k cells hk => hks k cells _ (by decide) hk))
      have hap : Apart (os ++ [(⟨x.v, qb, Aq, cq, ql⟩ : RM)]) := apart_snoc HA.out (fun z hz k hk e => by have h1 := ((HK.out z hz).lt k hk).2; have h2 := (HOQ.out.lt k e).1; omega)
      have hos : (os ++ [(⟨x.v, qb, Aq, cq, ql⟩ : RM)]).map toM = (rs.take (i + 1).toNat).map (fun x => quoM (wv a1_0 l1_1) (prR x)) := by
        rw [drop_at _ rs i HI.out.1 x HX.out, List.map_append, HO.out]
        have e1 : quoM (wv a1_0 l1_1) (prR x) = ⟨x.v, ⟨qb, ql⟩⟩ := by
          show enP (x.v, wv x.ng x.xs / wv a1_0 l1_1) = _
          unfold enP
          rw [HWE.out]
        rw [e1]; rfl
      go_roundg k1
      case measure => omega
      case rel => exact ⟨i + 1, _, os ++ [⟨x.v, qb, Aq, cq, ql⟩], rfl, ⟨hi1⟩, ⟨hq1⟩, ⟨hos⟩, ⟨hbo⟩, ⟨kM_move HO10.out (fun k cells hk => hks k cells _ (by decide) hk)⟩, ⟨hkk⟩, ⟨hap⟩, ⟨below_set HB10.out GO.out⟩⟩
    · have hi : i.toNat = rs.length := by have := HI.out; omega
      have d1 : decide (i < (rs.length : Int)) = false := decide_eq_false hc
      have BR := Aside0.mk (blk_below BR4.out HB.out)
      have hcr0 : wr.cell? ⟨gR, 0, none⟩ = some (.bool false) := (blk_cell BR.out 0).trans rfl
      have hcr1 : wr.cell? ⟨gR, 1, none⟩ = some (.slice none 0 0) := (blk_cell BR.out 1).trans rfl
      have hcr2 : wr.cell? ⟨gR, 2, none⟩ = some (.slice none 0 0) := (blk_cell BR.out 2).trans rfl
      have hfr0 := blk_frozen BR.out 0
      have hfr1 := blk_frozen BR.out 1
      have hfr2 := blk_frozen BR.out 2
      have HF := Aside0.mk hi
      clear hc hi
      go_wp2
      have hne : ∀ (k : Nat) (cells : Array Value) (t : Nat), wr.heap[k]? = some (Obj.cells cells t (0, 0)) → t ≠ 27 → k ≠ gR := fun k cells t hk ht => box_ne BR.out hk (fun e => ht e.symm)
      have hfin : os.map toM = r3 := by rw [HO.out, HF.out, List.take_length]; exact HR3.out
      have hlb : w.heap.size ≤ w4.heap.size := HB4.out.size
      refine bodyPost_ret (results_cell_row rfl _ _ gR 27 #[.bool a2_0, .slice A2_1 l2_1.length c2_1, .slice Au os.length cu] (0, 0) _ rfl (by refine blk_put (cs := #[.bool a2_0, .slice A2_1 l2_1.length c2_1, .slice none 0 0]) ?_ 2 _ rfl; refine blk_put (cs := #[.bool a2_0, .slice none 0 0, .slice none 0 0]) ?_ 1 _ rfl; refine blk_put (cs := #[.bool false, .slice none 0 0, .slice none 0 0]) ?_ 0 _ rfl; exact BR.out) Try.underlying27 rfl (by kernel_rfl)) rfl ?_
      have hB : Below w.heap.size w (((wr.setCell ⟨gR, 0, none⟩ (.bool a2_0)).setCell ⟨gR, 1, none⟩ (.slice A2_1 l2_1.length c2_1)).setCell ⟨gR, 2, none⟩ (.slice Au os.length cu)) := by
        repeat first | exact below_step HB4.out HB.out | refine below_set ?_ GR.out
      refine ⟨_, _, rfl, ?_, ?_, hB⟩
      · refine Kd.V_mono (Kd.V_below (Kd.V_bound HS2.out) hB) (fun k hk => ⟨.inl hk.1, fun e => ?_⟩)
        have h1 := Kd.R_base HU.out k e.symm
        have h2 := hk.2
        omega
      · rw [← hfin]
        exact S_of_outs (Kd.R_lower (kM_move HU.out (fun k cells hk => set3_other _ _ _ _ _ _ _ _ k (hne k cells _ hk (by decide)))) hlb) (fun y hy => ((HK.out y hy).lower hlb).move (fun k cells hk => set3_other _ _ _ _ _ _ _ _ k (hne k cells _ hk (by decide)))) HA.out (fun k hk => Nat.le_trans hlb (Kd.R_base HU.out k hk)) (fun y hy k hk => Nat.le_trans hlb ((HK.out y hy).lt k hk).1)
end Go.Proofs.Ytdicjemjmlbmlaa.H
/- Written by a program of this session, wip/tools/patch_print.py, over the kit's print of the loaded functions. -/
namespace Go.Proofs.Ytdicjemjmlbmlaa.H
end Go.Proofs.Ytdicjemjmlbmlaa.H
namespace Go.Proofs.Ytdicjemjmlbmlaa.PA
open Go.RowKit Go.Proofs.YtdicjemjmlbmlaaW.PrintWords Go.Proofs.YtdicjemjmlbmlaaW.PrintLast Go.Proofs.YtdicjemjmlbmlaaW.PrintMore Go.Proofs.Ytdicjemjmlbmlaa.H
attribute [local go_sem] max2_int min2_int max_two min_two max_three min_three max_four min_four   -- for this text's walks alone
attribute [local go_sem] box_twice
set_option linter.unusedVariables false
set_option linter.unusedSimpArgs false

/-! ### lin_Scale: function 24 -/
def lin_Scale.l0 : Nat → List (S46) → Int → Int → Bool → List Int → Bool → List Int → List (S46) → Option (Bool × List Int × (List (S46)))
 | 0, _, _, _, _, _, _, _, _ => none
 | k + 1, x14, x15, x16, x434000, x434001, x440000, x440001, x440002 => if x16 < x15 then (if 0 ≤ x16 then (if x16 < (x14.length : Int) then ((whole_Mul.f k ((rd_T46 x14 x16).f1.f0) ((rd_T46 x14 x16).f1.f1) x434000 x434001).bind fun bt442 => (if x440002.length < 3518437208883 then (lin_Scale.l0 k x14 x15 (wrap64 (x16 + 1)) x434000 x434001 x440000 x440001 (x440002 ++ [(⟨(rd_T46 x14 x16).f0, (⟨bt442.1, bt442.2⟩ : S24)⟩ : S46)])) else (none))) else (none)) else (none)) else ((lin_Norm.f x440000 x440001 x440002).bind fun bt449 => (some (bt449.1, bt449.2.1, bt449.2.2)))
def lin_Scale.f (k : Nat) (a0_0 : Bool) (l0_1 : List Int) (l0_2 : List (S46)) (a1_0 : Bool) (l1_1 : List Int) : Option (Bool × List Int × (List (S46))) := (whole_Mul.f k a0_0 l0_1 a1_0 l1_1).bind fun bt435 => (lin_Scale.l0 k l0_2 (l0_2.length : Int) 0 a1_0 l1_1 bt435.1 bt435.2 ([] : List (S46)))
def lin_Scale.T5 : Bool × List (List Nat × List Nat) := (true, [([], []), ([0], [0]), ([], []), ([2], [2]), ([], []), ([4], [4]), ([], []), ([5, 6], [5, 6]), ([3, 7], [3, 7]), ([8], [8]), ([1, 9, 7], [1, 9]), ([0, 1, 2, 3, 4, 5, 6, 7, 8, 9, 10], []), ([11, 10, 10, 0, 1, 2, 3, 4, 5, 6, 7, 8, 9, 10], [10, 11])])
def lin_Scale.B5 : List Nat := [0, 1, 0, 4, 0, 16, 0, 112, 252, 508, 1023, 2047, 4095]
theorem lin_Scale.tab5 : rtab .any (opsOf Try.f24 5) = lin_Scale.T5 := by kernel_rfl
theorem lin_Scale.bits5 : waitsOk lin_Scale.T5.2 lin_Scale.B5 = true := by kernel_rfl
set_option maxHeartbeats 8000000 in
set_option maxRecDepth 100000 in
theorem lin_Scale.calls (k : Nat) (a0_0 : Bool) (A0_1 : Option Addr) (c0_1 : Nat) (l0_1 : List Int) (A0_2 : Option Addr) (c0_2 : Nat) (l0_2 : List (S46)) (a1_0 : Bool) (A1_1 : Option Addr) (c1_1 : Nat) (l1_1 : List Int) (r1 : Bool) (r2 : List Int) (r3 : List (S46)) (w : World) (hr0_1 : Kd.C (Kd.int .u32) w A0_1 l0_1.length l0_1) (hc0_1 : l0_1.length ≤ c0_1) (hr0_2 : Kd.C k46 w A0_2 l0_2.length l0_2) (hc0_2 : l0_2.length ≤ c0_2) (hr1_1 : Kd.C (Kd.int .u32) w A1_1 l1_1.length l1_1) (hc1_1 : l1_1.length ≤ c1_1) (h : lin_Scale.f k a0_0 l0_1 l0_2 a1_0 l1_1 = some (r1, r2, r3)) :
  Calls Try.prog 24 #[.agg #[.bool a0_0, .slice A0_1 l0_1.length c0_1, .slice A0_2 l0_2.length c0_2], .agg #[.bool a1_0, .slice A1_1 l1_1.length c1_1]] w fun e w' => ∃ v1_ v2_ : Value, e = .returned (.agg #[.bool r1, v1_, v2_]) ∧ Kd.R (Kd.int .u32) 81 w' w.heap.size (fun _ => True) v1_ r2 ∧ Kd.S k46 46 w' w.heap.size (fun k_ => some k_ ≠ (v1_ : Value).ownBlock) v2_ r3 ∧ Below w.heap.size w w' := by
 have hu27 := Try.underlying27
 have hu24 := Try.underlying24
 have hu46 := Try.underlying46
 have HR0_1 := Aside0.mk hr0_1
 have HC0_1 := Aside0.mk hc0_1
 clear hr0_1 hc0_1
 have HR0_2 := Aside0.mk hr0_2
 have HC0_2 := Aside0.mk hc0_2
 clear hr0_2 hc0_2
 have HR1_1 := Aside0.mk hr1_1
 have HC1_1 := Aside0.mk hc1_1
 clear hr1_1 hc1_1
 have HB := Aside0.mk (Below.refl w.heap.size w)
 have H : ((whole_Mul.f k a0_0 l0_1 a1_0 l1_1).bind fun bt435 => (lin_Scale.l0 k l0_2 (l0_2.length : Int) 0 a1_0 l1_1 bt435.1 bt435.2 ([] : List (S46)))) = some (r1, r2, r3) := h
 clear h
 obtain ⟨⟨t435, t436⟩, A30, H⟩ := Option.bind_eq_some_iff.mp H
 try dsimp only at H
 have A3 := Aside0.mk A30
 clear A30
 have H' := Aside0.mk H
 clear H
 go_enter Try.func24, Try.ntmps24
 go_wp2_with (first | ((with_reducible refine gate_dst (N := 2) rfl ?_); refine box_event ?hg (N := 2) ?hd (cs := #[.bool a0_0, .slice A0_1 l0_1.length c0_1, .slice A0_2 l0_2.length c0_2]) (t := 27) ?hr ?_; (case hd => rfl); (case hg => rfl); (case hr => first | (go_simp; done) | (go_simp; rfl)); intro gb432 hg w4 hbox hb; have BK432 := Aside0.mk (hbox); have GW432 := Aside0.mk (bxLe HB.out hg); have GE432 := GW432; replace HB := Aside0.mk (below_step HB.out hb); clear hb hbox hg) | ((with_reducible refine gate_dst (N := 3) rfl ?_); refine box_event ?hg (N := 3) ?hd (cs := #[.bool a1_0, .slice A1_1 l1_1.length c1_1]) (t := 24) ?hr ?_; (case hd => rfl); (case hg => rfl); (case hr => first | (go_simp; done) | (go_simp; rfl)); intro gb433 hg w5 hbox hb; have BK433 := Aside0.mk (hbox); have GW433 := Aside0.mk (bxLe HB.out hg); have GE433 := GW433; replace HB := Aside0.mk (below_step HB.out hb); have NB432_433 := Aside0.mk (neL BK432.out hg); have NB433_432 := Aside0.mk (neR BK432.out hg); replace BK432 := Aside0.mk (blk_below BK432.out hb); clear hb hbox hg) | ((with_reducible refine gate_dst (N := 4) rfl ?_); refine box_event ?hg (N := 4) ?hd (cs := #[.bool false, .slice none 0 0, .slice none 0 0]) (t := 27) ?hr ?_; (case hd => rfl); (case hg => rfl); (case hr => first | (go_simp; done) | (go_simp; rfl)); intro gb434 hg w6 hbox hb; have BK434 := Aside0.mk (hbox); have GW434 := Aside0.mk (bxLe HB.out hg); have GE434 := GW434; replace HB := Aside0.mk (below_step HB.out hb); have NB432_434 := Aside0.mk (neL BK432.out hg); have NB434_432 := Aside0.mk (neR BK432.out hg); replace BK432 := Aside0.mk (blk_below BK432.out hb); have NB433_434 := Aside0.mk (neL BK433.out hg); have NB434_433 := Aside0.mk (neR BK433.out hg); replace BK433 := Aside0.mk (blk_below BK433.out hb); clear hb hbox hg; have hnb7 := NB432_433.out; have hnc7 := NB433_432.out; have hnb8 := NB432_434.out; have hnc8 := NB434_432.out; have hcz9_0 : w6.cell? ⟨gb432, 0, none⟩ = some (.bool a0_0) := bc0 BK432.out; have hcz9_1 : w6.cell? ⟨gb432, 1, none⟩ = some (.slice A0_1 l0_1.length c0_1) := bc1 BK432.out; have hcz9_2 : w6.cell? ⟨gb432, 2, none⟩ = some (.slice A0_2 l0_2.length c0_2) := bc2 BK432.out; have hfz9_0 := blk_frozen BK432.out 0; have hfz9_1 := blk_frozen BK432.out 1; have hfz9_2 := blk_frozen BK432.out 2; have hnb10 := NB433_434.out; have hnc10 := NB434_433.out; have hcz11_0 : w6.cell? ⟨gb433, 0, none⟩ = some (.bool a1_0) := bc0 BK433.out; have hcz11_1 : w6.cell? ⟨gb433, 1, none⟩ = some (.slice A1_1 l1_1.length c1_1) := bc1 BK433.out; have hfz11_0 := blk_frozen BK433.out 0; have hfz11_1 := blk_frozen BK433.out 1) | ((with_reducible refine gate_callee (f := 35) rfl ?_); refine goL (some 11) Try.func35 [.agg #[.bool a0_0, .slice A0_1 l0_1.length c0_1], .agg #[.bool a1_0, .slice A1_1 l1_1.length c1_1]] ?_; (with_reducible refine (whole_Mul.calls k a0_0 _ _ l0_1 a1_0 _ _ l1_1 t435 t436 _ ?side1 ?side2 ?side3 ?side4 A3.out).mono ?_); (case side1 => exact (Kd.C_below HR0_1.out HB.out)); (case side2 => exact HC0_1.out); (case side3 => exact (Kd.C_below HR1_1.out HB.out)); (case side4 => exact HC1_1.out); rintro e w12 ⟨v437, rfl, ho0, hb⟩; refine ⟨_, rfl, ?_⟩; have HO438 := Aside0.mk (Kd.R_lower ho0 (below_size HB.out)); replace BK432 := Aside0.mk (blk_below BK432.out hb); replace BK433 := Aside0.mk (blk_below BK433.out hb); replace BK434 := Aside0.mk (blk_below BK434.out hb); replace HB := Aside0.mk (below_step HB.out hb); obtain ⟨Ao13, co13, eo13⟩ := Kd.R_slice HO438.out; subst eo13) | ((with_reducible refine gate_dst (N := 5) rfl ?_); refine box_event ?hg (N := 5) ?hd (cs := #[.bool false, .slice none 0 0, .slice none 0 0]) (t := 27) ?hr ?_; (case hd => rfl); (case hg => rfl); (case hr => first | (go_simp; done) | (go_simp; rfl)); intro gb439 hg w14 hbox hb; replace HO438 := Aside0.mk (Kd.R_below HO438.out hb); have BK439 := Aside0.mk (hbox); have GW439 := Aside0.mk (bxLe HB.out hg); have GE439 := GW439; replace HB := Aside0.mk (below_step HB.out hb); have NB432_439 := Aside0.mk (neL BK432.out hg); have NB439_432 := Aside0.mk (neR BK432.out hg); replace BK432 := Aside0.mk (blk_below BK432.out hb); have NB433_439 := Aside0.mk (neL BK433.out hg); have NB439_433 := Aside0.mk (neR BK433.out hg); replace BK433 := Aside0.mk (blk_below BK433.out hb); have NB434_439 := Aside0.mk (neL BK434.out hg); have NB439_434 := Aside0.mk (neR BK434.out hg); replace BK434 := Aside0.mk (blk_below BK434.out hb); clear hb hbox hg; have hnb15 := NB439_432.out; have hnc15 := NB432_439.out; have hnb16 := NB439_433.out; have hnc16 := NB433_439.out; have hnb17 := NB439_434.out; have hnc17 := NB434_439.out; have hcz18_0 : w14.cell? ⟨gb439, 0, none⟩ = some (.bool false) := bc0 BK439.out; have hcz18_1 : w14.cell? ⟨gb439, 1, none⟩ = some (.slice none 0 0) := bc1 BK439.out; have hcz18_2 : w14.cell? ⟨gb439, 2, none⟩ = some (.slice none 0 0) := bc2 BK439.out; have hfz18_0 := blk_frozen BK439.out 0; have hfz18_1 := blk_frozen BK439.out 1; have hfz18_2 := blk_frozen BK439.out 2; have hcz19_0 : w14.cell? ⟨gb432, 0, none⟩ = some (.bool a0_0) := bc0 BK432.out; have hcz19_1 : w14.cell? ⟨gb432, 1, none⟩ = some (.slice A0_1 l0_1.length c0_1) := bc1 BK432.out; have hcz19_2 : w14.cell? ⟨gb432, 2, none⟩ = some (.slice A0_2 l0_2.length c0_2) := bc2 BK432.out; have hfz19_0 := blk_frozen BK432.out 0; have hfz19_1 := blk_frozen BK432.out 1; have hfz19_2 := blk_frozen BK432.out 2))
 go_loopg [16] k (fun kq v16 w' => ∃ (x16_1 : Int) (x440002_1 : List (S46)) (u440002 : Value), v16 = .int .i64 x16_1 ∧ Aside0 (lin_Scale.l0 kq l0_2 (l0_2.length : Int) x16_1 a1_0 l1_1 t435 t436 x440002_1 = some (r1, r2, r3)) ∧ Aside0 (kq ≤ k) ∧ Aside0 (Kd.R (Kd.int .u32) 81 w' w.heap.size (fun _ => True) (.slice Ao13 t436.length co13) t436) ∧ Aside0 (Kd.S k46 46 w' w.heap.size (fun k_ => some k_ ≠ ((.slice Ao13 t436.length co13) : Value).ownBlock) u440002 x440002_1) ∧ Aside0 (w'.heap[gb432]? = some (.cells #[.bool a0_0, (.slice A0_1 l0_1.length c0_1), (.slice A0_2 l0_2.length c0_2)] 27 (0, 0))) ∧ Aside0 (w'.heap[gb433]? = some (.cells #[.bool a1_0, (.slice A1_1 l1_1.length c1_1)] 24 (0, 0))) ∧ Aside0 (w'.heap[gb434]? = some (.cells #[.bool false, (.slice none 0 0), (.slice none 0 0)] 27 (0, 0))) ∧ Aside0 (w'.heap[gb439]? = some (.cells #[.bool t435, (.slice Ao13 t436.length co13), u440002] 27 (0, 0))) ∧ Aside0 (Below w.heap.size w w'))
 case atStart => exact ⟨(0), (([] : List (S46))), (.slice none 0 0), (by first | rfl | (simp; done)), H', ⟨Nat.le_refl _⟩, ⟨Kd.R_mono (Kd.R_far (p := ⟨gb439, 2, none⟩) (Kd.R_far (p := ⟨gb439, 1, none⟩) (Kd.R_far (p := ⟨gb439, 0, none⟩) (Kd.R_types HO438.out BK439.out (by decide)) (fun _ hk => hk.2) (.bool t435)) (fun _ hk => hk.2) (.slice Ao13 t436.length co13)) (fun _ hk => hk.2) (.slice none 0 0)) (fun _ hk => trivial)⟩, ⟨by first | exact Kd.S_nil _ _ _ _ _ | exact Kd.N_nil _ _ _ _ _ | exact Kd.V_nil _ _ _ _ _ | exact Kd.Q_nil _ _ _ _ _ | exact Kd.R_nil _ _ _ _ _⟩, ⟨by refine blk_far ?_ NB432_439.out _; refine blk_far ?_ NB432_439.out _; refine blk_far ?_ NB432_439.out _; exact BK432.out⟩, ⟨by refine blk_far ?_ NB433_439.out _; refine blk_far ?_ NB433_439.out _; refine blk_far ?_ NB433_439.out _; exact BK433.out⟩, ⟨by refine blk_far ?_ NB434_439.out _; refine blk_far ?_ NB434_439.out _; refine blk_far ?_ NB434_439.out _; exact BK434.out⟩, ⟨by refine blk_put (cs := #[.bool t435, .slice Ao13 t436.length co13, .slice none 0 0]) ?_ 2 _ rfl; refine blk_put (cs := #[.bool t435, .slice none 0 0, .slice none 0 0]) ?_ 1 _ rfl; refine blk_put (cs := #[.bool false, .slice none 0 0, .slice none 0 0]) ?_ 0 _ rfl; exact BK439.out⟩, ⟨by repeat first | exact HB.out | refine bxSet ?_ (by assumption) | apply below_alloc | apply pw_below_drewN⟩⟩
 case round =>
  clear H'
  try clear c1
  try clear c2
  try clear p2
  try clear c3
  try clear c7
  try clear c8
  try clear c10
  try clear c15
  try clear c16
  try clear c17
  try clear hcz11_0
  try clear hcz11_1
  try clear hcz18_0
  try clear hcz18_1
  try clear hcz18_2
  try clear hcz19_0
  try clear hcz19_1
  try clear hcz19_2
  try clear hcz9_0
  try clear hcz9_1
  try clear hcz9_2
  try clear hfz11_0
  try clear hfz11_1
  try clear hfz18_0
  try clear hfz18_1
  try clear hfz18_2
  try clear hfz19_0
  try clear hfz19_1
  try clear hfz19_2
  try clear hfz9_0
  try clear hfz9_1
  try clear hfz9_2
  obtain ⟨x16_1, x440002_1, u440002, rfl, HA, HK1, HO_440001, HO_440002, BK432, BK433, BK434, BK439, HB⟩ := hrel
  cases gk with
  | zero => exact absurd HA.out (by simp [lin_Scale.l0])
  | succ k1 =>
   have H := HA.out
   clear HA
   simp only [lin_Scale.l0] at H
   by_cases c20 : x16_1 < (l0_2.length : Int)
   ·rw [if_pos c20] at H
    have c20b0 : decide (x16_1 < (l0_2.length : Int)) = true := decide_eq_true c20
    clear c20
    by_cases c21 : 0 ≤ x16_1
    ·rw [if_pos c21] at H
     have c21b0 : decide (0 ≤ x16_1) = true := decide_eq_true c21
     clear c21
     by_cases c22 : x16_1 < (l0_2.length : Int)
     ·rw [if_pos c22] at H
      have c22b0 : decide (x16_1 < (l0_2.length : Int)) = true := decide_eq_true c22
      clear c22
      obtain ⟨⟨t442, t443⟩, A230, H⟩ := Option.bind_eq_some_iff.mp H
      try dsimp only at H
      have A23 := Aside0.mk A230
      clear A230
      by_cases c24 : x440002_1.length < 3518437208883
      ·rw [if_pos c24] at H
       have LMc24 := Aside0.mk c24
       clear c24
       obtain ⟨y446, hy446⟩ : ∃ y_ : List (S46), y_ = (x440002_1 ++ [(⟨(rd_T46 l0_2 x16_1).f0, (⟨t442, t443⟩ : S24)⟩ : S46)]) := ⟨_, rfl⟩
       replace H : (lin_Scale.l0 k1 l0_2 (l0_2.length : Int) (wrap64 (x16_1 + 1)) a1_0 l1_1 t435 t436 y446) = some (r1, r2, r3) := by first | (rw [hy446]; with_reducible exact H) | (have H2_ := (Option.bind_some _ _).symm.trans H; rw [hy446]; with_reducible exact H2_) | (have H2_ := (Option.bind_some _ _).symm.trans H; with_reducible exact H2_) | with_reducible exact H | (rw [hy446]; exact H) | exact H
       have Ny446 := Aside0.mk hy446
       clear hy446
       have H' := Aside0.mk H
       clear H
       have p440 : 0 ≤ (x16_1 : Int) := of_decide_eq_true (by first | (with_reducible assumption) | assumption)
       have q440 : x16_1 < (l0_2.length : Int) := of_decide_eq_true (by first | (with_reducible assumption) | assumption)
       obtain ⟨ad440, A440_2, c440_2, e440, hx440_0, hx440_1, hx440_2, hl440_2, hi440_2⟩ := at_T46 HR0_2.out x16_1 p440 q440
       cases e440
       replace hx440_0 := (HB.out.cell (World.block_lt_of_cell? w _ hx440_0)).trans hx440_0
       replace hx440_1 := (HB.out.cell (World.block_lt_of_cell? w _ hx440_1)).trans hx440_1
       replace hx440_2 := (HB.out.cell (World.block_lt_of_cell? w _ hx440_2)).trans hx440_2
       have HR440_2 := Aside0.mk hi440_2
       have HC440_2 := Aside0.mk hl440_2
       clear hi440_2 hl440_2
       replace p440 := eq_true p440
       replace q440 := eq_true q440
       try go_wp2_with (first | ((with_reducible refine gate_dst (N := 7) rfl ?_); refine box_event ?hg (N := 7) ?hd (cs := #[.int .i64 0, .bool false, .slice none 0 0]) (t := 46) ?hr ?_; (case hd => rfl); (case hg => rfl); (case hr => first | (go_simp; done) | (go_simp; rfl)); intro gb441 hg w25 hbox hb; replace HO_440001 := Aside0.mk (Kd.R_below HO_440001.out hb); replace HO_440002 := Aside0.mk (Kd.S_below (Kd.S_elderB (by (with_reducible repeat (first | apply Kd.S_alloc | apply Kd.S_drewN | apply Kd.S_drew)); exact HO_440002.out) gb441 (Nat.le_of_eq hg.symm)) hb); have BK441 := Aside0.mk (hbox); have GW441 := Aside0.mk (bxLe HB.out hg); have GE441 := GW441; replace HB := Aside0.mk (below_step HB.out hb); have NB432_441 := Aside0.mk (neL BK432.out hg); have NB441_432 := Aside0.mk (neR BK432.out hg); replace BK432 := Aside0.mk (blk_below BK432.out hb); have NB433_441 := Aside0.mk (neL BK433.out hg); have NB441_433 := Aside0.mk (neR BK433.out hg); replace BK433 := Aside0.mk (blk_below BK433.out hb); have NB434_441 := Aside0.mk (neL BK434.out hg); have NB441_434 := Aside0.mk (neR BK434.out hg); replace BK434 := Aside0.mk (blk_below BK434.out hb); have NB439_441 := Aside0.mk (neL BK439.out hg); have NB441_439 := Aside0.mk (neR BK439.out hg); replace BK439 := Aside0.mk (blk_below BK439.out hb); clear hb hbox hg; have hnb26 := NB441_432.out; have hnc26 := NB432_441.out; have hnb27 := NB441_433.out; have hnc27 := NB433_441.out; have hnb28 := NB441_434.out; have hnc28 := NB434_441.out; have hnb29 := NB441_439.out; have hnc29 := NB439_441.out; have hcz30_0 : w25.cell? ⟨gb441, 0, none⟩ = some (.int .i64 0) := bc0 BK441.out; have hcz30_1 : w25.cell? ⟨gb441, 1, none⟩ = some (.bool false) := bc1 BK441.out; have hcz30_2 : w25.cell? ⟨gb441, 2, none⟩ = some (.slice none 0 0) := bc2 BK441.out; have hfz30_0 := blk_frozen BK441.out 0; have hfz30_1 := blk_frozen BK441.out 1; have hfz30_2 := blk_frozen BK441.out 2))
       have n0_ : Aside0 (Kd.R (Kd.int .u32) 81 (((w25.setCell ⟨gb441, 0, none⟩ (.int .i64 ((rd_T46 l0_2 x16_1).f0))).setCell ⟨gb441, 1, none⟩ (.bool ((rd_T46 l0_2 x16_1).f1.f0))).setCell ⟨gb441, 2, none⟩ (.slice A440_2 ((rd_T46 l0_2 x16_1).f1.f1).length c440_2)) w.heap.size (fun _ => True) (.slice Ao13 t436.length co13) t436) := ⟨Kd.R_mono (Kd.R_far (p := ⟨gb441, 2, none⟩) (Kd.R_far (p := ⟨gb441, 1, none⟩) (Kd.R_far (p := ⟨gb441, 0, none⟩) (Kd.R_types HO_440001.out BK441.out (by decide)) (fun _ hk => hk.2) (.int .i64 ((rd_T46 l0_2 x16_1).f0))) (fun _ hk => hk.2) (.bool ((rd_T46 l0_2 x16_1).f1.f0))) (fun _ hk => hk.2) (.slice A440_2 ((rd_T46 l0_2 x16_1).f1.f1).length c440_2)) (fun _ hk => trivial)⟩
       have n1_ : Aside0 (Kd.S k46 46 (((w25.setCell ⟨gb441, 0, none⟩ (.int .i64 ((rd_T46 l0_2 x16_1).f0))).setCell ⟨gb441, 1, none⟩ (.bool ((rd_T46 l0_2 x16_1).f1.f0))).setCell ⟨gb441, 2, none⟩ (.slice A440_2 ((rd_T46 l0_2 x16_1).f1.f1).length c440_2)) w.heap.size (fun k_ => some k_ ≠ (.slice Ao13 t436.length co13 : Value).ownBlock ∧ k_ ≠ gb441) u440002 x440002_1) := ⟨by (with_reducible repeat (first | apply Kd.S_alloc | apply Kd.S_drewN | apply Kd.S_drew)); exact Kd.S_mono (Kd.S_far (p := ⟨gb441, 2, none⟩) (Kd.S_far (p := ⟨gb441, 1, none⟩) (Kd.S_far (p := ⟨gb441, 0, none⟩) (Kd.S_mono HO_440002.out (fun k_ hk => (⟨hk, hk.2⟩ : _ ∧ k_ ≠ gb441))) (fun _ hk => hk.2) (.int .i64 ((rd_T46 l0_2 x16_1).f0))) (fun _ hk => hk.2) (.bool ((rd_T46 l0_2 x16_1).f1.f0))) (fun _ hk => hk.2) (.slice A440_2 ((rd_T46 l0_2 x16_1).f1.f1).length c440_2)) (fun _ hk => ⟨hk.1.1, hk.1.2⟩)⟩
       have n2_ : Aside0 ((((w25.setCell ⟨gb441, 0, none⟩ (.int .i64 ((rd_T46 l0_2 x16_1).f0))).setCell ⟨gb441, 1, none⟩ (.bool ((rd_T46 l0_2 x16_1).f1.f0))).setCell ⟨gb441, 2, none⟩ (.slice A440_2 ((rd_T46 l0_2 x16_1).f1.f1).length c440_2)).heap[gb432]? = some (.cells #[.bool a0_0, .slice A0_1 l0_1.length c0_1, .slice (some ad440) l0_2.length c0_2] 27 (0, 0))) := ⟨by refine blk_far ?_ NB432_441.out _; refine blk_far ?_ NB432_441.out _; refine blk_far ?_ NB432_441.out _; exact BK432.out⟩
       have n3_ : Aside0 ((((w25.setCell ⟨gb441, 0, none⟩ (.int .i64 ((rd_T46 l0_2 x16_1).f0))).setCell ⟨gb441, 1, none⟩ (.bool ((rd_T46 l0_2 x16_1).f1.f0))).setCell ⟨gb441, 2, none⟩ (.slice A440_2 ((rd_T46 l0_2 x16_1).f1.f1).length c440_2)).heap[gb433]? = some (.cells #[.bool a1_0, .slice A1_1 l1_1.length c1_1] 24 (0, 0))) := ⟨by refine blk_far ?_ NB433_441.out _; refine blk_far ?_ NB433_441.out _; refine blk_far ?_ NB433_441.out _; exact BK433.out⟩
       have n4_ : Aside0 ((((w25.setCell ⟨gb441, 0, none⟩ (.int .i64 ((rd_T46 l0_2 x16_1).f0))).setCell ⟨gb441, 1, none⟩ (.bool ((rd_T46 l0_2 x16_1).f1.f0))).setCell ⟨gb441, 2, none⟩ (.slice A440_2 ((rd_T46 l0_2 x16_1).f1.f1).length c440_2)).heap[gb434]? = some (.cells #[.bool false, .slice none 0 0, .slice none 0 0] 27 (0, 0))) := ⟨by refine blk_far ?_ NB434_441.out _; refine blk_far ?_ NB434_441.out _; refine blk_far ?_ NB434_441.out _; exact BK434.out⟩
       have n5_ : Aside0 ((((w25.setCell ⟨gb441, 0, none⟩ (.int .i64 ((rd_T46 l0_2 x16_1).f0))).setCell ⟨gb441, 1, none⟩ (.bool ((rd_T46 l0_2 x16_1).f1.f0))).setCell ⟨gb441, 2, none⟩ (.slice A440_2 ((rd_T46 l0_2 x16_1).f1.f1).length c440_2)).heap[gb439]? = some (.cells #[.bool t435, .slice Ao13 t436.length co13, u440002] 27 (0, 0))) := ⟨by refine blk_far ?_ NB439_441.out _; refine blk_far ?_ NB439_441.out _; refine blk_far ?_ NB439_441.out _; exact BK439.out⟩
       have n6_ : Aside0 ((((w25.setCell ⟨gb441, 0, none⟩ (.int .i64 ((rd_T46 l0_2 x16_1).f0))).setCell ⟨gb441, 1, none⟩ (.bool ((rd_T46 l0_2 x16_1).f1.f0))).setCell ⟨gb441, 2, none⟩ (.slice A440_2 ((rd_T46 l0_2 x16_1).f1.f1).length c440_2)).heap[gb441]? = some (.cells #[.int .i64 ((rd_T46 l0_2 x16_1).f0), .bool ((rd_T46 l0_2 x16_1).f1.f0), .slice A440_2 ((rd_T46 l0_2 x16_1).f1.f1).length c440_2] 46 (0, 0))) := ⟨by refine blk_put (cs := #[.int .i64 ((rd_T46 l0_2 x16_1).f0), .bool ((rd_T46 l0_2 x16_1).f1.f0), .slice none 0 0]) ?_ 2 _ rfl; refine blk_put (cs := #[.int .i64 ((rd_T46 l0_2 x16_1).f0), .bool false, .slice none 0 0]) ?_ 1 _ rfl; refine blk_put (cs := #[.int .i64 0, .bool false, .slice none 0 0]) ?_ 0 _ rfl; exact BK441.out⟩
       have n7_ : Aside0 (Below w.heap.size w (((w25.setCell ⟨gb441, 0, none⟩ (.int .i64 ((rd_T46 l0_2 x16_1).f0))).setCell ⟨gb441, 1, none⟩ (.bool ((rd_T46 l0_2 x16_1).f1.f0))).setCell ⟨gb441, 2, none⟩ (.slice A440_2 ((rd_T46 l0_2 x16_1).f1.f1).length c440_2))) := ⟨by repeat first | exact HB.out | refine bxSet ?_ (by assumption) | apply below_alloc | apply pw_below_drewN⟩
       (try clear HO_440001)
       (try clear HO_440002)
       (try clear BK432)
       (try clear BK433)
       (try clear BK434)
       (try clear BK439)
       (try clear BK441)
       (try clear HB)
       generalize (((w25.setCell ⟨gb441, 0, none⟩ (.int .i64 ((rd_T46 l0_2 x16_1).f0))).setCell ⟨gb441, 1, none⟩ (.bool ((rd_T46 l0_2 x16_1).f1.f0))).setCell ⟨gb441, 2, none⟩ (.slice A440_2 ((rd_T46 l0_2 x16_1).f1.f1).length c440_2)) = w31 at n0_ n1_ n2_ n3_ n4_ n5_ n6_ n7_ ⊢
       have HO_440001 := n0_
       have HO_440002 := n1_
       have BK432 := n2_
       have BK433 := n3_
       have BK434 := n4_
       have BK439 := n5_
       have BK441 := n6_
       have HB := n7_
       clear n0_ n1_ n2_ n3_ n4_ n5_ n6_ n7_
       replace HO_440001 := Aside0.mk (Kd.R_drew HO_440001.out)
       replace HO_440002 := Aside0.mk (Kd.S_drew HO_440002.out)
       replace BK432 := Aside0.mk (blk_drew BK432.out)
       replace BK433 := Aside0.mk (blk_drew BK433.out)
       replace BK434 := Aside0.mk (blk_drew BK434.out)
       replace BK439 := Aside0.mk (blk_drew BK439.out)
       replace BK441 := Aside0.mk (blk_drew BK441.out)
       replace HB := Aside0.mk (below_drew1 HB.out)
       refine start_ (n := 13) (S := fun w' => w'.cell? ⟨gb439, 0, none⟩ = some (.bool t435) ∧ w'.cell? ⟨gb439, 1, none⟩ = some (.slice Ao13 t436.length co13) ∧ w'.cell? ⟨gb439, 2, none⟩ = some (u440002) ∧ w'.cell? ⟨gb441, 0, none⟩ = some (.int .i64 ((rd_T46 l0_2 x16_1).f0)) ∧ w'.cell? ⟨gb441, 1, none⟩ = some (.bool ((rd_T46 l0_2 x16_1).f1.f0)) ∧ w'.cell? ⟨gb441, 2, none⟩ = some (.slice A440_2 ((rd_T46 l0_2 x16_1).f1.f1).length c440_2) ∧ w'.cell? ⟨gb433, 0, none⟩ = some (.bool a1_0) ∧ w'.cell? ⟨gb433, 1, none⟩ = some (.slice A1_1 l1_1.length c1_1)) (ds := [12]) #[false, false, false, false, false, false, false, false, false, false, false, false, false] (by kernel_rfl) rfl rfl ⟨bc0 BK439.out, bc1 BK439.out, bc2 BK439.out, bc0 BK441.out, bc1 BK441.out, bc2 BK441.out, bc0 BK433.out, bc1 BK433.out⟩ (fun hHeld => ?_); refine with_tabW lin_Scale.tab5 lin_Scale.bits5 (fun HT_ HW_ => ?_)
       generalize w31.drew = w32 at HO_440001 HO_440002 BK432 BK433 BK434 BK439 BK441 HB hHeld ⊢
       refine pure_ (i := 0) (N := some 20) (v := ?_) (a' := ?_) #[true, false, false, false, false, false, false, false, false, false, false, false, false] rfl rfl (any_of HT_.out (by kernel_rfl)) (fun _ _ _ h => h) (Or.inl ⟨by rfl, ?_⟩) ?_ ?_
       rotate_left
       ·intro w'
        go_simp
        with_reducible rfl
       rotate_left
       ·simp only [Act.put, List.setIfInBounds_toArray, List.set_cons_zero, List.set_cons_succ, i64_w, i32_w]
        rfl
       refine pure_ (i := 2) (N := some 22) (v := ?_) (a' := ?_) #[true, false, true, false, false, false, false, false, false, false, false, false, false] rfl rfl (any_of HT_.out (by kernel_rfl)) (fun _ _ _ h => h) (Or.inl ⟨by rfl, ?_⟩) ?_ ?_
       rotate_left
       ·intro w'
        go_simp
        with_reducible rfl
       rotate_left
       ·simp only [Act.put, List.setIfInBounds_toArray, List.set_cons_zero, List.set_cons_succ, i64_w, i32_w]
        rfl
       refine pure_ (i := 4) (N := some 24) (v := ?_) (a' := ?_) #[true, false, true, false, true, false, false, false, false, false, false, false, false] rfl rfl (any_of HT_.out (by kernel_rfl)) (fun _ _ _ h => h) (Or.inl ⟨by rfl, ?_⟩) ?_ ?_
       rotate_left
       ·intro w'
        go_simp
        with_reducible rfl
       rotate_left
       ·simp only [Act.put, List.setIfInBounds_toArray, List.set_cons_zero, List.set_cons_succ, i64_w, i32_w]
        rfl
       refine take_ (i := 1) (N := some 21) (v := ?_) (a' := ?_) #[true, true, true, false, true, false, false, false, false, false, false, false, false] rfl rfl (take_ofW HT_.out HW_.out (by kernel_rfl)) (fun _ _ _ h => h) (Or.inl ⟨by rfl, ?_⟩) hHeld ?_ ?_
       rotate_left
       ·rintro w' ⟨s0, s1, s2, s3, s4, s5, s6, s7⟩
        go_simp
        with_reducible rfl
       rotate_left
       ·simp only [Act.put, List.setIfInBounds_toArray, List.set_cons_zero, List.set_cons_succ, i64_w, i32_w]
        rfl
       refine take_ (i := 3) (N := some 23) (v := ?_) (a' := ?_) #[true, true, true, true, true, false, false, false, false, false, false, false, false] rfl rfl (take_ofW HT_.out HW_.out (by kernel_rfl)) (fun _ _ _ h => h) (Or.inl ⟨by rfl, ?_⟩) hHeld ?_ ?_
       rotate_left
       ·rintro w' ⟨s0, s1, s2, s3, s4, s5, s6, s7⟩
        go_simp
        with_reducible rfl
       rotate_left
       ·simp only [Act.put, List.setIfInBounds_toArray, List.set_cons_zero, List.set_cons_succ, i64_w, i32_w]
        rfl
       refine take_ (i := 5) (N := some 25) (v := ?_) (a' := ?_) #[true, true, true, true, true, true, false, false, false, false, false, false, false] rfl rfl (take_ofW HT_.out HW_.out (by kernel_rfl)) (fun _ _ _ h => h) (Or.inl ⟨by rfl, ?_⟩) hHeld ?_ ?_
       rotate_left
       ·rintro w' ⟨s0, s1, s2, s3, s4, s5, s6, s7⟩
        go_simp
        with_reducible rfl
       rotate_left
       ·simp only [Act.put, List.setIfInBounds_toArray, List.set_cons_zero, List.set_cons_succ, i64_w, i32_w]
        rfl
       refine take_ (i := 6) (N := some 26) (v := ?_) (a' := ?_) #[true, true, true, true, true, true, true, false, false, false, false, false, false] rfl rfl (take_ofW HT_.out HW_.out (by kernel_rfl)) (fun _ _ _ h => h) (Or.inl ⟨by rfl, ?_⟩) hHeld ?_ ?_
       rotate_left
       ·rintro w' ⟨s0, s1, s2, s3, s4, s5, s6, s7⟩
        go_simp
        with_reducible rfl
       rotate_left
       ·simp only [Act.put, List.setIfInBounds_toArray, List.set_cons_zero, List.set_cons_succ, i64_w, i32_w]
        rfl
       refine one_ (i := 7) (N := some 27) #[true, true, true, true, true, true, true, true, false, false, false, false, false] rfl rfl (one_of HT_.out (by kernel_rfl)) (by decide) (fun K hK => ?_)
       refine goR Try.func35 [.agg #[.bool ((rd_T46 l0_2 x16_1).f1.f0), .slice A440_2 ((rd_T46 l0_2 x16_1).f1.f1).length c440_2], .agg #[.bool a1_0, .slice A1_1 l1_1.length c1_1]] ?_
       with_reducible refine (whole_Mul.calls k1 ((rd_T46 l0_2 x16_1).f1.f0) _ _ ((rd_T46 l0_2 x16_1).f1.f1) a1_0 _ _ l1_1 t442 t443 _ ?side1 ?side2 ?side3 ?side4 A23.out).mono ?_
       (case side1 => exact (Kd.C_below HR440_2.out HB.out))
       (case side2 => exact HC440_2.out)
       (case side3 => exact (Kd.C_below HR1_1.out HB.out))
       (case side4 => exact HC1_1.out)
       rintro e w33 ⟨v444, rfl, ho0, hb⟩
       refine ⟨_, rfl, ?_⟩
       replace HO_440002 := Aside0.mk (Kd.S_elder' (by (with_reducible repeat (first | apply Kd.S_alloc | apply Kd.S_drewN | apply Kd.S_drew)); exact HO_440002.out) (Kd.R_base ho0) hb)
       have HO445 := Aside0.mk (Kd.R_lower (Kd.R_new' ho0 (Kd.R_lt HO_440001.out)) (below_size HB.out))
       replace HO_440001 := Aside0.mk (Kd.R_elder' HO_440001.out (Kd.R_base ho0) hb)
       replace BK432 := Aside0.mk (blk_below BK432.out hb)
       replace BK433 := Aside0.mk (blk_below BK433.out hb)
       replace BK434 := Aside0.mk (blk_below BK434.out hb)
       replace BK439 := Aside0.mk (blk_below BK439.out hb)
       replace BK441 := Aside0.mk (blk_below BK441.out hb)
       replace HB := Aside0.mk (below_step HB.out hb)
       (try clear hb)
       (try clear hb2)
       (try clear hk)
       (try clear hi)
       (try clear ho0)
       obtain ⟨Ao34, co34, eo34⟩ := Kd.R_slice HO445.out
       subst eo34
       refine hK.out _ _ ⟨bc0 BK439.out, bc1 BK439.out, bc2 BK439.out, bc0 BK441.out, bc1 BK441.out, bc2 BK441.out, bc0 BK433.out, bc1 BK433.out⟩ (fun hHeld => ?_)
       clear hK K
       refine norm_ (a' := ?_) ?_ ?_
       rotate_left
       ·show Act.put _ (some 27) _ = _
        simp only [Act.put, List.setIfInBounds_toArray, List.set_cons_zero, List.set_cons_succ, i64_w, i32_w]
        rfl
       refine pure_ (i := 8) (N := some 28) (v := ?_) (a' := ?_) #[true, true, true, true, true, true, true, true, true, false, false, false, false] rfl rfl (any_of HT_.out (by kernel_rfl)) (fun _ _ _ h => h) (Or.inl ⟨by rfl, ?_⟩) ?_ ?_
       rotate_left
       ·intro w'
        go_simp
        with_reducible rfl
       rotate_left
       ·simp only [Act.put, List.setIfInBounds_toArray, List.set_cons_zero, List.set_cons_succ, i64_w, i32_w]
        rfl
       refine one_ (i := 9) (N := some 29) #[true, true, true, true, true, true, true, true, true, true, false, false, false] rfl rfl (one_of HT_.out (by kernel_rfl)) (by decide) (fun K hK => ?_)
       refine value_ (w1 := ?_) (v := ?_) (by rfl) rfl ?_ ?_
       rotate_left 2
       ·go_simp
        constructor
        ·rfl
        ·rfl
       refine hK.out _ _ ⟨(blk_cell (blk_alloc BK439.out _) 0).trans rfl, (blk_cell (blk_alloc BK439.out _) 1).trans rfl, (blk_cell (blk_alloc BK439.out _) 2).trans rfl, (blk_cell (blk_alloc BK441.out _) 0).trans rfl, (blk_cell (blk_alloc BK441.out _) 1).trans rfl, (blk_cell (blk_alloc BK441.out _) 2).trans rfl, (blk_cell (blk_alloc BK433.out _) 0).trans rfl, (blk_cell (blk_alloc BK433.out _) 1).trans rfl⟩ (fun hHeld => ?_)
       clear hK K
       refine norm_ (a' := ?_) ?_ ?_
       rotate_left
       ·show Act.put _ (some 29) _ = _
        simp only [Act.put, List.setIfInBounds_toArray, List.set_cons_zero, List.set_cons_succ, i64_w, i32_w]
        rfl
       refine one_ (i := 10) (N := some 30) #[true, true, true, true, true, true, true, true, true, true, true, false, false] rfl rfl (one_of HT_.out (by kernel_rfl)) (by decide) (fun K hK => ?_)
       refine Kd.S_append_step k46 (w0 := w) w.heap.size (by rfl) (.tmp 21) (.tmp 29) 25 46 (.agg #[(.int .i64 0), (.bool false), (.slice none 0 0)]) 40 rfl Try.underlying25 info46 rfl (by decide) (by omega) u440002 x440002_1 (⟨(rd_T46 l0_2 x16_1).f0, (⟨t442, t443⟩ : S24)⟩ : S46) [.int .i64 ((rd_T46 l0_2 x16_1).f0), .bool t442, .slice Ao34 t443.length co34] (fun k_ => some k_ ≠ (.slice Ao13 t436.length co13 : Value).ownBlock ∧ k_ ≠ gb441) (fun k_ => some k_ = (.slice Ao34 t443.length co34 : Value).ownBlock) rfl rfl ?aP (fun k_ hk_ => ((Kd.R_mono (ok' := fun k_ => ((fun k_ => some k_ ≠ (.slice Ao13 t436.length co13 : Value).ownBlock ∧ k_ ≠ gb441)) k_ ∧ some k_ ≠ (u440002 : Value).ownBlock) (Kd.R_types (Kd.R_apart' (HO445.out) (Kd.S_typed HO_440002.out) (by decide)) BK441.out (by decide)) (fun k_ hk => ⟨⟨hk.1.1.2, hk.2⟩, hk.1.2⟩))).1 k_ hk_.symm) ?aF ?aO ?aB ?aS ?aL ?_
       (case aP => exact k46_mkM _ _ _ (⟨(rd_T46 l0_2 x16_1).f0, (⟨t442, t443⟩ : S24)⟩ : S46) (Kd.R_mono (Kd.R_tight rfl (Kd.R_mono (ok' := fun k_ => ((fun k_ => some k_ ≠ (.slice Ao13 t436.length co13 : Value).ownBlock ∧ k_ ≠ gb441)) k_ ∧ some k_ ≠ (u440002 : Value).ownBlock) (Kd.R_types (Kd.R_apart' (HO445.out) (Kd.S_typed HO_440002.out) (by decide)) BK441.out (by decide)) (fun k_ hk => ⟨⟨hk.1.1.2, hk.2⟩, hk.1.2⟩))) (fun _ h_ => h_)))
       (case aB => exact HB.out)
       (case aF => exact (fun k_ hk => ⟨Kd.fresh' (Kd.R_lt HO_440001.out) k_ hk, Kd.freshB BK441.out k_ hk⟩))
       (case aO => exact (by (with_reducible repeat (first | apply Kd.S_alloc | apply Kd.S_drewN | apply Kd.S_drew)); exact Kd.S_mono HO_440002.out (fun k_ hk => ⟨⟨hk.1.1, hk.1.2⟩, fun e_ => hk.2 e_⟩)))
       (case aS => exact (below_size HB.out))
       (case aL => have := LMc24.out; omega)
       intro v447 w35 ho hb hg hat
       rw [← Ny446.out] at ho
       have n0_ := Aside0.mk (Kd.R_over' HO_440001.out (Kd.S_typed (by (with_reducible repeat (first | apply Kd.S_alloc | apply Kd.S_drewN | apply Kd.S_drew)); exact HO_440002.out)) (by decide) hg)
       have n1_ := Aside0.mk (blk_grown BK432.out hg (Kd.S_ne HO_440002.out BK432.out (by decide)))
       have n2_ := Aside0.mk (blk_grown BK433.out hg (Kd.S_ne HO_440002.out BK433.out (by decide)))
       have n3_ := Aside0.mk (blk_grown BK434.out hg (Kd.S_ne HO_440002.out BK434.out (by decide)))
       have n4_ := Aside0.mk (blk_grown BK439.out hg (Kd.S_ne HO_440002.out BK439.out (by decide)))
       have n5_ := Aside0.mk (blk_grown BK441.out hg (Kd.S_away HO_440002.out (fun _ hk => hk.1.2)))
       have n6_ := Aside0.mk (hb)
       have n7_ := Aside0.mk (ho)
       clear HO_440001
       clear BK432
       clear BK433
       clear BK434
       clear BK439
       clear BK441
       clear HB
       clear HO_440002
       clear HO445
       have HO_440001 := n0_
       have BK432 := n1_
       have BK433 := n2_
       have BK434 := n3_
       have BK439 := n4_
       have BK441 := n5_
       have HB := n6_
       have HO448 := n7_
       clear n0_ n1_ n2_ n3_ n4_ n5_ n6_ n7_
       clear ho hb hg hat
       obtain ⟨Ao36, co36, eo36⟩ := Kd.S_slice HO448.out
       subst eo36
       refine hK.out _ _ ⟨bc0 BK439.out, bc1 BK439.out, bc2 BK439.out, bc0 BK441.out, bc1 BK441.out, bc2 BK441.out, bc0 BK433.out, bc1 BK433.out⟩ (fun hHeld => ?_)
       clear hK K
       refine norm_ (a' := ?_) ?_ ?_
       rotate_left
       ·show Act.put _ (some 30) _ = _
        simp only [Act.put, List.setIfInBounds_toArray, List.set_cons_zero, List.set_cons_succ, i64_w, i32_w]
        rfl
       refine pure_ (i := 11) (N := some 31) (v := ?_) (a' := ?_) #[true, true, true, true, true, true, true, true, true, true, true, true, false] rfl rfl (any_of HT_.out (by kernel_rfl)) (fun _ _ _ h => h) (Or.inl ⟨by rfl, ?_⟩) ?_ ?_
       rotate_left
       ·intro w'
        go_simp
        with_reducible rfl
       rotate_left
       ·simp only [Act.put, List.setIfInBounds_toArray, List.set_cons_zero, List.set_cons_succ, i64_w, i32_w]
        rfl
       refine last_ (i := 12) (N := none) #[true, true, true, true, true, true, true, true, true, true, true, true, true] rfl rfl (one_of HT_.out (by kernel_rfl)) (by decide) (fun K hK => ?_)
       have hs37 : w35.cell? ⟨gb439, 2, none⟩ = some (u440002) := bc2 BK439.out
       have hfs37 := blk_frozen BK439.out 2
       have hns37_0 := NB432_439.out
       have hns37_1 := NB433_439.out
       have hns37_2 := NB434_439.out
       have hns37_4 := NB441_439.out
       have hms37_0 := NB439_432.out
       have hms37_1 := NB439_433.out
       have hms37_2 := NB439_434.out
       have hms37_4 := NB439_441.out
       refine skip_ (w1 := ?_) (by rfl) rfl ?_ ?_
       rotate_left
       ·go_simp
        rfl
       refine hK.out _ _ ?_
       clear hK K
       refine done_ (done_of HT_.out (by kernel_rfl)) ?_
       try go_wp2
       go_roundg k1
       case measure => have := HK1.out; omega
       case rel => exact ⟨(wrap64 (x16_1 + 1)), (y446), (.slice Ao36 y446.length co36), (by first | rfl | (simp; done)), H', ⟨by have := HK1.out; omega⟩, ⟨Kd.R_mono (Kd.R_far (p := ⟨gb439, 2, none⟩) (Kd.R_types HO_440001.out BK439.out (by decide)) (fun _ hk => hk.2) (.slice Ao36 y446.length co36)) (fun _ hk => trivial)⟩, ⟨by (with_reducible repeat (first | apply Kd.S_alloc | apply Kd.S_drewN | apply Kd.S_drew)); exact Kd.S_mono (Kd.S_far (p := ⟨gb439, 2, none⟩) (Kd.S_types HO448.out BK439.out (by decide)) (fun _ hk => hk.2) (.slice Ao36 y446.length co36)) (fun _ hk => hk.1.1)⟩, ⟨by refine blk_far ?_ NB432_439.out _; exact BK432.out⟩, ⟨by refine blk_far ?_ NB433_439.out _; exact BK433.out⟩, ⟨by refine blk_far ?_ NB434_439.out _; exact BK434.out⟩, ⟨by refine blk_put (cs := #[.bool t435, .slice Ao13 t436.length co13, u440002]) ?_ 2 _ rfl; exact BK439.out⟩, ⟨by repeat first | exact HB.out | refine bxSet ?_ (by assumption) | apply below_alloc | apply pw_below_drewN⟩⟩
      ·rw [if_neg c24] at H
       exact absurd H (by simp)
     ·rw [if_neg c22] at H
      exact absurd H (by simp)
    ·rw [if_neg c21] at H
     exact absurd H (by simp)
   ·rw [if_neg c20] at H
    have c20b0 : decide (x16_1 < (l0_2.length : Int)) = false := decide_eq_false c20
    clear c20
    obtain ⟨⟨t449, t450, t453⟩, A380, H⟩ := Option.bind_eq_some_iff.mp H
    try dsimp only at H
    have A38 := Aside0.mk A380
    clear A380
    simp only [Option.some.injEq, Prod.mk.injEq] at H
    obtain ⟨rfl, rfl, rfl⟩ := H
    have hnb39 := NB439_432.out
    have hnc39 := NB432_439.out
    have hnb40 := NB439_433.out
    have hnc40 := NB433_439.out
    have hnb41 := NB439_434.out
    have hnc41 := NB434_439.out
    have hcz42_0 : wr.cell? ⟨gb439, 0, none⟩ = some (.bool t435) := bc0 BK439.out
    have hcz42_1 : wr.cell? ⟨gb439, 1, none⟩ = some (.slice Ao13 t436.length co13) := bc1 BK439.out
    have hcz42_2 : wr.cell? ⟨gb439, 2, none⟩ = some (u440002) := bc2 BK439.out
    have hfz42_0 := blk_frozen BK439.out 0
    have hfz42_1 := blk_frozen BK439.out 1
    have hfz42_2 := blk_frozen BK439.out 2
    obtain ⟨Ao43, co43, eo43⟩ := Kd.S_slice HO_440002.out
    subst eo43
    go_wp2_with (first | ((with_reducible refine gate_callee (f := 20) rfl ?_); refine goL (some 34) Try.func20 [.agg #[.bool t435, .slice Ao13 t436.length co13, .slice Ao43 x440002_1.length co43]] ?_; (with_reducible refine (lin_Norm.calls t435 _ _ t436 _ _ x440002_1 t449 t450 t453 _ ?side1 ?side2 ?side3 ?side4 A38.out).mono ?_); (case side1 => exact (Kd.R_reads' HO_440001.out).2.2); (case side2 => exact (Kd.R_reads' HO_440001.out).2.1); (case side3 => exact (Kd.S_reads' HO_440002.out).2.2); (case side4 => exact (Kd.S_reads' HO_440002.out).2.1); rintro e w44 ⟨v451, v454, rfl, ho0, ho1, hb⟩; refine ⟨_, rfl, ?_⟩; have HO452 := Aside0.mk (Kd.R_lower (Kd.R_new' ho0 (Kd.R_lt HO_440001.out)) (below_size HB.out)); have HO455 := Aside0.mk (Kd.S_lower (Kd.S_new' (Kd.S_new' ho1 (Kd.R_lt HO_440001.out)) (Kd.S_lt (by (with_reducible repeat (first | apply Kd.S_alloc | apply Kd.S_drewN | apply Kd.S_drew)); exact HO_440002.out))) (below_size HB.out)); replace BK434 := Aside0.mk (blk_below BK434.out hb); replace HB := Aside0.mk (below_step HB.out hb); (try clear ho1); have hnb45 := NB434_432.out; have hnc45 := NB432_434.out; have hnb46 := NB434_433.out; have hnc46 := NB433_434.out; have hcz47_0 : w44.cell? ⟨gb434, 0, none⟩ = some (.bool false) := bc0 BK434.out; have hcz47_1 : w44.cell? ⟨gb434, 1, none⟩ = some (.slice none 0 0) := bc1 BK434.out; have hcz47_2 : w44.cell? ⟨gb434, 2, none⟩ = some (.slice none 0 0) := bc2 BK434.out; have hfz47_0 := blk_frozen BK434.out 0; have hfz47_1 := blk_frozen BK434.out 1; have hfz47_2 := blk_frozen BK434.out 2; obtain ⟨Ao48, co48, eo48⟩ := Kd.R_slice HO452.out; subst eo48; obtain ⟨Ao49, co49, eo49⟩ := Kd.S_slice HO455.out; subst eo49))
    refine bodyPost_ret (results_cell_row rfl _ _ gb434 27 #[.bool t449, .slice Ao48 t450.length co48, .slice Ao49 t453.length co49] (0, 0) _ rfl (by refine blk_put (cs := #[.bool t449, .slice Ao48 t450.length co48, .slice none 0 0]) ?_ 2 _ rfl; refine blk_put (cs := #[.bool t449, .slice none 0 0, .slice none 0 0]) ?_ 1 _ rfl; refine blk_put (cs := #[.bool false, .slice none 0 0, .slice none 0 0]) ?_ 0 _ rfl; exact BK434.out) Try.underlying27 rfl (by kernel_rfl)) rfl ?_
    exact ⟨_, _, rfl, Kd.R_mono (Kd.R_far (p := ⟨gb434, 2, none⟩) (Kd.R_far (p := ⟨gb434, 1, none⟩) (Kd.R_far (p := ⟨gb434, 0, none⟩) (Kd.R_types HO452.out BK434.out (by decide)) (fun _ hk => hk.2) (.bool t449)) (fun _ hk => hk.2) (.slice Ao48 t450.length co48)) (fun _ hk => hk.2) (.slice Ao49 t453.length co49)) (fun _ hk => trivial), by (with_reducible repeat (first | apply Kd.S_alloc | apply Kd.S_drewN | apply Kd.S_drew)); exact Kd.S_mono (Kd.S_far (p := ⟨gb434, 2, none⟩) (Kd.S_far (p := ⟨gb434, 1, none⟩) (Kd.S_far (p := ⟨gb434, 0, none⟩) (Kd.S_types HO455.out BK434.out (by decide)) (fun _ hk => hk.2) (.bool t449)) (fun _ hk => hk.2) (.slice Ao48 t450.length co48)) (fun _ hk => hk.2) (.slice Ao49 t453.length co49)) (fun _ hk => hk.1.1.1), by repeat first | exact HB.out | refine bxSet ?_ (by assumption) | apply below_alloc | apply pw_below_drewN⟩

/-! ### lin_divisor: function 41 -/
def lin_divisor.l0 : Nat → List Int → List (S46) → Int → Int → Option (Bool × List Int)
 | 0, _, _, _, _ => none
 | k + 1, x3, x7, x8, x9 => if x9 < x8 then (if 0 ≤ x9 then (if x9 < (x7.length : Int) then ((nat_Gcd.f k x3 ((rd_T46 x7 x9).f1.f1)).bind fun t460 => (lin_divisor.l0 k t460 x7 x8 (wrap64 (x9 + 1)))) else (none)) else (none)) else (some (false, x3))
def lin_divisor.f (k : Nat) (a0_0 : Bool) (l0_1 : List Int) (l0_2 : List (S46)) : Option (Bool × List Int) := lin_divisor.l0 k ([] : List Int) l0_2 (l0_2.length : Int) 0
set_option maxHeartbeats 8000000 in
set_option maxRecDepth 100000 in
theorem lin_divisor.calls (k : Nat) (a0_0 : Bool) (A0_1 : Option Addr) (c0_1 : Nat) (l0_1 : List Int) (A0_2 : Option Addr) (c0_2 : Nat) (l0_2 : List (S46)) (r1 : Bool) (r2 : List Int) (w : World) (hr0_1 : Kd.C (Kd.int .u32) w A0_1 l0_1.length l0_1) (hc0_1 : l0_1.length ≤ c0_1) (hr0_2 : Kd.C k46 w A0_2 l0_2.length l0_2) (hc0_2 : l0_2.length ≤ c0_2) (h : lin_divisor.f k a0_0 l0_1 l0_2 = some (r1, r2)) :
  Calls Try.prog 41 #[.agg #[.bool a0_0, .slice A0_1 l0_1.length c0_1, .slice A0_2 l0_2.length c0_2]] w fun e w' => ∃ v1_ : Value, e = .returned (.agg #[.bool r1, v1_]) ∧ Kd.R (Kd.int .u32) 81 w' w.heap.size (fun _ => True) v1_ r2 ∧ Below w.heap.size w w' := by
 have hu27 := Try.underlying27
 have hu24 := Try.underlying24
 have hu46 := Try.underlying46
 have HR0_1 := Aside0.mk hr0_1
 have HC0_1 := Aside0.mk hc0_1
 clear hr0_1 hc0_1
 have HR0_2 := Aside0.mk hr0_2
 have HC0_2 := Aside0.mk hc0_2
 clear hr0_2 hc0_2
 have HB := Aside0.mk (Below.refl w.heap.size w)
 have H : (lin_divisor.l0 k ([] : List Int) l0_2 (l0_2.length : Int) 0) = some (r1, r2) := h
 clear h
 have H' := Aside0.mk H
 clear H
 go_enter Try.func41, Try.ntmps41
 go_wp2_with (first | ((with_reducible refine gate_dst (N := 1) rfl ?_); refine box_event ?hg (N := 1) ?hd (cs := #[.bool a0_0, .slice A0_1 l0_1.length c0_1, .slice A0_2 l0_2.length c0_2]) (t := 27) ?hr ?_; (case hd => rfl); (case hg => rfl); (case hr => first | (go_simp; done) | (go_simp; rfl)); intro gb456 hg w2 hbox hb; have BK456 := Aside0.mk (hbox); have GW456 := Aside0.mk (bxLe HB.out hg); have GE456 := GW456; replace HB := Aside0.mk (below_step HB.out hb); clear hb hbox hg) | ((with_reducible refine gate_dst (N := 2) rfl ?_); refine box_event ?hg (N := 2) ?hd (cs := #[.bool false, .slice none 0 0]) (t := 24) ?hr ?_; (case hd => rfl); (case hg => rfl); (case hr => first | (go_simp; done) | (go_simp; rfl)); intro gb457 hg w3 hbox hb; have BK457 := Aside0.mk (hbox); have GW457 := Aside0.mk (bxLe HB.out hg); have GE457 := GW457; replace HB := Aside0.mk (below_step HB.out hb); have NB456_457 := Aside0.mk (neL BK456.out hg); have NB457_456 := Aside0.mk (neR BK456.out hg); replace BK456 := Aside0.mk (blk_below BK456.out hb); clear hb hbox hg; have hnb4 := NB456_457.out; have hnc4 := NB457_456.out; have hcz5_0 : w3.cell? ⟨gb456, 0, none⟩ = some (.bool a0_0) := bc0 BK456.out; have hcz5_1 : w3.cell? ⟨gb456, 1, none⟩ = some (.slice A0_1 l0_1.length c0_1) := bc1 BK456.out; have hcz5_2 : w3.cell? ⟨gb456, 2, none⟩ = some (.slice A0_2 l0_2.length c0_2) := bc2 BK456.out; have hfz5_0 := blk_frozen BK456.out 0; have hfz5_1 := blk_frozen BK456.out 1; have hfz5_2 := blk_frozen BK456.out 2))
 go_loopg [3, 9] k (fun kq v3 v9 w' => ∃ (x3_1 : List Int) (x9_1 : Int), v9 = .int .i64 x9_1 ∧ Aside0 (lin_divisor.l0 kq x3_1 l0_2 (l0_2.length : Int) x9_1 = some (r1, r2)) ∧ Aside0 (kq ≤ k) ∧ Aside0 (Kd.R (Kd.int .u32) 81 w' w.heap.size (fun _ => True) v3 x3_1) ∧ Aside0 (w'.heap[gb456]? = some (.cells #[.bool a0_0, (.slice A0_1 l0_1.length c0_1), (.slice A0_2 l0_2.length c0_2)] 27 (0, 0))) ∧ Aside0 (w'.heap[gb457]? = some (.cells #[.bool false, (.slice none 0 0)] 24 (0, 0))) ∧ Aside0 (Below w.heap.size w w'))
 case atStart => exact ⟨(([] : List Int)), (0), (by first | rfl | (simp; done)), H', ⟨Nat.le_refl _⟩, ⟨by first | exact Kd.R_nil _ _ _ _ _ | exact Kd.N_nil _ _ _ _ _ | exact Kd.V_nil _ _ _ _ _ | exact Kd.Q_nil _ _ _ _ _ | exact Kd.S_nil _ _ _ _ _⟩, ⟨BK456.out⟩, ⟨BK457.out⟩, ⟨HB.out⟩⟩
 case round =>
  clear H'
  try clear p2
  try clear c4
  try clear hcz5_0
  try clear hcz5_1
  try clear hcz5_2
  try clear hfz5_0
  try clear hfz5_1
  try clear hfz5_2
  obtain ⟨x3_1, x9_1, rfl, HA, HK1, HO_3, BK456, BK457, HB⟩ := hrel
  cases gk with
  | zero => exact absurd HA.out (by simp [lin_divisor.l0])
  | succ k1 =>
   have H := HA.out
   clear HA
   simp only [lin_divisor.l0] at H
   by_cases c6 : x9_1 < (l0_2.length : Int)
   ·rw [if_pos c6] at H
    have c6b0 : decide (x9_1 < (l0_2.length : Int)) = true := decide_eq_true c6
    clear c6
    by_cases c7 : 0 ≤ x9_1
    ·rw [if_pos c7] at H
     have c7b0 : decide (0 ≤ x9_1) = true := decide_eq_true c7
     clear c7
     by_cases c8 : x9_1 < (l0_2.length : Int)
     ·rw [if_pos c8] at H
      have c8b0 : decide (x9_1 < (l0_2.length : Int)) = true := decide_eq_true c8
      clear c8
      obtain ⟨t460, A90, H⟩ := Option.bind_eq_some_iff.mp H
      try dsimp only at H
      have A9 := Aside0.mk A90
      clear A90
      have H' := Aside0.mk H
      clear H
      have p458 : 0 ≤ (x9_1 : Int) := of_decide_eq_true (by first | (with_reducible assumption) | assumption)
      have q458 : x9_1 < (l0_2.length : Int) := of_decide_eq_true (by first | (with_reducible assumption) | assumption)
      obtain ⟨ad458, A458_2, c458_2, e458, hx458_0, hx458_1, hx458_2, hl458_2, hi458_2⟩ := at_T46 HR0_2.out x9_1 p458 q458
      cases e458
      replace hx458_0 := (HB.out.cell (World.block_lt_of_cell? w _ hx458_0)).trans hx458_0
      replace hx458_1 := (HB.out.cell (World.block_lt_of_cell? w _ hx458_1)).trans hx458_1
      replace hx458_2 := (HB.out.cell (World.block_lt_of_cell? w _ hx458_2)).trans hx458_2
      have HR458_2 := Aside0.mk hi458_2
      have HC458_2 := Aside0.mk hl458_2
      clear hi458_2 hl458_2
      replace p458 := eq_true p458
      replace q458 := eq_true q458
      go_wp2_with (first | ((with_reducible refine gate_dst (N := 5) rfl ?_); refine box_event ?hg (N := 5) ?hd (cs := #[.int .i64 0, .bool false, .slice none 0 0]) (t := 46) ?hr ?_; (case hd => rfl); (case hg => rfl); (case hr => first | (go_simp; done) | (go_simp; rfl)); intro gb459 hg w10 hbox hb; replace HO_3 := Aside0.mk (Kd.R_below HO_3.out hb); have BK459 := Aside0.mk (hbox); have GW459 := Aside0.mk (bxLe HB.out hg); have GE459 := GW459; replace HB := Aside0.mk (below_step HB.out hb); have NB456_459 := Aside0.mk (neL BK456.out hg); have NB459_456 := Aside0.mk (neR BK456.out hg); replace BK456 := Aside0.mk (blk_below BK456.out hb); have NB457_459 := Aside0.mk (neL BK457.out hg); have NB459_457 := Aside0.mk (neR BK457.out hg); replace BK457 := Aside0.mk (blk_below BK457.out hb); clear hb hbox hg; have hnb11 := NB459_456.out; have hnc11 := NB456_459.out; have hnb12 := NB459_457.out; have hnc12 := NB457_459.out; have hcz13_0 : w10.cell? ⟨gb459, 0, none⟩ = some (.int .i64 0) := bc0 BK459.out; have hcz13_1 : w10.cell? ⟨gb459, 1, none⟩ = some (.bool false) := bc1 BK459.out; have hcz13_2 : w10.cell? ⟨gb459, 2, none⟩ = some (.slice none 0 0) := bc2 BK459.out; have hfz13_0 := blk_frozen BK459.out 0; have hfz13_1 := blk_frozen BK459.out 1; have hfz13_2 := blk_frozen BK459.out 2; obtain ⟨Ao14, co14, eo14⟩ := Kd.R_slice HO_3.out; subst eo14) | ((with_reducible refine gate_callee (f := 70) rfl ?_); refine goL (some 17) Try.func70 [.slice Ao14 x3_1.length co14, .slice A458_2 ((rd_T46 l0_2 x9_1).f1.f1).length c458_2] ?_; (with_reducible refine (nat_Gcd.calls k1 _ _ x3_1 _ _ ((rd_T46 l0_2 x9_1).f1.f1) t460 _ ?side1 ?side2 ?side3 ?side4 A9.out).mono ?_); (case side1 => refine (Kd.R_reads' (e := 81) (base := w.heap.size) (ok := fun k_ => True) (n := x3_1.length) (c := co14) ?_).2.2; exact (Kd.R_mono (Kd.R_far (p := ⟨gb459, 2, none⟩) (Kd.R_far (p := ⟨gb459, 1, none⟩) (Kd.R_far (p := ⟨gb459, 0, none⟩) (Kd.R_types HO_3.out BK459.out (by decide)) (fun _ hk => hk.2) (.int .i64 ((rd_T46 l0_2 x9_1).f0))) (fun _ hk => hk.2) (.bool ((rd_T46 l0_2 x9_1).f1.f0))) (fun _ hk => hk.2) (.slice A458_2 ((rd_T46 l0_2 x9_1).f1.f1).length c458_2)) (fun _ h_ => h_.1))); (case side2 => exact (Kd.R_reads' HO_3.out).2.1); (case side3 => exact Kd.C_below HR458_2.out (by repeat first | exact HB.out | refine bxSet ?_ (by assumption) | apply below_alloc | apply pw_below_drewN)); (case side4 => exact HC458_2.out); rintro e w15 ⟨v461, rfl, ho0, hb⟩; refine ⟨_, rfl, ?_⟩; have HO462 := Aside0.mk (Kd.R_lower (Kd.R_new' ho0 (Kd.R_lt (Kd.R_mono (Kd.R_far (p := ⟨gb459, 2, none⟩) (Kd.R_far (p := ⟨gb459, 1, none⟩) (Kd.R_far (p := ⟨gb459, 0, none⟩) (Kd.R_types HO_3.out BK459.out (by decide)) (fun _ hk => hk.2) (.int .i64 ((rd_T46 l0_2 x9_1).f0))) (fun _ hk => hk.2) (.bool ((rd_T46 l0_2 x9_1).f1.f0))) (fun _ hk => hk.2) (.slice A458_2 ((rd_T46 l0_2 x9_1).f1.f1).length c458_2)) (fun _ h_ => h_.1)))) (below_size (by repeat first | exact HB.out | refine bxSet ?_ (by assumption) | apply below_alloc | apply pw_below_drewN))); replace BK456 := Aside0.mk (blk_below (g := gb456) (o := .cells #[.bool a0_0, .slice A0_1 l0_1.length c0_1, .slice (some ad458) l0_2.length c0_2] 27 (0, 0)) (by refine blk_far ?_ NB456_459.out _; refine blk_far ?_ NB456_459.out _; refine blk_far ?_ NB456_459.out _; exact BK456.out) hb); replace BK457 := Aside0.mk (blk_below (g := gb457) (o := .cells #[.bool false, .slice none 0 0] 24 (0, 0)) (by refine blk_far ?_ NB457_459.out _; refine blk_far ?_ NB457_459.out _; refine blk_far ?_ NB457_459.out _; exact BK457.out) hb); replace HB := Aside0.mk (below_step (by repeat first | exact HB.out | refine bxSet ?_ (by assumption) | apply below_alloc | apply pw_below_drewN) hb)))
      go_roundg k1
      case measure => have := HK1.out; omega
      case rel => exact ⟨(t460), (wrap64 (x9_1 + 1)), (by first | rfl | (simp; done)), H', ⟨by have := HK1.out; omega⟩, ⟨Kd.R_mono HO462.out (fun _ hk => trivial)⟩, ⟨BK456.out⟩, ⟨BK457.out⟩, ⟨HB.out⟩⟩
     ·rw [if_neg c8] at H
      exact absurd H (by simp)
    ·rw [if_neg c7] at H
     exact absurd H (by simp)
   ·rw [if_neg c6] at H
    have c6b0 : decide (x9_1 < (l0_2.length : Int)) = false := decide_eq_false c6
    clear c6
    simp only [Option.some.injEq, Prod.mk.injEq] at H
    obtain ⟨rfl, rfl⟩ := H
    obtain ⟨Ao16, co16, eo16⟩ := Kd.R_slice HO_3.out
    subst eo16
    have hnb17 := NB457_456.out
    have hnc17 := NB456_457.out
    have hcz18_0 : wr.cell? ⟨gb457, 0, none⟩ = some (.bool false) := bc0 BK457.out
    have hcz18_1 : wr.cell? ⟨gb457, 1, none⟩ = some (.slice none 0 0) := bc1 BK457.out
    have hfz18_0 := blk_frozen BK457.out 0
    have hfz18_1 := blk_frozen BK457.out 1
    go_wp2
    refine bodyPost_ret (results_cell_row rfl _ _ gb457 24 #[.bool false, .slice Ao16 x3_1.length co16] (0, 0) _ rfl (by refine blk_put (cs := #[.bool false, .slice none 0 0]) ?_ 1 _ rfl; refine blk_put (cs := #[.bool false, .slice none 0 0]) ?_ 0 _ rfl; exact BK457.out) Try.underlying24 rfl (by kernel_rfl)) rfl ?_
    exact ⟨_, rfl, Kd.R_mono (Kd.R_far (p := ⟨gb457, 1, none⟩) (Kd.R_far (p := ⟨gb457, 0, none⟩) (Kd.R_types HO_3.out BK457.out (by decide)) (fun _ hk => hk.2) (.bool false)) (fun _ hk => hk.2) (.slice Ao16 x3_1.length co16)) (fun _ hk => trivial), by repeat first | exact HB.out | refine bxSet ?_ (by assumption) | apply below_alloc | apply pw_below_drewN⟩

end Go.Proofs.Ytdicjemjmlbmlaa.PA
/- What the functions of lin are, as sums of numbers. -/
namespace Go.Proofs.Ytdicjemjmlbmlaa.S
set_option linter.unusedVariables false
set_option linter.unusedSimpArgs false
open Go.RowKit Go.Proofs.Ytdicjemjmlbmlaa.V Go.Proofs.Ytdicjemjmlbmlaa.PA Go.Proofs.Ytdicjemjmlbmlaa.H Go.Proofs.YtdicjemjmlbmlaaW.PrintWords Go.Proofs.YtdicjemjmlbmlaaW.PrintLast Go.Proofs.YtdicjemjmlbmlaaW.PrintMore

/-! ### values -/
/-! ### the parts, in their own form -/
theorem rdM (l : List S46) (i : Nat) (h : i < l.length) : rd_T46 l (i : Int) = l[i] := by unfold rd_T46; rw [Int.toNat_natCast]; simp [h]
theorem prM_enP (q : Int × Int) : prM (enP q) = q := by show (q.1, wv (W q.2).1 (W q.2).2) = q; rw [wv_W]
theorem map_enP (p : List (Int × Int)) : (p.map enP).map prM = p := by
  rw [List.map_map]
  exact (List.map_congr_left (fun q _ => prM_enP q)).trans (List.map_id p)
theorem wnext {i : Nat} (h : i ≤ 1000000000000) : wrap64 ((i : Int) + 1) = ((i + 1 : Nat) : Int) := by unfold wrap64; omega
def BQ (n : Nat) (p : List (Int × Int)) : Prop := ∀ x ∈ p, B n x.2
theorem BQ.mono {m n : Nat} {p : List (Int × Int)} (h : BQ m p) (hm : m ≤ n) : BQ n p := fun x hx => (h x hx).mono hm
theorem limB_mk {l : List Int} (h : Lim l) (hn : l.length ≤ 1000000) : limB l = true := by
  unfold limB
  rw [Bool.and_eq_true, decide_eq_true_eq, List.all_eq_true]
  refine ⟨hn, fun x hx => ?_⟩
  have := h x hx
  rw [Bool.and_eq_true, decide_eq_true_eq, decide_eq_true_eq]
  omega
theorem limB_W {z : Int} (h : B 1000000 z) : limB (W z).2 = true := limB_mk (W_lim z) h.len
theorem allB (p : List (Int × Int)) (h : BQ 1000000 p) : (p.map enP).all (fun x => limB x.f1.f1) = true := by
  rw [List.all_eq_true]
  intro x hx
  obtain ⟨q, hq, rfl⟩ := List.mem_map.1 hx
  exact limB_W (h q hq)
/-- A sum of numbers as its own form lies. -/
def SU (c : Int) (p : List (Int × Int)) : Bool × List Int × List S46 := ((W c).1, (W c).2, p.map enP)
/-- What comes in: small enough. -/
structure Small (m n : Nat) (l1 : List Int) (l2 : List S46) : Prop where
  lim : Lim l1
  len : l1.length ≤ n
  num : l2.length ≤ m
  each : ∀ x ∈ l2, Lim x.f1.f1 ∧ x.f1.f1.length ≤ n
theorem Small.guard {m n : Nat} {l1 : List Int} {l2 : List S46} (h : Small m n l1 l2) (hm : m ≤ 1000000) (hn : n ≤ 1000000) : guardL l1 l2 = true := by
  have h1 := h.len
  have h2 := h.num
  unfold guardL
  rw [limB_mk h.lim (by omega), decide_eq_true (show l2.length ≤ 1000000 by omega), Bool.true_and, Bool.true_and, List.all_eq_true]
  exact fun x hx => limB_mk (h.each x hx).1 (by have := (h.each x hx).2; omega)
theorem Small.all {m n : Nat} {l1 : List Int} {l2 : List S46} (h : Small m n l1 l2) (hm : m ≤ 1000000) (hn : n ≤ 1000000) : l2.all (fun x => limB x.f1.f1) = true := by
  rw [List.all_eq_true]
  exact fun x hx => limB_mk (h.each x hx).1 (by have := (h.each x hx).2; omega)
theorem Small.bq {m n : Nat} {l1 : List Int} {l2 : List S46} (h : Small m n l1 l2) : BQ n (l2.map prM) := fun x hx => by
  obtain ⟨y, hy, rfl⟩ := List.mem_map.1 hx
  exact (B_in y.f1.f0 (h.each y hy).1).mono (h.each y hy).2
theorem Small.b {m n : Nat} {l1 : List Int} {l2 : List S46} (h : Small m n l1 l2) (b : Bool) : B n (wv b l1) := (B_in b h.lim).mono h.len
theorem small_SU {m n : Nat} {c : Int} {p : List (Int × Int)} (hc : B n c) (hp : p.length ≤ m) (hq : BQ n p) : Small m n (W c).2 (p.map enP) := by
  refine ⟨W_lim c, hc.len, by rw [List.length_map]; exact hp, fun x hx => ?_⟩
  obtain ⟨q, hq', rfl⟩ := List.mem_map.1 hx
  exact ⟨W_lim _, (hq q hq').len⟩
theorem lnorm_ev {m n : Nat} {l1 : List Int} {l2 : List S46} (h : Small m n l1 l2) (hm : m ≤ 1000000) (hn : n ≤ 1000000) (b : Bool) : lin_Norm.f b l1 l2 = some (SU (wv b l1) (normP (l2.map prM))) := by
  unfold lin_Norm.f
  rw [if_pos (h.guard hm hn)]; rfl
theorem B0 : B 0 0 := by unfold B az; simp [dig, digN]
theorem coef_B {n : Nat} : ∀ (p : List (Int × Int)) (v : Int), BQ n p → B (n + p.length) (coef p v)
  | [], v, _ => B0.mono (by omega)
  | q :: r, v, h => by
    have h1 := coef_B r v (fun x hx => h x (List.mem_cons_of_mem _ hx))
    have h2 : B n (if q.1 = v then q.2 else 0) := by
      split
      · exact h q List.mem_cons_self
      · exact B0.mono (by omega)
    unfold coef
    exact ((h2.mono (by omega)).add h1).mono (by simp only [List.length_cons]; omega)
theorem form_coef : ∀ {p : List (Int × Int)}, Form p → ∀ x ∈ p, coef p x.1 = x.2
  | [], _, x, hx => by cases hx
  | q :: r, h, x, hx => by
    obtain ⟨h1, h2, h3⟩ := h
    unfold coef
    rcases List.mem_cons.1 hx with rfl | hx
    · rw [if_pos rfl, coef_none r x.1 (fun y hy => by have := h2 y hy; omega)]; omega
    · have := h2 x hx
      rw [if_neg (by omega), form_coef h3 x hx]; omega
theorem norm_B {n : Nat} {p : List (Int × Int)} (h : BQ n p) : BQ (n + p.length) (normP p) := fun x hx => by
  have h1 := form_coef (form_norm p) x hx
  rw [coef_norm] at h1
  rw [← h1]
  exact coef_B p x.1 h
theorem form_ne : ∀ {p : List (Int × Int)}, Form p → ∀ x ∈ p, x.2 ≠ 0
  | [], _, x, hx => by cases hx
  | q :: r, h, x, hx => by
    rcases List.mem_cons.1 hx with rfl | hx
    · exact h.1
    · exact form_ne h.2.2 x hx

/-! ### the divisor -/
def gP (g : Int) (p : List (Int × Int)) : Int := p.foldl (fun g x => gcdI g (az x.2)) g
theorem gcdI_nonneg (a b : Int) : 0 ≤ gcdI a b := by unfold gcdI; omega
theorem gcdI_left (a b : Int) (ha : 0 ≤ a) : gcdI a b ∣ a := by
  unfold gcdI
  have h := Nat.gcd_dvd_left a.toNat b.toNat
  have : ((Nat.gcd a.toNat b.toNat : Nat) : Int) ∣ ((a.toNat : Nat) : Int) := Int.ofNat_dvd.2 h
  rwa [Int.toNat_of_nonneg ha] at this
theorem gcdI_right (a b : Int) (hb : 0 ≤ b) : gcdI a b ∣ b := by
  unfold gcdI
  have h := Nat.gcd_dvd_right a.toNat b.toNat
  have : ((Nat.gcd a.toNat b.toNat : Nat) : Int) ∣ ((b.toNat : Nat) : Int) := Int.ofNat_dvd.2 h
  rwa [Int.toNat_of_nonneg hb] at this
theorem az_dvd {g z : Int} (h : g ∣ az z) : g ∣ z := by
  unfold az at h
  split at h
  · exact (Int.dvd_neg).1 h
  · exact h
theorem gP_dvd : ∀ (p : List (Int × Int)) (g : Int), 0 ≤ g → 0 ≤ gP g p ∧ gP g p ∣ g ∧ ∀ x ∈ p, gP g p ∣ x.2
  | [], g, h => ⟨h, Int.dvd_refl g, by simp⟩
  | q :: r, g, h => by
    obtain ⟨h1, h2, h3⟩ := gP_dvd r (gcdI g (az q.2)) (gcdI_nonneg _ _)
    refine ⟨h1, Int.dvd_trans h2 (gcdI_left _ _ h), fun x hx => ?_⟩
    rcases List.mem_cons.1 hx with rfl | hx
    · exact az_dvd (Int.dvd_trans h2 (gcdI_right _ _ (az_nonneg _)))
    · exact h3 x hx
theorem gP_pos {p : List (Int × Int)} (hp : p ≠ []) (h : ∀ x ∈ p, x.2 ≠ 0) : 0 < gP 0 p := by
  obtain ⟨h1, _, h3⟩ := gP_dvd p 0 (Int.le_refl 0)
  obtain ⟨x, hx⟩ := List.exists_mem_of_ne_nil p hp
  have h4 := h3 x hx
  have h5 := h x hx
  rcases Int.lt_or_eq_of_le h1 with h6 | h6
  · exact h6
  · rw [← h6] at h4
    exact absurd (Int.zero_dvd.1 h4) h5
theorem dvd_az {g z : Int} (h : g ∣ z) : g ∣ az z := by
  unfold az
  split
  · exact (Int.dvd_neg).2 h
  · exact h
theorem gP_B {n : Nat} {p : List (Int × Int)} (hp : p ≠ []) (h : ∀ x ∈ p, x.2 ≠ 0) (hb : BQ n p) : B n (gP 0 p) := by
  obtain ⟨h1, _, h3⟩ := gP_dvd p 0 (Int.le_refl 0)
  obtain ⟨x, hx⟩ := List.exists_mem_of_ne_nil p hp
  refine (hb x hx).le ?_
  have h4 : az (gP 0 p) = gP 0 p := by unfold az; rw [if_neg (by omega)]
  rw [h4]
  refine Int.le_of_dvd ?_ (dvd_az (h3 x hx))
  have := h x hx
  unfold az
  split <;> omega
theorem div_l0 (p : List (Int × Int)) (hl : p.length ≤ 1000000) (n : Nat) (hn : n ≤ 1000000) (hb : BQ n p) : ∀ d i (g : Int), i + d = p.length → 0 ≤ g → B n g → (g = 0 ∨ True) → Ev (fun k => lin_divisor.l0 k (dig g) (p.map enP) ((p.map enP).length : Int) (i : Int)) (false, dig (gP g (p.drop i))) := by
  intro d
  induction d with
  | zero =>
    intro i g hi h0 hg _
    refine Ev.step (fun k => by rw [lin_divisor.l0]) (evN (by rw [List.length_map]; omega) (evR ?_))
    rw [List.drop_eq_nil_of_le (by omega)]; rfl
  | succ d ih =>
    intro i g hi h0 hg _
    have hi' : i < p.length := by omega
    have hi2 : i < (p.map enP).length := by rw [List.length_map]; omega
    refine Ev.step (fun k => by rw [lin_divisor.l0]) (evP (by omega) (evP (by omega) (evP (by omega) ?_)))
    rw [rdM _ i hi2, List.getElem_map]
    have hq := hb p[i] (List.getElem_mem hi')
    have hag : az g = g := by unfold az; rw [if_neg (by omega)]
    have hgl : (dig g).length ≤ n := by have := hg; unfold B at this; rwa [hag] at this
    have e1 := gcd_ev (dig g) (W p[i].2).2 (dig_lim _) (W_lim _) (by omega) (by have := hq.len; omega)
    rw [val_dig h0, val_W] at e1
    refine Ev.bind e1 ?_
    rw [wnext (by omega), List.drop_eq_getElem_cons hi']
    refine ih (i + 1) (gcdI g (az p[i].2)) (by omega) (gcdI_nonneg _ _) ?_ (.inr trivial)
    by_cases hz : az p[i].2 = 0
    · rw [hz, gcdI_zero g h0]; exact hg
    · refine hq.le ?_
      have h5 : az (gcdI g (az p[i].2)) = gcdI g (az p[i].2) := by have := gcdI_nonneg g (az p[i].2); unfold az; rw [if_neg (by unfold az at this; omega)]
      rw [h5]
      exact Int.le_of_dvd (by have := az_nonneg p[i].2; omega) (gcdI_right _ _ (az_nonneg _))
theorem div_ev {n : Nat} (p : List (Int × Int)) (hl : p.length ≤ 1000000) (hn : n ≤ 1000000) (hb : BQ n p) (b : Bool) (l : List Int) : Ev (fun k => lin_divisor.f k b l (p.map enP)) (false, dig (gP 0 p)) := by
  have := div_l0 p hl n hn hb p.length 0 0 (by omega) (Int.le_refl 0) (B0.mono (by omega)) (.inr trivial)
  rw [show dig 0 = [] by simp [dig, digN]] at this
  exact this
end Go.Proofs.Ytdicjemjmlbmlaa.S
/- Scale; what tight and even claims are. -/
namespace Go.Proofs.Ytdicjemjmlbmlaa.S
set_option linter.unusedVariables false
set_option linter.unusedSimpArgs false
open Go.RowKit Go.Proofs.Ytdicjemjmlbmlaa.V Go.Proofs.Ytdicjemjmlbmlaa.PA Go.Proofs.Ytdicjemjmlbmlaa.H Go.Proofs.YtdicjemjmlbmlaaW.PrintWords Go.Proofs.YtdicjemjmlbmlaaW.PrintLast Go.Proofs.YtdicjemjmlbmlaaW.PrintMore

theorem Small.mono {m n m' n' : Nat} {l1 : List Int} {l2 : List S46} (h : Small m n l1 l2) (hm : m ≤ m') (hn : n ≤ n') : Small m' n' l1 l2 :=
  ⟨h.lim, Nat.le_trans h.len hn, Nat.le_trans h.num hm, fun x hx => ⟨(h.each x hx).1, Nat.le_trans (h.each x hx).2 hn⟩⟩
/-! ### so many times -/
def scP (z : Int) (p : List (Int × Int)) : List (Int × Int) := p.map fun x => (x.1, x.2 * z)
theorem scP_B {m n : Nat} {z : Int} {p : List (Int × Int)} (h : BQ m p) (hz : B n z) : BQ (m + n) (scP z p) := fun x hx => by
  obtain ⟨y, hy, rfl⟩ := List.mem_map.1 hx
  exact (h y hy).mul hz
theorem scale_l0 {m n : Nat} {l1 : List Int} {l2 : List S46} (h : Small m n l1 l2) (hm : m ≤ 100000) (hn : n ≤ 100000) (b2 : Bool) (l3 : List Int) (h3 : Lim l3) (n3 : l3.length ≤ 100000) (c : Int) (hc : B 1000000 c) :
    ∀ d i, i + d = l2.length → Ev (fun k => lin_Scale.l0 k l2 (l2.length : Int) (i : Int) b2 l3 (W c).1 (W c).2 (((scP (wv b2 l3) (l2.map prM)).take i).map enP)) (SU c (normP (scP (wv b2 l3) (l2.map prM)))) := by
  have hlen := h.num
  intro d
  induction d with
  | zero =>
    intro i hi
    refine Ev.step (fun k => by rw [lin_Scale.l0]) (evN (by omega) ?_)
    have e1 : (scP (wv b2 l3) (l2.map prM)).take i = scP (wv b2 l3) (l2.map prM) := List.take_of_length_le (by unfold scP; rw [List.length_map, List.length_map]; omega)
    rw [e1]
    have hs : Small 1000000 1000000 (W c).2 ((scP (wv b2 l3) (l2.map prM)).map enP) := small_SU hc (by unfold scP; rw [List.length_map, List.length_map]; omega) ((scP_B h.bq ((B_in b2 h3).mono n3)).mono (by omega))
    have := lnorm_ev hs (by omega) (by omega) (W c).1
    rw [wv_W, map_enP] at this
    exact evC this (evR rfl)
  | succ d ih =>
    intro i hi
    have hi' : i < l2.length := by omega
    refine Ev.step (fun k => by rw [lin_Scale.l0]) (evP (by omega) (evP (by omega) (evP (by omega) ?_)))
    rw [rdM l2 i hi']
    obtain ⟨h5, h6⟩ := h.each _ (List.getElem_mem hi')
    refine Ev.bind (wMul_ev l2[i].f1.f0 b2 l2[i].f1.f1 l3 h5 h3 (by omega) (by omega)) (evP (by rw [List.length_map, List.length_take]; omega) ?_)
    rw [wnext (by omega)]
    have e2 : (scP (wv b2 l3) (l2.map prM)).take (i + 1) = (scP (wv b2 l3) (l2.map prM)).take i ++ [((prM l2[i]).1, (prM l2[i]).2 * wv b2 l3)] := by
      rw [List.take_add_one]
      congr 1
      unfold scP
      rw [List.getElem?_map, List.getElem?_map, List.getElem?_eq_getElem hi']; rfl
    have := ih (i + 1) (by omega)
    rw [e2, List.map_append] at this
    exact this
theorem scale_ev {m n : Nat} {l1 : List Int} {l2 : List S46} (h : Small m n l1 l2) (hm : m ≤ 100000) (hn : n ≤ 100000) (b b2 : Bool) (l3 : List Int) (h3 : Lim l3) (n3 : l3.length ≤ 100000) :
    Ev (fun k => lin_Scale.f k b l1 l2 b2 l3) (SU (wv b l1 * wv b2 l3) (normP (scP (wv b2 l3) (l2.map prM)))) := by
  have h1 := h.len
  refine Ev.congr (fun k => rfl) (Ev.bind (wMul_ev b b2 l1 l3 h.lim h3 (by omega) (by omega)) ?_)
  exact scale_l0 h hm hn b2 l3 h3 n3 _ (((h.b b).mul (B_in b2 h3)).mono (by omega)) l2.length 0 (by omega)

/-! ### tight and even -/
def partP (g : Int) (p : List (Int × Int)) : List (Int × Int) := p.map fun x => (x.1, x.2 / g)
theorem az_div (x g : Int) (hg : 0 < g) : az (x / g) ≤ az x := by
  have h1 := Int.mul_ediv_add_emod x g
  have h2 := Int.emod_nonneg x (Int.ne_of_gt hg)
  have h3 := Int.emod_lt_of_pos x hg
  unfold az
  by_cases hx : x < 0
  · rw [if_pos hx]
    have h4 : x / g < 0 := Int.ediv_neg_of_neg_of_pos hx hg
    rw [if_pos h4]
    have h5 : x ≤ x / g := by
      refine (Int.le_ediv_iff_mul_le hg).2 ?_
      have : x * g ≤ x * 1 := Int.mul_le_mul_of_nonpos_left (by omega) (by omega)
      omega
    omega
  · rw [if_neg hx]
    have h4 : 0 ≤ x / g := Int.ediv_nonneg (by omega) (by omega)
    rw [if_neg (by omega)]
    exact Int.ediv_le_self g (by omega)
theorem B_div {n : Nat} {x g : Int} (h : B n x) (hg : 0 < g) : B n (x / g) := h.le (az_div x g hg)
theorem partP_B {n : Nat} {g : Int} {p : List (Int × Int)} (h : BQ n p) (hg : 0 < g) : BQ n (partP g p) := fun x hx => by
  obtain ⟨y, hy, rfl⟩ := List.mem_map.1 hx
  exact B_div (h y hy) hg
theorem wv_dig {g : Int} (h : 0 ≤ g) : wv false (dig g) = g := by unfold wv; rw [if_neg Bool.false_ne_true, val_dig h]
theorem B_pos {n : Nat} {g : Int} (h : 0 ≤ g) (hb : B n g) : (dig g).length ≤ n := by
  unfold B az at hb
  rwa [if_neg (by omega)] at hb
theorem by_ev {q : List (Int × Int)} (hl : q.length ≤ 1000000) (hb : BQ 1000000 q) {g : Int} (hg : 0 < g) (hB : B 1000000 g) (b b2 : Bool) (l l3 : List Int) : lin_by.f b l (q.map enP) false (dig g) b2 l3 = some (b2, l3, (partP g q).map enP) := by
  unfold lin_by.f guardB
  rw [wv_dig (Int.le_of_lt hg), limB_mk (dig_lim g) (B_pos (Int.le_of_lt hg) hB), decide_eq_true (show g ≠ 0 by omega), decide_eq_true (show (q.map enP).length ≤ 1000000 by rw [List.length_map]; exact hl), allB q hb]
  show some (b2, l3, _) = some (b2, l3, _)
  congr 3
  rw [List.map_map]
  unfold partP
  rw [List.map_map]
  refine List.map_congr_left (fun x _ => ?_)
  show quoM g (prM (enP x)) = enP (x.1, x.2 / g)
  rw [prM_enP]; rfl
def tightP (c : Int) (q : List (Int × Int)) : Int × List (Int × Int) × Int := if q = [] then (c, [], if c < 0 then -1 else 1) else (c / gP 0 q, partP (gP 0 q) q, 0)
def evenP (c : Int) : List (Int × Int) → Int × List (Int × Int) × Int
  | [] => (c, [], if c = 0 then 1 else -1)
  | y :: r => if c % gP 0 (y :: r) = 0 then (if y.2 / gP 0 (y :: r) < 0 then (c / gP 0 (y :: r) * (-1), normP (scP (-1) (partP (gP 0 (y :: r)) (y :: r))), 0) else (c / gP 0 (y :: r), partP (gP 0 (y :: r)) (y :: r), 0)) else (c, y :: r, -1)
def OU (t : Int × List (Int × Int) × Int) : Bool × List Int × List S46 × Int := ((W t.1).1, (W t.1).2, t.2.1.map enP, t.2.2)
theorem norm_small {m n : Nat} {l1 : List Int} {l2 : List S46} (h : Small m n l1 l2) : (normP (l2.map prM)).length ≤ m ∧ BQ (n + m) (normP (l2.map prM)) := by
  have h1 := h.num
  have h2 := norm_len (l2.map prM)
  have h3 := norm_B h.bq
  rw [List.length_map] at h2 h3
  exact ⟨by omega, h3.mono (by omega)⟩
end Go.Proofs.Ytdicjemjmlbmlaa.S
/- lin.Tight, by its numbers. -/
namespace Go.Proofs.Ytdicjemjmlbmlaa.H
set_option linter.unusedSimpArgs false
set_option linter.unusedVariables false
open Go.RowKit Go.Proofs.YtdicjemjmlbmlaaW.PrintWords Go.Proofs.YtdicjemjmlbmlaaW.PrintLast Go.Proofs.YtdicjemjmlbmlaaW.PrintMore Go.Proofs.Ytdicjemjmlbmlaa.PA Go.Proofs.Ytdicjemjmlbmlaa.V Go.Proofs.Ytdicjemjmlbmlaa.S
attribute [local go_sem] box_twice
def limT (l : List Int) : Bool := limB l && decide (l.length ≤ 10000)
def guardT (l1 : List Int) (l2 : List S46) : Bool := limT l1 && decide (l2.length ≤ 10000) && l2.all (fun x => limT x.f1.f1)
theorem guardT_small {l1 : List Int} {l2 : List S46} (h : guardT l1 l2 = true) : Small 10000 10000 l1 l2 := by
  unfold guardT limT at h
  rw [Bool.and_eq_true, Bool.and_eq_true, Bool.and_eq_true, decide_eq_true_eq, decide_eq_true_eq, List.all_eq_true] at h
  obtain ⟨⟨⟨h1, h2⟩, h3⟩, h4⟩ := h
  refine ⟨(limB_of h1).2, h2, h3, fun x hx => ?_⟩
  have := h4 x hx
  rw [Bool.and_eq_true, decide_eq_true_eq] at this
  exact ⟨(limB_of this.1).2, this.2⟩
/-- A sum's two rows through stores into boxes. -/
theorem out_lin {w w1 : World} {base : Nat} {ok ok' : Nat → Prop} {v1 v2 : Value} {l1 : List Int} {l2 : List S46} (hr : Kd.R (Kd.int .u32) 81 w base ok v1 l1) (hs : Kd.S k46 46 w base ok' v2 l2)
    (hm : ∀ (k : Nat) (cells : Array Value) (t : Nat), t = 81 ∨ t = 46 → w.heap[k]? = some (Obj.cells cells t (0, 0)) → w1.heap[k]? = w.heap[k]?) :
    Kd.V (Kd.int .u32) 81 w1 base (fun k_ => base ≤ k_ ∧ some k_ ≠ v2.ownBlock) v1 l1 ∧ Kd.S k46 46 w1 base (fun k_ => base ≤ k_) v2 l2 := by
  have hty := Kd.S_typed hs
  refine ⟨?_, ?_⟩
  · refine Kd.V_mono (Kd.R_V (Kd.R_move (Kd.R_bound hr) (fun k hk => ?_))) (fun k hk => ⟨hk.2.1, fun e => ?_⟩)
    · obtain ⟨_, _, _, q, hq, cells, hc⟩ := hk
      rcases List.mem_cons.1 hq with rfl | hq
      · exact hm k cells _ (.inl rfl) hc
      · cases hq
    · obtain ⟨_, _, _, q, hq, cells, hc⟩ := hk
      obtain ⟨c2, hc2⟩ := hty k e.symm
      rw [hc] at hc2
      injection hc2 with hc2
      injection hc2 with _ hc2
      rcases List.mem_cons.1 hq with rfl | hq
      · exact absurd hc2 (by decide)
      · cases hq
  · refine Kd.S_mono (Kd.S_move (Kd.S_bound hs) (fun k hk => ?_)) (fun k hk => hk.2.1)
    obtain ⟨_, _, _, q, hq, cells, hc⟩ := hk
    have hq : q ∈ [46, 81] := hq
    rcases List.mem_cons.1 hq with rfl | hq
    · exact hm k cells _ (.inr rfl) hc
    · rw [List.mem_singleton.1 hq] at hc
      exact hm k cells _ (.inl rfl) hc
def lin_Tight.f (b : Bool) (l1 : List Int) (l2 : List S46) : Option (Bool × List Int × List S46 × Int) := if guardT l1 l2 = true then some (OU (tightP (wv b l1) (normP (l2.map prM)))) else none
set_option maxHeartbeats 8000000 in
set_option maxRecDepth 100000 in
theorem lin_Tight.calls (a0_0 : Bool) (A0_1 : Option Addr) (c0_1 : Nat) (l0_1 : List Int) (A0_2 : Option Addr) (c0_2 : Nat) (l0_2 : List (S46)) (r1 : Bool) (r2 : List Int) (r3 : List (S46)) (r4 : Int) (w : World) (hr0_1 : Kd.C (Kd.int .u32) w A0_1 l0_1.length l0_1) (hc0_1 : l0_1.length ≤ c0_1) (hr0_2 : Kd.C k46 w A0_2 l0_2.length l0_2) (hc0_2 : l0_2.length ≤ c0_2) (h : lin_Tight.f a0_0 l0_1 l0_2 = some (r1, r2, r3, r4)) :
    Calls Try.prog 11 #[.agg #[.bool a0_0, .slice A0_1 l0_1.length c0_1, .slice A0_2 l0_2.length c0_2]] w fun e w' => ∃ v1_ v2_ : Value, e = .returned (.tuple #[.agg #[.bool r1, v1_, v2_], .int .i64 r4]) ∧ Kd.V (Kd.int .u32) 81 w' w.heap.size (fun k_ => w.heap.size ≤ k_ ∧ some k_ ≠ (v2_ : Value).ownBlock) v1_ r2 ∧ Kd.S k46 46 w' w.heap.size (fun k_ => w.heap.size ≤ k_) v2_ r3 ∧ Below w.heap.size w w' := by
  have mixed : Try.prog.follows Departure.mixedOrders = true := by kernel_rfl
  have hu27 := Try.underlying27
  have hu24 := Try.underlying24
  have hu46 := Try.underlying46
  unfold lin_Tight.f at h
  split at h
  case isFalse => cases h
  case isTrue hg =>
  have hs := guardT_small hg
  have hN := lnorm_ev hs (by omega) (by omega) a0_0
  obtain ⟨hq1, hq2⟩ := norm_small hs
  have hcB := hs.b a0_0
  have hf := form_norm (l0_2.map prM)
  have HR1 := Aside0.mk hr0_1
  have HC1 := Aside0.mk hc0_1
  have HR2 := Aside0.mk hr0_2
  have HC2 := Aside0.mk hc0_2
  generalize normP (l0_2.map prM) = q at *
  generalize wv a0_0 l0_1 = c at *
  have hsg := wSign_ev (W c).1 (W c).2 (W_lim c) (by have := hcB.len; omega)
  rw [wv_W] at hsg
  have hOU := Option.some.inj h
  have hN2 : lin_Norm.f a0_0 l0_1 l0_2 = some ((W c).1, (W c).2, q.map enP) := hN
  clear hr0_1 hc0_1 hr0_2 hc0_2 hN h hg
  by_cases hq : q = []
  · subst hq
    rw [show tightP c [] = (c, [], if c < 0 then -1 else 1) from rfl] at hOU
    have hOU2 : ((W c).1, (W c).2, ([] : List S46), if c < 0 then (-1 : Int) else 1) = (r1, r2, r3, r4) := hOU
    have hN3 : lin_Norm.f a0_0 l0_1 l0_2 = some ((W c).1, (W c).2, []) := hN2
    have hcc : (sg c < 0) ↔ (c < 0) := sg_neg c
    generalize (W c).1 = nb at *
    generalize (W c).2 = nl at *
    generalize sg c = s at *
    have HN := Aside0.mk hN3
    have HSG := Aside0.mk hsg
    simp only [Prod.mk.injEq] at hOU2
    obtain ⟨rfl, rfl, rfl, hr4⟩ := hOU2
    have hd : (r4 = -1 ∧ decide (s < 0) = true) ∨ (r4 = 1 ∧ decide (s < 0) = false) := by
      by_cases hc : c < 0
      · rw [if_pos hc] at hr4
        exact .inl ⟨hr4.symm, decide_eq_true (hcc.2 hc)⟩
      · rw [if_neg hc] at hr4
        exact .inr ⟨hr4.symm, decide_eq_false (fun e => hc (hcc.1 e))⟩
    clear hcB hf hq1 hq2 hOU hN2 hN3 hsg hcc hs hr4
    rcases hd with ⟨rfl, d1⟩ | ⟨rfl, d1⟩
    all_goals go_enter Try.func11, Try.ntmps11
    all_goals go_wp2_with (first
        | ((with_reducible refine gate_dst (N := 1) rfl ?_); refine box_event ?hg (N := 1) ?hd (cs := #[.bool a0_0, .slice A0_1 l0_1.length c0_1, .slice A0_2 l0_2.length c0_2]) (t := 27) ?hr ?_; (case hd => rfl); (case hg => rfl); (case hr => first | (go_simp; done) | (go_simp; rfl)); intro gA hgA w1 hbox hb; have BA1 := Aside0.mk hbox; have GA := Aside0.mk (show w.heap.size ≤ gA by rw [hgA]; exact Nat.le_refl _); have HB1 := Aside0.mk hb; clear hgA hbox hb)
        | ((with_reducible refine gate_dst (N := 2) rfl ?_); refine box_event ?hg (N := 2) ?hd (cs := #[.bool false, .slice none 0 0, .slice none 0 0]) (t := 27) ?hr ?_; (case hd => rfl); (case hg => rfl); (case hr => first | (go_simp; done) | (go_simp; rfl)); intro gR hgR w2 hbox hb; have BR2 := Aside0.mk hbox; have BA2 := Aside0.mk (blk_below BA1.out hb); have GR := Aside0.mk (show w.heap.size ≤ gR by rw [hgR]; exact below_size HB1.out); have NAR := Aside0.mk (show gA ≠ gR by rw [hgR]; exact Nat.ne_of_lt (blk_lt BA1.out)); have HB2 := Aside0.mk (below_step HB1.out hb); clear hgR hbox hb; have hcA0 : w2.cell? ⟨gA, 0, none⟩ = some (.bool a0_0) := (blk_cell BA2.out 0).trans rfl; have hcA1 : w2.cell? ⟨gA, 1, none⟩ = some (.slice A0_1 l0_1.length c0_1) := (blk_cell BA2.out 1).trans rfl; have hcA2 : w2.cell? ⟨gA, 2, none⟩ = some (.slice A0_2 l0_2.length c0_2) := (blk_cell BA2.out 2).trans rfl)
        | (go_at_call 20; (with_reducible refine (lin_Norm.calls a0_0 _ _ l0_1 _ _ l0_2 nb nl [] _ ?s1 HC1.out ?s3 HC2.out HN.out).mono ?_); (case s1 => exact Kd.C_below HR1.out HB2.out); (case s3 => exact Kd.C_below HR2.out HB2.out); rintro e w3 ⟨v1, v2, rfl, ho, hs, hb⟩; obtain ⟨AC, cC, eC⟩ := Kd.R_slice ho; subst eC; obtain ⟨AV, cV, eV⟩ := Kd.S_slice hs; subst eV; have HO3 := Aside0.mk ho; have HS3 := Aside0.mk hs; have HB23 := Aside0.mk hb; have BA3 := Aside0.mk (blk_below BA2.out hb); have BR3 := Aside0.mk (blk_below BR2.out hb); have HB3 := Aside0.mk (below_step HB2.out hb); clear ho hs hb; have hcB0 : w3.cell? ⟨gA, 0, none⟩ = some (.bool a0_0) := (blk_cell BA3.out 0).trans rfl; have hcB1 : w3.cell? ⟨gA, 1, none⟩ = some (.slice A0_1 l0_1.length c0_1) := (blk_cell BA3.out 1).trans rfl; have hcB2 : w3.cell? ⟨gA, 2, none⟩ = some (.slice A0_2 l0_2.length c0_2) := (blk_cell BA3.out 2).trans rfl; have hfB0 := blk_frozen BA3.out 0; have hfB1 := blk_frozen BA3.out 1; have hfB2 := blk_frozen BA3.out 2)
        | (go_at_call 19; (with_reducible refine (whole_Sign.calls nb _ _ nl s _ ?s4 ?s5 HSG.out).mono ?_); (case s4 => exact (Kd.R_reads' (OwnK.move (x := ⟨0, false, AC, cC, nl⟩) HO3.out (fun k cells hk => set3_other _ _ _ _ _ _ _ _ k (box_ne BA3.out hk (by decide))))).2.2); (case s5 => exact (Kd.R_reads' HO3.out).2.1); rintro e w4 ⟨rfl, hb⟩; have BA4 := Aside0.mk (blk_below (g := gA) (o := .cells #[.bool nb, .slice AC nl.length cC, .slice AV 0 cV] 27 (0, 0)) (by refine blk_put (cs := #[.bool nb, .slice AC nl.length cC, .slice A0_2 l0_2.length c0_2]) ?_ 2 _ rfl; refine blk_put (cs := #[.bool nb, .slice A0_1 l0_1.length c0_1, .slice A0_2 l0_2.length c0_2]) ?_ 1 _ rfl; refine blk_put (cs := #[.bool a0_0, .slice A0_1 l0_1.length c0_1, .slice A0_2 l0_2.length c0_2]) ?_ 0 _ rfl; exact BA3.out) hb); have BR4 := Aside0.mk (blk_below (g := gR) (o := .cells #[.bool false, .slice none 0 0, .slice none 0 0] 27 (0, 0)) ((set3_other _ _ _ _ _ _ _ _ gR (fun e => NAR.out e.symm)).trans BR3.out) hb); have KM := Aside0.mk (fun (k : Nat) (cells : Array Value) (t : Nat) (ht : t ≠ 27) (hk : w3.heap[k]? = some (Obj.cells cells t (0, 0))) => (hb.block k (Array.getElem?_eq_some_iff.1 ((set3_other w3 gA 0 1 2 (.bool nb) (.slice AC nl.length cC) (.slice AV 0 cV) k (box_ne BA3.out hk (fun e => ht e.symm))).trans hk)).1).trans (set3_other w3 gA 0 1 2 (.bool nb) (.slice AC nl.length cC) (.slice AV 0 cV) k (box_ne BA3.out hk (fun e => ht e.symm)))); have HB4 := Aside0.mk (below_step (show Below w.heap.size w (((w3.setCell ⟨gA, 0, none⟩ (.bool nb)).setCell ⟨gA, 1, none⟩ (.slice AC nl.length cC)).setCell ⟨gA, 2, none⟩ (.slice AV 0 cV)) by repeat first | exact HB3.out | refine below_set ?_ GA.out) hb); clear hb; have hcD0 : w4.cell? ⟨gA, 0, none⟩ = some (.bool nb) := (blk_cell BA4.out 0).trans rfl; have hcD1 : w4.cell? ⟨gA, 1, none⟩ = some (.slice AC nl.length cC) := (blk_cell BA4.out 1).trans rfl; have hcD2 : w4.cell? ⟨gA, 2, none⟩ = some (.slice AV 0 cV) := (blk_cell BA4.out 2).trans rfl; have hcR0 : w4.cell? ⟨gR, 0, none⟩ = some (.bool false) := (blk_cell BR4.out 0).trans rfl; have hcR1 : w4.cell? ⟨gR, 1, none⟩ = some (.slice none 0 0) := (blk_cell BR4.out 1).trans rfl; have hcR2 : w4.cell? ⟨gR, 2, none⟩ = some (.slice none 0 0) := (blk_cell BR4.out 2).trans rfl; have hfR0 := blk_frozen BR4.out 0; have hfR1 := blk_frozen BR4.out 1; have hfR2 := blk_frozen BR4.out 2))
    all_goals refine bodyPost_ret (results_ct rfl _ _ gR 27 #[.bool nb, .slice AC nl.length cC, .slice AV 0 cV] (0, 0) _ rfl (by refine blk_put (cs := #[.bool nb, .slice AC nl.length cC, .slice none 0 0]) ?_ 2 _ rfl; refine blk_put (cs := #[.bool nb, .slice none 0 0, .slice none 0 0]) ?_ 1 _ rfl; refine blk_put (cs := #[.bool false, .slice none 0 0, .slice none 0 0]) ?_ 0 _ rfl; exact BR4.out) Try.underlying27 rfl (by kernel_rfl)) rfl ?_
    all_goals (obtain ⟨hV, hS⟩ := out_lin (w1 := ((w4.setCell ⟨gR, 0, none⟩ (.bool nb)).setCell ⟨gR, 1, none⟩ (.slice AC nl.length cC)).setCell ⟨gR, 2, none⟩ (.slice AV 0 cV)) (Kd.R_lower HO3.out HB2.out.size) (Kd.S_lower HS3.out HB2.out.size) (fun k cells t ht hk => (set3_other _ _ _ _ _ _ _ _ k (box_ne BR3.out hk (fun e => by rcases ht with rfl | rfl <;> exact absurd e (by decide)))).trans (KM.out k cells t (fun e => by rcases ht with rfl | rfl <;> exact absurd e (by decide)) hk)))
    all_goals exact ⟨_, _, rfl, hV, hS, by repeat first | exact HB4.out | refine below_set ?_ GR.out⟩
  · have hne := form_ne hf
    have hg := gP_pos hq hne
    have hgB := gP_B hq hne hq2
    have hql : 0 < q.length := List.length_pos_iff.2 hq
    rw [show tightP c q = (c / gP 0 q, partP (gP 0 q) q, 0) from if_neg hq] at hOU
    obtain ⟨kd, hkd⟩ := (div_ev q (by omega) (n := 10000 + 10000) (by omega) hq2 (W c).1 (W c).2).rounds
    have e1 := wFloor_ev (W c).1 false (W c).2 (dig (gP 0 q)) (W_lim c) (dig_lim _) (by have := hcB.len; omega) (by have := B_pos (Int.le_of_lt hg) hgB; omega)
    rw [wv_W, wv_dig (Int.le_of_lt hg), if_neg (by omega), show fl c (gP 0 q) = c / gP 0 q from if_neg (by omega)] at e1
    obtain ⟨kf, hkf⟩ := e1.rounds
    have hby := fun b l b2 l3 => by_ev (by omega) (hq2.mono (by omega)) hg (hgB.mono (by omega)) b b2 l l3
    have hOU2 : ((W (c / gP 0 q)).1, (W (c / gP 0 q)).2, (partP (gP 0 q) q).map enP, (0 : Int)) = (r1, r2, r3, r4) := hOU
    have hnl : (q.map enP).length = q.length := List.length_map ..
    have hqn : 0 < (q.map enP).length := by omega
    generalize (W c).1 = nb at *
    generalize (W c).2 = nl at *
    generalize (W (c / gP 0 q)).1 = cb at *
    generalize (W (c / gP 0 q)).2 = cl at *
    generalize (partP (gP 0 q) q).map enP = np at *
    generalize dig (gP 0 q) = gl at *
    generalize q.map enP = nq at *
    have HN := Aside0.mk hN2
    have HD := Aside0.mk hkd
    have HF := Aside0.mk hkf
    have HY := Aside0.mk hby
    simp only [Prod.mk.injEq] at hOU2
    obtain ⟨rfl, rfl, rfl, rfl⟩ := hOU2
    have d1 : (((nq.length : Nat) : Int) == 0) = false := beq_eq_false_iff_ne.2 (by omega)
    have d2 : (nq.length == 0) = false := beq_eq_false_iff_ne.2 (by omega)
    clear hcB hf hq1 hq2 hOU hN2 hsg hs hne hg hgB hql hkd e1 hkf hby hnl hqn hq
    go_enter Try.func11, Try.ntmps11
    go_wp2_with (first
        | ((with_reducible refine gate_dst (N := 1) rfl ?_); refine box_event ?hg (N := 1) ?hd (cs := #[.bool a0_0, .slice A0_1 l0_1.length c0_1, .slice A0_2 l0_2.length c0_2]) (t := 27) ?hr ?_; (case hd => rfl); (case hg => rfl); (case hr => first | (go_simp; done) | (go_simp; rfl)); intro gA hgA w1 hbox hb; have BA1 := Aside0.mk hbox; have GA := Aside0.mk (show w.heap.size ≤ gA by rw [hgA]; exact Nat.le_refl _); have HB1 := Aside0.mk hb; clear hgA hbox hb)
        | ((with_reducible refine gate_dst (N := 2) rfl ?_); refine box_event ?hg (N := 2) ?hd (cs := #[.bool false, .slice none 0 0, .slice none 0 0]) (t := 27) ?hr ?_; (case hd => rfl); (case hg => rfl); (case hr => first | (go_simp; done) | (go_simp; rfl)); intro gR hgR w2 hbox hb; have BR2 := Aside0.mk hbox; have BA2 := Aside0.mk (blk_below BA1.out hb); have GR := Aside0.mk (show w.heap.size ≤ gR by rw [hgR]; exact below_size HB1.out); have NAR := Aside0.mk (show gA ≠ gR by rw [hgR]; exact Nat.ne_of_lt (blk_lt BA1.out)); have HB2 := Aside0.mk (below_step HB1.out hb); clear hgR hbox hb; have hcA0 : w2.cell? ⟨gA, 0, none⟩ = some (.bool a0_0) := (blk_cell BA2.out 0).trans rfl; have hcA1 : w2.cell? ⟨gA, 1, none⟩ = some (.slice A0_1 l0_1.length c0_1) := (blk_cell BA2.out 1).trans rfl; have hcA2 : w2.cell? ⟨gA, 2, none⟩ = some (.slice A0_2 l0_2.length c0_2) := (blk_cell BA2.out 2).trans rfl)
        | (go_at_call 20; (with_reducible refine (lin_Norm.calls a0_0 _ _ l0_1 _ _ l0_2 nb nl nq _ ?s1 HC1.out ?s3 HC2.out HN.out).mono ?_); (case s1 => exact Kd.C_below HR1.out HB2.out); (case s3 => exact Kd.C_below HR2.out HB2.out); rintro e w3 ⟨v1, v2, rfl, ho, hs, hb⟩; obtain ⟨AC, cC, eC⟩ := Kd.R_slice ho; subst eC; obtain ⟨AV, cV, eV⟩ := Kd.S_slice hs; subst eV; have HO3 := Aside0.mk ho; have HS3 := Aside0.mk hs; have HB23 := Aside0.mk hb; have BA3 := Aside0.mk (blk_below BA2.out hb); have BR3 := Aside0.mk (blk_below BR2.out hb); have HB3 := Aside0.mk (below_step HB2.out hb); clear ho hs hb; have hcB0 : w3.cell? ⟨gA, 0, none⟩ = some (.bool a0_0) := (blk_cell BA3.out 0).trans rfl; have hcB1 : w3.cell? ⟨gA, 1, none⟩ = some (.slice A0_1 l0_1.length c0_1) := (blk_cell BA3.out 1).trans rfl; have hcB2 : w3.cell? ⟨gA, 2, none⟩ = some (.slice A0_2 l0_2.length c0_2) := (blk_cell BA3.out 2).trans rfl; have hfB0 := blk_frozen BA3.out 0; have hfB1 := blk_frozen BA3.out 1; have hfB2 := blk_frozen BA3.out 2)
        | (have n3_ := Aside0.mk (out_lin (w1 := (((w3.setCell ⟨gA, 0, none⟩ (.bool nb)).setCell ⟨gA, 1, none⟩ (.slice AC nl.length cC)).setCell ⟨gA, 2, none⟩ (.slice AV nq.length cV))) HO3.out HS3.out (fun k cells t ht hk => set3_other w3 gA 0 1 2 (.bool nb) (.slice AC nl.length cC) (.slice AV nq.length cV) k (box_ne BA3.out hk (fun e => by rcases ht with rfl | rfl <;> exact absurd e (by decide))))); go_at_call 41; (with_reducible refine (lin_divisor.calls kd nb _ _ nl _ _ nq false gl _ ?d1 ?d2 ?d3 ?d4 HD.out).mono ?_); (case d1 => exact (Kd.V_reads' n3_.out.1).2.2); (case d2 => exact (Kd.V_reads' n3_.out.1).2.1); (case d3 => exact (Kd.S_reads' n3_.out.2).2.2); (case d4 => exact (Kd.S_reads' n3_.out.2).2.1); rintro e w5 ⟨vg, rfl, ho, hb⟩; obtain ⟨Ag, cg, eg⟩ := Kd.R_slice ho; subst eg; have HG5 := Aside0.mk (show OwnK (w5.alloc (.cells #[.bool false, .slice Ag gl.length cg] 24 (0, 0))) w.heap.size ⟨0, false, Ag, cg, gl⟩ from Kd.R_alloc (Kd.R_mono (Kd.R_lower ho (Below.size (show Below w.heap.size w (((w3.setCell ⟨gA, 0, none⟩ (.bool nb)).setCell ⟨gA, 1, none⟩ (.slice AC nl.length cC)).setCell ⟨gA, 2, none⟩ (.slice AV nq.length cV)) by repeat first | exact HB3.out | refine below_set ?_ GA.out))) (fun _ _ => trivial)) _); have HV5 := Aside0.mk (Kd.V_alloc (Kd.V_below n3_.out.1 hb) (.cells #[.bool false, .slice Ag gl.length cg] 24 (0, 0))); have HS5 := Aside0.mk (Kd.S_alloc (Kd.S_below n3_.out.2 hb) (.cells #[.bool false, .slice Ag gl.length cg] 24 (0, 0))); have BA5 := Aside0.mk (show (w5.alloc (.cells #[.bool false, .slice Ag gl.length cg] 24 (0, 0))).heap[gA]? = some (.cells #[.bool nb, .slice AC nl.length cC, .slice AV nq.length cV] 27 (0, 0)) from blk_alloc (blk_below (by refine blk_put (cs := #[.bool nb, .slice AC nl.length cC, .slice A0_2 l0_2.length c0_2]) ?_ 2 _ rfl; refine blk_put (cs := #[.bool nb, .slice A0_1 l0_1.length c0_1, .slice A0_2 l0_2.length c0_2]) ?_ 1 _ rfl; refine blk_put (cs := #[.bool a0_0, .slice A0_1 l0_1.length c0_1, .slice A0_2 l0_2.length c0_2]) ?_ 0 _ rfl; exact BA3.out) hb) _); have BR5 := Aside0.mk (show (w5.alloc (.cells #[.bool false, .slice Ag gl.length cg] 24 (0, 0))).heap[gR]? = some (.cells #[.bool false, .slice none 0 0, .slice none 0 0] 27 (0, 0)) from blk_alloc (blk_below ((set3_other w3 gA 0 1 2 (.bool nb) (.slice AC nl.length cC) (.slice AV nq.length cV) gR (fun e => NAR.out e.symm)).trans BR3.out) hb) _); have HB5 := Aside0.mk (below_alloc (below_step (show Below w.heap.size w (((w3.setCell ⟨gA, 0, none⟩ (.bool nb)).setCell ⟨gA, 1, none⟩ (.slice AC nl.length cC)).setCell ⟨gA, 2, none⟩ (.slice AV nq.length cV)) by repeat first | exact HB3.out | refine below_set ?_ GA.out) hb) (.cells #[.bool false, .slice Ag gl.length cg] 24 (0, 0))); clear ho hb n3_; have hcE0 : (w5.alloc (.cells #[.bool false, .slice Ag gl.length cg] 24 (0, 0))).cell? ⟨gA, 0, none⟩ = some (.bool nb) := (blk_cell BA5.out 0).trans rfl; have hcE1 : (w5.alloc (.cells #[.bool false, .slice Ag gl.length cg] 24 (0, 0))).cell? ⟨gA, 1, none⟩ = some (.slice AC nl.length cC) := (blk_cell BA5.out 1).trans rfl; have hcE2 : (w5.alloc (.cells #[.bool false, .slice Ag gl.length cg] 24 (0, 0))).cell? ⟨gA, 2, none⟩ = some (.slice AV nq.length cV) := (blk_cell BA5.out 2).trans rfl; have hg0 : (w5.alloc (.cells #[.bool false, .slice Ag gl.length cg] 24 (0, 0))).cell? ⟨w5.heap.size, 0, none⟩ = some (.bool false) := (blk_cell (blk_new w5 _) 0).trans rfl; have hg1 : (w5.alloc (.cells #[.bool false, .slice Ag gl.length cg] 24 (0, 0))).cell? ⟨w5.heap.size, 1, none⟩ = some (.slice Ag gl.length cg) := (blk_cell (blk_new w5 _) 1).trans rfl)
        | (go_at_call 42; (with_reducible refine (whole_Floor.calls kf nb _ _ nl false _ _ gl cb cl 0 _ ?f1 ?f2 ?f3 ?f4 HF.out).mono ?_); (case f1 => exact (Kd.V_reads' HV5.out).2.2); (case f2 => exact (Kd.V_reads' HV5.out).2.1); (case f3 => exact (Kd.R_reads' HG5.out).2.2); (case f4 => exact (Kd.R_reads' HG5.out).2.1); rintro e w6 ⟨vc, rfl, ho, hb⟩; obtain ⟨Ac, cc, ec⟩ := Kd.R_slice ho; subst ec; have HC6 := Aside0.mk (show OwnK (w6.alloc (.cells #[.bool cb, .slice Ac cl.length cc] 24 (0, 0))) w.heap.size ⟨0, false, Ac, cc, cl⟩ from Kd.R_alloc (Kd.R_mono (Kd.R_lower ho HB5.out.size) (fun _ _ => trivial)) _); have HV6 := Aside0.mk (Kd.V_alloc (Kd.V_below HV5.out hb) (.cells #[.bool cb, .slice Ac cl.length cc] 24 (0, 0))); have HS6 := Aside0.mk (Kd.S_alloc (Kd.S_below HS5.out hb) (.cells #[.bool cb, .slice Ac cl.length cc] 24 (0, 0))); have HG6 := Aside0.mk (show OwnK (w6.alloc (.cells #[.bool cb, .slice Ac cl.length cc] 24 (0, 0))) w.heap.size ⟨0, false, Ag, cg, gl⟩ from Kd.R_alloc (Kd.R_below HG5.out hb) _); have BA6 := Aside0.mk (show (w6.alloc (.cells #[.bool cb, .slice Ac cl.length cc] 24 (0, 0))).heap[gA]? = some (.cells #[.bool nb, .slice AC nl.length cC, .slice AV nq.length cV] 27 (0, 0)) from blk_alloc (blk_below BA5.out hb) _); have BR6 := Aside0.mk (show (w6.alloc (.cells #[.bool cb, .slice Ac cl.length cc] 24 (0, 0))).heap[gR]? = some (.cells #[.bool false, .slice none 0 0, .slice none 0 0] 27 (0, 0)) from blk_alloc (blk_below BR5.out hb) _); have BG6 := Aside0.mk (show (w6.alloc (.cells #[.bool cb, .slice Ac cl.length cc] 24 (0, 0))).heap[w5.heap.size]? = some (.cells #[.bool false, .slice Ag gl.length cg] 24 (0, 0)) from blk_alloc (blk_below (blk_new w5 _) hb) _); have HB6 := Aside0.mk (below_alloc (below_step HB5.out hb) (.cells #[.bool cb, .slice Ac cl.length cc] 24 (0, 0))); clear ho hb; have hcF0 : (w6.alloc (.cells #[.bool cb, .slice Ac cl.length cc] 24 (0, 0))).cell? ⟨gA, 0, none⟩ = some (.bool nb) := (blk_cell BA6.out 0).trans rfl; have hcF1 : (w6.alloc (.cells #[.bool cb, .slice Ac cl.length cc] 24 (0, 0))).cell? ⟨gA, 1, none⟩ = some (.slice AC nl.length cC) := (blk_cell BA6.out 1).trans rfl; have hcF2 : (w6.alloc (.cells #[.bool cb, .slice Ac cl.length cc] 24 (0, 0))).cell? ⟨gA, 2, none⟩ = some (.slice AV nq.length cV) := (blk_cell BA6.out 2).trans rfl; have hh0 : (w6.alloc (.cells #[.bool cb, .slice Ac cl.length cc] 24 (0, 0))).cell? ⟨w5.heap.size, 0, none⟩ = some (.bool false) := (blk_cell BG6.out 0).trans rfl; have hh1 : (w6.alloc (.cells #[.bool cb, .slice Ac cl.length cc] 24 (0, 0))).cell? ⟨w5.heap.size, 1, none⟩ = some (.slice Ag gl.length cg) := (blk_cell BG6.out 1).trans rfl; have hk0 : (w6.alloc (.cells #[.bool cb, .slice Ac cl.length cc] 24 (0, 0))).cell? ⟨w6.heap.size, 0, none⟩ = some (.bool cb) := (blk_cell (blk_new w6 _) 0).trans rfl; have hk1 : (w6.alloc (.cells #[.bool cb, .slice Ac cl.length cc] 24 (0, 0))).cell? ⟨w6.heap.size, 1, none⟩ = some (.slice Ac cl.length cc) := (blk_cell (blk_new w6 _) 1).trans rfl)
        | (go_at_call 43; (with_reducible refine (lin_by.calls nb _ _ nl _ _ nq false _ _ gl cb (fun k_ => w.heap.size ≤ k_ ∧ k_ ≠ gR) _ _ cl cb cl np _ ?b1 ?b2 ?b3 ?b4 ?b5 ?b6 ?b7 (HY.out nb nl cb cl)).mono ?_); (case b1 => exact (Kd.V_reads' HV6.out).2.2); (case b2 => exact (Kd.V_reads' HV6.out).2.1); (case b3 => exact (Kd.S_reads' HS6.out).2.2); (case b4 => exact (Kd.S_reads' HS6.out).2.1); (case b5 => exact (Kd.R_reads' HG6.out).2.2); (case b6 => exact (Kd.R_reads' HG6.out).2.1); (case b7 => exact Kd.R_V (Kd.R_mono (Kd.R_bound (Kd.R_types HC6.out BR6.out (by decide))) (fun k hk => ⟨hk.2.1, hk.1.2⟩))); rintro e w7 ⟨v1, v2, rfl, ho, hs, hb⟩; obtain ⟨A7, c7, e7⟩ := Kd.V_slice ho; subst e7; obtain ⟨A8, c8, e8⟩ := Kd.S_slice hs; subst e8; have HO7 := Aside0.mk ho; have HS7 := Aside0.mk hs; have BR7 := Aside0.mk (blk_below BR6.out hb); have HB7 := Aside0.mk (below_step HB6.out hb); clear ho hs hb; have hcR0 : w7.cell? ⟨gR, 0, none⟩ = some (.bool false) := (blk_cell BR7.out 0).trans rfl; have hcR1 : w7.cell? ⟨gR, 1, none⟩ = some (.slice none 0 0) := (blk_cell BR7.out 1).trans rfl; have hcR2 : w7.cell? ⟨gR, 2, none⟩ = some (.slice none 0 0) := (blk_cell BR7.out 2).trans rfl; have hfR0 := blk_frozen BR7.out 0; have hfR1 := blk_frozen BR7.out 1; have hfR2 := blk_frozen BR7.out 2))
    refine bodyPost_ret (results_ct rfl _ _ gR 27 #[.bool cb, .slice A7 cl.length c7, .slice A8 np.length c8] (0, 0) _ rfl (by refine blk_put (cs := #[.bool cb, .slice A7 cl.length c7, .slice none 0 0]) ?_ 2 _ rfl; refine blk_put (cs := #[.bool cb, .slice none 0 0, .slice none 0 0]) ?_ 1 _ rfl; refine blk_put (cs := #[.bool false, .slice none 0 0, .slice none 0 0]) ?_ 0 _ rfl; exact BR7.out) Try.underlying27 rfl (by kernel_rfl)) rfl ?_
    have hlt := blk_lt BR6.out
    have hsz := HB6.out.size
    refine ⟨_, _, rfl, Kd.V_mono (Kd.V_far (p := ⟨gR, 2, none⟩) (Kd.V_far (p := ⟨gR, 1, none⟩) (Kd.V_far (p := ⟨gR, 0, none⟩) HO7.out ?n1 _) ?n2 _) ?n3 _) ?n4, Kd.S_mono (Kd.S_lower (Kd.S_far (p := ⟨gR, 2, none⟩) (Kd.S_far (p := ⟨gR, 1, none⟩) (Kd.S_far (p := ⟨gR, 0, none⟩) HS7.out ?m1 _) ?m2 _) ?m3 _) hsz) ?m4, by repeat first | exact HB7.out | refine below_set ?_ GR.out⟩
    case n1 => exact fun k hk => hk.1.elim (fun h => h.2) (fun h e => by subst e; omega)
    case n2 => exact fun k hk => hk.1.elim (fun h => h.2) (fun h e => by subst e; omega)
    case n3 => exact fun k hk => hk.1.elim (fun h => h.2) (fun h e => by subst e; omega)
    case n4 => exact fun k hk => ⟨hk.1.elim (fun h => h.1) (fun h => Nat.le_trans hsz h), hk.2⟩
    case m1 => exact fun k hk e => by subst e; omega
    case m2 => exact fun k hk e => by subst e; omega
    case m3 => exact fun k hk e => by subst e; omega
    case m4 => exact fun k hk => Nat.le_trans hsz hk
end Go.Proofs.Ytdicjemjmlbmlaa.H
