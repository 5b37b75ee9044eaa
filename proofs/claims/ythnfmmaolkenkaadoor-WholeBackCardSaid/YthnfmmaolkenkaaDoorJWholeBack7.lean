/- Joined by wip/tools/shake.py for the claim of WholeBack: PAx27, NatV, NatB, NatC. -/
import Derived.Test.YthnfmmaolkenkaaDoorJWholeBack2
import Derived.Test.YthnfmmaolkenkaaDoorJWholeBack4
import Derived.Test.YthnfmmaolkenkaaDoorJWholeBack5
import Derived.Test.YthnfmmaolkenkaaDoorJWholeBack6
import Derived.Laws.BitsLemmas
import Derived.Laws.Bits64
import Derived.Lib.BitFns
/- Written by a program of this session, wip/tools/patch_print.py, over the kit's print of the loaded functions. -/
namespace Go.Proofs.YthnfmmaolkenkaaDoor.H
end Go.Proofs.YthnfmmaolkenkaaDoor.H
namespace Go.Proofs.YthnfmmaolkenkaaDoor.PA
open Go.RowKit Go.Proofs.YthnfmmaolkenkaaDoorW.PrintWords Go.Proofs.YthnfmmaolkenkaaDoorW.PrintLast Go.Proofs.YthnfmmaolkenkaaDoorW.PrintMore Go.Proofs.YthnfmmaolkenkaaDoor.H
attribute [local go_sem] max2_int min2_int max_two min_two max_three min_three max_four min_four   -- for this text's walks alone
attribute [local go_sem] box_twice
set_option linter.unusedVariables false
set_option linter.unusedSimpArgs false

/-! ### gudgeonlaw02_WholeBack: function 5 -/
mutual
def gudgeonlaw02_WholeBack.j0 : Nat → Bool → Bool → Bool → List Int → Bool → List Int → Option (Bool)
 | 0, _, _, _, _, _, _ => none
 | k + 1, x5, x23, x1142000, x1142001, x1143000, x1143001 => if x23 = true then (some x5) else ((whole_DivMod.f k x1142000 x1142001 x1143000 x1143001).bind fun bt1145 => ((whole_Floor.f k x1142000 x1142001 x1143000 x1143001).bind fun bt1156 => (if bt1145.2.2.2.2 = 0 then (gudgeonlaw02_WholeBack.j1 k bt1145.2.2.2.2 bt1156.2.2 (bt1156.2.2 != 0) x1142000 x1142001 x1143000 x1143001 bt1145.1 bt1145.2.1 bt1145.2.2.1 bt1145.2.2.2.1 bt1156.1 bt1156.2.1) else (gudgeonlaw02_WholeBack.j1 k bt1145.2.2.2.2 bt1156.2.2 true x1142000 x1142001 x1143000 x1143001 bt1145.1 bt1145.2.1 bt1145.2.2.1 bt1145.2.2.2.1 bt1156.1 bt1156.2.1))))
def gudgeonlaw02_WholeBack.j1 : Nat → Int → Int → Bool → Bool → List Int → Bool → List Int → Bool → List Int → Bool → List Int → Bool → List Int → Option (Bool)
 | 0, _, _, _, _, _, _, _, _, _, _, _, _, _ => none
 | k + 1, x9, x11, x43, x1142000, x1142001, x1143000, x1143001, x1155000, x1155001, x1156000, x1156001, x1162000, x1162001 => if x43 = true then (if x9 = 7 then (if x11 = 7 then ((whole_Sign.f x1143000 x1143001).bind fun t1162 => (some (t1162 == 0))) else (some false)) else (some false)) else ((whole_Sign.f x1143000 x1143001).bind fun t1164 => (if t1164 < 0 then ((whole_Neg.f x1143000 x1143001).bind fun bt1165 => ((whole_Mul.f k x1162000 x1162001 x1143000 x1143001).bind fun bt1169 => ((whole_Sub.f k x1142000 x1142001 bt1169.1 bt1169.2).bind fun bt1173 => ((whole_Sign.f x1143000 x1143001).bind fun t1178 => (if t1178 < 0 then ((whole_Neg.f bt1173.1 bt1173.2).bind fun bt1179 => ((whole_Mul.f k x1155000 x1155001 x1143000 x1143001).bind fun bt1183 => ((whole_Add.f k bt1183.1 bt1183.2 x1156000 x1156001).bind fun bt1187 => ((whole_Cmp.f k bt1187.1 bt1187.2 x1142000 x1142001).bind fun t1191 => (if t1191 = 0 then ((whole_Sign.f x1156000 x1156001).bind fun t1192 => (if t1192 ≥ 0 then ((whole_Cmp.f k x1156000 x1156001 bt1165.1 bt1165.2).bind fun t1193 => (if t1193 < 0 then ((whole_Sign.f bt1179.1 bt1179.2).bind fun t1194 => (if t1194 ≥ 0 then ((whole_Cmp.f k bt1179.1 bt1179.2 bt1165.1 bt1165.2).bind fun t1195 => (some (decide (t1195 < 0)))) else (none))) else (none))) else (none))) else (none)))))) else (none)))))) else ((whole_Mul.f k x1162000 x1162001 x1143000 x1143001).bind fun bt1196 => ((whole_Sub.f k x1142000 x1142001 bt1196.1 bt1196.2).bind fun bt1200 => ((whole_Sign.f x1143000 x1143001).bind fun t1205 => (if t1205 < 0 then (none) else ((whole_Mul.f k x1155000 x1155001 x1143000 x1143001).bind fun bt1206 => ((whole_Add.f k bt1206.1 bt1206.2 x1156000 x1156001).bind fun bt1210 => ((whole_Cmp.f k bt1210.1 bt1210.2 x1142000 x1142001).bind fun t1214 => (if t1214 = 0 then ((whole_Sign.f x1156000 x1156001).bind fun t1215 => (if t1215 ≥ 0 then ((whole_Cmp.f k x1156000 x1156001 x1143000 x1143001).bind fun t1216 => (if t1216 < 0 then ((whole_Sign.f bt1200.1 bt1200.2).bind fun t1217 => (if t1217 ≥ 0 then ((whole_Cmp.f k bt1200.1 bt1200.2 x1143000 x1143001).bind fun t1218 => (some (decide (t1218 < 0)))) else (none))) else (none))) else (none))) else (none)))))))))))
end
def gudgeonlaw02_WholeBack.f (k : Nat) (a0_0 : Bool) (l0_1 : List Int) (a1_0 : Bool) (l1_1 : List Int) : Option (Bool) := (gudgeonlaw02_awake.f k).bind fun t1143 => ((gudgeonlaw02_few.f a0_0 l0_1 a1_0 l1_1 60).bind fun t1144 => (if t1143 = true then (gudgeonlaw02_WholeBack.j0 k t1143 (!t1144) a0_0 l0_1 a1_0 l1_1) else (gudgeonlaw02_WholeBack.j0 k t1143 true a0_0 l0_1 a1_0 l1_1)))
def gudgeonlaw02_WholeBack.T15 : Bool × List (List Nat × List Nat) := (true, [([], []), ([], []), ([0, 1], [0, 1]), ([], []), ([2, 3, 2], [2, 3]), ([], []), ([4, 5, 4], [4, 5]), ([6], [6]), ([7, 6], [7]), ([8], [8]), ([9, 8, 8], [8, 9]), ([10, 8], [8, 10]), ([8, 11], [8, 11]), ([12, 10], [12]), ([13], [13]), ([13], [13]), ([14, 15, 13, 13], [13, 14, 15]), ([16, 13], [13, 16]), ([13, 17], [13, 17]), ([18, 16], [18]), ([19], [19]), ([20, 19, 19], [19, 20]), ([21, 19], [19, 21]), ([19, 22], [19, 22]), ([23, 21], [23]), ([24], [24]), ([24], [24]), ([25, 26, 24, 24], [24, 25, 26]), ([27, 24], [24, 27]), ([24, 28], [24, 28]), ([29, 27, 0, 1, 2, 3, 4, 5, 6, 7, 8, 9, 10, 11, 12, 13, 14, 15, 16, 17, 18, 19, 20, 21, 22, 23, 24, 25, 26, 27, 28, 29], [29])])
def gudgeonlaw02_WholeBack.B15 : List Nat := [0, 0, 3, 0, 15, 0, 63, 127, 255, 511, 1023, 2047, 4095, 8191, 16383, 16383, 65535, 131071, 262143, 524287, 1048575, 2097151, 4194303, 8388607, 16777215, 33554431, 33554431, 134217727, 268435455, 536870911, 1073741823]
theorem gudgeonlaw02_WholeBack.tab15 : rtab .any (opsOf Tryd.f5 15) = gudgeonlaw02_WholeBack.T15 := by kernel_rfl
theorem gudgeonlaw02_WholeBack.bits15 : waitsOk gudgeonlaw02_WholeBack.T15.2 gudgeonlaw02_WholeBack.B15 = true := by kernel_rfl
set_option maxHeartbeats 8000000 in
set_option maxRecDepth 100000 in
theorem gudgeonlaw02_WholeBack.calls (k : Nat) (a0_0 : Bool) (A0_1 : Option Addr) (c0_1 : Nat) (l0_1 : List Int) (a1_0 : Bool) (A1_1 : Option Addr) (c1_1 : Nat) (l1_1 : List Int) (r : Bool) (w : World) (hr0_1 : Kd.C (Kd.int .u32) w A0_1 l0_1.length l0_1) (hc0_1 : l0_1.length ≤ c0_1) (hr1_1 : Kd.C (Kd.int .u32) w A1_1 l1_1.length l1_1) (hc1_1 : l1_1.length ≤ c1_1) (h : gudgeonlaw02_WholeBack.f k a0_0 l0_1 a1_0 l1_1 = some r) :
  Calls Tryd.prog 5 #[.agg #[.bool a0_0, .slice A0_1 l0_1.length c0_1], .agg #[.bool a1_0, .slice A1_1 l1_1.length c1_1]] w fun e w' => e = .returned (.bool r) ∧ Below w.heap.size w w' := by
 have hu24 := Tryd.underlying24
 have HR0_1 := Aside0.mk hr0_1
 have HC0_1 := Aside0.mk hc0_1
 clear hr0_1 hc0_1
 have HR1_1 := Aside0.mk hr1_1
 have HC1_1 := Aside0.mk hc1_1
 clear hr1_1 hc1_1
 have HB := Aside0.mk (Below.refl w.heap.size w)
 have H : ((gudgeonlaw02_awake.f k).bind fun t1143 => ((gudgeonlaw02_few.f a0_0 l0_1 a1_0 l1_1 60).bind fun t1144 => (if t1143 = true then (gudgeonlaw02_WholeBack.j0 k t1143 (!t1144) a0_0 l0_1 a1_0 l1_1) else (gudgeonlaw02_WholeBack.j0 k t1143 true a0_0 l0_1 a1_0 l1_1)))) = some r := h
 clear h
 obtain ⟨t1143, A30, H⟩ := Option.bind_eq_some_iff.mp H
 try dsimp only at H
 have A3 := Aside0.mk A30
 clear A30
 obtain ⟨t1144, A40, H⟩ := Option.bind_eq_some_iff.mp H
 try dsimp only at H
 have A4 := Aside0.mk A40
 clear A40
 have HC5 := Aside0.mk H
 clear H
 go_enter Tryd.func5, Tryd.ntmps5
 go_upto_region 3 with (first | ((with_reducible refine gate_dst (N := 2) rfl ?_); refine box_event ?hg (N := 2) ?hd (cs := #[.bool a0_0, .slice A0_1 l0_1.length c0_1]) (t := 24) ?hr ?_; (case hd => rfl); (case hg => rfl); (case hr => first | (go_simp; done) | (go_simp; rfl)); intro gb1141 hg w6 hbox hb; have BK1141 := Aside0.mk (hbox); have GW1141 := Aside0.mk (bxLe HB.out hg); have GE1141 := GW1141; replace HB := Aside0.mk (below_step HB.out hb); clear hb hbox hg) | ((with_reducible refine gate_dst (N := 3) rfl ?_); refine box_event ?hg (N := 3) ?hd (cs := #[.bool a1_0, .slice A1_1 l1_1.length c1_1]) (t := 24) ?hr ?_; (case hd => rfl); (case hg => rfl); (case hr => first | (go_simp; done) | (go_simp; rfl)); intro gb1142 hg w7 hbox hb; have BK1142 := Aside0.mk (hbox); have GW1142 := Aside0.mk (bxLe HB.out hg); have GE1142 := GW1142; replace HB := Aside0.mk (below_step HB.out hb); have NB1141_1142 := Aside0.mk (neL BK1141.out hg); have NB1142_1141 := Aside0.mk (neR BK1141.out hg); replace BK1141 := Aside0.mk (blk_below BK1141.out hb); clear hb hbox hg) | ((with_reducible refine gate_callee (f := 9) rfl ?_); refine goL (some 14) Tryd.func9 [] ?_; (with_reducible refine (gudgeonlaw02_awake.calls k  t1143 _ A3.out).mono ?_); rintro e w8 ⟨rfl, hb⟩; refine ⟨_, rfl, ?_⟩; replace BK1141 := Aside0.mk (blk_below BK1141.out hb); replace BK1142 := Aside0.mk (blk_below BK1142.out hb); replace HB := Aside0.mk (below_step HB.out hb); (try clear hb); (try clear hb2); (try clear hk); (try clear hi); have hnb9 := NB1141_1142.out; have hnc9 := NB1142_1141.out; have hcz10_0 : w8.cell? ⟨gb1141, 0, none⟩ = some (.bool a0_0) := bc0 BK1141.out; have hcz10_1 : w8.cell? ⟨gb1141, 1, none⟩ = some (.slice A0_1 l0_1.length c0_1) := bc1 BK1141.out; have hfz10_0 := blk_frozen BK1141.out 0; have hfz10_1 := blk_frozen BK1141.out 1; have hcz11_0 : w8.cell? ⟨gb1142, 0, none⟩ = some (.bool a1_0) := bc0 BK1142.out; have hcz11_1 : w8.cell? ⟨gb1142, 1, none⟩ = some (.slice A1_1 l1_1.length c1_1) := bc1 BK1142.out; have hfz11_0 := blk_frozen BK1142.out 0; have hfz11_1 := blk_frozen BK1142.out 1) | ((with_reducible refine gate_callee (f := 10) rfl ?_); refine goL (some 17) Tryd.func10 [.agg #[.bool a0_0, .slice A0_1 l0_1.length c0_1], .agg #[.bool a1_0, .slice A1_1 l1_1.length c1_1], .int .i64 60] ?_; (with_reducible refine (gudgeonlaw02_few.calls a0_0 _ _ l0_1 a1_0 _ _ l1_1 60 t1144 _ ?side1 ?side2 ?side3 ?side4 A4.out).mono ?_); (case side1 => exact (Kd.C_below HR0_1.out HB.out)); (case side2 => exact HC0_1.out); (case side3 => exact (Kd.C_below HR1_1.out HB.out)); (case side4 => exact HC1_1.out); rintro e w12 ⟨rfl, hb⟩; refine ⟨_, rfl, ?_⟩; replace BK1141 := Aside0.mk (blk_below BK1141.out hb); replace BK1142 := Aside0.mk (blk_below BK1142.out hb); replace HB := Aside0.mk (below_step HB.out hb); (try clear hb); (try clear hb2); (try clear hk); (try clear hi)))
 (try simp only [Act.put, List.setIfInBounds_toArray, List.set_cons_zero, List.set_cons_succ])
 go_cut [23] (fun v23 wc => ∃ (kq : Nat) (x23_4 : Bool), v23 = .bool x23_4 ∧ Aside0 (gudgeonlaw02_WholeBack.j0 kq t1143 x23_4 a0_0 l0_1 a1_0 l1_1 = some r) ∧ Aside0 (kq ≤ k) ∧ Aside0 (wc.heap[gb1141]? = some (.cells #[.bool a0_0, (.slice A0_1 l0_1.length c0_1)] 24 (0, 0))) ∧ Aside0 (wc.heap[gb1142]? = some (.cells #[.bool a1_0, (.slice A1_1 l1_1.length c1_1)] 24 (0, 0))) ∧ Aside0 (Below w.heap.size w wc))
 case first =>
  have H := HC5.out
  clear HC5
  by_cases c13 : t1143 = true
  ·subst c13
   rw [if_pos rfl] at H
   have H' := Aside0.mk H
   clear H
   go_wp2
   go_meet
   case rel => exact ⟨_, (!t1144), (by first | rfl | (simp; done)), H', ⟨by first | omega | exact Nat.le_refl _⟩, ⟨BK1141.out⟩, ⟨BK1142.out⟩, ⟨HB.out⟩⟩
  ·replace c13 := Bool.eq_false_iff.mpr c13
   subst c13
   rw [if_neg (show ¬ (false = true) by decide)] at H
   have H' := Aside0.mk H
   clear H
   go_wp2
   go_meet
   case rel => exact ⟨_, (true), (by first | rfl | (simp; done)), H', ⟨by first | omega | exact Nat.le_refl _⟩, ⟨BK1141.out⟩, ⟨BK1142.out⟩, ⟨HB.out⟩⟩
 case rest =>
  clear HC5
  try clear c1
  try clear p2
  try clear c5
  try clear c9
  try clear c10
  try clear c13
  try clear hcz10_0
  try clear hcz10_1
  try clear hcz11_0
  try clear hcz11_1
  try clear hfz10_0
  try clear hfz10_1
  try clear hfz11_0
  try clear hfz11_1
  obtain ⟨kq, x23_4, rfl, HA, HJ4, BK1141, BK1142, HB⟩ := hcut
  cases kq with
  | zero => exact absurd HA.out (by simp [gudgeonlaw02_WholeBack.j0])
  | succ kj4 =>
   have H := HA.out
   clear HA
   simp only [gudgeonlaw02_WholeBack.j0] at H
   by_cases c14 : x23_4 = true
   ·subst c14
    rw [if_pos rfl] at H
    obtain rfl := Option.some.inj H
    go_wp2
    go_ret
    exact ⟨by first | rfl | (simp [errW_none, errW_some] <;> rfl) | (refine congrArg (fun z_ => Ending.returned (Value.bool z_)) (decide_eq_decide.mpr ?_); unfold wrap64; omega) | (simp [*, errW_none, errW_some] <;> rfl), HB.out⟩
   ·replace c14 := Bool.eq_false_iff.mpr c14
    subst c14
    rw [if_neg (show ¬ (false = true) by decide)] at H
    obtain ⟨⟨t1145, t1146, t1149, t1150, t1153⟩, A150, H⟩ := Option.bind_eq_some_iff.mp H
    try dsimp only at H
    have A15 := Aside0.mk A150
    clear A150
    obtain ⟨⟨t1156, t1157, t1160⟩, A160, H⟩ := Option.bind_eq_some_iff.mp H
    try dsimp only at H
    have A16 := Aside0.mk A160
    clear A160
    have HC17 := Aside0.mk H
    clear H
    have hnb18 := NB1141_1142.out
    have hnc18 := NB1142_1141.out
    have hcz19_0 : wc.cell? ⟨gb1141, 0, none⟩ = some (.bool a0_0) := bc0 BK1141.out
    have hcz19_1 : wc.cell? ⟨gb1141, 1, none⟩ = some (.slice A0_1 l0_1.length c0_1) := bc1 BK1141.out
    have hfz19_0 := blk_frozen BK1141.out 0
    have hfz19_1 := blk_frozen BK1141.out 1
    have hcz20_0 : wc.cell? ⟨gb1142, 0, none⟩ = some (.bool a1_0) := bc0 BK1142.out
    have hcz20_1 : wc.cell? ⟨gb1142, 1, none⟩ = some (.slice A1_1 l1_1.length c1_1) := bc1 BK1142.out
    have hfz20_0 := blk_frozen BK1142.out 0
    have hfz20_1 := blk_frozen BK1142.out 1
    go_upto_region 7 with (first | ((with_reducible refine gate_callee (f := 11) rfl ?_); refine goL (some 28) Tryd.func11 [.agg #[.bool a0_0, .slice A0_1 l0_1.length c0_1], .agg #[.bool a1_0, .slice A1_1 l1_1.length c1_1]] ?_; (with_reducible refine (whole_DivMod.calls kj4 a0_0 _ _ l0_1 a1_0 _ _ l1_1 t1145 t1146 t1149 t1150 t1153 _ ?side1 ?side2 ?side3 ?side4 A15.out).mono ?_); (case side1 => exact (Kd.C_below HR0_1.out HB.out)); (case side2 => exact HC0_1.out); (case side3 => exact (Kd.C_below HR1_1.out HB.out)); (case side4 => exact HC1_1.out); rintro e w21 ⟨v1147, v1151, rfl, ho0, ho1, hb⟩; refine ⟨_, rfl, ?_⟩; have HO1148 := Aside0.mk (Kd.R_lower ho0 (below_size HB.out)); have HO1152 := Aside0.mk (Kd.R_lower ho1 (below_size HB.out)); replace BK1141 := Aside0.mk (blk_below BK1141.out hb); replace BK1142 := Aside0.mk (blk_below BK1142.out hb); replace HB := Aside0.mk (below_step HB.out hb); (try clear ho1)) | ((with_reducible refine gate_dst (N := 7) rfl ?_); refine box_event ?hg (N := 7) ?hd (cs := #[.bool false, .slice none 0 0]) (t := 24) ?hr ?_; (case hd => rfl); (case hg => rfl); (case hr => first | (go_simp; done) | (go_simp; rfl)); intro gb1154 hg w22 hbox hb; replace HO1148 := Aside0.mk (Kd.R_below HO1148.out hb); replace HO1152 := Aside0.mk (Kd.R_below HO1152.out hb); have BK1154 := Aside0.mk (hbox); have GW1154 := Aside0.mk (bxLe HB.out hg); have GE1154 := GW1154; replace HB := Aside0.mk (below_step HB.out hb); have NB1141_1154 := Aside0.mk (neL BK1141.out hg); have NB1154_1141 := Aside0.mk (neR BK1141.out hg); replace BK1141 := Aside0.mk (blk_below BK1141.out hb); have NB1142_1154 := Aside0.mk (neL BK1142.out hg); have NB1154_1142 := Aside0.mk (neR BK1142.out hg); replace BK1142 := Aside0.mk (blk_below BK1142.out hb); clear hb hbox hg) | ((with_reducible refine gate_dst (N := 8) rfl ?_); refine box_event ?hg (N := 8) ?hd (cs := #[.bool false, .slice none 0 0]) (t := 24) ?hr ?_; (case hd => rfl); (case hg => rfl); (case hr => first | (go_simp; done) | (go_simp; rfl)); intro gb1155 hg w23 hbox hb; replace HO1148 := Aside0.mk (Kd.R_below HO1148.out hb); replace HO1152 := Aside0.mk (Kd.R_below HO1152.out hb); have BK1155 := Aside0.mk (hbox); have GW1155 := Aside0.mk (bxLe HB.out hg); have GE1155 := GW1155; replace HB := Aside0.mk (below_step HB.out hb); have NB1141_1155 := Aside0.mk (neL BK1141.out hg); have NB1155_1141 := Aside0.mk (neR BK1141.out hg); replace BK1141 := Aside0.mk (blk_below BK1141.out hb); have NB1142_1155 := Aside0.mk (neL BK1142.out hg); have NB1155_1142 := Aside0.mk (neR BK1142.out hg); replace BK1142 := Aside0.mk (blk_below BK1142.out hb); have NB1154_1155 := Aside0.mk (neL BK1154.out hg); have NB1155_1154 := Aside0.mk (neR BK1154.out hg); replace BK1154 := Aside0.mk (blk_below BK1154.out hb); clear hb hbox hg; have hnb24 := NB1154_1141.out; have hnc24 := NB1141_1154.out; have hnb25 := NB1154_1142.out; have hnc25 := NB1142_1154.out; have hnb26 := NB1154_1155.out; have hnc26 := NB1155_1154.out; have hcz27_0 : w23.cell? ⟨gb1154, 0, none⟩ = some (.bool false) := bc0 BK1154.out; have hcz27_1 : w23.cell? ⟨gb1154, 1, none⟩ = some (.slice none 0 0) := bc1 BK1154.out; have hfz27_0 := blk_frozen BK1154.out 0; have hfz27_1 := blk_frozen BK1154.out 1; obtain ⟨Ao28, co28, eo28⟩ := Kd.R_slice HO1148.out; subst eo28; have hnb29 := NB1155_1141.out; have hnc29 := NB1141_1155.out; have hnb30 := NB1155_1142.out; have hnc30 := NB1142_1155.out; have hcz31_0 : w23.cell? ⟨gb1155, 0, none⟩ = some (.bool false) := bc0 BK1155.out; have hcz31_1 : w23.cell? ⟨gb1155, 1, none⟩ = some (.slice none 0 0) := bc1 BK1155.out; have hfz31_0 := blk_frozen BK1155.out 0; have hfz31_1 := blk_frozen BK1155.out 1; obtain ⟨Ao32, co32, eo32⟩ := Kd.R_slice HO1152.out; subst eo32; have hcz33_0 : w23.cell? ⟨gb1141, 0, none⟩ = some (.bool a0_0) := bc0 BK1141.out; have hcz33_1 : w23.cell? ⟨gb1141, 1, none⟩ = some (.slice A0_1 l0_1.length c0_1) := bc1 BK1141.out; have hfz33_0 := blk_frozen BK1141.out 0; have hfz33_1 := blk_frozen BK1141.out 1; have hcz34_0 : w23.cell? ⟨gb1142, 0, none⟩ = some (.bool a1_0) := bc0 BK1142.out; have hcz34_1 : w23.cell? ⟨gb1142, 1, none⟩ = some (.slice A1_1 l1_1.length c1_1) := bc1 BK1142.out; have hfz34_0 := blk_frozen BK1142.out 0; have hfz34_1 := blk_frozen BK1142.out 1) | ((with_reducible refine gate_callee (f := 13) rfl ?_); refine goL (some 35) Tryd.func13 [.agg #[.bool a0_0, .slice A0_1 l0_1.length c0_1], .agg #[.bool a1_0, .slice A1_1 l1_1.length c1_1]] ?_; (with_reducible refine (whole_Floor.calls kj4 a0_0 _ _ l0_1 a1_0 _ _ l1_1 t1156 t1157 t1160 _ ?side1 ?side2 ?side3 ?side4 A16.out).mono ?_); (case side1 => exact Kd.C_below HR0_1.out (by repeat first | exact HB.out | refine bxSet ?_ (by assumption) | apply below_alloc | apply pw_below_drewN)); (case side2 => exact HC0_1.out); (case side3 => exact Kd.C_below HR1_1.out (by repeat first | exact HB.out | refine bxSet ?_ (by assumption) | apply below_alloc | apply pw_below_drewN)); (case side4 => exact HC1_1.out); rintro e w35 ⟨v1158, rfl, ho0, hb⟩; refine ⟨_, rfl, ?_⟩; have HO1159 := Aside0.mk (Kd.R_lower (Kd.R_new' (Kd.R_new' ho0 (Kd.R_lt (Kd.R_mono (Kd.R_mono (Kd.R_far (p := ⟨gb1155, 1, none⟩) (Kd.R_far (p := ⟨gb1155, 0, none⟩) (Kd.R_far (p := ⟨gb1154, 1, none⟩) (Kd.R_far (p := ⟨gb1154, 0, none⟩) (Kd.R_types (Kd.R_types HO1148.out BK1154.out (by decide)) BK1155.out (by decide)) (fun _ hk => hk.1.2) (.bool t1145)) (fun _ hk => hk.1.2) (.slice Ao28 t1146.length co28)) (fun _ hk => hk.2) (.bool t1149)) (fun _ hk => hk.2) (.slice Ao32 t1150.length co32)) (fun _ h_ => h_.1)) (fun _ h_ => h_.1)))) (Kd.R_lt (Kd.R_mono (Kd.R_mono (Kd.R_far (p := ⟨gb1155, 1, none⟩) (Kd.R_far (p := ⟨gb1155, 0, none⟩) (Kd.R_far (p := ⟨gb1154, 1, none⟩) (Kd.R_far (p := ⟨gb1154, 0, none⟩) (Kd.R_types (Kd.R_types HO1152.out BK1154.out (by decide)) BK1155.out (by decide)) (fun _ hk => hk.1.2) (.bool t1145)) (fun _ hk => hk.1.2) (.slice Ao28 t1146.length co28)) (fun _ hk => hk.2) (.bool t1149)) (fun _ hk => hk.2) (.slice Ao32 t1150.length co32)) (fun _ h_ => h_.1)) (fun _ h_ => h_.1)))) (below_size (by repeat first | exact HB.out | refine bxSet ?_ (by assumption) | apply below_alloc | apply pw_below_drewN))); replace HO1148 := Aside0.mk (Kd.R_elder' (Kd.R_mono (Kd.R_mono (Kd.R_far (p := ⟨gb1155, 1, none⟩) (Kd.R_far (p := ⟨gb1155, 0, none⟩) (Kd.R_far (p := ⟨gb1154, 1, none⟩) (Kd.R_far (p := ⟨gb1154, 0, none⟩) (Kd.R_types (Kd.R_types HO1148.out BK1154.out (by decide)) BK1155.out (by decide)) (fun _ hk => hk.1.2) (.bool t1145)) (fun _ hk => hk.1.2) (.slice Ao28 t1146.length co28)) (fun _ hk => hk.2) (.bool t1149)) (fun _ hk => hk.2) (.slice Ao32 t1150.length co32)) (fun _ h_ => h_.1)) (fun _ h_ => h_.1)) (Kd.R_base ho0) hb); replace HO1152 := Aside0.mk (Kd.R_elder' (Kd.R_mono (Kd.R_mono (Kd.R_far (p := ⟨gb1155, 1, none⟩) (Kd.R_far (p := ⟨gb1155, 0, none⟩) (Kd.R_far (p := ⟨gb1154, 1, none⟩) (Kd.R_far (p := ⟨gb1154, 0, none⟩) (Kd.R_types (Kd.R_types HO1152.out BK1154.out (by decide)) BK1155.out (by decide)) (fun _ hk => hk.1.2) (.bool t1145)) (fun _ hk => hk.1.2) (.slice Ao28 t1146.length co28)) (fun _ hk => hk.2) (.bool t1149)) (fun _ hk => hk.2) (.slice Ao32 t1150.length co32)) (fun _ h_ => h_.1)) (fun _ h_ => h_.1)) (Kd.R_base ho0) hb); replace BK1141 := Aside0.mk (blk_below (g := gb1141) (o := .cells #[.bool a0_0, .slice A0_1 l0_1.length c0_1] 24 (0, 0)) (by refine blk_far ?_ NB1141_1155.out _; refine blk_far ?_ NB1141_1155.out _; refine blk_far ?_ NB1141_1154.out _; refine blk_far ?_ NB1141_1154.out _; exact BK1141.out) hb); replace BK1142 := Aside0.mk (blk_below (g := gb1142) (o := .cells #[.bool a1_0, .slice A1_1 l1_1.length c1_1] 24 (0, 0)) (by refine blk_far ?_ NB1142_1155.out _; refine blk_far ?_ NB1142_1155.out _; refine blk_far ?_ NB1142_1154.out _; refine blk_far ?_ NB1142_1154.out _; exact BK1142.out) hb); replace BK1154 := Aside0.mk (blk_below (g := gb1154) (o := .cells #[.bool t1145, .slice Ao28 t1146.length co28] 24 (0, 0)) (by refine blk_far ?_ NB1154_1155.out _; refine blk_far ?_ NB1154_1155.out _; refine blk_put (cs := #[.bool t1145, .slice none 0 0]) ?_ 1 _ rfl; refine blk_put (cs := #[.bool false, .slice none 0 0]) ?_ 0 _ rfl; exact BK1154.out) hb); replace BK1155 := Aside0.mk (blk_below (g := gb1155) (o := .cells #[.bool t1149, .slice Ao32 t1150.length co32] 24 (0, 0)) (by refine blk_put (cs := #[.bool t1149, .slice none 0 0]) ?_ 1 _ rfl; refine blk_put (cs := #[.bool false, .slice none 0 0]) ?_ 0 _ rfl; refine blk_far ?_ NB1155_1154.out _; refine blk_far ?_ NB1155_1154.out _; exact BK1155.out) hb); replace HB := Aside0.mk (below_step (by repeat first | exact HB.out | refine bxSet ?_ (by assumption) | apply below_alloc | apply pw_below_drewN) hb)) | ((with_reducible refine gate_dst (N := 10) rfl ?_); refine box_event ?hg (N := 10) ?hd (cs := #[.bool false, .slice none 0 0]) (t := 24) ?hr ?_; (case hd => rfl); (case hg => rfl); (case hr => first | (go_simp; done) | (go_simp; rfl)); intro gb1161 hg w36 hbox hb; replace HO1148 := Aside0.mk (Kd.R_below HO1148.out hb); replace HO1152 := Aside0.mk (Kd.R_below HO1152.out hb); replace HO1159 := Aside0.mk (Kd.R_below HO1159.out hb); have BK1161 := Aside0.mk (hbox); have GW1161 := Aside0.mk (bxLe HB.out hg); have GE1161 := GW1161; replace HB := Aside0.mk (below_step HB.out hb); have NB1141_1161 := Aside0.mk (neL BK1141.out hg); have NB1161_1141 := Aside0.mk (neR BK1141.out hg); replace BK1141 := Aside0.mk (blk_below BK1141.out hb); have NB1142_1161 := Aside0.mk (neL BK1142.out hg); have NB1161_1142 := Aside0.mk (neR BK1142.out hg); replace BK1142 := Aside0.mk (blk_below BK1142.out hb); have NB1154_1161 := Aside0.mk (neL BK1154.out hg); have NB1161_1154 := Aside0.mk (neR BK1154.out hg); replace BK1154 := Aside0.mk (blk_below BK1154.out hb); have NB1155_1161 := Aside0.mk (neL BK1155.out hg); have NB1161_1155 := Aside0.mk (neR BK1155.out hg); replace BK1155 := Aside0.mk (blk_below BK1155.out hb); clear hb hbox hg; have hnb37 := NB1161_1141.out; have hnc37 := NB1141_1161.out; have hnb38 := NB1161_1142.out; have hnc38 := NB1142_1161.out; have hnb39 := NB1161_1154.out; have hnc39 := NB1154_1161.out; have hnb40 := NB1161_1155.out; have hnc40 := NB1155_1161.out; have hcz41_0 : w36.cell? ⟨gb1161, 0, none⟩ = some (.bool false) := bc0 BK1161.out; have hcz41_1 : w36.cell? ⟨gb1161, 1, none⟩ = some (.slice none 0 0) := bc1 BK1161.out; have hfz41_0 := blk_frozen BK1161.out 0; have hfz41_1 := blk_frozen BK1161.out 1; obtain ⟨Ao42, co42, eo42⟩ := Kd.R_slice HO1159.out; subst eo42))
    (try simp only [Act.put, List.setIfInBounds_toArray, List.set_cons_zero, List.set_cons_succ])
    go_cut [43] (fun v43 wc => ∃ (kq : Nat) (x43_16 : Bool), v43 = .bool x43_16 ∧ Aside0 (gudgeonlaw02_WholeBack.j1 kq t1153 t1160 x43_16 a0_0 l0_1 a1_0 l1_1 t1145 t1146 t1149 t1150 t1156 t1157 = some r) ∧ Aside0 (kq ≤ kj4) ∧ Aside0 (Kd.R (Kd.int .u32) 51 wc w.heap.size (fun k_ => some k_ ≠ ((.slice Ao32 t1150.length co32) : Value).ownBlock ∧ some k_ ≠ ((.slice Ao42 t1157.length co42) : Value).ownBlock) (.slice Ao28 t1146.length co28) t1146) ∧ Aside0 (Kd.R (Kd.int .u32) 51 wc w.heap.size (fun k_ => some k_ ≠ ((.slice Ao28 t1146.length co28) : Value).ownBlock ∧ some k_ ≠ ((.slice Ao42 t1157.length co42) : Value).ownBlock) (.slice Ao32 t1150.length co32) t1150) ∧ Aside0 (Kd.R (Kd.int .u32) 51 wc w.heap.size (fun k_ => some k_ ≠ ((.slice Ao28 t1146.length co28) : Value).ownBlock ∧ some k_ ≠ ((.slice Ao32 t1150.length co32) : Value).ownBlock) (.slice Ao42 t1157.length co42) t1157) ∧ Aside0 (wc.heap[gb1141]? = some (.cells #[.bool a0_0, (.slice A0_1 l0_1.length c0_1)] 24 (0, 0))) ∧ Aside0 (wc.heap[gb1142]? = some (.cells #[.bool a1_0, (.slice A1_1 l1_1.length c1_1)] 24 (0, 0))) ∧ Aside0 (wc.heap[gb1154]? = some (.cells #[.bool t1145, (.slice Ao28 t1146.length co28)] 24 (0, 0))) ∧ Aside0 (wc.heap[gb1155]? = some (.cells #[.bool t1149, (.slice Ao32 t1150.length co32)] 24 (0, 0))) ∧ Aside0 (wc.heap[gb1161]? = some (.cells #[.bool t1156, (.slice Ao42 t1157.length co42)] 24 (0, 0))) ∧ Aside0 (Below w.heap.size w wc))
    case first =>
     have H := HC17.out
     clear HC17
     by_cases c43 : t1153 = 0
     ·rw [if_pos c43] at H
      have c43b0 : (t1153 == 0) = true := beq_iff_eq.mpr c43
      have c43b1 : (t1153 != 0) = false := bne_eq_false_iff_eq.mpr c43
      clear c43
      (first | rw [c43b0] | rw [c43b1] | (simp only [i64_w, i32_w]; rw [c43b0]) | skip)
      have H' := Aside0.mk H
      clear H
      go_wp2
      go_meet
      case rel => exact ⟨_, ((t1160 != 0)), (by first | rfl | (simp; done)), H', ⟨by have := HJ4.out; first | omega | exact Nat.le_refl _⟩, ⟨Kd.R_mono (Kd.R_far (p := ⟨gb1161, 1, none⟩) (Kd.R_far (p := ⟨gb1161, 0, none⟩) (Kd.R_types HO1148.out BK1161.out (by decide)) (fun _ hk => hk.2) (.bool t1156)) (fun _ hk => hk.2) (.slice Ao42 t1157.length co42)) (fun _ hk => ⟨hk.1.1, hk.1.2⟩)⟩, ⟨Kd.R_mono (Kd.R_far (p := ⟨gb1161, 1, none⟩) (Kd.R_far (p := ⟨gb1161, 0, none⟩) (Kd.R_types HO1152.out BK1161.out (by decide)) (fun _ hk => hk.2) (.bool t1156)) (fun _ hk => hk.2) (.slice Ao42 t1157.length co42)) (fun _ hk => ⟨hk.1.1, hk.1.2⟩)⟩, ⟨Kd.R_mono (Kd.R_far (p := ⟨gb1161, 1, none⟩) (Kd.R_far (p := ⟨gb1161, 0, none⟩) (Kd.R_types HO1159.out BK1161.out (by decide)) (fun _ hk => hk.2) (.bool t1156)) (fun _ hk => hk.2) (.slice Ao42 t1157.length co42)) (fun _ hk => ⟨hk.1.1.2, hk.1.2⟩)⟩, ⟨by refine blk_far ?_ NB1141_1161.out _; refine blk_far ?_ NB1141_1161.out _; exact BK1141.out⟩, ⟨by refine blk_far ?_ NB1142_1161.out _; refine blk_far ?_ NB1142_1161.out _; exact BK1142.out⟩, ⟨by refine blk_far ?_ NB1154_1161.out _; refine blk_far ?_ NB1154_1161.out _; exact BK1154.out⟩, ⟨by refine blk_far ?_ NB1155_1161.out _; refine blk_far ?_ NB1155_1161.out _; exact BK1155.out⟩, ⟨by refine blk_put (cs := #[.bool t1156, .slice none 0 0]) ?_ 1 _ rfl; refine blk_put (cs := #[.bool false, .slice none 0 0]) ?_ 0 _ rfl; exact BK1161.out⟩, ⟨by repeat first | exact HB.out | refine bxSet ?_ (by assumption) | apply below_alloc | apply pw_below_drewN⟩⟩
     ·rw [if_neg c43] at H
      have c43b0 : (t1153 == 0) = false := beq_eq_false_iff_ne.mpr c43
      have c43b1 : (t1153 != 0) = true := bne_iff_ne.mpr c43
      (first | rw [c43b0] | rw [c43b1] | (simp only [i64_w, i32_w]; rw [c43b0]) | skip)
      have H' := Aside0.mk H
      clear H
      go_wp2
      go_meet
      case rel => exact ⟨_, (true), (by first | rfl | (simp; done)), H', ⟨by have := HJ4.out; first | omega | exact Nat.le_refl _⟩, ⟨Kd.R_mono (Kd.R_far (p := ⟨gb1161, 1, none⟩) (Kd.R_far (p := ⟨gb1161, 0, none⟩) (Kd.R_types HO1148.out BK1161.out (by decide)) (fun _ hk => hk.2) (.bool t1156)) (fun _ hk => hk.2) (.slice Ao42 t1157.length co42)) (fun _ hk => ⟨hk.1.1, hk.1.2⟩)⟩, ⟨Kd.R_mono (Kd.R_far (p := ⟨gb1161, 1, none⟩) (Kd.R_far (p := ⟨gb1161, 0, none⟩) (Kd.R_types HO1152.out BK1161.out (by decide)) (fun _ hk => hk.2) (.bool t1156)) (fun _ hk => hk.2) (.slice Ao42 t1157.length co42)) (fun _ hk => ⟨hk.1.1, hk.1.2⟩)⟩, ⟨Kd.R_mono (Kd.R_far (p := ⟨gb1161, 1, none⟩) (Kd.R_far (p := ⟨gb1161, 0, none⟩) (Kd.R_types HO1159.out BK1161.out (by decide)) (fun _ hk => hk.2) (.bool t1156)) (fun _ hk => hk.2) (.slice Ao42 t1157.length co42)) (fun _ hk => ⟨hk.1.1.2, hk.1.2⟩)⟩, ⟨by refine blk_far ?_ NB1141_1161.out _; refine blk_far ?_ NB1141_1161.out _; exact BK1141.out⟩, ⟨by refine blk_far ?_ NB1142_1161.out _; refine blk_far ?_ NB1142_1161.out _; exact BK1142.out⟩, ⟨by refine blk_far ?_ NB1154_1161.out _; refine blk_far ?_ NB1154_1161.out _; exact BK1154.out⟩, ⟨by refine blk_far ?_ NB1155_1161.out _; refine blk_far ?_ NB1155_1161.out _; exact BK1155.out⟩, ⟨by refine blk_put (cs := #[.bool t1156, .slice none 0 0]) ?_ 1 _ rfl; refine blk_put (cs := #[.bool false, .slice none 0 0]) ?_ 0 _ rfl; exact BK1161.out⟩, ⟨by repeat first | exact HB.out | refine bxSet ?_ (by assumption) | apply below_alloc | apply pw_below_drewN⟩⟩
    case rest =>
     clear HC17
     try clear c1
     try clear c2
     try clear p2
     try clear c3
     try clear c4
     try clear c5
     try clear c9
     try clear c10
     try clear c11
     try clear c13
     try clear c14
     try clear c18
     try clear c24
     try clear c25
     try clear c26
     try clear c29
     try clear c30
     try clear c37
     try clear c38
     try clear c39
     try clear c40
     try clear c43
     try clear c43b0
     try clear c43b1
     try clear hcz10_0
     try clear hcz10_1
     try clear hcz11_0
     try clear hcz11_1
     try clear hcz19_0
     try clear hcz19_1
     try clear hcz20_0
     try clear hcz20_1
     try clear hcz27_0
     try clear hcz27_1
     try clear hcz31_0
     try clear hcz31_1
     try clear hcz33_0
     try clear hcz33_1
     try clear hcz34_0
     try clear hcz34_1
     try clear hcz41_0
     try clear hcz41_1
     try clear hfz10_0
     try clear hfz10_1
     try clear hfz11_0
     try clear hfz11_1
     try clear hfz19_0
     try clear hfz19_1
     try clear hfz20_0
     try clear hfz20_1
     try clear hfz27_0
     try clear hfz27_1
     try clear hfz31_0
     try clear hfz31_1
     try clear hfz33_0
     try clear hfz33_1
     try clear hfz34_0
     try clear hfz34_1
     try clear hfz41_0
     try clear hfz41_1
     try clear p2
     obtain ⟨kq, x43_16, rfl, HA, HJ16, HO_1155001, HO_1156001, HO_1162001, BK1141, BK1142, BK1154, BK1155, BK1161, HB⟩ := hcut
     cases kq with
     | zero => exact absurd HA.out (by simp [gudgeonlaw02_WholeBack.j1])
     | succ kj16 =>
      have H := HA.out
      clear HA
      simp only [gudgeonlaw02_WholeBack.j1] at H
      by_cases c44 : x43_16 = true
      ·subst c44
       rw [if_pos rfl] at H
       by_cases c45 : t1153 = 7
       ·rw [if_pos c45] at H
        have c45b0 : (t1153 == 7) = true := beq_iff_eq.mpr c45
        have c45b1 : (t1153 != 7) = false := bne_eq_false_iff_eq.mpr c45
        clear c45
        by_cases c46 : t1160 = 7
        ·rw [if_pos c46] at H
         have c46b0 : (t1160 == 7) = true := beq_iff_eq.mpr c46
         have c46b1 : (t1160 != 7) = false := bne_eq_false_iff_eq.mpr c46
         clear c46
         obtain ⟨t1162, A470, H⟩ := Option.bind_eq_some_iff.mp H
         try dsimp only at H
         have A47 := Aside0.mk A470
         clear A470
         obtain rfl := Option.some.inj H
         have hnb48 := NB1142_1141.out
         have hnc48 := NB1141_1142.out
         have hnb49 := NB1142_1154.out
         have hnc49 := NB1154_1142.out
         have hnb50 := NB1142_1155.out
         have hnc50 := NB1155_1142.out
         have hnb51 := NB1142_1161.out
         have hnc51 := NB1161_1142.out
         have hcz52_0 : wc.cell? ⟨gb1142, 0, none⟩ = some (.bool a1_0) := bc0 BK1142.out
         have hcz52_1 : wc.cell? ⟨gb1142, 1, none⟩ = some (.slice A1_1 l1_1.length c1_1) := bc1 BK1142.out
         have hfz52_0 := blk_frozen BK1142.out 0
         have hfz52_1 := blk_frozen BK1142.out 1
         go_wp2_with (first | (go_at_call 28; (with_reducible refine (whole_Sign.calls a1_0 _ _ l1_1 t1162 _ ?side1 ?side2 A47.out).mono ?_); (case side1 => exact (Kd.C_below HR1_1.out HB.out)); (case side2 => exact HC1_1.out); rintro e w53 ⟨rfl, hb⟩; have n0_ := Aside0.mk (Kd.R_below HO_1155001.out hb); have n1_ := Aside0.mk (Kd.R_below HO_1156001.out hb); have n2_ := Aside0.mk (Kd.R_below HO_1162001.out hb); have n3_ := Aside0.mk (blk_below BK1141.out hb); have n4_ := Aside0.mk (blk_below BK1142.out hb); have n5_ := Aside0.mk (blk_below BK1154.out hb); have n6_ := Aside0.mk (blk_below BK1155.out hb); have n7_ := Aside0.mk (blk_below BK1161.out hb); have n8_ := Aside0.mk (below_step HB.out hb); clear HO_1155001; clear HO_1156001; clear HO_1162001; clear BK1141; clear BK1142; clear BK1154; clear BK1155; clear BK1161; clear HB; have HO_1155001 := n0_; have HO_1156001 := n1_; have HO_1162001 := n2_; have BK1141 := n3_; have BK1142 := n4_; have BK1154 := n5_; have BK1155 := n6_; have BK1161 := n7_; have HB := n8_; clear n0_ n1_ n2_ n3_ n4_ n5_ n6_ n7_ n8_; (try clear hb); (try clear hb2); (try clear hk); (try clear hi)))
         go_ret
         exact ⟨by first | rfl | (simp [errW_none, errW_some] <;> rfl) | (refine congrArg (fun z_ => Ending.returned (Value.bool z_)) (decide_eq_decide.mpr ?_); unfold wrap64; omega) | (simp [*, errW_none, errW_some] <;> rfl), HB.out⟩
        ·rw [if_neg c46] at H
         have c46b0 : (t1160 == 7) = false := beq_eq_false_iff_ne.mpr c46
         have c46b1 : (t1160 != 7) = true := bne_iff_ne.mpr c46
         obtain rfl := Option.some.inj H
         go_wp2
         go_ret
         exact ⟨by first | rfl | (simp [errW_none, errW_some] <;> rfl) | (refine congrArg (fun z_ => Ending.returned (Value.bool z_)) (decide_eq_decide.mpr ?_); unfold wrap64; omega) | (simp [*, errW_none, errW_some] <;> rfl), HB.out⟩
       ·rw [if_neg c45] at H
        have c45b0 : (t1153 == 7) = false := beq_eq_false_iff_ne.mpr c45
        have c45b1 : (t1153 != 7) = true := bne_iff_ne.mpr c45
        obtain rfl := Option.some.inj H
        go_wp2
        go_ret
        exact ⟨by first | rfl | (simp [errW_none, errW_some] <;> rfl) | (refine congrArg (fun z_ => Ending.returned (Value.bool z_)) (decide_eq_decide.mpr ?_); unfold wrap64; omega) | (simp [*, errW_none, errW_some] <;> rfl), HB.out⟩
      ·replace c44 := Bool.eq_false_iff.mpr c44
       subst c44
       rw [if_neg (show ¬ (false = true) by decide)] at H
       obtain ⟨t1164, A540, H⟩ := Option.bind_eq_some_iff.mp H
       try dsimp only at H
       have A54 := Aside0.mk A540
       clear A540
       by_cases c55 : t1164 < 0
       ·rw [if_pos c55] at H
        have c55b0 : decide (t1164 < 0) = true := decide_eq_true c55
        clear c55
        obtain ⟨⟨t1165, t1166⟩, A560, H⟩ := Option.bind_eq_some_iff.mp H
        try dsimp only at H
        have A56 := Aside0.mk A560
        clear A560
        obtain ⟨⟨t1169, t1170⟩, A570, H⟩ := Option.bind_eq_some_iff.mp H
        try dsimp only at H
        have A57 := Aside0.mk A570
        clear A570
        obtain ⟨⟨t1173, t1174⟩, A580, H⟩ := Option.bind_eq_some_iff.mp H
        try dsimp only at H
        have A58 := Aside0.mk A580
        clear A580
        obtain ⟨t1178, A590, H⟩ := Option.bind_eq_some_iff.mp H
        try dsimp only at H
        have A59 := Aside0.mk A590
        clear A590
        by_cases c60 : t1178 < 0
        ·rw [if_pos c60] at H
         have c60b0 : decide (t1178 < 0) = true := decide_eq_true c60
         clear c60
         obtain ⟨⟨t1179, t1180⟩, A610, H⟩ := Option.bind_eq_some_iff.mp H
         try dsimp only at H
         have A61 := Aside0.mk A610
         clear A610
         obtain ⟨⟨t1183, t1184⟩, A620, H⟩ := Option.bind_eq_some_iff.mp H
         try dsimp only at H
         have A62 := Aside0.mk A620
         clear A620
         obtain ⟨⟨t1187, t1188⟩, A630, H⟩ := Option.bind_eq_some_iff.mp H
         try dsimp only at H
         have A63 := Aside0.mk A630
         clear A630
         obtain ⟨t1191, A640, H⟩ := Option.bind_eq_some_iff.mp H
         try dsimp only at H
         have A64 := Aside0.mk A640
         clear A640
         by_cases c65 : t1191 = 0
         ·rw [if_pos c65] at H
          have c65b0 : (t1191 == 0) = true := beq_iff_eq.mpr c65
          have c65b1 : (t1191 != 0) = false := bne_eq_false_iff_eq.mpr c65
          clear c65
          obtain ⟨t1192, A660, H⟩ := Option.bind_eq_some_iff.mp H
          try dsimp only at H
          have A66 := Aside0.mk A660
          clear A660
          by_cases c67 : t1192 ≥ 0
          ·rw [if_pos c67] at H
           have c67b0 : decide (0 ≤ t1192) = true := decide_eq_true c67
           clear c67
           obtain ⟨t1193, A680, H⟩ := Option.bind_eq_some_iff.mp H
           try dsimp only at H
           have A68 := Aside0.mk A680
           clear A680
           by_cases c69 : t1193 < 0
           ·rw [if_pos c69] at H
            have c69b0 : decide (t1193 < 0) = true := decide_eq_true c69
            clear c69
            obtain ⟨t1194, A700, H⟩ := Option.bind_eq_some_iff.mp H
            try dsimp only at H
            have A70 := Aside0.mk A700
            clear A700
            by_cases c71 : t1194 ≥ 0
            ·rw [if_pos c71] at H
             have c71b0 : decide (0 ≤ t1194) = true := decide_eq_true c71
             clear c71
             obtain ⟨t1195, A720, H⟩ := Option.bind_eq_some_iff.mp H
             try dsimp only at H
             have A72 := Aside0.mk A720
             clear A720
             obtain rfl := Option.some.inj H
             have hnb73 := NB1142_1141.out
             have hnc73 := NB1141_1142.out
             have hnb74 := NB1142_1154.out
             have hnc74 := NB1154_1142.out
             have hnb75 := NB1142_1155.out
             have hnc75 := NB1155_1142.out
             have hnb76 := NB1142_1161.out
             have hnc76 := NB1161_1142.out
             have hcz77_0 : wc.cell? ⟨gb1142, 0, none⟩ = some (.bool a1_0) := bc0 BK1142.out
             have hcz77_1 : wc.cell? ⟨gb1142, 1, none⟩ = some (.slice A1_1 l1_1.length c1_1) := bc1 BK1142.out
             have hfz77_0 := blk_frozen BK1142.out 0
             have hfz77_1 := blk_frozen BK1142.out 1
             try go_wp2_with (first | ((with_reducible refine gate_dst (N := 12) rfl ?_); refine box_event ?hg (N := 12) ?hd (cs := #[.bool false, .slice none 0 0]) (t := 24) ?hr ?_; (case hd => rfl); (case hg => rfl); (case hr => first | (go_simp; done) | (go_simp; rfl)); intro gb1163 hg w78 hbox hb; replace HO_1155001 := Aside0.mk (Kd.R_below HO_1155001.out hb); replace HO_1156001 := Aside0.mk (Kd.R_below HO_1156001.out hb); replace HO_1162001 := Aside0.mk (Kd.R_below HO_1162001.out hb); have BK1163 := Aside0.mk (hbox); have GW1163 := Aside0.mk (bxLe HB.out hg); have GE1163 := GW1163; replace HB := Aside0.mk (below_step HB.out hb); have NB1141_1163 := Aside0.mk (neL BK1141.out hg); have NB1163_1141 := Aside0.mk (neR BK1141.out hg); replace BK1141 := Aside0.mk (blk_below BK1141.out hb); have NB1142_1163 := Aside0.mk (neL BK1142.out hg); have NB1163_1142 := Aside0.mk (neR BK1142.out hg); replace BK1142 := Aside0.mk (blk_below BK1142.out hb); have NB1154_1163 := Aside0.mk (neL BK1154.out hg); have NB1163_1154 := Aside0.mk (neR BK1154.out hg); replace BK1154 := Aside0.mk (blk_below BK1154.out hb); have NB1155_1163 := Aside0.mk (neL BK1155.out hg); have NB1163_1155 := Aside0.mk (neR BK1155.out hg); replace BK1155 := Aside0.mk (blk_below BK1155.out hb); have NB1161_1163 := Aside0.mk (neL BK1161.out hg); have NB1163_1161 := Aside0.mk (neR BK1161.out hg); replace BK1161 := Aside0.mk (blk_below BK1161.out hb); clear hb hbox hg; have hnb79 := NB1163_1141.out; have hnc79 := NB1141_1163.out; have hnb80 := NB1163_1142.out; have hnc80 := NB1142_1163.out; have hnb81 := NB1163_1154.out; have hnc81 := NB1154_1163.out; have hnb82 := NB1163_1155.out; have hnc82 := NB1155_1163.out; have hnb83 := NB1163_1161.out; have hnc83 := NB1161_1163.out; have hcz84_0 : w78.cell? ⟨gb1163, 0, none⟩ = some (.bool false) := bc0 BK1163.out; have hcz84_1 : w78.cell? ⟨gb1163, 1, none⟩ = some (.slice none 0 0) := bc1 BK1163.out; have hfz84_0 := blk_frozen BK1163.out 0; have hfz84_1 := blk_frozen BK1163.out 1; have hcz85_0 : w78.cell? ⟨gb1142, 0, none⟩ = some (.bool a1_0) := bc0 BK1142.out; have hcz85_1 : w78.cell? ⟨gb1142, 1, none⟩ = some (.slice A1_1 l1_1.length c1_1) := bc1 BK1142.out; have hfz85_0 := blk_frozen BK1142.out 0; have hfz85_1 := blk_frozen BK1142.out 1) | ((with_reducible refine gate_callee (f := 28) rfl ?_); refine goL (some 57) Tryd.func28 [.agg #[.bool a1_0, .slice A1_1 l1_1.length c1_1]] ?_; (with_reducible refine (whole_Sign.calls a1_0 _ _ l1_1 t1164 _ ?side1 ?side2 A54.out).mono ?_); (case side1 => exact Kd.C_below HR1_1.out (by repeat first | exact HB.out | refine bxSet ?_ (by assumption) | apply below_alloc | apply pw_below_drewN)); (case side2 => exact HC1_1.out); rintro e w86 ⟨rfl, hb⟩; refine ⟨_, rfl, ?_⟩; replace HO_1155001 := Aside0.mk (Kd.R_below (Kd.R_mono (Kd.R_far (p := ⟨gb1163, 1, none⟩) (Kd.R_far (p := ⟨gb1163, 0, none⟩) (Kd.R_types HO_1155001.out BK1163.out (by decide)) (fun _ hk => hk.2) (.bool a1_0)) (fun _ hk => hk.2) (.slice A1_1 l1_1.length c1_1)) (fun _ h_ => h_.1)) hb); replace HO_1156001 := Aside0.mk (Kd.R_below (Kd.R_mono (Kd.R_far (p := ⟨gb1163, 1, none⟩) (Kd.R_far (p := ⟨gb1163, 0, none⟩) (Kd.R_types HO_1156001.out BK1163.out (by decide)) (fun _ hk => hk.2) (.bool a1_0)) (fun _ hk => hk.2) (.slice A1_1 l1_1.length c1_1)) (fun _ h_ => h_.1)) hb); replace HO_1162001 := Aside0.mk (Kd.R_below (Kd.R_mono (Kd.R_far (p := ⟨gb1163, 1, none⟩) (Kd.R_far (p := ⟨gb1163, 0, none⟩) (Kd.R_types HO_1162001.out BK1163.out (by decide)) (fun _ hk => hk.2) (.bool a1_0)) (fun _ hk => hk.2) (.slice A1_1 l1_1.length c1_1)) (fun _ h_ => h_.1)) hb); replace BK1141 := Aside0.mk (blk_below (g := gb1141) (o := .cells #[.bool a0_0, .slice A0_1 l0_1.length c0_1] 24 (0, 0)) (by refine blk_far ?_ NB1141_1163.out _; refine blk_far ?_ NB1141_1163.out _; exact BK1141.out) hb); replace BK1142 := Aside0.mk (blk_below (g := gb1142) (o := .cells #[.bool a1_0, .slice A1_1 l1_1.length c1_1] 24 (0, 0)) (by refine blk_far ?_ NB1142_1163.out _; refine blk_far ?_ NB1142_1163.out _; exact BK1142.out) hb); replace BK1154 := Aside0.mk (blk_below (g := gb1154) (o := .cells #[.bool t1145, .slice Ao28 t1146.length co28] 24 (0, 0)) (by refine blk_far ?_ NB1154_1163.out _; refine blk_far ?_ NB1154_1163.out _; exact BK1154.out) hb); replace BK1155 := Aside0.mk (blk_below (g := gb1155) (o := .cells #[.bool t1149, .slice Ao32 t1150.length co32] 24 (0, 0)) (by refine blk_far ?_ NB1155_1163.out _; refine blk_far ?_ NB1155_1163.out _; exact BK1155.out) hb); replace BK1161 := Aside0.mk (blk_below (g := gb1161) (o := .cells #[.bool t1156, .slice Ao42 t1157.length co42] 24 (0, 0)) (by refine blk_far ?_ NB1161_1163.out _; refine blk_far ?_ NB1161_1163.out _; exact BK1161.out) hb); replace BK1163 := Aside0.mk (blk_below (g := gb1163) (o := .cells #[.bool a1_0, .slice A1_1 l1_1.length c1_1] 24 (0, 0)) (by refine blk_put (cs := #[.bool a1_0, .slice none 0 0]) ?_ 1 _ rfl; refine blk_put (cs := #[.bool false, .slice none 0 0]) ?_ 0 _ rfl; exact BK1163.out) hb); replace HB := Aside0.mk (below_step (by repeat first | exact HB.out | refine bxSet ?_ (by assumption) | apply below_alloc | apply pw_below_drewN) hb); (try clear hb); (try clear hb2); (try clear hk); (try clear hi); have hcz87_0 : w86.cell? ⟨gb1142, 0, none⟩ = some (.bool a1_0) := bc0 BK1142.out; have hcz87_1 : w86.cell? ⟨gb1142, 1, none⟩ = some (.slice A1_1 l1_1.length c1_1) := bc1 BK1142.out; have hfz87_0 := blk_frozen BK1142.out 0; have hfz87_1 := blk_frozen BK1142.out 1) | ((with_reducible refine gate_callee (f := 18) rfl ?_); refine goL (some 60) Tryd.func18 [.agg #[.bool a1_0, .slice A1_1 l1_1.length c1_1]] ?_; (with_reducible refine (whole_Neg.calls a1_0 _ _ l1_1 t1165 t1166 _ ?side1 ?side2 A56.out).mono ?_); (case side1 => exact (Kd.C_below HR1_1.out HB.out)); (case side2 => exact HC1_1.out); rintro e w88 ⟨v1167, rfl, ho0, hb⟩; refine ⟨_, rfl, ?_⟩; have HO1168 := Aside0.mk (Kd.R_lower (Kd.R_new' (Kd.R_new' (Kd.R_new' ho0 (Kd.R_lt HO_1155001.out)) (Kd.R_lt HO_1156001.out)) (Kd.R_lt HO_1162001.out)) (below_size HB.out)); replace HO_1155001 := Aside0.mk (Kd.R_elder' HO_1155001.out (Kd.R_base ho0) hb); replace HO_1156001 := Aside0.mk (Kd.R_elder' HO_1156001.out (Kd.R_base ho0) hb); replace HO_1162001 := Aside0.mk (Kd.R_elder' HO_1162001.out (Kd.R_base ho0) hb); replace BK1141 := Aside0.mk (blk_below BK1141.out hb); replace BK1142 := Aside0.mk (blk_below BK1142.out hb); replace BK1154 := Aside0.mk (blk_below BK1154.out hb); replace BK1155 := Aside0.mk (blk_below BK1155.out hb); replace BK1161 := Aside0.mk (blk_below BK1161.out hb); replace BK1163 := Aside0.mk (blk_below BK1163.out hb); replace HB := Aside0.mk (below_step HB.out hb); have hcz89_0 : w88.cell? ⟨gb1163, 0, none⟩ = some (.bool a1_0) := bc0 BK1163.out; have hcz89_1 : w88.cell? ⟨gb1163, 1, none⟩ = some (.slice A1_1 l1_1.length c1_1) := bc1 BK1163.out; have hfz89_0 := blk_frozen BK1163.out 0; have hfz89_1 := blk_frozen BK1163.out 1; obtain ⟨Ao90, co90, eo90⟩ := Kd.R_slice HO1168.out; subst eo90))
             have n0_ : Aside0 (Kd.R (Kd.int .u32) 51 ((w88.setCell ⟨gb1163, 0, none⟩ (.bool t1165)).setCell ⟨gb1163, 1, none⟩ (.slice Ao90 t1166.length co90)) w.heap.size (fun k_ => some k_ ≠ (.slice Ao32 t1150.length co32 : Value).ownBlock ∧ some k_ ≠ (.slice Ao42 t1157.length co42 : Value).ownBlock ∧ some k_ ≠ (.slice Ao90 t1166.length co90 : Value).ownBlock) (.slice Ao28 t1146.length co28) t1146) := ⟨Kd.R_mono (Kd.R_far (p := ⟨gb1163, 1, none⟩) (Kd.R_far (p := ⟨gb1163, 0, none⟩) (Kd.R_types HO_1155001.out BK1163.out (by decide)) (fun _ hk => hk.2) (.bool t1165)) (fun _ hk => hk.2) (.slice Ao90 t1166.length co90)) (fun _ hk => ⟨hk.1.1.1, ⟨hk.1.1.2, hk.1.2⟩⟩)⟩
             have n1_ : Aside0 (Kd.R (Kd.int .u32) 51 ((w88.setCell ⟨gb1163, 0, none⟩ (.bool t1165)).setCell ⟨gb1163, 1, none⟩ (.slice Ao90 t1166.length co90)) w.heap.size (fun k_ => some k_ ≠ (.slice Ao28 t1146.length co28 : Value).ownBlock ∧ some k_ ≠ (.slice Ao42 t1157.length co42 : Value).ownBlock ∧ some k_ ≠ (.slice Ao90 t1166.length co90 : Value).ownBlock) (.slice Ao32 t1150.length co32) t1150) := ⟨Kd.R_mono (Kd.R_far (p := ⟨gb1163, 1, none⟩) (Kd.R_far (p := ⟨gb1163, 0, none⟩) (Kd.R_types HO_1156001.out BK1163.out (by decide)) (fun _ hk => hk.2) (.bool t1165)) (fun _ hk => hk.2) (.slice Ao90 t1166.length co90)) (fun _ hk => ⟨hk.1.1.1, ⟨hk.1.1.2, hk.1.2⟩⟩)⟩
             have n2_ : Aside0 (Kd.R (Kd.int .u32) 51 ((w88.setCell ⟨gb1163, 0, none⟩ (.bool t1165)).setCell ⟨gb1163, 1, none⟩ (.slice Ao90 t1166.length co90)) w.heap.size (fun k_ => some k_ ≠ (.slice Ao28 t1146.length co28 : Value).ownBlock ∧ some k_ ≠ (.slice Ao32 t1150.length co32 : Value).ownBlock ∧ some k_ ≠ (.slice Ao90 t1166.length co90 : Value).ownBlock) (.slice Ao42 t1157.length co42) t1157) := ⟨Kd.R_mono (Kd.R_far (p := ⟨gb1163, 1, none⟩) (Kd.R_far (p := ⟨gb1163, 0, none⟩) (Kd.R_types HO_1162001.out BK1163.out (by decide)) (fun _ hk => hk.2) (.bool t1165)) (fun _ hk => hk.2) (.slice Ao90 t1166.length co90)) (fun _ hk => ⟨hk.1.1.1, ⟨hk.1.1.2, hk.1.2⟩⟩)⟩
             have n3_ : Aside0 (Kd.R (Kd.int .u32) 51 ((w88.setCell ⟨gb1163, 0, none⟩ (.bool t1165)).setCell ⟨gb1163, 1, none⟩ (.slice Ao90 t1166.length co90)) w.heap.size (fun k_ => some k_ ≠ (.slice Ao28 t1146.length co28 : Value).ownBlock ∧ some k_ ≠ (.slice Ao32 t1150.length co32 : Value).ownBlock ∧ some k_ ≠ (.slice Ao42 t1157.length co42 : Value).ownBlock) (.slice Ao90 t1166.length co90) t1166) := ⟨Kd.R_mono (Kd.R_far (p := ⟨gb1163, 1, none⟩) (Kd.R_far (p := ⟨gb1163, 0, none⟩) (Kd.R_types HO1168.out BK1163.out (by decide)) (fun _ hk => hk.2) (.bool t1165)) (fun _ hk => hk.2) (.slice Ao90 t1166.length co90)) (fun _ hk => ⟨hk.1.1.1.2, ⟨hk.1.1.2, hk.1.2⟩⟩)⟩
             have n4_ : Aside0 (((w88.setCell ⟨gb1163, 0, none⟩ (.bool t1165)).setCell ⟨gb1163, 1, none⟩ (.slice Ao90 t1166.length co90)).heap[gb1141]? = some (.cells #[.bool a0_0, .slice A0_1 l0_1.length c0_1] 24 (0, 0))) := ⟨by refine blk_far ?_ NB1141_1163.out _; refine blk_far ?_ NB1141_1163.out _; exact BK1141.out⟩
             have n5_ : Aside0 (((w88.setCell ⟨gb1163, 0, none⟩ (.bool t1165)).setCell ⟨gb1163, 1, none⟩ (.slice Ao90 t1166.length co90)).heap[gb1142]? = some (.cells #[.bool a1_0, .slice A1_1 l1_1.length c1_1] 24 (0, 0))) := ⟨by refine blk_far ?_ NB1142_1163.out _; refine blk_far ?_ NB1142_1163.out _; exact BK1142.out⟩
             have n6_ : Aside0 (((w88.setCell ⟨gb1163, 0, none⟩ (.bool t1165)).setCell ⟨gb1163, 1, none⟩ (.slice Ao90 t1166.length co90)).heap[gb1154]? = some (.cells #[.bool t1145, .slice Ao28 t1146.length co28] 24 (0, 0))) := ⟨by refine blk_far ?_ NB1154_1163.out _; refine blk_far ?_ NB1154_1163.out _; exact BK1154.out⟩
             have n7_ : Aside0 (((w88.setCell ⟨gb1163, 0, none⟩ (.bool t1165)).setCell ⟨gb1163, 1, none⟩ (.slice Ao90 t1166.length co90)).heap[gb1155]? = some (.cells #[.bool t1149, .slice Ao32 t1150.length co32] 24 (0, 0))) := ⟨by refine blk_far ?_ NB1155_1163.out _; refine blk_far ?_ NB1155_1163.out _; exact BK1155.out⟩
             have n8_ : Aside0 (((w88.setCell ⟨gb1163, 0, none⟩ (.bool t1165)).setCell ⟨gb1163, 1, none⟩ (.slice Ao90 t1166.length co90)).heap[gb1161]? = some (.cells #[.bool t1156, .slice Ao42 t1157.length co42] 24 (0, 0))) := ⟨by refine blk_far ?_ NB1161_1163.out _; refine blk_far ?_ NB1161_1163.out _; exact BK1161.out⟩
             have n9_ : Aside0 (((w88.setCell ⟨gb1163, 0, none⟩ (.bool t1165)).setCell ⟨gb1163, 1, none⟩ (.slice Ao90 t1166.length co90)).heap[gb1163]? = some (.cells #[.bool t1165, .slice Ao90 t1166.length co90] 24 (0, 0))) := ⟨by refine blk_put (cs := #[.bool t1165, .slice A1_1 l1_1.length c1_1]) ?_ 1 _ rfl; refine blk_put (cs := #[.bool a1_0, .slice A1_1 l1_1.length c1_1]) ?_ 0 _ rfl; exact BK1163.out⟩
             have n10_ : Aside0 (Below w.heap.size w ((w88.setCell ⟨gb1163, 0, none⟩ (.bool t1165)).setCell ⟨gb1163, 1, none⟩ (.slice Ao90 t1166.length co90))) := ⟨by repeat first | exact HB.out | refine bxSet ?_ (by assumption) | apply below_alloc | apply pw_below_drewN⟩
             (try clear HO_1155001)
             (try clear HO_1156001)
             (try clear HO_1162001)
             (try clear HO1168)
             (try clear BK1141)
             (try clear BK1142)
             (try clear BK1154)
             (try clear BK1155)
             (try clear BK1161)
             (try clear BK1163)
             (try clear HB)
             generalize ((w88.setCell ⟨gb1163, 0, none⟩ (.bool t1165)).setCell ⟨gb1163, 1, none⟩ (.slice Ao90 t1166.length co90)) = w91 at n0_ n1_ n2_ n3_ n4_ n5_ n6_ n7_ n8_ n9_ n10_ ⊢
             have HO_1155001 := n0_
             have HO_1156001 := n1_
             have HO_1162001 := n2_
             have HO1168 := n3_
             have BK1141 := n4_
             have BK1142 := n5_
             have BK1154 := n6_
             have BK1155 := n7_
             have BK1161 := n8_
             have BK1163 := n9_
             have HB := n10_
             clear n0_ n1_ n2_ n3_ n4_ n5_ n6_ n7_ n8_ n9_ n10_
             replace HO_1155001 := Aside0.mk (Kd.R_drew HO_1155001.out)
             replace HO_1156001 := Aside0.mk (Kd.R_drew HO_1156001.out)
             replace HO_1162001 := Aside0.mk (Kd.R_drew HO_1162001.out)
             replace HO1168 := Aside0.mk (Kd.R_drew HO1168.out)
             replace BK1141 := Aside0.mk (blk_drew BK1141.out)
             replace BK1142 := Aside0.mk (blk_drew BK1142.out)
             replace BK1154 := Aside0.mk (blk_drew BK1154.out)
             replace BK1155 := Aside0.mk (blk_drew BK1155.out)
             replace BK1161 := Aside0.mk (blk_drew BK1161.out)
             replace BK1163 := Aside0.mk (blk_drew BK1163.out)
             replace HB := Aside0.mk (below_drew1 HB.out)
             refine start_ (n := 7) (S := fun w' => w'.cell? ⟨gb1141, 0, none⟩ = some (.bool a0_0) ∧ w'.cell? ⟨gb1141, 1, none⟩ = some (.slice A0_1 l0_1.length c0_1) ∧ w'.cell? ⟨gb1161, 0, none⟩ = some (.bool t1156) ∧ w'.cell? ⟨gb1161, 1, none⟩ = some (.slice Ao42 t1157.length co42) ∧ w'.cell? ⟨gb1142, 0, none⟩ = some (.bool a1_0) ∧ w'.cell? ⟨gb1142, 1, none⟩ = some (.slice A1_1 l1_1.length c1_1)) (ds := []) #[false, false, false, false, false, false, false] (by kernel_rfl) rfl rfl ⟨bc0 BK1141.out, bc1 BK1141.out, bc0 BK1161.out, bc1 BK1161.out, bc0 BK1142.out, bc1 BK1142.out⟩ (fun hHeld => ?_)
             generalize w91.drew = w92 at HO_1155001 HO_1156001 HO_1162001 HO1168 BK1141 BK1142 BK1154 BK1155 BK1161 BK1163 HB hHeld ⊢
             refine take_ (i := 0) (N := some 61) (v := ?_) (a' := ?_) #[true, false, false, false, false, false, false] rfl rfl (by kernel_rfl) (fun _ _ _ h => h) (Or.inl ⟨by rfl, ?_⟩) hHeld ?_ ?_
             rotate_left
             ·rintro w' ⟨s0, s1, s2, s3, s4, s5⟩
              go_simp
              with_reducible rfl
             rotate_left
             ·simp only [Act.put, List.setIfInBounds_toArray, List.set_cons_zero, List.set_cons_succ, i64_w, i32_w]
              rfl
             refine take_ (i := 1) (N := some 62) (v := ?_) (a' := ?_) #[true, true, false, false, false, false, false] rfl rfl (by kernel_rfl) (fun _ _ _ h => h) (Or.inl ⟨by rfl, ?_⟩) hHeld ?_ ?_
             rotate_left
             ·rintro w' ⟨s0, s1, s2, s3, s4, s5⟩
              go_simp
              with_reducible rfl
             rotate_left
             ·simp only [Act.put, List.setIfInBounds_toArray, List.set_cons_zero, List.set_cons_succ, i64_w, i32_w]
              rfl
             refine take_ (i := 2) (N := some 63) (v := ?_) (a' := ?_) #[true, true, true, false, false, false, false] rfl rfl (by kernel_rfl) (fun _ _ _ h => h) (Or.inl ⟨by rfl, ?_⟩) hHeld ?_ ?_
             rotate_left
             ·rintro w' ⟨s0, s1, s2, s3, s4, s5⟩
              go_simp
              with_reducible rfl
             rotate_left
             ·simp only [Act.put, List.setIfInBounds_toArray, List.set_cons_zero, List.set_cons_succ, i64_w, i32_w]
              rfl
             refine join_ (σ := Value × Value × Nat) 1 #[true, true, true, true, true, true, false] (fun s_ => [(64, .agg #[.bool t1169, s_.1]), (65, .agg #[.bool t1173, s_.2.1]), (13, .pointer (some ⟨s_.2.2, 0, none⟩))]) (fun s_ w' => (w'.cell? ⟨gb1141, 0, none⟩ = some (.bool a0_0) ∧ w'.cell? ⟨gb1141, 1, none⟩ = some (.slice A0_1 l0_1.length c0_1) ∧ w'.cell? ⟨gb1161, 0, none⟩ = some (.bool t1156) ∧ w'.cell? ⟨gb1161, 1, none⟩ = some (.slice Ao42 t1157.length co42) ∧ w'.cell? ⟨gb1142, 0, none⟩ = some (.bool a1_0) ∧ w'.cell? ⟨gb1142, 1, none⟩ = some (.slice A1_1 l1_1.length c1_1)) ∧ (Kd.R (Kd.int .u32) 51 w' w.heap.size (fun k_ => some k_ ≠ (s_.1 : Value).ownBlock ∧ some k_ ≠ (s_.2.1 : Value).ownBlock ∧ some k_ ≠ (.slice Ao28 t1146.length co28 : Value).ownBlock ∧ some k_ ≠ (.slice Ao32 t1150.length co32 : Value).ownBlock ∧ some k_ ≠ (.slice Ao42 t1157.length co42 : Value).ownBlock) (.slice Ao90 t1166.length co90) t1166) ∧ (Kd.R (Kd.int .u32) 51 w' w.heap.size (fun k_ => some k_ ≠ (.slice Ao90 t1166.length co90 : Value).ownBlock ∧ some k_ ≠ (s_.2.1 : Value).ownBlock ∧ some k_ ≠ (.slice Ao28 t1146.length co28 : Value).ownBlock ∧ some k_ ≠ (.slice Ao32 t1150.length co32 : Value).ownBlock ∧ some k_ ≠ (.slice Ao42 t1157.length co42 : Value).ownBlock) s_.1 t1170) ∧ (Kd.R (Kd.int .u32) 51 w' w.heap.size (fun k_ => some k_ ≠ (.slice Ao90 t1166.length co90 : Value).ownBlock ∧ some k_ ≠ (s_.1 : Value).ownBlock ∧ some k_ ≠ (.slice Ao28 t1146.length co28 : Value).ownBlock ∧ some k_ ≠ (.slice Ao32 t1150.length co32 : Value).ownBlock ∧ some k_ ≠ (.slice Ao42 t1157.length co42 : Value).ownBlock) s_.2.1 t1174) ∧ (Kd.R (Kd.int .u32) 51 w' w.heap.size (fun k_ => some k_ ≠ (.slice Ao90 t1166.length co90 : Value).ownBlock ∧ some k_ ≠ (s_.1 : Value).ownBlock ∧ some k_ ≠ (s_.2.1 : Value).ownBlock ∧ some k_ ≠ (.slice Ao32 t1150.length co32 : Value).ownBlock ∧ some k_ ≠ (.slice Ao42 t1157.length co42 : Value).ownBlock) (.slice Ao28 t1146.length co28) t1146) ∧ (Kd.R (Kd.int .u32) 51 w' w.heap.size (fun k_ => some k_ ≠ (.slice Ao90 t1166.length co90 : Value).ownBlock ∧ some k_ ≠ (s_.1 : Value).ownBlock ∧ some k_ ≠ (s_.2.1 : Value).ownBlock ∧ some k_ ≠ (.slice Ao28 t1146.length co28 : Value).ownBlock ∧ some k_ ≠ (.slice Ao42 t1157.length co42 : Value).ownBlock) (.slice Ao32 t1150.length co32) t1150) ∧ (Kd.R (Kd.int .u32) 51 w' w.heap.size (fun k_ => some k_ ≠ (.slice Ao90 t1166.length co90 : Value).ownBlock ∧ some k_ ≠ (s_.1 : Value).ownBlock ∧ some k_ ≠ (s_.2.1 : Value).ownBlock ∧ some k_ ≠ (.slice Ao28 t1146.length co28 : Value).ownBlock ∧ some k_ ≠ (.slice Ao32 t1150.length co32 : Value).ownBlock) (.slice Ao42 t1157.length co42) t1157) ∧ (w'.heap[gb1141]? = some (.cells #[.bool a0_0, .slice A0_1 l0_1.length c0_1] 24 (0, 0))) ∧ (w'.heap[gb1142]? = some (.cells #[.bool a1_0, .slice A1_1 l1_1.length c1_1] 24 (0, 0))) ∧ (w'.heap[gb1154]? = some (.cells #[.bool t1145, .slice Ao28 t1146.length co28] 24 (0, 0))) ∧ (w'.heap[gb1155]? = some (.cells #[.bool t1149, .slice Ao32 t1150.length co32] 24 (0, 0))) ∧ (w'.heap[gb1161]? = some (.cells #[.bool t1156, .slice Ao42 t1157.length co42] 24 (0, 0))) ∧ (w'.heap[gb1163]? = some (.cells #[.bool t1165, .slice Ao90 t1166.length co90] 24 (0, 0))) ∧ (w'.heap[s_.2.2]? = some (.cells #[.bool false, .slice none 0 0] 24 (0, 0))) ∧ (w.heap.size ≤ s_.2.2) ∧ (w.heap.size ≤ s_.2.2) ∧ (gb1141 ≠ s_.2.2) ∧ (s_.2.2 ≠ gb1141) ∧ (gb1142 ≠ s_.2.2) ∧ (s_.2.2 ≠ gb1142) ∧ (gb1154 ≠ s_.2.2) ∧ (s_.2.2 ≠ gb1154) ∧ (gb1155 ≠ s_.2.2) ∧ (s_.2.2 ≠ gb1155) ∧ (gb1161 ≠ s_.2.2) ∧ (s_.2.2 ≠ gb1161) ∧ (gb1163 ≠ s_.2.2) ∧ (s_.2.2 ≠ gb1163) ∧ (Below w.heap.size w w')) ?_ ?_
             rotate_left
             ·intro hCont
              refine two_ (i := 3) (j := 5) (Ni := some 64) (Nj := some 13) #[true, true, true, true, false, false, false] #[true, true, true, false, false, true, false] rfl rfl rfl rfl (by kernel_rfl) (by decide) (by decide) (fun K hK => ?_) (fun K hK => ?_)
              ·skip
               refine goR Tryd.func24 [.agg #[.bool t1156, .slice Ao42 t1157.length co42], .agg #[.bool a1_0, .slice A1_1 l1_1.length c1_1]] ?_
               with_reducible refine (whole_Mul.calls kj16 t1156 _ _ t1157 a1_0 _ _ l1_1 t1169 t1170 _ ?side1 ?side2 ?side3 ?side4 A57.out).mono ?_
               (case side1 => exact (Kd.R_reads' HO_1162001.out).2.2)
               (case side2 => exact (Kd.R_reads' HO_1162001.out).2.1)
               (case side3 => exact (Kd.C_below HR1_1.out HB.out))
               (case side4 => exact HC1_1.out)
               rintro e w93 ⟨v1171, rfl, ho0, hb⟩
               refine ⟨_, rfl, ?_⟩
               have HO1172 := Aside0.mk (Kd.R_lower (Kd.R_new' (Kd.R_new' (Kd.R_new' (Kd.R_new' ho0 (Kd.R_lt HO_1155001.out)) (Kd.R_lt HO_1156001.out)) (Kd.R_lt HO_1162001.out)) (Kd.R_lt HO1168.out)) (below_size HB.out))
               replace HO_1155001 := Aside0.mk (Kd.R_elder' HO_1155001.out (Kd.R_base ho0) hb)
               replace HO_1156001 := Aside0.mk (Kd.R_elder' HO_1156001.out (Kd.R_base ho0) hb)
               replace HO_1162001 := Aside0.mk (Kd.R_elder' HO_1162001.out (Kd.R_base ho0) hb)
               replace HO1168 := Aside0.mk (Kd.R_elder' HO1168.out (Kd.R_base ho0) hb)
               replace BK1141 := Aside0.mk (blk_below BK1141.out hb)
               replace BK1142 := Aside0.mk (blk_below BK1142.out hb)
               replace BK1154 := Aside0.mk (blk_below BK1154.out hb)
               replace BK1155 := Aside0.mk (blk_below BK1155.out hb)
               replace BK1161 := Aside0.mk (blk_below BK1161.out hb)
               replace BK1163 := Aside0.mk (blk_below BK1163.out hb)
               replace HB := Aside0.mk (below_step HB.out hb)
               (try clear hb)
               (try clear hb2)
               (try clear hk)
               (try clear hi)
               (try clear ho0)
               obtain ⟨Ao94, co94, eo94⟩ := Kd.R_slice HO1172.out
               subst eo94
               refine hK.out _ _ ⟨bc0 BK1141.out, bc1 BK1141.out, bc0 BK1161.out, bc1 BK1161.out, bc0 BK1142.out, bc1 BK1142.out⟩ (fun hHeld => ?_)
               clear hK K
               refine norm_ (a' := ?_) ?_ ?_
               rotate_left
               ·show Act.put _ (some 64) _ = _
                simp only [Act.put, List.setIfInBounds_toArray, List.set_cons_zero, List.set_cons_succ, i64_w, i32_w]
                rfl
               refine two_ (i := 4) (j := 5) (Ni := some 65) (Nj := some 13) #[true, true, true, true, true, false, false] #[true, true, true, true, false, true, false] rfl rfl rfl rfl (by kernel_rfl) (by decide) (by decide) (fun K hK => ?_) (fun K hK => ?_)
               ·skip
                refine goR Tryd.func22 [.agg #[.bool a0_0, .slice A0_1 l0_1.length c0_1], .agg #[.bool t1169, .slice Ao94 t1170.length co94]] ?_
                with_reducible refine (whole_Sub.calls kj16 a0_0 _ _ l0_1 t1169 _ _ t1170 t1173 t1174 _ ?side1 ?side2 ?side3 ?side4 A58.out).mono ?_
                (case side1 => exact (Kd.C_below HR0_1.out HB.out))
                (case side2 => exact HC0_1.out)
                (case side3 => exact (Kd.R_reads' HO1172.out).2.2)
                (case side4 => exact (Kd.R_reads' HO1172.out).2.1)
                rintro e w95 ⟨v1175, rfl, ho0, hb⟩
                refine ⟨_, rfl, ?_⟩
                have HO1176 := Aside0.mk (Kd.R_lower (Kd.R_new' (Kd.R_new' (Kd.R_new' (Kd.R_new' (Kd.R_new' ho0 (Kd.R_lt HO_1155001.out)) (Kd.R_lt HO_1156001.out)) (Kd.R_lt HO_1162001.out)) (Kd.R_lt HO1168.out)) (Kd.R_lt HO1172.out)) (below_size HB.out))
                replace HO_1155001 := Aside0.mk (Kd.R_elder' HO_1155001.out (Kd.R_base ho0) hb)
                replace HO_1156001 := Aside0.mk (Kd.R_elder' HO_1156001.out (Kd.R_base ho0) hb)
                replace HO_1162001 := Aside0.mk (Kd.R_elder' HO_1162001.out (Kd.R_base ho0) hb)
                replace HO1168 := Aside0.mk (Kd.R_elder' HO1168.out (Kd.R_base ho0) hb)
                replace HO1172 := Aside0.mk (Kd.R_elder' HO1172.out (Kd.R_base ho0) hb)
                replace BK1141 := Aside0.mk (blk_below BK1141.out hb)
                replace BK1142 := Aside0.mk (blk_below BK1142.out hb)
                replace BK1154 := Aside0.mk (blk_below BK1154.out hb)
                replace BK1155 := Aside0.mk (blk_below BK1155.out hb)
                replace BK1161 := Aside0.mk (blk_below BK1161.out hb)
                replace BK1163 := Aside0.mk (blk_below BK1163.out hb)
                replace HB := Aside0.mk (below_step HB.out hb)
                (try clear hb)
                (try clear hb2)
                (try clear hk)
                (try clear hi)
                (try clear ho0)
                refine hK.out _ _ ⟨bc0 BK1141.out, bc1 BK1141.out, bc0 BK1161.out, bc1 BK1161.out, bc0 BK1142.out, bc1 BK1142.out⟩ (fun hHeld => ?_)
                clear hK K
                refine norm_ (a' := ?_) ?_ ?_
                rotate_left
                ·show Act.put _ (some 65) _ = _
                 simp only [Act.put, List.setIfInBounds_toArray, List.set_cons_zero, List.set_cons_succ, i64_w, i32_w]
                 rfl
                refine one_ (i := 5) (N := some 13) #[true, true, true, true, true, true, false] rfl rfl (by kernel_rfl) (by decide) (fun K hK => ?_)
                refine box_step ?hg (N := 13) ?hd (cs := #[.bool false, .slice none 0 0]) (t := 24) ?hr ?_; (case hd => rfl); (case hg => rfl); (case hr => first | (go_simp; done) | (go_simp; rfl))
                intro gb1177 hg w96 hbox hb
                replace HO_1155001 := Aside0.mk (Kd.R_below HO_1155001.out hb)
                replace HO_1156001 := Aside0.mk (Kd.R_below HO_1156001.out hb)
                replace HO_1162001 := Aside0.mk (Kd.R_below HO_1162001.out hb)
                replace HO1168 := Aside0.mk (Kd.R_below HO1168.out hb)
                replace HO1172 := Aside0.mk (Kd.R_below HO1172.out hb)
                replace HO1176 := Aside0.mk (Kd.R_below HO1176.out hb)
                have BK1177 := Aside0.mk (hbox)
                have GW1177 := Aside0.mk (bxLe HB.out hg)
                have GE1177 := GW1177
                replace HB := Aside0.mk (below_step HB.out hb)
                have NB1141_1177 := Aside0.mk (neL BK1141.out hg)
                have NB1177_1141 := Aside0.mk (neR BK1141.out hg)
                replace BK1141 := Aside0.mk (blk_below BK1141.out hb)
                have NB1142_1177 := Aside0.mk (neL BK1142.out hg)
                have NB1177_1142 := Aside0.mk (neR BK1142.out hg)
                replace BK1142 := Aside0.mk (blk_below BK1142.out hb)
                have NB1154_1177 := Aside0.mk (neL BK1154.out hg)
                have NB1177_1154 := Aside0.mk (neR BK1154.out hg)
                replace BK1154 := Aside0.mk (blk_below BK1154.out hb)
                have NB1155_1177 := Aside0.mk (neL BK1155.out hg)
                have NB1177_1155 := Aside0.mk (neR BK1155.out hg)
                replace BK1155 := Aside0.mk (blk_below BK1155.out hb)
                have NB1161_1177 := Aside0.mk (neL BK1161.out hg)
                have NB1177_1161 := Aside0.mk (neR BK1161.out hg)
                replace BK1161 := Aside0.mk (blk_below BK1161.out hb)
                have NB1163_1177 := Aside0.mk (neL BK1163.out hg)
                have NB1177_1163 := Aside0.mk (neR BK1163.out hg)
                replace BK1163 := Aside0.mk (blk_below BK1163.out hb)
                clear hb hbox hg
                refine hK.out _ _ ⟨bc0 BK1141.out, bc1 BK1141.out, bc0 BK1161.out, bc1 BK1161.out, bc0 BK1142.out, bc1 BK1142.out⟩ (fun hHeld => ?_)
                clear hK K
                refine norm_ (a' := ?_) ?_ ?_
                rotate_left
                ·show Act.put _ (some 13) _ = _
                 simp only [Act.put, List.setIfInBounds_toArray, List.set_cons_zero, List.set_cons_succ, i64_w, i32_w]
                 rfl
                exact norm_ (by simp only [putAll, Act.put, List.setIfInBounds_toArray, List.set_cons_zero, List.set_cons_succ]) (hCont (.slice Ao94 t1170.length co94, v1175, gb1177) _ ⟨hHeld, (Kd.R_mono HO1168.out (fun _ hk => ⟨hk.1.2, ⟨hk.2, ⟨hk.1.1.1, ⟨hk.1.1.2.1, hk.1.1.2.2⟩⟩⟩⟩)), (Kd.R_mono HO1172.out (fun _ hk => ⟨hk.1.2, ⟨hk.2, ⟨hk.1.1.1.1.2, ⟨hk.1.1.1.2, hk.1.1.2⟩⟩⟩⟩)), (Kd.R_mono HO1176.out (fun _ hk => ⟨hk.1.2, ⟨hk.2, ⟨hk.1.1.1.1.2, ⟨hk.1.1.1.2, hk.1.1.2⟩⟩⟩⟩)), (Kd.R_mono HO_1155001.out (fun _ hk => ⟨hk.1.1.2.2, ⟨hk.1.2, ⟨hk.2, ⟨hk.1.1.1, hk.1.1.2.1⟩⟩⟩⟩)), (Kd.R_mono HO_1156001.out (fun _ hk => ⟨hk.1.1.2.2, ⟨hk.1.2, ⟨hk.2, ⟨hk.1.1.1, hk.1.1.2.1⟩⟩⟩⟩)), (Kd.R_mono HO_1162001.out (fun _ hk => ⟨hk.1.1.2.2, ⟨hk.1.2, ⟨hk.2, ⟨hk.1.1.1, hk.1.1.2.1⟩⟩⟩⟩)), BK1141.out, BK1142.out, BK1154.out, BK1155.out, BK1161.out, BK1163.out, BK1177.out, GW1177.out, GE1177.out, NB1141_1177.out, NB1177_1141.out, NB1142_1177.out, NB1177_1142.out, NB1154_1177.out, NB1177_1154.out, NB1155_1177.out, NB1177_1155.out, NB1161_1177.out, NB1177_1161.out, NB1163_1177.out, NB1177_1163.out, HB.out⟩)
               ·skip
                refine box_step ?hg (N := 13) ?hd (cs := #[.bool false, .slice none 0 0]) (t := 24) ?hr ?_; (case hd => rfl); (case hg => rfl); (case hr => first | (go_simp; done) | (go_simp; rfl))
                intro gb1177 hg w94 hbox hb
                replace HO_1155001 := Aside0.mk (Kd.R_below HO_1155001.out hb)
                replace HO_1156001 := Aside0.mk (Kd.R_below HO_1156001.out hb)
                replace HO_1162001 := Aside0.mk (Kd.R_below HO_1162001.out hb)
                replace HO1168 := Aside0.mk (Kd.R_below HO1168.out hb)
                replace HO1172 := Aside0.mk (Kd.R_below HO1172.out hb)
                have BK1177 := Aside0.mk (hbox)
                have GW1177 := Aside0.mk (bxLe HB.out hg)
                have GE1177 := GW1177
                replace HB := Aside0.mk (below_step HB.out hb)
                have NB1141_1177 := Aside0.mk (neL BK1141.out hg)
                have NB1177_1141 := Aside0.mk (neR BK1141.out hg)
                replace BK1141 := Aside0.mk (blk_below BK1141.out hb)
                have NB1142_1177 := Aside0.mk (neL BK1142.out hg)
                have NB1177_1142 := Aside0.mk (neR BK1142.out hg)
                replace BK1142 := Aside0.mk (blk_below BK1142.out hb)
                have NB1154_1177 := Aside0.mk (neL BK1154.out hg)
                have NB1177_1154 := Aside0.mk (neR BK1154.out hg)
                replace BK1154 := Aside0.mk (blk_below BK1154.out hb)
                have NB1155_1177 := Aside0.mk (neL BK1155.out hg)
                have NB1177_1155 := Aside0.mk (neR BK1155.out hg)
                replace BK1155 := Aside0.mk (blk_below BK1155.out hb)
                have NB1161_1177 := Aside0.mk (neL BK1161.out hg)
                have NB1177_1161 := Aside0.mk (neR BK1161.out hg)
                replace BK1161 := Aside0.mk (blk_below BK1161.out hb)
                have NB1163_1177 := Aside0.mk (neL BK1163.out hg)
                have NB1177_1163 := Aside0.mk (neR BK1163.out hg)
                replace BK1163 := Aside0.mk (blk_below BK1163.out hb)
                clear hb hbox hg
                obtain ⟨Ao95, co95, eo95⟩ := Kd.R_slice HO1172.out
                (first | subst eo95 | (injection eo95 with f1_ f2_ f3_; have f4_ := f1_.symm; have f5_ := f3_.symm; clear f1_ f2_ f3_; subst f4_; subst f5_))
                refine hK.out _ _ ⟨bc0 BK1141.out, bc1 BK1141.out, bc0 BK1161.out, bc1 BK1161.out, bc0 BK1142.out, bc1 BK1142.out⟩ (fun hHeld => ?_)
                clear hK K
                refine norm_ (a' := ?_) ?_ ?_
                rotate_left
                ·show Act.put _ (some 13) _ = _
                 simp only [Act.put, List.setIfInBounds_toArray, List.set_cons_zero, List.set_cons_succ, i64_w, i32_w]
                 rfl
                refine one_ (i := 4) (N := some 65) #[true, true, true, true, true, true, false] rfl rfl (by kernel_rfl) (by decide) (fun K hK => ?_)
                refine goR Tryd.func22 [.agg #[.bool a0_0, .slice A0_1 l0_1.length c0_1], .agg #[.bool t1169, .slice Ao95 t1170.length co95]] ?_
                with_reducible refine (whole_Sub.calls kj16 a0_0 _ _ l0_1 t1169 _ _ t1170 t1173 t1174 _ ?side1 ?side2 ?side3 ?side4 A58.out).mono ?_
                (case side1 => exact (Kd.C_below HR0_1.out HB.out))
                (case side2 => exact HC0_1.out)
                (case side3 => exact (Kd.R_reads' HO1172.out).2.2)
                (case side4 => exact (Kd.R_reads' HO1172.out).2.1)
                rintro e w96 ⟨v1175, rfl, ho0, hb⟩
                refine ⟨_, rfl, ?_⟩
                have HO1176 := Aside0.mk (Kd.R_lower (Kd.R_new' (Kd.R_new' (Kd.R_new' (Kd.R_new' (Kd.R_new' ho0 (Kd.R_lt HO_1155001.out)) (Kd.R_lt HO_1156001.out)) (Kd.R_lt HO_1162001.out)) (Kd.R_lt HO1168.out)) (Kd.R_lt HO1172.out)) (below_size HB.out))
                replace HO_1155001 := Aside0.mk (Kd.R_elder' HO_1155001.out (Kd.R_base ho0) hb)
                replace HO_1156001 := Aside0.mk (Kd.R_elder' HO_1156001.out (Kd.R_base ho0) hb)
                replace HO_1162001 := Aside0.mk (Kd.R_elder' HO_1162001.out (Kd.R_base ho0) hb)
                replace HO1168 := Aside0.mk (Kd.R_elder' HO1168.out (Kd.R_base ho0) hb)
                replace HO1172 := Aside0.mk (Kd.R_elder' HO1172.out (Kd.R_base ho0) hb)
                replace BK1141 := Aside0.mk (blk_below BK1141.out hb)
                replace BK1142 := Aside0.mk (blk_below BK1142.out hb)
                replace BK1154 := Aside0.mk (blk_below BK1154.out hb)
                replace BK1155 := Aside0.mk (blk_below BK1155.out hb)
                replace BK1161 := Aside0.mk (blk_below BK1161.out hb)
                replace BK1163 := Aside0.mk (blk_below BK1163.out hb)
                replace BK1177 := Aside0.mk (blk_below BK1177.out hb)
                replace HB := Aside0.mk (below_step HB.out hb)
                (try clear hb)
                (try clear hb2)
                (try clear hk)
                (try clear hi)
                (try clear ho0)
                refine hK.out _ _ ⟨bc0 BK1141.out, bc1 BK1141.out, bc0 BK1161.out, bc1 BK1161.out, bc0 BK1142.out, bc1 BK1142.out⟩ (fun hHeld => ?_)
                clear hK K
                refine norm_ (a' := ?_) ?_ ?_
                rotate_left
                ·show Act.put _ (some 65) _ = _
                 simp only [Act.put, List.setIfInBounds_toArray, List.set_cons_zero, List.set_cons_succ, i64_w, i32_w]
                 rfl
                exact norm_ (by simp only [putAll, Act.put, List.setIfInBounds_toArray, List.set_cons_zero, List.set_cons_succ]) (hCont (.slice Ao95 t1170.length co95, v1175, gb1177) _ ⟨hHeld, (Kd.R_mono HO1168.out (fun _ hk => ⟨hk.1.2, ⟨hk.2, ⟨hk.1.1.1, ⟨hk.1.1.2.1, hk.1.1.2.2⟩⟩⟩⟩)), (Kd.R_mono HO1172.out (fun _ hk => ⟨hk.1.2, ⟨hk.2, ⟨hk.1.1.1.1.2, ⟨hk.1.1.1.2, hk.1.1.2⟩⟩⟩⟩)), (Kd.R_mono HO1176.out (fun _ hk => ⟨hk.1.2, ⟨hk.2, ⟨hk.1.1.1.1.2, ⟨hk.1.1.1.2, hk.1.1.2⟩⟩⟩⟩)), (Kd.R_mono HO_1155001.out (fun _ hk => ⟨hk.1.1.2.2, ⟨hk.1.2, ⟨hk.2, ⟨hk.1.1.1, hk.1.1.2.1⟩⟩⟩⟩)), (Kd.R_mono HO_1156001.out (fun _ hk => ⟨hk.1.1.2.2, ⟨hk.1.2, ⟨hk.2, ⟨hk.1.1.1, hk.1.1.2.1⟩⟩⟩⟩)), (Kd.R_mono HO_1162001.out (fun _ hk => ⟨hk.1.1.2.2, ⟨hk.1.2, ⟨hk.2, ⟨hk.1.1.1, hk.1.1.2.1⟩⟩⟩⟩)), BK1141.out, BK1142.out, BK1154.out, BK1155.out, BK1161.out, BK1163.out, BK1177.out, GW1177.out, GE1177.out, NB1141_1177.out, NB1177_1141.out, NB1142_1177.out, NB1177_1142.out, NB1154_1177.out, NB1177_1154.out, NB1155_1177.out, NB1177_1155.out, NB1161_1177.out, NB1177_1161.out, NB1163_1177.out, NB1177_1163.out, HB.out⟩)
              ·skip
               refine box_step ?hg (N := 13) ?hd (cs := #[.bool false, .slice none 0 0]) (t := 24) ?hr ?_; (case hd => rfl); (case hg => rfl); (case hr => first | (go_simp; done) | (go_simp; rfl))
               intro gb1177 hg w93 hbox hb
               replace HO_1155001 := Aside0.mk (Kd.R_below HO_1155001.out hb)
               replace HO_1156001 := Aside0.mk (Kd.R_below HO_1156001.out hb)
               replace HO_1162001 := Aside0.mk (Kd.R_below HO_1162001.out hb)
               replace HO1168 := Aside0.mk (Kd.R_below HO1168.out hb)
               have BK1177 := Aside0.mk (hbox)
               have GW1177 := Aside0.mk (bxLe HB.out hg)
               have GE1177 := GW1177
               replace HB := Aside0.mk (below_step HB.out hb)
               have NB1141_1177 := Aside0.mk (neL BK1141.out hg)
               have NB1177_1141 := Aside0.mk (neR BK1141.out hg)
               replace BK1141 := Aside0.mk (blk_below BK1141.out hb)
               have NB1142_1177 := Aside0.mk (neL BK1142.out hg)
               have NB1177_1142 := Aside0.mk (neR BK1142.out hg)
               replace BK1142 := Aside0.mk (blk_below BK1142.out hb)
               have NB1154_1177 := Aside0.mk (neL BK1154.out hg)
               have NB1177_1154 := Aside0.mk (neR BK1154.out hg)
               replace BK1154 := Aside0.mk (blk_below BK1154.out hb)
               have NB1155_1177 := Aside0.mk (neL BK1155.out hg)
               have NB1177_1155 := Aside0.mk (neR BK1155.out hg)
               replace BK1155 := Aside0.mk (blk_below BK1155.out hb)
               have NB1161_1177 := Aside0.mk (neL BK1161.out hg)
               have NB1177_1161 := Aside0.mk (neR BK1161.out hg)
               replace BK1161 := Aside0.mk (blk_below BK1161.out hb)
               have NB1163_1177 := Aside0.mk (neL BK1163.out hg)
               have NB1177_1163 := Aside0.mk (neR BK1163.out hg)
               replace BK1163 := Aside0.mk (blk_below BK1163.out hb)
               clear hb hbox hg
               refine hK.out _ _ ⟨bc0 BK1141.out, bc1 BK1141.out, bc0 BK1161.out, bc1 BK1161.out, bc0 BK1142.out, bc1 BK1142.out⟩ (fun hHeld => ?_)
               clear hK K
               refine norm_ (a' := ?_) ?_ ?_
               rotate_left
               ·show Act.put _ (some 13) _ = _
                simp only [Act.put, List.setIfInBounds_toArray, List.set_cons_zero, List.set_cons_succ, i64_w, i32_w]
                rfl
               refine one_ (i := 3) (N := some 64) #[true, true, true, true, false, true, false] rfl rfl (by kernel_rfl) (by decide) (fun K hK => ?_)
               refine goR Tryd.func24 [.agg #[.bool t1156, .slice Ao42 t1157.length co42], .agg #[.bool a1_0, .slice A1_1 l1_1.length c1_1]] ?_
               with_reducible refine (whole_Mul.calls kj16 t1156 _ _ t1157 a1_0 _ _ l1_1 t1169 t1170 _ ?side1 ?side2 ?side3 ?side4 A57.out).mono ?_
               (case side1 => exact (Kd.R_reads' HO_1162001.out).2.2)
               (case side2 => exact (Kd.R_reads' HO_1162001.out).2.1)
               (case side3 => exact (Kd.C_below HR1_1.out HB.out))
               (case side4 => exact HC1_1.out)
               rintro e w94 ⟨v1171, rfl, ho0, hb⟩
               refine ⟨_, rfl, ?_⟩
               have HO1172 := Aside0.mk (Kd.R_lower (Kd.R_new' (Kd.R_new' (Kd.R_new' (Kd.R_new' ho0 (Kd.R_lt HO_1155001.out)) (Kd.R_lt HO_1156001.out)) (Kd.R_lt HO_1162001.out)) (Kd.R_lt HO1168.out)) (below_size HB.out))
               replace HO_1155001 := Aside0.mk (Kd.R_elder' HO_1155001.out (Kd.R_base ho0) hb)
               replace HO_1156001 := Aside0.mk (Kd.R_elder' HO_1156001.out (Kd.R_base ho0) hb)
               replace HO_1162001 := Aside0.mk (Kd.R_elder' HO_1162001.out (Kd.R_base ho0) hb)
               replace HO1168 := Aside0.mk (Kd.R_elder' HO1168.out (Kd.R_base ho0) hb)
               replace BK1141 := Aside0.mk (blk_below BK1141.out hb)
               replace BK1142 := Aside0.mk (blk_below BK1142.out hb)
               replace BK1154 := Aside0.mk (blk_below BK1154.out hb)
               replace BK1155 := Aside0.mk (blk_below BK1155.out hb)
               replace BK1161 := Aside0.mk (blk_below BK1161.out hb)
               replace BK1163 := Aside0.mk (blk_below BK1163.out hb)
               replace BK1177 := Aside0.mk (blk_below BK1177.out hb)
               replace HB := Aside0.mk (below_step HB.out hb)
               (try clear hb)
               (try clear hb2)
               (try clear hk)
               (try clear hi)
               (try clear ho0)
               obtain ⟨Ao95, co95, eo95⟩ := Kd.R_slice HO1172.out
               subst eo95
               refine hK.out _ _ ⟨bc0 BK1141.out, bc1 BK1141.out, bc0 BK1161.out, bc1 BK1161.out, bc0 BK1142.out, bc1 BK1142.out⟩ (fun hHeld => ?_)
               clear hK K
               refine norm_ (a' := ?_) ?_ ?_
               rotate_left
               ·show Act.put _ (some 64) _ = _
                simp only [Act.put, List.setIfInBounds_toArray, List.set_cons_zero, List.set_cons_succ, i64_w, i32_w]
                rfl
               refine one_ (i := 4) (N := some 65) #[true, true, true, true, true, true, false] rfl rfl (by kernel_rfl) (by decide) (fun K hK => ?_)
               refine goR Tryd.func22 [.agg #[.bool a0_0, .slice A0_1 l0_1.length c0_1], .agg #[.bool t1169, .slice Ao95 t1170.length co95]] ?_
               with_reducible refine (whole_Sub.calls kj16 a0_0 _ _ l0_1 t1169 _ _ t1170 t1173 t1174 _ ?side1 ?side2 ?side3 ?side4 A58.out).mono ?_
               (case side1 => exact (Kd.C_below HR0_1.out HB.out))
               (case side2 => exact HC0_1.out)
               (case side3 => exact (Kd.R_reads' HO1172.out).2.2)
               (case side4 => exact (Kd.R_reads' HO1172.out).2.1)
               rintro e w96 ⟨v1175, rfl, ho0, hb⟩
               refine ⟨_, rfl, ?_⟩
               have HO1176 := Aside0.mk (Kd.R_lower (Kd.R_new' (Kd.R_new' (Kd.R_new' (Kd.R_new' (Kd.R_new' ho0 (Kd.R_lt HO_1155001.out)) (Kd.R_lt HO_1156001.out)) (Kd.R_lt HO_1162001.out)) (Kd.R_lt HO1168.out)) (Kd.R_lt HO1172.out)) (below_size HB.out))
               replace HO_1155001 := Aside0.mk (Kd.R_elder' HO_1155001.out (Kd.R_base ho0) hb)
               replace HO_1156001 := Aside0.mk (Kd.R_elder' HO_1156001.out (Kd.R_base ho0) hb)
               replace HO_1162001 := Aside0.mk (Kd.R_elder' HO_1162001.out (Kd.R_base ho0) hb)
               replace HO1168 := Aside0.mk (Kd.R_elder' HO1168.out (Kd.R_base ho0) hb)
               replace HO1172 := Aside0.mk (Kd.R_elder' HO1172.out (Kd.R_base ho0) hb)
               replace BK1141 := Aside0.mk (blk_below BK1141.out hb)
               replace BK1142 := Aside0.mk (blk_below BK1142.out hb)
               replace BK1154 := Aside0.mk (blk_below BK1154.out hb)
               replace BK1155 := Aside0.mk (blk_below BK1155.out hb)
               replace BK1161 := Aside0.mk (blk_below BK1161.out hb)
               replace BK1163 := Aside0.mk (blk_below BK1163.out hb)
               replace BK1177 := Aside0.mk (blk_below BK1177.out hb)
               replace HB := Aside0.mk (below_step HB.out hb)
               (try clear hb)
               (try clear hb2)
               (try clear hk)
               (try clear hi)
               (try clear ho0)
               refine hK.out _ _ ⟨bc0 BK1141.out, bc1 BK1141.out, bc0 BK1161.out, bc1 BK1161.out, bc0 BK1142.out, bc1 BK1142.out⟩ (fun hHeld => ?_)
               clear hK K
               refine norm_ (a' := ?_) ?_ ?_
               rotate_left
               ·show Act.put _ (some 65) _ = _
                simp only [Act.put, List.setIfInBounds_toArray, List.set_cons_zero, List.set_cons_succ, i64_w, i32_w]
                rfl
               exact norm_ (by simp only [putAll, Act.put, List.setIfInBounds_toArray, List.set_cons_zero, List.set_cons_succ]) (hCont (.slice Ao95 t1170.length co95, v1175, gb1177) _ ⟨hHeld, (Kd.R_mono HO1168.out (fun _ hk => ⟨hk.1.2, ⟨hk.2, ⟨hk.1.1.1, ⟨hk.1.1.2.1, hk.1.1.2.2⟩⟩⟩⟩)), (Kd.R_mono HO1172.out (fun _ hk => ⟨hk.1.2, ⟨hk.2, ⟨hk.1.1.1.1.2, ⟨hk.1.1.1.2, hk.1.1.2⟩⟩⟩⟩)), (Kd.R_mono HO1176.out (fun _ hk => ⟨hk.1.2, ⟨hk.2, ⟨hk.1.1.1.1.2, ⟨hk.1.1.1.2, hk.1.1.2⟩⟩⟩⟩)), (Kd.R_mono HO_1155001.out (fun _ hk => ⟨hk.1.1.2.2, ⟨hk.1.2, ⟨hk.2, ⟨hk.1.1.1, hk.1.1.2.1⟩⟩⟩⟩)), (Kd.R_mono HO_1156001.out (fun _ hk => ⟨hk.1.1.2.2, ⟨hk.1.2, ⟨hk.2, ⟨hk.1.1.1, hk.1.1.2.1⟩⟩⟩⟩)), (Kd.R_mono HO_1162001.out (fun _ hk => ⟨hk.1.1.2.2, ⟨hk.1.2, ⟨hk.2, ⟨hk.1.1.1, hk.1.1.2.1⟩⟩⟩⟩)), BK1141.out, BK1142.out, BK1154.out, BK1155.out, BK1161.out, BK1163.out, BK1177.out, GW1177.out, GE1177.out, NB1141_1177.out, NB1177_1141.out, NB1142_1177.out, NB1177_1142.out, NB1154_1177.out, NB1177_1154.out, NB1155_1177.out, NB1177_1155.out, NB1161_1177.out, NB1177_1161.out, NB1163_1177.out, NB1177_1163.out, HB.out⟩)
             rintro ⟨v1171, v1175, gb1177⟩ w97 ⟨hS_, h0_, h1_, h2_, h3_, h4_, h5_, h6_, h7_, h8_, h9_, h10_, h11_, h12_, h13_, h14_, h15_, h16_, h17_, h18_, h19_, h20_, h21_, h22_, h23_, h24_, h25_, h26_, h27_⟩
             have n0_ : Aside0 (Kd.R (Kd.int .u32) 51 w97 w.heap.size (fun k_ => some k_ ≠ (v1171 : Value).ownBlock ∧ some k_ ≠ (v1175 : Value).ownBlock ∧ some k_ ≠ (.slice Ao28 t1146.length co28 : Value).ownBlock ∧ some k_ ≠ (.slice Ao32 t1150.length co32 : Value).ownBlock ∧ some k_ ≠ (.slice Ao42 t1157.length co42 : Value).ownBlock) (.slice Ao90 t1166.length co90) t1166) := ⟨h0_⟩
             have n1_ : Aside0 (Kd.R (Kd.int .u32) 51 w97 w.heap.size (fun k_ => some k_ ≠ (.slice Ao90 t1166.length co90 : Value).ownBlock ∧ some k_ ≠ (v1175 : Value).ownBlock ∧ some k_ ≠ (.slice Ao28 t1146.length co28 : Value).ownBlock ∧ some k_ ≠ (.slice Ao32 t1150.length co32 : Value).ownBlock ∧ some k_ ≠ (.slice Ao42 t1157.length co42 : Value).ownBlock) v1171 t1170) := ⟨h1_⟩
             have n2_ : Aside0 (Kd.R (Kd.int .u32) 51 w97 w.heap.size (fun k_ => some k_ ≠ (.slice Ao90 t1166.length co90 : Value).ownBlock ∧ some k_ ≠ (v1171 : Value).ownBlock ∧ some k_ ≠ (.slice Ao28 t1146.length co28 : Value).ownBlock ∧ some k_ ≠ (.slice Ao32 t1150.length co32 : Value).ownBlock ∧ some k_ ≠ (.slice Ao42 t1157.length co42 : Value).ownBlock) v1175 t1174) := ⟨h2_⟩
             have n3_ : Aside0 (Kd.R (Kd.int .u32) 51 w97 w.heap.size (fun k_ => some k_ ≠ (.slice Ao90 t1166.length co90 : Value).ownBlock ∧ some k_ ≠ (v1171 : Value).ownBlock ∧ some k_ ≠ (v1175 : Value).ownBlock ∧ some k_ ≠ (.slice Ao32 t1150.length co32 : Value).ownBlock ∧ some k_ ≠ (.slice Ao42 t1157.length co42 : Value).ownBlock) (.slice Ao28 t1146.length co28) t1146) := ⟨h3_⟩
             have n4_ : Aside0 (Kd.R (Kd.int .u32) 51 w97 w.heap.size (fun k_ => some k_ ≠ (.slice Ao90 t1166.length co90 : Value).ownBlock ∧ some k_ ≠ (v1171 : Value).ownBlock ∧ some k_ ≠ (v1175 : Value).ownBlock ∧ some k_ ≠ (.slice Ao28 t1146.length co28 : Value).ownBlock ∧ some k_ ≠ (.slice Ao42 t1157.length co42 : Value).ownBlock) (.slice Ao32 t1150.length co32) t1150) := ⟨h4_⟩
             have n5_ : Aside0 (Kd.R (Kd.int .u32) 51 w97 w.heap.size (fun k_ => some k_ ≠ (.slice Ao90 t1166.length co90 : Value).ownBlock ∧ some k_ ≠ (v1171 : Value).ownBlock ∧ some k_ ≠ (v1175 : Value).ownBlock ∧ some k_ ≠ (.slice Ao28 t1146.length co28 : Value).ownBlock ∧ some k_ ≠ (.slice Ao32 t1150.length co32 : Value).ownBlock) (.slice Ao42 t1157.length co42) t1157) := ⟨h5_⟩
             have n6_ : Aside0 (w97.heap[gb1141]? = some (.cells #[.bool a0_0, .slice A0_1 l0_1.length c0_1] 24 (0, 0))) := ⟨h6_⟩
             have n7_ : Aside0 (w97.heap[gb1142]? = some (.cells #[.bool a1_0, .slice A1_1 l1_1.length c1_1] 24 (0, 0))) := ⟨h7_⟩
             have n8_ : Aside0 (w97.heap[gb1154]? = some (.cells #[.bool t1145, .slice Ao28 t1146.length co28] 24 (0, 0))) := ⟨h8_⟩
             have n9_ : Aside0 (w97.heap[gb1155]? = some (.cells #[.bool t1149, .slice Ao32 t1150.length co32] 24 (0, 0))) := ⟨h9_⟩
             have n10_ : Aside0 (w97.heap[gb1161]? = some (.cells #[.bool t1156, .slice Ao42 t1157.length co42] 24 (0, 0))) := ⟨h10_⟩
             have n11_ : Aside0 (w97.heap[gb1163]? = some (.cells #[.bool t1165, .slice Ao90 t1166.length co90] 24 (0, 0))) := ⟨h11_⟩
             have n12_ : Aside0 (w97.heap[gb1177]? = some (.cells #[.bool false, .slice none 0 0] 24 (0, 0))) := ⟨h12_⟩
             have n13_ : Aside0 (w.heap.size ≤ gb1177) := ⟨h13_⟩
             have n14_ : Aside0 (w.heap.size ≤ gb1177) := ⟨h14_⟩
             have n15_ : Aside0 (gb1141 ≠ gb1177) := ⟨h15_⟩
             have n16_ : Aside0 (gb1177 ≠ gb1141) := ⟨h16_⟩
             have n17_ : Aside0 (gb1142 ≠ gb1177) := ⟨h17_⟩
             have n18_ : Aside0 (gb1177 ≠ gb1142) := ⟨h18_⟩
             have n19_ : Aside0 (gb1154 ≠ gb1177) := ⟨h19_⟩
             have n20_ : Aside0 (gb1177 ≠ gb1154) := ⟨h20_⟩
             have n21_ : Aside0 (gb1155 ≠ gb1177) := ⟨h21_⟩
             have n22_ : Aside0 (gb1177 ≠ gb1155) := ⟨h22_⟩
             have n23_ : Aside0 (gb1161 ≠ gb1177) := ⟨h23_⟩
             have n24_ : Aside0 (gb1177 ≠ gb1161) := ⟨h24_⟩
             have n25_ : Aside0 (gb1163 ≠ gb1177) := ⟨h25_⟩
             have n26_ : Aside0 (gb1177 ≠ gb1163) := ⟨h26_⟩
             have n27_ : Aside0 (Below w.heap.size w w97) := ⟨h27_⟩
             clear HO_1155001
             clear HO_1156001
             clear HO_1162001
             clear HO1168
             clear BK1141
             clear BK1142
             clear BK1154
             clear BK1155
             clear BK1161
             clear BK1163
             clear HB
             clear h0_ h1_ h2_ h3_ h4_ h5_ h6_ h7_ h8_ h9_ h10_ h11_ h12_ h13_ h14_ h15_ h16_ h17_ h18_ h19_ h20_ h21_ h22_ h23_ h24_ h25_ h26_ h27_
             have HO1168 := n0_
             have HO1172 := n1_
             have HO1176 := n2_
             have HO_1155001 := n3_
             have HO_1156001 := n4_
             have HO_1162001 := n5_
             have BK1141 := n6_
             have BK1142 := n7_
             have BK1154 := n8_
             have BK1155 := n9_
             have BK1161 := n10_
             have BK1163 := n11_
             have BK1177 := n12_
             have GW1177 := n13_
             have GE1177 := n14_
             have NB1141_1177 := n15_
             have NB1177_1141 := n16_
             have NB1142_1177 := n17_
             have NB1177_1142 := n18_
             have NB1154_1177 := n19_
             have NB1177_1154 := n20_
             have NB1155_1177 := n21_
             have NB1177_1155 := n22_
             have NB1161_1177 := n23_
             have NB1177_1161 := n24_
             have NB1163_1177 := n25_
             have NB1177_1163 := n26_
             have HB := n27_
             clear n0_ n1_ n2_ n3_ n4_ n5_ n6_ n7_ n8_ n9_ n10_ n11_ n12_ n13_ n14_ n15_ n16_ n17_ n18_ n19_ n20_ n21_ n22_ n23_ n24_ n25_ n26_ n27_
             have hHeld : w97.cell? ⟨gb1141, 0, none⟩ = some (.bool a0_0) ∧ w97.cell? ⟨gb1141, 1, none⟩ = some (.slice A0_1 l0_1.length c0_1) ∧ w97.cell? ⟨gb1161, 0, none⟩ = some (.bool t1156) ∧ w97.cell? ⟨gb1161, 1, none⟩ = some (.slice Ao42 t1157.length co42) ∧ w97.cell? ⟨gb1142, 0, none⟩ = some (.bool a1_0) ∧ w97.cell? ⟨gb1142, 1, none⟩ = some (.slice A1_1 l1_1.length c1_1) := hS_
             obtain ⟨Ao99, co99, eo99⟩ := Kd.R_slice HO1176.out
             subst eo99
             refine norm_ (a' := ?_) ?_ ?_
             rotate_left
             ·simp only [putAll, Act.put, List.setIfInBounds_toArray, List.set_cons_zero, List.set_cons_succ]
              rfl
             refine one_ (i := 6) (N := none) #[true, true, true, true, true, true, true] rfl rfl (by kernel_rfl) (by decide) (fun K hK => ?_)
             have hs98 : w97.cell? ⟨gb1177, 0, none⟩ = some (.bool false) := bc0 BK1177.out
             have hfs98 := blk_frozen BK1177.out 0
             have hns98_0 := NB1141_1177.out
             have hns98_1 := NB1142_1177.out
             have hns98_2 := NB1154_1177.out
             have hns98_3 := NB1155_1177.out
             have hns98_4 := NB1161_1177.out
             have hns98_5 := NB1163_1177.out
             have hms98_0 := NB1177_1141.out
             have hms98_1 := NB1177_1142.out
             have hms98_2 := NB1177_1154.out
             have hms98_3 := NB1177_1155.out
             have hms98_4 := NB1177_1161.out
             have hms98_5 := NB1177_1163.out
             have hs100 : w97.cell? ⟨gb1177, 1, none⟩ = some (.slice none 0 0) := bc1 BK1177.out
             have hfs100 := blk_frozen BK1177.out 1
             have hns100_0 := NB1141_1177.out
             have hns100_1 := NB1142_1177.out
             have hns100_2 := NB1154_1177.out
             have hns100_3 := NB1155_1177.out
             have hns100_4 := NB1161_1177.out
             have hns100_5 := NB1163_1177.out
             have hms100_0 := NB1177_1141.out
             have hms100_1 := NB1177_1142.out
             have hms100_2 := NB1177_1154.out
             have hms100_3 := NB1177_1155.out
             have hms100_4 := NB1177_1161.out
             have hms100_5 := NB1177_1163.out
             refine skip_ (w1 := ?_) (by rfl) rfl ?_ ?_
             rotate_left
             ·go_simp
              rfl
             refine hK.out _ _ ⟨((cell_far (p := ⟨gb1177, _, none⟩) NB1141_1177.out _).trans (((cell_far (p := ⟨gb1177, _, none⟩) NB1141_1177.out _).trans (hHeld.1)))), ((cell_far (p := ⟨gb1177, _, none⟩) NB1141_1177.out _).trans (((cell_far (p := ⟨gb1177, _, none⟩) NB1141_1177.out _).trans (hHeld.2.1)))), ((cell_far (p := ⟨gb1177, _, none⟩) NB1161_1177.out _).trans (((cell_far (p := ⟨gb1177, _, none⟩) NB1161_1177.out _).trans (hHeld.2.2.1)))), ((cell_far (p := ⟨gb1177, _, none⟩) NB1161_1177.out _).trans (((cell_far (p := ⟨gb1177, _, none⟩) NB1161_1177.out _).trans (hHeld.2.2.2.1)))), ((cell_far (p := ⟨gb1177, _, none⟩) NB1142_1177.out _).trans (((cell_far (p := ⟨gb1177, _, none⟩) NB1142_1177.out _).trans (hHeld.2.2.2.2.1)))), ((cell_far (p := ⟨gb1177, _, none⟩) NB1142_1177.out _).trans (((cell_far (p := ⟨gb1177, _, none⟩) NB1142_1177.out _).trans (hHeld.2.2.2.2.2))))⟩ (fun hHeld => ?_)
             clear hK K
             refine done_ (by kernel_rfl) ?_
             have hnb101 := NB1142_1177.out
             have hnc101 := NB1177_1142.out
             have hcz102_0 : w97.cell? ⟨gb1142, 0, none⟩ = some (.bool a1_0) := bc0 BK1142.out
             have hcz102_1 : w97.cell? ⟨gb1142, 1, none⟩ = some (.slice A1_1 l1_1.length c1_1) := bc1 BK1142.out
             have hfz102_0 := blk_frozen BK1142.out 0
             have hfz102_1 := blk_frozen BK1142.out 1
             try go_wp2_with (first | ((with_reducible refine gate_callee (f := 28) rfl ?_); refine goL (some 67) Tryd.func28 [.agg #[.bool a1_0, .slice A1_1 l1_1.length c1_1]] ?_; (with_reducible refine (whole_Sign.calls a1_0 _ _ l1_1 t1178 _ ?side1 ?side2 A59.out).mono ?_); (case side1 => exact Kd.C_below HR1_1.out (by repeat first | exact HB.out | refine bxSet ?_ (by assumption) | apply below_alloc | apply pw_below_drewN)); (case side2 => exact HC1_1.out); rintro e w103 ⟨rfl, hb⟩; refine ⟨_, rfl, ?_⟩; replace HO_1155001 := Aside0.mk (Kd.R_below (Kd.R_mono (Kd.R_far (p := ⟨gb1177, 1, none⟩) (Kd.R_far (p := ⟨gb1177, 0, none⟩) (Kd.R_types HO_1155001.out BK1177.out (by decide)) (fun _ hk => hk.2) (.bool t1173)) (fun _ hk => hk.2) (.slice Ao99 t1174.length co99)) (fun _ h_ => h_.1)) hb); replace HO_1156001 := Aside0.mk (Kd.R_below (Kd.R_mono (Kd.R_far (p := ⟨gb1177, 1, none⟩) (Kd.R_far (p := ⟨gb1177, 0, none⟩) (Kd.R_types HO_1156001.out BK1177.out (by decide)) (fun _ hk => hk.2) (.bool t1173)) (fun _ hk => hk.2) (.slice Ao99 t1174.length co99)) (fun _ h_ => h_.1)) hb); replace HO_1162001 := Aside0.mk (Kd.R_below (Kd.R_mono (Kd.R_far (p := ⟨gb1177, 1, none⟩) (Kd.R_far (p := ⟨gb1177, 0, none⟩) (Kd.R_types HO_1162001.out BK1177.out (by decide)) (fun _ hk => hk.2) (.bool t1173)) (fun _ hk => hk.2) (.slice Ao99 t1174.length co99)) (fun _ h_ => h_.1)) hb); replace HO1168 := Aside0.mk (Kd.R_below (Kd.R_mono (Kd.R_far (p := ⟨gb1177, 1, none⟩) (Kd.R_far (p := ⟨gb1177, 0, none⟩) (Kd.R_types HO1168.out BK1177.out (by decide)) (fun _ hk => hk.2) (.bool t1173)) (fun _ hk => hk.2) (.slice Ao99 t1174.length co99)) (fun _ h_ => h_.1)) hb); replace HO1172 := Aside0.mk (Kd.R_below (Kd.R_mono (Kd.R_far (p := ⟨gb1177, 1, none⟩) (Kd.R_far (p := ⟨gb1177, 0, none⟩) (Kd.R_types HO1172.out BK1177.out (by decide)) (fun _ hk => hk.2) (.bool t1173)) (fun _ hk => hk.2) (.slice Ao99 t1174.length co99)) (fun _ h_ => h_.1)) hb); replace HO1176 := Aside0.mk (Kd.R_below (Kd.R_mono (Kd.R_far (p := ⟨gb1177, 1, none⟩) (Kd.R_far (p := ⟨gb1177, 0, none⟩) (Kd.R_types HO1176.out BK1177.out (by decide)) (fun _ hk => hk.2) (.bool t1173)) (fun _ hk => hk.2) (.slice Ao99 t1174.length co99)) (fun _ h_ => h_.1)) hb); replace BK1141 := Aside0.mk (blk_below (g := gb1141) (o := .cells #[.bool a0_0, .slice A0_1 l0_1.length c0_1] 24 (0, 0)) (by refine blk_far ?_ NB1141_1177.out _; refine blk_far ?_ NB1141_1177.out _; exact BK1141.out) hb); replace BK1142 := Aside0.mk (blk_below (g := gb1142) (o := .cells #[.bool a1_0, .slice A1_1 l1_1.length c1_1] 24 (0, 0)) (by refine blk_far ?_ NB1142_1177.out _; refine blk_far ?_ NB1142_1177.out _; exact BK1142.out) hb); replace BK1154 := Aside0.mk (blk_below (g := gb1154) (o := .cells #[.bool t1145, .slice Ao28 t1146.length co28] 24 (0, 0)) (by refine blk_far ?_ NB1154_1177.out _; refine blk_far ?_ NB1154_1177.out _; exact BK1154.out) hb); replace BK1155 := Aside0.mk (blk_below (g := gb1155) (o := .cells #[.bool t1149, .slice Ao32 t1150.length co32] 24 (0, 0)) (by refine blk_far ?_ NB1155_1177.out _; refine blk_far ?_ NB1155_1177.out _; exact BK1155.out) hb); replace BK1163 := Aside0.mk (blk_below (g := gb1163) (o := .cells #[.bool t1165, .slice Ao90 t1166.length co90] 24 (0, 0)) (by refine blk_far ?_ NB1163_1177.out _; refine blk_far ?_ NB1163_1177.out _; exact BK1163.out) hb); replace BK1177 := Aside0.mk (blk_below (g := gb1177) (o := .cells #[.bool t1173, .slice Ao99 t1174.length co99] 24 (0, 0)) (by refine blk_put (cs := #[.bool t1173, .slice none 0 0]) ?_ 1 _ rfl; refine blk_put (cs := #[.bool false, .slice none 0 0]) ?_ 0 _ rfl; exact BK1177.out) hb); replace HB := Aside0.mk (below_step (by repeat first | exact HB.out | refine bxSet ?_ (by assumption) | apply below_alloc | apply pw_below_drewN) hb); (try clear hb); (try clear hb2); (try clear hk); (try clear hi); have hnb104 := NB1177_1141.out; have hnc104 := NB1141_1177.out; have hnb105 := NB1177_1154.out; have hnc105 := NB1154_1177.out; have hnb106 := NB1177_1155.out; have hnc106 := NB1155_1177.out; have hnb107 := NB1177_1161.out; have hnc107 := NB1161_1177.out; have hnb108 := NB1177_1163.out; have hnc108 := NB1163_1177.out; have hcz109_0 : w103.cell? ⟨gb1177, 0, none⟩ = some (.bool t1173) := bc0 BK1177.out; have hcz109_1 : w103.cell? ⟨gb1177, 1, none⟩ = some (.slice Ao99 t1174.length co99) := bc1 BK1177.out; have hfz109_0 := blk_frozen BK1177.out 0; have hfz109_1 := blk_frozen BK1177.out 1) | ((with_reducible refine gate_callee (f := 18) rfl ?_); refine goL (some 70) Tryd.func18 [.agg #[.bool t1173, .slice Ao99 t1174.length co99]] ?_; (with_reducible refine (whole_Neg.calls t1173 _ _ t1174 t1179 t1180 _ ?side1 ?side2 A61.out).mono ?_); (case side1 => exact (Kd.R_reads' HO1176.out).2.2); (case side2 => exact (Kd.R_reads' HO1176.out).2.1); rintro e w110 ⟨v1181, rfl, ho0, hb⟩; refine ⟨_, rfl, ?_⟩; have HO1182 := Aside0.mk (Kd.R_lower (Kd.R_new' (Kd.R_new' (Kd.R_new' (Kd.R_new' (Kd.R_new' (Kd.R_new' ho0 (Kd.R_lt HO_1155001.out)) (Kd.R_lt HO_1156001.out)) (Kd.R_lt HO_1162001.out)) (Kd.R_lt HO1168.out)) (Kd.R_lt HO1172.out)) (Kd.R_lt HO1176.out)) (below_size HB.out)); replace HO_1155001 := Aside0.mk (Kd.R_elder' HO_1155001.out (Kd.R_base ho0) hb); replace HO_1156001 := Aside0.mk (Kd.R_elder' HO_1156001.out (Kd.R_base ho0) hb); replace HO_1162001 := Aside0.mk (Kd.R_elder' HO_1162001.out (Kd.R_base ho0) hb); replace HO1168 := Aside0.mk (Kd.R_elder' HO1168.out (Kd.R_base ho0) hb); replace HO1172 := Aside0.mk (Kd.R_elder' HO1172.out (Kd.R_base ho0) hb); replace HO1176 := Aside0.mk (Kd.R_elder' HO1176.out (Kd.R_base ho0) hb); replace BK1141 := Aside0.mk (blk_below BK1141.out hb); replace BK1142 := Aside0.mk (blk_below BK1142.out hb); replace BK1154 := Aside0.mk (blk_below BK1154.out hb); replace BK1155 := Aside0.mk (blk_below BK1155.out hb); replace BK1163 := Aside0.mk (blk_below BK1163.out hb); replace BK1177 := Aside0.mk (blk_below BK1177.out hb); replace HB := Aside0.mk (below_step HB.out hb); have hcz111_0 : w110.cell? ⟨gb1177, 0, none⟩ = some (.bool t1173) := bc0 BK1177.out; have hcz111_1 : w110.cell? ⟨gb1177, 1, none⟩ = some (.slice Ao99 t1174.length co99) := bc1 BK1177.out; have hfz111_0 := blk_frozen BK1177.out 0; have hfz111_1 := blk_frozen BK1177.out 1; obtain ⟨Ao112, co112, eo112⟩ := Kd.R_slice HO1182.out; subst eo112))
             have n0_ : Aside0 (Kd.R (Kd.int .u32) 51 ((w110.setCell ⟨gb1177, 0, none⟩ (.bool t1179)).setCell ⟨gb1177, 1, none⟩ (.slice Ao112 t1180.length co112)) w.heap.size (fun k_ => some k_ ≠ (.slice Ao32 t1150.length co32 : Value).ownBlock ∧ some k_ ≠ (.slice Ao42 t1157.length co42 : Value).ownBlock ∧ some k_ ≠ (.slice Ao90 t1166.length co90 : Value).ownBlock ∧ some k_ ≠ (v1171 : Value).ownBlock ∧ some k_ ≠ (.slice Ao99 t1174.length co99 : Value).ownBlock ∧ some k_ ≠ (.slice Ao112 t1180.length co112 : Value).ownBlock) (.slice Ao28 t1146.length co28) t1146) := ⟨Kd.R_mono (Kd.R_far (p := ⟨gb1177, 1, none⟩) (Kd.R_far (p := ⟨gb1177, 0, none⟩) (Kd.R_types HO_1155001.out BK1177.out (by decide)) (fun _ hk => hk.2) (.bool t1179)) (fun _ hk => hk.2) (.slice Ao112 t1180.length co112)) (fun _ hk => ⟨hk.1.1.2.2.2.1, ⟨hk.1.1.2.2.2.2, ⟨hk.1.1.1, ⟨hk.1.1.2.1, ⟨hk.1.1.2.2.1, hk.1.2⟩⟩⟩⟩⟩)⟩
             have n1_ : Aside0 (Kd.R (Kd.int .u32) 51 ((w110.setCell ⟨gb1177, 0, none⟩ (.bool t1179)).setCell ⟨gb1177, 1, none⟩ (.slice Ao112 t1180.length co112)) w.heap.size (fun k_ => some k_ ≠ (.slice Ao28 t1146.length co28 : Value).ownBlock ∧ some k_ ≠ (.slice Ao42 t1157.length co42 : Value).ownBlock ∧ some k_ ≠ (.slice Ao90 t1166.length co90 : Value).ownBlock ∧ some k_ ≠ (v1171 : Value).ownBlock ∧ some k_ ≠ (.slice Ao99 t1174.length co99 : Value).ownBlock ∧ some k_ ≠ (.slice Ao112 t1180.length co112 : Value).ownBlock) (.slice Ao32 t1150.length co32) t1150) := ⟨Kd.R_mono (Kd.R_far (p := ⟨gb1177, 1, none⟩) (Kd.R_far (p := ⟨gb1177, 0, none⟩) (Kd.R_types HO_1156001.out BK1177.out (by decide)) (fun _ hk => hk.2) (.bool t1179)) (fun _ hk => hk.2) (.slice Ao112 t1180.length co112)) (fun _ hk => ⟨hk.1.1.2.2.2.1, ⟨hk.1.1.2.2.2.2, ⟨hk.1.1.1, ⟨hk.1.1.2.1, ⟨hk.1.1.2.2.1, hk.1.2⟩⟩⟩⟩⟩)⟩
             have n2_ : Aside0 (Kd.R (Kd.int .u32) 51 ((w110.setCell ⟨gb1177, 0, none⟩ (.bool t1179)).setCell ⟨gb1177, 1, none⟩ (.slice Ao112 t1180.length co112)) w.heap.size (fun k_ => some k_ ≠ (.slice Ao28 t1146.length co28 : Value).ownBlock ∧ some k_ ≠ (.slice Ao32 t1150.length co32 : Value).ownBlock ∧ some k_ ≠ (.slice Ao90 t1166.length co90 : Value).ownBlock ∧ some k_ ≠ (v1171 : Value).ownBlock ∧ some k_ ≠ (.slice Ao99 t1174.length co99 : Value).ownBlock ∧ some k_ ≠ (.slice Ao112 t1180.length co112 : Value).ownBlock) (.slice Ao42 t1157.length co42) t1157) := ⟨Kd.R_mono (Kd.R_far (p := ⟨gb1177, 1, none⟩) (Kd.R_far (p := ⟨gb1177, 0, none⟩) (Kd.R_types HO_1162001.out BK1177.out (by decide)) (fun _ hk => hk.2) (.bool t1179)) (fun _ hk => hk.2) (.slice Ao112 t1180.length co112)) (fun _ hk => ⟨hk.1.1.2.2.2.1, ⟨hk.1.1.2.2.2.2, ⟨hk.1.1.1, ⟨hk.1.1.2.1, ⟨hk.1.1.2.2.1, hk.1.2⟩⟩⟩⟩⟩)⟩
             have n3_ : Aside0 (Kd.R (Kd.int .u32) 51 ((w110.setCell ⟨gb1177, 0, none⟩ (.bool t1179)).setCell ⟨gb1177, 1, none⟩ (.slice Ao112 t1180.length co112)) w.heap.size (fun k_ => some k_ ≠ (.slice Ao28 t1146.length co28 : Value).ownBlock ∧ some k_ ≠ (.slice Ao32 t1150.length co32 : Value).ownBlock ∧ some k_ ≠ (.slice Ao42 t1157.length co42 : Value).ownBlock ∧ some k_ ≠ (v1171 : Value).ownBlock ∧ some k_ ≠ (.slice Ao99 t1174.length co99 : Value).ownBlock ∧ some k_ ≠ (.slice Ao112 t1180.length co112 : Value).ownBlock) (.slice Ao90 t1166.length co90) t1166) := ⟨Kd.R_mono (Kd.R_far (p := ⟨gb1177, 1, none⟩) (Kd.R_far (p := ⟨gb1177, 0, none⟩) (Kd.R_types HO1168.out BK1177.out (by decide)) (fun _ hk => hk.2) (.bool t1179)) (fun _ hk => hk.2) (.slice Ao112 t1180.length co112)) (fun _ hk => ⟨hk.1.1.2.2.1, ⟨hk.1.1.2.2.2.1, ⟨hk.1.1.2.2.2.2, ⟨hk.1.1.1, ⟨hk.1.1.2.1, hk.1.2⟩⟩⟩⟩⟩)⟩
             have n4_ : Aside0 (Kd.R (Kd.int .u32) 51 ((w110.setCell ⟨gb1177, 0, none⟩ (.bool t1179)).setCell ⟨gb1177, 1, none⟩ (.slice Ao112 t1180.length co112)) w.heap.size (fun k_ => some k_ ≠ (.slice Ao28 t1146.length co28 : Value).ownBlock ∧ some k_ ≠ (.slice Ao32 t1150.length co32 : Value).ownBlock ∧ some k_ ≠ (.slice Ao42 t1157.length co42 : Value).ownBlock ∧ some k_ ≠ (.slice Ao90 t1166.length co90 : Value).ownBlock ∧ some k_ ≠ (.slice Ao99 t1174.length co99 : Value).ownBlock ∧ some k_ ≠ (.slice Ao112 t1180.length co112 : Value).ownBlock) v1171 t1170) := ⟨Kd.R_mono (Kd.R_far (p := ⟨gb1177, 1, none⟩) (Kd.R_far (p := ⟨gb1177, 0, none⟩) (Kd.R_types HO1172.out BK1177.out (by decide)) (fun _ hk => hk.2) (.bool t1179)) (fun _ hk => hk.2) (.slice Ao112 t1180.length co112)) (fun _ hk => ⟨hk.1.1.2.2.1, ⟨hk.1.1.2.2.2.1, ⟨hk.1.1.2.2.2.2, ⟨hk.1.1.1, ⟨hk.1.1.2.1, hk.1.2⟩⟩⟩⟩⟩)⟩
             have n5_ : Aside0 (Kd.R (Kd.int .u32) 51 ((w110.setCell ⟨gb1177, 0, none⟩ (.bool t1179)).setCell ⟨gb1177, 1, none⟩ (.slice Ao112 t1180.length co112)) w.heap.size (fun k_ => some k_ ≠ (.slice Ao28 t1146.length co28 : Value).ownBlock ∧ some k_ ≠ (.slice Ao32 t1150.length co32 : Value).ownBlock ∧ some k_ ≠ (.slice Ao42 t1157.length co42 : Value).ownBlock ∧ some k_ ≠ (.slice Ao90 t1166.length co90 : Value).ownBlock ∧ some k_ ≠ (v1171 : Value).ownBlock ∧ some k_ ≠ (.slice Ao112 t1180.length co112 : Value).ownBlock) (.slice Ao99 t1174.length co99) t1174) := ⟨Kd.R_mono (Kd.R_far (p := ⟨gb1177, 1, none⟩) (Kd.R_far (p := ⟨gb1177, 0, none⟩) (Kd.R_types HO1176.out BK1177.out (by decide)) (fun _ hk => hk.2) (.bool t1179)) (fun _ hk => hk.2) (.slice Ao112 t1180.length co112)) (fun _ hk => ⟨hk.1.1.2.2.1, ⟨hk.1.1.2.2.2.1, ⟨hk.1.1.2.2.2.2, ⟨hk.1.1.1, ⟨hk.1.1.2.1, hk.1.2⟩⟩⟩⟩⟩)⟩
             have n6_ : Aside0 (Kd.R (Kd.int .u32) 51 ((w110.setCell ⟨gb1177, 0, none⟩ (.bool t1179)).setCell ⟨gb1177, 1, none⟩ (.slice Ao112 t1180.length co112)) w.heap.size (fun k_ => some k_ ≠ (.slice Ao28 t1146.length co28 : Value).ownBlock ∧ some k_ ≠ (.slice Ao32 t1150.length co32 : Value).ownBlock ∧ some k_ ≠ (.slice Ao42 t1157.length co42 : Value).ownBlock ∧ some k_ ≠ (.slice Ao90 t1166.length co90 : Value).ownBlock ∧ some k_ ≠ (v1171 : Value).ownBlock ∧ some k_ ≠ (.slice Ao99 t1174.length co99 : Value).ownBlock) (.slice Ao112 t1180.length co112) t1180) := ⟨Kd.R_mono (Kd.R_far (p := ⟨gb1177, 1, none⟩) (Kd.R_far (p := ⟨gb1177, 0, none⟩) (Kd.R_types HO1182.out BK1177.out (by decide)) (fun _ hk => hk.2) (.bool t1179)) (fun _ hk => hk.2) (.slice Ao112 t1180.length co112)) (fun _ hk => ⟨hk.1.1.1.1.1.1.2, ⟨hk.1.1.1.1.1.2, ⟨hk.1.1.1.1.2, ⟨hk.1.1.1.2, ⟨hk.1.1.2, hk.1.2⟩⟩⟩⟩⟩)⟩
             have n7_ : Aside0 (((w110.setCell ⟨gb1177, 0, none⟩ (.bool t1179)).setCell ⟨gb1177, 1, none⟩ (.slice Ao112 t1180.length co112)).heap[gb1141]? = some (.cells #[.bool a0_0, .slice A0_1 l0_1.length c0_1] 24 (0, 0))) := ⟨by refine blk_far ?_ NB1141_1177.out _; refine blk_far ?_ NB1141_1177.out _; exact BK1141.out⟩
             have n8_ : Aside0 (((w110.setCell ⟨gb1177, 0, none⟩ (.bool t1179)).setCell ⟨gb1177, 1, none⟩ (.slice Ao112 t1180.length co112)).heap[gb1142]? = some (.cells #[.bool a1_0, .slice A1_1 l1_1.length c1_1] 24 (0, 0))) := ⟨by refine blk_far ?_ NB1142_1177.out _; refine blk_far ?_ NB1142_1177.out _; exact BK1142.out⟩
             have n9_ : Aside0 (((w110.setCell ⟨gb1177, 0, none⟩ (.bool t1179)).setCell ⟨gb1177, 1, none⟩ (.slice Ao112 t1180.length co112)).heap[gb1154]? = some (.cells #[.bool t1145, .slice Ao28 t1146.length co28] 24 (0, 0))) := ⟨by refine blk_far ?_ NB1154_1177.out _; refine blk_far ?_ NB1154_1177.out _; exact BK1154.out⟩
             have n10_ : Aside0 (((w110.setCell ⟨gb1177, 0, none⟩ (.bool t1179)).setCell ⟨gb1177, 1, none⟩ (.slice Ao112 t1180.length co112)).heap[gb1155]? = some (.cells #[.bool t1149, .slice Ao32 t1150.length co32] 24 (0, 0))) := ⟨by refine blk_far ?_ NB1155_1177.out _; refine blk_far ?_ NB1155_1177.out _; exact BK1155.out⟩
             have n12_ : Aside0 (((w110.setCell ⟨gb1177, 0, none⟩ (.bool t1179)).setCell ⟨gb1177, 1, none⟩ (.slice Ao112 t1180.length co112)).heap[gb1163]? = some (.cells #[.bool t1165, .slice Ao90 t1166.length co90] 24 (0, 0))) := ⟨by refine blk_far ?_ NB1163_1177.out _; refine blk_far ?_ NB1163_1177.out _; exact BK1163.out⟩
             have n13_ : Aside0 (((w110.setCell ⟨gb1177, 0, none⟩ (.bool t1179)).setCell ⟨gb1177, 1, none⟩ (.slice Ao112 t1180.length co112)).heap[gb1177]? = some (.cells #[.bool t1179, .slice Ao112 t1180.length co112] 24 (0, 0))) := ⟨by refine blk_put (cs := #[.bool t1179, .slice Ao99 t1174.length co99]) ?_ 1 _ rfl; refine blk_put (cs := #[.bool t1173, .slice Ao99 t1174.length co99]) ?_ 0 _ rfl; exact BK1177.out⟩
             have n14_ : Aside0 (Below w.heap.size w ((w110.setCell ⟨gb1177, 0, none⟩ (.bool t1179)).setCell ⟨gb1177, 1, none⟩ (.slice Ao112 t1180.length co112))) := ⟨by repeat first | exact HB.out | refine bxSet ?_ (by assumption) | apply below_alloc | apply pw_below_drewN⟩
             (try clear HO_1155001)
             (try clear HO_1156001)
             (try clear HO_1162001)
             (try clear HO1168)
             (try clear HO1172)
             (try clear HO1176)
             (try clear HO1182)
             (try clear BK1141)
             (try clear BK1142)
             (try clear BK1154)
             (try clear BK1155)
             (try clear BK1163)
             (try clear BK1177)
             (try clear HB)
             generalize ((w110.setCell ⟨gb1177, 0, none⟩ (.bool t1179)).setCell ⟨gb1177, 1, none⟩ (.slice Ao112 t1180.length co112)) = w113 at n0_ n1_ n2_ n3_ n4_ n5_ n6_ n7_ n8_ n9_ n10_ n12_ n13_ n14_ ⊢
             have HO_1155001 := n0_
             have HO_1156001 := n1_
             have HO_1162001 := n2_
             have HO1168 := n3_
             have HO1172 := n4_
             have HO1176 := n5_
             have HO1182 := n6_
             have BK1141 := n7_
             have BK1142 := n8_
             have BK1154 := n9_
             have BK1155 := n10_
             have BK1163 := n12_
             have BK1177 := n13_
             have HB := n14_
             clear n0_ n1_ n2_ n3_ n4_ n5_ n6_ n7_ n8_ n9_ n10_ n12_ n13_ n14_
             replace HO_1155001 := Aside0.mk (Kd.R_drew HO_1155001.out)
             replace HO_1156001 := Aside0.mk (Kd.R_drew HO_1156001.out)
             replace HO_1162001 := Aside0.mk (Kd.R_drew HO_1162001.out)
             replace HO1168 := Aside0.mk (Kd.R_drew HO1168.out)
             replace HO1172 := Aside0.mk (Kd.R_drew HO1172.out)
             replace HO1176 := Aside0.mk (Kd.R_drew HO1176.out)
             replace HO1182 := Aside0.mk (Kd.R_drew HO1182.out)
             replace BK1141 := Aside0.mk (blk_drew BK1141.out)
             replace BK1142 := Aside0.mk (blk_drew BK1142.out)
             replace BK1154 := Aside0.mk (blk_drew BK1154.out)
             replace BK1155 := Aside0.mk (blk_drew BK1155.out)
             replace BK1163 := Aside0.mk (blk_drew BK1163.out)
             replace BK1177 := Aside0.mk (blk_drew BK1177.out)
             replace HB := Aside0.mk (below_drew1 HB.out)
             refine start_ (n := 31) (S := fun w' => w'.cell? ⟨gb1154, 0, none⟩ = some (.bool t1145) ∧ w'.cell? ⟨gb1154, 1, none⟩ = some (.slice Ao28 t1146.length co28) ∧ w'.cell? ⟨gb1142, 0, none⟩ = some (.bool a1_0) ∧ w'.cell? ⟨gb1142, 1, none⟩ = some (.slice A1_1 l1_1.length c1_1) ∧ w'.cell? ⟨gb1155, 0, none⟩ = some (.bool t1149) ∧ w'.cell? ⟨gb1155, 1, none⟩ = some (.slice Ao32 t1150.length co32) ∧ w'.cell? ⟨gb1141, 0, none⟩ = some (.bool a0_0) ∧ w'.cell? ⟨gb1141, 1, none⟩ = some (.slice A0_1 l0_1.length c0_1) ∧ w'.cell? ⟨gb1163, 0, none⟩ = some (.bool t1165) ∧ w'.cell? ⟨gb1163, 1, none⟩ = some (.slice Ao90 t1166.length co90) ∧ w'.cell? ⟨gb1177, 0, none⟩ = some (.bool t1179) ∧ w'.cell? ⟨gb1177, 1, none⟩ = some (.slice Ao112 t1180.length co112)) (ds := []) #[false, false, false, false, false, false, false, false, false, false, false, false, false, false, false, false, false, false, false, false, false, false, false, false, false, false, false, false, false, false, false] (by kernel_rfl) rfl rfl ⟨bc0 BK1154.out, bc1 BK1154.out, bc0 BK1142.out, bc1 BK1142.out, bc0 BK1155.out, bc1 BK1155.out, bc0 BK1141.out, bc1 BK1141.out, bc0 BK1163.out, bc1 BK1163.out, bc0 BK1177.out, bc1 BK1177.out⟩ (fun hHeld => ?_); refine with_tabW gudgeonlaw02_WholeBack.tab15 gudgeonlaw02_WholeBack.bits15 (fun HT_ HW_ => ?_)
             generalize w113.drew = w114 at HO_1155001 HO_1156001 HO_1162001 HO1168 HO1172 HO1176 HO1182 BK1141 BK1142 BK1154 BK1155 BK1161 BK1163 BK1177 HB hHeld ⊢
             refine take_ (i := 0) (N := some 71) (v := ?_) (a' := ?_) #[true, false, false, false, false, false, false, false, false, false, false, false, false, false, false, false, false, false, false, false, false, false, false, false, false, false, false, false, false, false, false] rfl rfl (take_ofW HT_.out HW_.out (by kernel_rfl)) (fun _ _ _ h => h) (Or.inl ⟨by rfl, ?_⟩) hHeld ?_ ?_
             rotate_left
             ·rintro w' ⟨s0, s1, s2, s3, s4, s5, s6, s7, s8, s9, s10, s11⟩
              go_simp
              with_reducible rfl
             rotate_left
             ·simp only [Act.put, List.setIfInBounds_toArray, List.set_cons_zero, List.set_cons_succ, i64_w, i32_w]
              rfl
             refine take_ (i := 1) (N := some 72) (v := ?_) (a' := ?_) #[true, true, false, false, false, false, false, false, false, false, false, false, false, false, false, false, false, false, false, false, false, false, false, false, false, false, false, false, false, false, false] rfl rfl (take_ofW HT_.out HW_.out (by kernel_rfl)) (fun _ _ _ h => h) (Or.inl ⟨by rfl, ?_⟩) hHeld ?_ ?_
             rotate_left
             ·rintro w' ⟨s0, s1, s2, s3, s4, s5, s6, s7, s8, s9, s10, s11⟩
              go_simp
              with_reducible rfl
             rotate_left
             ·simp only [Act.put, List.setIfInBounds_toArray, List.set_cons_zero, List.set_cons_succ, i64_w, i32_w]
              rfl
             refine take_ (i := 3) (N := some 74) (v := ?_) (a' := ?_) #[true, true, false, true, false, false, false, false, false, false, false, false, false, false, false, false, false, false, false, false, false, false, false, false, false, false, false, false, false, false, false] rfl rfl (take_ofW HT_.out HW_.out (by kernel_rfl)) (fun _ _ _ h => h) (Or.inl ⟨by rfl, ?_⟩) hHeld ?_ ?_
             rotate_left
             ·rintro w' ⟨s0, s1, s2, s3, s4, s5, s6, s7, s8, s9, s10, s11⟩
              go_simp
              with_reducible rfl
             rotate_left
             ·simp only [Act.put, List.setIfInBounds_toArray, List.set_cons_zero, List.set_cons_succ, i64_w, i32_w]
              rfl
             refine take_ (i := 5) (N := some 76) (v := ?_) (a' := ?_) #[true, true, false, true, false, true, false, false, false, false, false, false, false, false, false, false, false, false, false, false, false, false, false, false, false, false, false, false, false, false, false] rfl rfl (take_ofW HT_.out HW_.out (by kernel_rfl)) (fun _ _ _ h => h) (Or.inl ⟨by rfl, ?_⟩) hHeld ?_ ?_
             rotate_left
             ·rintro w' ⟨s0, s1, s2, s3, s4, s5, s6, s7, s8, s9, s10, s11⟩
              go_simp
              with_reducible rfl
             rotate_left
             ·simp only [Act.put, List.setIfInBounds_toArray, List.set_cons_zero, List.set_cons_succ, i64_w, i32_w]
              rfl
             refine one_ (i := 2) (N := some 73) #[true, true, true, true, false, true, false, false, false, false, false, false, false, false, false, false, false, false, false, false, false, false, false, false, false, false, false, false, false, false, false] rfl rfl (one_of HT_.out (by kernel_rfl)) (by decide) (fun K hK => ?_)
             refine goR Tryd.func24 [.agg #[.bool t1145, .slice Ao28 t1146.length co28], .agg #[.bool a1_0, .slice A1_1 l1_1.length c1_1]] ?_
             with_reducible refine (whole_Mul.calls kj16 t1145 _ _ t1146 a1_0 _ _ l1_1 t1183 t1184 _ ?side1 ?side2 ?side3 ?side4 A62.out).mono ?_
             (case side1 => exact (Kd.R_reads' HO_1155001.out).2.2)
             (case side2 => exact (Kd.R_reads' HO_1155001.out).2.1)
             (case side3 => exact (Kd.C_below HR1_1.out HB.out))
             (case side4 => exact HC1_1.out)
             rintro e w115 ⟨v1185, rfl, ho0, hb⟩
             refine ⟨_, rfl, ?_⟩
             have HO1186 := Aside0.mk (Kd.R_lower (Kd.R_new' (Kd.R_new' (Kd.R_new' (Kd.R_new' (Kd.R_new' (Kd.R_new' (Kd.R_new' ho0 (Kd.R_lt HO_1155001.out)) (Kd.R_lt HO_1156001.out)) (Kd.R_lt HO_1162001.out)) (Kd.R_lt HO1168.out)) (Kd.R_lt HO1172.out)) (Kd.R_lt HO1176.out)) (Kd.R_lt HO1182.out)) (below_size HB.out))
             replace HO_1155001 := Aside0.mk (Kd.R_elder' HO_1155001.out (Kd.R_base ho0) hb)
             replace HO_1156001 := Aside0.mk (Kd.R_elder' HO_1156001.out (Kd.R_base ho0) hb)
             replace HO_1162001 := Aside0.mk (Kd.R_elder' HO_1162001.out (Kd.R_base ho0) hb)
             replace HO1168 := Aside0.mk (Kd.R_elder' HO1168.out (Kd.R_base ho0) hb)
             replace HO1172 := Aside0.mk (Kd.R_elder' HO1172.out (Kd.R_base ho0) hb)
             replace HO1176 := Aside0.mk (Kd.R_elder' HO1176.out (Kd.R_base ho0) hb)
             replace HO1182 := Aside0.mk (Kd.R_elder' HO1182.out (Kd.R_base ho0) hb)
             replace BK1141 := Aside0.mk (blk_below BK1141.out hb)
             replace BK1142 := Aside0.mk (blk_below BK1142.out hb)
             replace BK1154 := Aside0.mk (blk_below BK1154.out hb)
             replace BK1155 := Aside0.mk (blk_below BK1155.out hb)
             replace BK1163 := Aside0.mk (blk_below BK1163.out hb)
             replace BK1177 := Aside0.mk (blk_below BK1177.out hb)
             replace HB := Aside0.mk (below_step HB.out hb)
             (try clear hb)
             (try clear hb2)
             (try clear hk)
             (try clear hi)
             (try clear ho0)
             obtain ⟨Ao116, co116, eo116⟩ := Kd.R_slice HO1186.out
             subst eo116
             refine hK.out _ _ ⟨bc0 BK1154.out, bc1 BK1154.out, bc0 BK1142.out, bc1 BK1142.out, bc0 BK1155.out, bc1 BK1155.out, bc0 BK1141.out, bc1 BK1141.out, bc0 BK1163.out, bc1 BK1163.out, bc0 BK1177.out, bc1 BK1177.out⟩ (fun hHeld => ?_)
             clear hK K
             refine norm_ (a' := ?_) ?_ ?_
             rotate_left
             ·show Act.put _ (some 73) _ = _
              simp only [Act.put, List.setIfInBounds_toArray, List.set_cons_zero, List.set_cons_succ, i64_w, i32_w]
              rfl
             refine one_ (i := 4) (N := some 75) #[true, true, true, true, true, true, false, false, false, false, false, false, false, false, false, false, false, false, false, false, false, false, false, false, false, false, false, false, false, false, false] rfl rfl (one_of HT_.out (by kernel_rfl)) (by decide) (fun K hK => ?_)
             refine goR Tryd.func20 [.agg #[.bool t1183, .slice Ao116 t1184.length co116], .agg #[.bool t1149, .slice Ao32 t1150.length co32]] ?_
             with_reducible refine (whole_Add.calls kj16 t1183 _ _ t1184 t1149 _ _ t1150 t1187 t1188 _ ?side1 ?side2 ?side3 ?side4 A63.out).mono ?_
             (case side1 => exact (Kd.R_reads' HO1186.out).2.2)
             (case side2 => exact (Kd.R_reads' HO1186.out).2.1)
             (case side3 => exact (Kd.R_reads' HO_1156001.out).2.2)
             (case side4 => exact (Kd.R_reads' HO_1156001.out).2.1)
             rintro e w117 ⟨v1189, rfl, ho0, hb⟩
             refine ⟨_, rfl, ?_⟩
             have HO1190 := Aside0.mk (Kd.R_lower (Kd.R_new' (Kd.R_new' (Kd.R_new' (Kd.R_new' (Kd.R_new' (Kd.R_new' (Kd.R_new' (Kd.R_new' ho0 (Kd.R_lt HO_1155001.out)) (Kd.R_lt HO_1156001.out)) (Kd.R_lt HO_1162001.out)) (Kd.R_lt HO1168.out)) (Kd.R_lt HO1172.out)) (Kd.R_lt HO1176.out)) (Kd.R_lt HO1182.out)) (Kd.R_lt HO1186.out)) (below_size HB.out))
             replace HO_1156001 := Aside0.mk (Kd.R_elder' HO_1156001.out (Kd.R_base ho0) hb)
             replace HO1168 := Aside0.mk (Kd.R_elder' HO1168.out (Kd.R_base ho0) hb)
             replace HO1182 := Aside0.mk (Kd.R_elder' HO1182.out (Kd.R_base ho0) hb)
             replace BK1141 := Aside0.mk (blk_below BK1141.out hb)
             replace BK1142 := Aside0.mk (blk_below BK1142.out hb)
             replace BK1154 := Aside0.mk (blk_below BK1154.out hb)
             replace BK1155 := Aside0.mk (blk_below BK1155.out hb)
             replace BK1163 := Aside0.mk (blk_below BK1163.out hb)
             replace BK1177 := Aside0.mk (blk_below BK1177.out hb)
             replace HB := Aside0.mk (below_step HB.out hb)
             (try clear hb)
             (try clear hb2)
             (try clear hk)
             (try clear hi)
             (try clear ho0)
             obtain ⟨Ao118, co118, eo118⟩ := Kd.R_slice HO1190.out
             subst eo118
             refine hK.out _ _ ⟨bc0 BK1154.out, bc1 BK1154.out, bc0 BK1142.out, bc1 BK1142.out, bc0 BK1155.out, bc1 BK1155.out, bc0 BK1141.out, bc1 BK1141.out, bc0 BK1163.out, bc1 BK1163.out, bc0 BK1177.out, bc1 BK1177.out⟩ (fun hHeld => ?_)
             clear hK K
             refine norm_ (a' := ?_) ?_ ?_
             rotate_left
             ·show Act.put _ (some 75) _ = _
              simp only [Act.put, List.setIfInBounds_toArray, List.set_cons_zero, List.set_cons_succ, i64_w, i32_w]
              rfl
             refine one_ (i := 6) (N := some 77) #[true, true, true, true, true, true, true, false, false, false, false, false, false, false, false, false, false, false, false, false, false, false, false, false, false, false, false, false, false, false, false] rfl rfl (one_of HT_.out (by kernel_rfl)) (by decide) (fun K hK => ?_)
             refine goR Tryd.func26 [.agg #[.bool t1187, .slice Ao118 t1188.length co118], .agg #[.bool a0_0, .slice A0_1 l0_1.length c0_1]] ?_
             with_reducible refine (whole_Cmp.calls kj16 t1187 _ _ t1188 a0_0 _ _ l0_1 t1191 _ ?side1 ?side2 ?side3 ?side4 A64.out).mono ?_
             (case side1 => exact (Kd.R_reads' HO1190.out).2.2)
             (case side2 => exact (Kd.R_reads' HO1190.out).2.1)
             (case side3 => exact (Kd.C_below HR0_1.out HB.out))
             (case side4 => exact HC0_1.out)
             rintro e w119 ⟨rfl, hb⟩
             refine ⟨_, rfl, ?_⟩
             replace HO_1156001 := Aside0.mk (Kd.R_below HO_1156001.out hb)
             replace HO1168 := Aside0.mk (Kd.R_below HO1168.out hb)
             replace HO1182 := Aside0.mk (Kd.R_below HO1182.out hb)
             replace BK1141 := Aside0.mk (blk_below BK1141.out hb)
             replace BK1142 := Aside0.mk (blk_below BK1142.out hb)
             replace BK1154 := Aside0.mk (blk_below BK1154.out hb)
             replace BK1155 := Aside0.mk (blk_below BK1155.out hb)
             replace BK1163 := Aside0.mk (blk_below BK1163.out hb)
             replace BK1177 := Aside0.mk (blk_below BK1177.out hb)
             replace HB := Aside0.mk (below_step HB.out hb)
             (try clear hb)
             (try clear hb2)
             (try clear hk)
             (try clear hi)
             refine hK.out _ _ ⟨bc0 BK1154.out, bc1 BK1154.out, bc0 BK1142.out, bc1 BK1142.out, bc0 BK1155.out, bc1 BK1155.out, bc0 BK1141.out, bc1 BK1141.out, bc0 BK1163.out, bc1 BK1163.out, bc0 BK1177.out, bc1 BK1177.out⟩ (fun hHeld => ?_)
             clear hK K
             refine norm_ (a' := ?_) ?_ ?_
             rotate_left
             ·show Act.put _ (some 77) _ = _
              simp only [Act.put, List.setIfInBounds_toArray, List.set_cons_zero, List.set_cons_succ, i64_w, i32_w]
              rfl
             refine pure_ (i := 7) (N := some 78) (v := ?_) (a' := ?_) #[true, true, true, true, true, true, true, true, false, false, false, false, false, false, false, false, false, false, false, false, false, false, false, false, false, false, false, false, false, false, false] rfl rfl (any_of HT_.out (by kernel_rfl)) (fun _ _ _ h => h) (Or.inl ⟨by rfl, ?_⟩) ?_ ?_
             rotate_left
             ·intro w'
              go_simp
              with_reducible rfl
             rotate_left
             ·simp only [Act.put, List.setIfInBounds_toArray, List.set_cons_zero, List.set_cons_succ, i64_w, i32_w]
              rfl
             refine pure_ (i := 8) (N := some 79) (v := ?_) (a' := ?_) #[true, true, true, true, true, true, true, true, true, false, false, false, false, false, false, false, false, false, false, false, false, false, false, false, false, false, false, false, false, false, false] rfl rfl (any_of HT_.out (by kernel_rfl)) (fun _ _ _ h => h) (Or.inl ⟨by rfl, ?_⟩) ?_ ?_
             rotate_left
             ·intro w'
              go_simp
              with_reducible rfl
             rotate_left
             ·simp only [Act.put, List.setIfInBounds_toArray, List.set_cons_zero, List.set_cons_succ, i64_w, i32_w]
              rfl
             refine take_ (i := 9) (N := some 80) (v := ?_) (a' := ?_) #[true, true, true, true, true, true, true, true, true, true, false, false, false, false, false, false, false, false, false, false, false, false, false, false, false, false, false, false, false, false, false] rfl rfl (take_ofW HT_.out HW_.out (by kernel_rfl)) (fun _ _ _ h => h) (Or.inl ⟨by rfl, ?_⟩) hHeld ?_ ?_
             rotate_left
             ·rintro w' ⟨s0, s1, s2, s3, s4, s5, s6, s7, s8, s9, s10, s11⟩
              go_simp
              with_reducible rfl
             rotate_left
             ·simp only [Act.put, List.setIfInBounds_toArray, List.set_cons_zero, List.set_cons_succ, i64_w, i32_w]
              rfl
             refine one_ (i := 10) (N := some 81) #[true, true, true, true, true, true, true, true, true, true, true, false, false, false, false, false, false, false, false, false, false, false, false, false, false, false, false, false, false, false, false] rfl rfl (one_of HT_.out (by kernel_rfl)) (by decide) (fun K hK => ?_)
             refine goR Tryd.func28 [.agg #[.bool t1149, .slice Ao32 t1150.length co32]] ?_
             with_reducible refine (whole_Sign.calls t1149 _ _ t1150 t1192 _ ?side1 ?side2 A66.out).mono ?_
             (case side1 => exact (Kd.R_reads' HO_1156001.out).2.2)
             (case side2 => exact (Kd.R_reads' HO_1156001.out).2.1)
             rintro e w120 ⟨rfl, hb⟩
             refine ⟨_, rfl, ?_⟩
             replace HO_1156001 := Aside0.mk (Kd.R_below HO_1156001.out hb)
             replace HO1168 := Aside0.mk (Kd.R_below HO1168.out hb)
             replace HO1182 := Aside0.mk (Kd.R_below HO1182.out hb)
             replace BK1141 := Aside0.mk (blk_below BK1141.out hb)
             replace BK1142 := Aside0.mk (blk_below BK1142.out hb)
             replace BK1154 := Aside0.mk (blk_below BK1154.out hb)
             replace BK1155 := Aside0.mk (blk_below BK1155.out hb)
             replace BK1163 := Aside0.mk (blk_below BK1163.out hb)
             replace BK1177 := Aside0.mk (blk_below BK1177.out hb)
             replace HB := Aside0.mk (below_step HB.out hb)
             (try clear hb)
             (try clear hb2)
             (try clear hk)
             (try clear hi)
             refine hK.out _ _ ⟨bc0 BK1154.out, bc1 BK1154.out, bc0 BK1142.out, bc1 BK1142.out, bc0 BK1155.out, bc1 BK1155.out, bc0 BK1141.out, bc1 BK1141.out, bc0 BK1163.out, bc1 BK1163.out, bc0 BK1177.out, bc1 BK1177.out⟩ (fun hHeld => ?_)
             clear hK K
             refine norm_ (a' := ?_) ?_ ?_
             rotate_left
             ·show Act.put _ (some 81) _ = _
              simp only [Act.put, List.setIfInBounds_toArray, List.set_cons_zero, List.set_cons_succ, i64_w, i32_w]
              rfl
             refine pure_ (i := 11) (N := some 82) (v := ?_) (a' := ?_) #[true, true, true, true, true, true, true, true, true, true, true, true, false, false, false, false, false, false, false, false, false, false, false, false, false, false, false, false, false, false, false] rfl rfl (any_of HT_.out (by kernel_rfl)) (fun _ _ _ h => h) (Or.inl ⟨by rfl, ?_⟩) ?_ ?_
             rotate_left
             ·intro w'
              go_simp
              with_reducible rfl
             rotate_left
             ·simp only [Act.put, List.setIfInBounds_toArray, List.set_cons_zero, List.set_cons_succ, i64_w, i32_w]
              rfl
             refine pure_ (i := 12) (N := some 83) (v := ?_) (a' := ?_) #[true, true, true, true, true, true, true, true, true, true, true, true, true, false, false, false, false, false, false, false, false, false, false, false, false, false, false, false, false, false, false] rfl rfl (any_of HT_.out (by kernel_rfl)) (fun _ _ _ h => h) (Or.inl ⟨by rfl, ?_⟩) ?_ ?_
             rotate_left
             ·intro w'
              go_simp
              with_reducible rfl
             rotate_left
             ·simp only [Act.put, List.setIfInBounds_toArray, List.set_cons_zero, List.set_cons_succ, i64_w, i32_w]
              rfl
             refine pure_ (i := 13) (N := some 84) (v := ?_) (a' := ?_) #[true, true, true, true, true, true, true, true, true, true, true, true, true, true, false, false, false, false, false, false, false, false, false, false, false, false, false, false, false, false, false] rfl rfl (any_of HT_.out (by kernel_rfl)) (fun _ _ _ h => h) (Or.inl ⟨by rfl, ?_⟩) ?_ ?_
             rotate_left
             ·intro w'
              go_simp
              with_reducible rfl
             rotate_left
             ·simp only [Act.put, List.setIfInBounds_toArray, List.set_cons_zero, List.set_cons_succ, i64_w, i32_w]
              rfl
             refine take_ (i := 14) (N := some 85) (v := ?_) (a' := ?_) #[true, true, true, true, true, true, true, true, true, true, true, true, true, true, true, false, false, false, false, false, false, false, false, false, false, false, false, false, false, false, false] rfl rfl (take_ofW HT_.out HW_.out (by kernel_rfl)) (fun _ _ _ h => h) (Or.inl ⟨by rfl, ?_⟩) hHeld ?_ ?_
             rotate_left
             ·rintro w' ⟨s0, s1, s2, s3, s4, s5, s6, s7, s8, s9, s10, s11⟩
              go_simp
              with_reducible rfl
             rotate_left
             ·simp only [Act.put, List.setIfInBounds_toArray, List.set_cons_zero, List.set_cons_succ, i64_w, i32_w]
              rfl
             refine take_ (i := 15) (N := some 86) (v := ?_) (a' := ?_) #[true, true, true, true, true, true, true, true, true, true, true, true, true, true, true, true, false, false, false, false, false, false, false, false, false, false, false, false, false, false, false] rfl rfl (take_ofW HT_.out HW_.out (by kernel_rfl)) (fun _ _ _ h => h) (Or.inl ⟨by rfl, ?_⟩) hHeld ?_ ?_
             rotate_left
             ·rintro w' ⟨s0, s1, s2, s3, s4, s5, s6, s7, s8, s9, s10, s11⟩
              go_simp
              with_reducible rfl
             rotate_left
             ·simp only [Act.put, List.setIfInBounds_toArray, List.set_cons_zero, List.set_cons_succ, i64_w, i32_w]
              rfl
             refine one_ (i := 16) (N := some 87) #[true, true, true, true, true, true, true, true, true, true, true, true, true, true, true, true, true, false, false, false, false, false, false, false, false, false, false, false, false, false, false] rfl rfl (one_of HT_.out (by kernel_rfl)) (by decide) (fun K hK => ?_)
             refine goR Tryd.func26 [.agg #[.bool t1149, .slice Ao32 t1150.length co32], .agg #[.bool t1165, .slice Ao90 t1166.length co90]] ?_
             with_reducible refine (whole_Cmp.calls kj16 t1149 _ _ t1150 t1165 _ _ t1166 t1193 _ ?side1 ?side2 ?side3 ?side4 A68.out).mono ?_
             (case side1 => exact (Kd.R_reads' HO_1156001.out).2.2)
             (case side2 => exact (Kd.R_reads' HO_1156001.out).2.1)
             (case side3 => exact (Kd.R_reads' HO1168.out).2.2)
             (case side4 => exact (Kd.R_reads' HO1168.out).2.1)
             rintro e w121 ⟨rfl, hb⟩
             refine ⟨_, rfl, ?_⟩
             replace HO1168 := Aside0.mk (Kd.R_below HO1168.out hb)
             replace HO1182 := Aside0.mk (Kd.R_below HO1182.out hb)
             replace BK1141 := Aside0.mk (blk_below BK1141.out hb)
             replace BK1142 := Aside0.mk (blk_below BK1142.out hb)
             replace BK1154 := Aside0.mk (blk_below BK1154.out hb)
             replace BK1155 := Aside0.mk (blk_below BK1155.out hb)
             replace BK1163 := Aside0.mk (blk_below BK1163.out hb)
             replace BK1177 := Aside0.mk (blk_below BK1177.out hb)
             replace HB := Aside0.mk (below_step HB.out hb)
             (try clear hb)
             (try clear hb2)
             (try clear hk)
             (try clear hi)
             refine hK.out _ _ ⟨bc0 BK1154.out, bc1 BK1154.out, bc0 BK1142.out, bc1 BK1142.out, bc0 BK1155.out, bc1 BK1155.out, bc0 BK1141.out, bc1 BK1141.out, bc0 BK1163.out, bc1 BK1163.out, bc0 BK1177.out, bc1 BK1177.out⟩ (fun hHeld => ?_)
             clear hK K
             refine norm_ (a' := ?_) ?_ ?_
             rotate_left
             ·show Act.put _ (some 87) _ = _
              simp only [Act.put, List.setIfInBounds_toArray, List.set_cons_zero, List.set_cons_succ, i64_w, i32_w]
              rfl
             refine pure_ (i := 17) (N := some 88) (v := ?_) (a' := ?_) #[true, true, true, true, true, true, true, true, true, true, true, true, true, true, true, true, true, true, false, false, false, false, false, false, false, false, false, false, false, false, false] rfl rfl (any_of HT_.out (by kernel_rfl)) (fun _ _ _ h => h) (Or.inl ⟨by rfl, ?_⟩) ?_ ?_
             rotate_left
             ·intro w'
              go_simp
              with_reducible rfl
             rotate_left
             ·simp only [Act.put, List.setIfInBounds_toArray, List.set_cons_zero, List.set_cons_succ, i64_w, i32_w]
              rfl
             refine pure_ (i := 18) (N := some 89) (v := ?_) (a' := ?_) #[true, true, true, true, true, true, true, true, true, true, true, true, true, true, true, true, true, true, true, false, false, false, false, false, false, false, false, false, false, false, false] rfl rfl (any_of HT_.out (by kernel_rfl)) (fun _ _ _ h => h) (Or.inl ⟨by rfl, ?_⟩) ?_ ?_
             rotate_left
             ·intro w'
              go_simp
              with_reducible rfl
             rotate_left
             ·simp only [Act.put, List.setIfInBounds_toArray, List.set_cons_zero, List.set_cons_succ, i64_w, i32_w]
              rfl
             refine pure_ (i := 19) (N := some 90) (v := ?_) (a' := ?_) #[true, true, true, true, true, true, true, true, true, true, true, true, true, true, true, true, true, true, true, true, false, false, false, false, false, false, false, false, false, false, false] rfl rfl (any_of HT_.out (by kernel_rfl)) (fun _ _ _ h => h) (Or.inl ⟨by rfl, ?_⟩) ?_ ?_
             rotate_left
             ·intro w'
              go_simp
              with_reducible rfl
             rotate_left
             ·simp only [Act.put, List.setIfInBounds_toArray, List.set_cons_zero, List.set_cons_succ, i64_w, i32_w]
              rfl
             refine take_ (i := 20) (N := some 91) (v := ?_) (a' := ?_) #[true, true, true, true, true, true, true, true, true, true, true, true, true, true, true, true, true, true, true, true, true, false, false, false, false, false, false, false, false, false, false] rfl rfl (take_ofW HT_.out HW_.out (by kernel_rfl)) (fun _ _ _ h => h) (Or.inl ⟨by rfl, ?_⟩) hHeld ?_ ?_
             rotate_left
             ·rintro w' ⟨s0, s1, s2, s3, s4, s5, s6, s7, s8, s9, s10, s11⟩
              go_simp
              with_reducible rfl
             rotate_left
             ·simp only [Act.put, List.setIfInBounds_toArray, List.set_cons_zero, List.set_cons_succ, i64_w, i32_w]
              rfl
             refine one_ (i := 21) (N := some 92) #[true, true, true, true, true, true, true, true, true, true, true, true, true, true, true, true, true, true, true, true, true, true, false, false, false, false, false, false, false, false, false] rfl rfl (one_of HT_.out (by kernel_rfl)) (by decide) (fun K hK => ?_)
             refine goR Tryd.func28 [.agg #[.bool t1179, .slice Ao112 t1180.length co112]] ?_
             with_reducible refine (whole_Sign.calls t1179 _ _ t1180 t1194 _ ?side1 ?side2 A70.out).mono ?_
             (case side1 => exact (Kd.R_reads' HO1182.out).2.2)
             (case side2 => exact (Kd.R_reads' HO1182.out).2.1)
             rintro e w122 ⟨rfl, hb⟩
             refine ⟨_, rfl, ?_⟩
             replace HO1168 := Aside0.mk (Kd.R_below HO1168.out hb)
             replace HO1182 := Aside0.mk (Kd.R_below HO1182.out hb)
             replace BK1141 := Aside0.mk (blk_below BK1141.out hb)
             replace BK1142 := Aside0.mk (blk_below BK1142.out hb)
             replace BK1154 := Aside0.mk (blk_below BK1154.out hb)
             replace BK1155 := Aside0.mk (blk_below BK1155.out hb)
             replace BK1163 := Aside0.mk (blk_below BK1163.out hb)
             replace BK1177 := Aside0.mk (blk_below BK1177.out hb)
             replace HB := Aside0.mk (below_step HB.out hb)
             (try clear hb)
             (try clear hb2)
             (try clear hk)
             (try clear hi)
             refine hK.out _ _ ⟨bc0 BK1154.out, bc1 BK1154.out, bc0 BK1142.out, bc1 BK1142.out, bc0 BK1155.out, bc1 BK1155.out, bc0 BK1141.out, bc1 BK1141.out, bc0 BK1163.out, bc1 BK1163.out, bc0 BK1177.out, bc1 BK1177.out⟩ (fun hHeld => ?_)
             clear hK K
             refine norm_ (a' := ?_) ?_ ?_
             rotate_left
             ·show Act.put _ (some 92) _ = _
              simp only [Act.put, List.setIfInBounds_toArray, List.set_cons_zero, List.set_cons_succ, i64_w, i32_w]
              rfl
             refine pure_ (i := 22) (N := some 93) (v := ?_) (a' := ?_) #[true, true, true, true, true, true, true, true, true, true, true, true, true, true, true, true, true, true, true, true, true, true, true, false, false, false, false, false, false, false, false] rfl rfl (any_of HT_.out (by kernel_rfl)) (fun _ _ _ h => h) (Or.inl ⟨by rfl, ?_⟩) ?_ ?_
             rotate_left
             ·intro w'
              go_simp
              with_reducible rfl
             rotate_left
             ·simp only [Act.put, List.setIfInBounds_toArray, List.set_cons_zero, List.set_cons_succ, i64_w, i32_w]
              rfl
             refine pure_ (i := 23) (N := some 94) (v := ?_) (a' := ?_) #[true, true, true, true, true, true, true, true, true, true, true, true, true, true, true, true, true, true, true, true, true, true, true, true, false, false, false, false, false, false, false] rfl rfl (any_of HT_.out (by kernel_rfl)) (fun _ _ _ h => h) (Or.inl ⟨by rfl, ?_⟩) ?_ ?_
             rotate_left
             ·intro w'
              go_simp
              with_reducible rfl
             rotate_left
             ·simp only [Act.put, List.setIfInBounds_toArray, List.set_cons_zero, List.set_cons_succ, i64_w, i32_w]
              rfl
             refine pure_ (i := 24) (N := some 95) (v := ?_) (a' := ?_) #[true, true, true, true, true, true, true, true, true, true, true, true, true, true, true, true, true, true, true, true, true, true, true, true, true, false, false, false, false, false, false] rfl rfl (any_of HT_.out (by kernel_rfl)) (fun _ _ _ h => h) (Or.inl ⟨by rfl, ?_⟩) ?_ ?_
             rotate_left
             ·intro w'
              go_simp
              with_reducible rfl
             rotate_left
             ·simp only [Act.put, List.setIfInBounds_toArray, List.set_cons_zero, List.set_cons_succ, i64_w, i32_w]
              rfl
             refine take_ (i := 25) (N := some 96) (v := ?_) (a' := ?_) #[true, true, true, true, true, true, true, true, true, true, true, true, true, true, true, true, true, true, true, true, true, true, true, true, true, true, false, false, false, false, false] rfl rfl (take_ofW HT_.out HW_.out (by kernel_rfl)) (fun _ _ _ h => h) (Or.inl ⟨by rfl, ?_⟩) hHeld ?_ ?_
             rotate_left
             ·rintro w' ⟨s0, s1, s2, s3, s4, s5, s6, s7, s8, s9, s10, s11⟩
              go_simp
              with_reducible rfl
             rotate_left
             ·simp only [Act.put, List.setIfInBounds_toArray, List.set_cons_zero, List.set_cons_succ, i64_w, i32_w]
              rfl
             refine take_ (i := 26) (N := some 97) (v := ?_) (a' := ?_) #[true, true, true, true, true, true, true, true, true, true, true, true, true, true, true, true, true, true, true, true, true, true, true, true, true, true, true, false, false, false, false] rfl rfl (take_ofW HT_.out HW_.out (by kernel_rfl)) (fun _ _ _ h => h) (Or.inl ⟨by rfl, ?_⟩) hHeld ?_ ?_
             rotate_left
             ·rintro w' ⟨s0, s1, s2, s3, s4, s5, s6, s7, s8, s9, s10, s11⟩
              go_simp
              with_reducible rfl
             rotate_left
             ·simp only [Act.put, List.setIfInBounds_toArray, List.set_cons_zero, List.set_cons_succ, i64_w, i32_w]
              rfl
             refine one_ (i := 27) (N := some 98) #[true, true, true, true, true, true, true, true, true, true, true, true, true, true, true, true, true, true, true, true, true, true, true, true, true, true, true, true, false, false, false] rfl rfl (one_of HT_.out (by kernel_rfl)) (by decide) (fun K hK => ?_)
             refine goR Tryd.func26 [.agg #[.bool t1179, .slice Ao112 t1180.length co112], .agg #[.bool t1165, .slice Ao90 t1166.length co90]] ?_
             with_reducible refine (whole_Cmp.calls kj16 t1179 _ _ t1180 t1165 _ _ t1166 t1195 _ ?side1 ?side2 ?side3 ?side4 A72.out).mono ?_
             (case side1 => exact (Kd.R_reads' HO1182.out).2.2)
             (case side2 => exact (Kd.R_reads' HO1182.out).2.1)
             (case side3 => exact (Kd.R_reads' HO1168.out).2.2)
             (case side4 => exact (Kd.R_reads' HO1168.out).2.1)
             rintro e w123 ⟨rfl, hb⟩
             refine ⟨_, rfl, ?_⟩
             replace BK1141 := Aside0.mk (blk_below BK1141.out hb)
             replace BK1142 := Aside0.mk (blk_below BK1142.out hb)
             replace BK1154 := Aside0.mk (blk_below BK1154.out hb)
             replace BK1155 := Aside0.mk (blk_below BK1155.out hb)
             replace BK1163 := Aside0.mk (blk_below BK1163.out hb)
             replace BK1177 := Aside0.mk (blk_below BK1177.out hb)
             replace HB := Aside0.mk (below_step HB.out hb)
             (try clear hb)
             (try clear hb2)
             (try clear hk)
             (try clear hi)
             refine hK.out _ _ ⟨bc0 BK1154.out, bc1 BK1154.out, bc0 BK1142.out, bc1 BK1142.out, bc0 BK1155.out, bc1 BK1155.out, bc0 BK1141.out, bc1 BK1141.out, bc0 BK1163.out, bc1 BK1163.out, bc0 BK1177.out, bc1 BK1177.out⟩ (fun hHeld => ?_)
             clear hK K
             refine norm_ (a' := ?_) ?_ ?_
             rotate_left
             ·show Act.put _ (some 98) _ = _
              simp only [Act.put, List.setIfInBounds_toArray, List.set_cons_zero, List.set_cons_succ, i64_w, i32_w]
              rfl
             refine pure_ (i := 28) (N := some 99) (v := ?_) (a' := ?_) #[true, true, true, true, true, true, true, true, true, true, true, true, true, true, true, true, true, true, true, true, true, true, true, true, true, true, true, true, true, false, false] rfl rfl (any_of HT_.out (by kernel_rfl)) (fun _ _ _ h => h) (Or.inl ⟨by rfl, ?_⟩) ?_ ?_
             rotate_left
             ·intro w'
              go_simp
              with_reducible rfl
             rotate_left
             ·simp only [Act.put, List.setIfInBounds_toArray, List.set_cons_zero, List.set_cons_succ, i64_w, i32_w]
              rfl
             refine pure_ (i := 29) (N := some 100) (v := ?_) (a' := ?_) #[true, true, true, true, true, true, true, true, true, true, true, true, true, true, true, true, true, true, true, true, true, true, true, true, true, true, true, true, true, true, false] rfl rfl (any_of HT_.out (by kernel_rfl)) (fun _ _ _ h => h) (Or.inl ⟨by rfl, ?_⟩) ?_ ?_
             rotate_left
             ·intro w'
              go_simp
              with_reducible rfl
             rotate_left
             ·simp only [Act.put, List.setIfInBounds_toArray, List.set_cons_zero, List.set_cons_succ, i64_w, i32_w]
              rfl
             refine pure_ (i := 30) (N := some 4) (v := ?_) (a' := ?_) #[true, true, true, true, true, true, true, true, true, true, true, true, true, true, true, true, true, true, true, true, true, true, true, true, true, true, true, true, true, true, true] rfl rfl (any_of HT_.out (by kernel_rfl)) (fun _ _ _ h => h) (Or.inl ⟨by rfl, ?_⟩) ?_ ?_
             rotate_left
             ·intro w'
              go_simp
              with_reducible rfl
             rotate_left
             ·simp only [Act.put, List.setIfInBounds_toArray, List.set_cons_zero, List.set_cons_succ, i64_w, i32_w]
              rfl
             refine done_ (done_of HT_.out (by kernel_rfl)) ?_
             try go_wp2
             go_ret
             exact ⟨by first | rfl | (simp [errW_none, errW_some] <;> rfl) | (refine congrArg (fun z_ => Ending.returned (Value.bool z_)) (decide_eq_decide.mpr ?_); unfold wrap64; omega) | (simp [*, errW_none, errW_some] <;> rfl), HB.out⟩
            ·rw [if_neg c71] at H
             exact absurd H (by simp)
           ·rw [if_neg c69] at H
            exact absurd H (by simp)
          ·rw [if_neg c67] at H
           exact absurd H (by simp)
         ·rw [if_neg c65] at H
          exact absurd H (by simp)
        ·rw [if_neg c60] at H
         exact absurd H (by simp)
       ·rw [if_neg c55] at H
        have c55b0 : decide (t1164 < 0) = false := decide_eq_false c55
        clear c55
        obtain ⟨⟨t1196, t1197⟩, A1240, H⟩ := Option.bind_eq_some_iff.mp H
        try dsimp only at H
        have A124 := Aside0.mk A1240
        clear A1240
        obtain ⟨⟨t1200, t1201⟩, A1250, H⟩ := Option.bind_eq_some_iff.mp H
        try dsimp only at H
        have A125 := Aside0.mk A1250
        clear A1250
        obtain ⟨t1205, A1260, H⟩ := Option.bind_eq_some_iff.mp H
        try dsimp only at H
        have A126 := Aside0.mk A1260
        clear A1260
        by_cases c127 : t1205 < 0
        ·rw [if_pos c127] at H
         exact absurd H (by simp)
        ·rw [if_neg c127] at H
         have c127b0 : decide (t1205 < 0) = false := decide_eq_false c127
         clear c127
         obtain ⟨⟨t1206, t1207⟩, A1280, H⟩ := Option.bind_eq_some_iff.mp H
         try dsimp only at H
         have A128 := Aside0.mk A1280
         clear A1280
         obtain ⟨⟨t1210, t1211⟩, A1290, H⟩ := Option.bind_eq_some_iff.mp H
         try dsimp only at H
         have A129 := Aside0.mk A1290
         clear A1290
         obtain ⟨t1214, A1300, H⟩ := Option.bind_eq_some_iff.mp H
         try dsimp only at H
         have A130 := Aside0.mk A1300
         clear A1300
         by_cases c131 : t1214 = 0
         ·rw [if_pos c131] at H
          have c131b0 : (t1214 == 0) = true := beq_iff_eq.mpr c131
          have c131b1 : (t1214 != 0) = false := bne_eq_false_iff_eq.mpr c131
          clear c131
          obtain ⟨t1215, A1320, H⟩ := Option.bind_eq_some_iff.mp H
          try dsimp only at H
          have A132 := Aside0.mk A1320
          clear A1320
          by_cases c133 : t1215 ≥ 0
          ·rw [if_pos c133] at H
           have c133b0 : decide (0 ≤ t1215) = true := decide_eq_true c133
           clear c133
           obtain ⟨t1216, A1340, H⟩ := Option.bind_eq_some_iff.mp H
           try dsimp only at H
           have A134 := Aside0.mk A1340
           clear A1340
           by_cases c135 : t1216 < 0
           ·rw [if_pos c135] at H
            have c135b0 : decide (t1216 < 0) = true := decide_eq_true c135
            clear c135
            obtain ⟨t1217, A1360, H⟩ := Option.bind_eq_some_iff.mp H
            try dsimp only at H
            have A136 := Aside0.mk A1360
            clear A1360
            by_cases c137 : t1217 ≥ 0
            ·rw [if_pos c137] at H
             have c137b0 : decide (0 ≤ t1217) = true := decide_eq_true c137
             clear c137
             obtain ⟨t1218, A1380, H⟩ := Option.bind_eq_some_iff.mp H
             try dsimp only at H
             have A138 := Aside0.mk A1380
             clear A1380
             obtain rfl := Option.some.inj H
             have hnb139 := NB1142_1141.out
             have hnc139 := NB1141_1142.out
             have hnb140 := NB1142_1154.out
             have hnc140 := NB1154_1142.out
             have hnb141 := NB1142_1155.out
             have hnc141 := NB1155_1142.out
             have hnb142 := NB1142_1161.out
             have hnc142 := NB1161_1142.out
             have hcz143_0 : wc.cell? ⟨gb1142, 0, none⟩ = some (.bool a1_0) := bc0 BK1142.out
             have hcz143_1 : wc.cell? ⟨gb1142, 1, none⟩ = some (.slice A1_1 l1_1.length c1_1) := bc1 BK1142.out
             have hfz143_0 := blk_frozen BK1142.out 0
             have hfz143_1 := blk_frozen BK1142.out 1
             try go_wp2_with (first | ((with_reducible refine gate_dst (N := 12) rfl ?_); refine box_event ?hg (N := 12) ?hd (cs := #[.bool false, .slice none 0 0]) (t := 24) ?hr ?_; (case hd => rfl); (case hg => rfl); (case hr => first | (go_simp; done) | (go_simp; rfl)); intro gb1163 hg w144 hbox hb; replace HO_1155001 := Aside0.mk (Kd.R_below HO_1155001.out hb); replace HO_1156001 := Aside0.mk (Kd.R_below HO_1156001.out hb); replace HO_1162001 := Aside0.mk (Kd.R_below HO_1162001.out hb); have BK1163 := Aside0.mk (hbox); have GW1163 := Aside0.mk (bxLe HB.out hg); have GE1163 := GW1163; replace HB := Aside0.mk (below_step HB.out hb); have NB1141_1163 := Aside0.mk (neL BK1141.out hg); have NB1163_1141 := Aside0.mk (neR BK1141.out hg); replace BK1141 := Aside0.mk (blk_below BK1141.out hb); have NB1142_1163 := Aside0.mk (neL BK1142.out hg); have NB1163_1142 := Aside0.mk (neR BK1142.out hg); replace BK1142 := Aside0.mk (blk_below BK1142.out hb); have NB1154_1163 := Aside0.mk (neL BK1154.out hg); have NB1163_1154 := Aside0.mk (neR BK1154.out hg); replace BK1154 := Aside0.mk (blk_below BK1154.out hb); have NB1155_1163 := Aside0.mk (neL BK1155.out hg); have NB1163_1155 := Aside0.mk (neR BK1155.out hg); replace BK1155 := Aside0.mk (blk_below BK1155.out hb); have NB1161_1163 := Aside0.mk (neL BK1161.out hg); have NB1163_1161 := Aside0.mk (neR BK1161.out hg); replace BK1161 := Aside0.mk (blk_below BK1161.out hb); clear hb hbox hg; have hnb145 := NB1163_1141.out; have hnc145 := NB1141_1163.out; have hnb146 := NB1163_1142.out; have hnc146 := NB1142_1163.out; have hnb147 := NB1163_1154.out; have hnc147 := NB1154_1163.out; have hnb148 := NB1163_1155.out; have hnc148 := NB1155_1163.out; have hnb149 := NB1163_1161.out; have hnc149 := NB1161_1163.out; have hcz150_0 : w144.cell? ⟨gb1163, 0, none⟩ = some (.bool false) := bc0 BK1163.out; have hcz150_1 : w144.cell? ⟨gb1163, 1, none⟩ = some (.slice none 0 0) := bc1 BK1163.out; have hfz150_0 := blk_frozen BK1163.out 0; have hfz150_1 := blk_frozen BK1163.out 1; have hcz151_0 : w144.cell? ⟨gb1142, 0, none⟩ = some (.bool a1_0) := bc0 BK1142.out; have hcz151_1 : w144.cell? ⟨gb1142, 1, none⟩ = some (.slice A1_1 l1_1.length c1_1) := bc1 BK1142.out; have hfz151_0 := blk_frozen BK1142.out 0; have hfz151_1 := blk_frozen BK1142.out 1) | ((with_reducible refine gate_callee (f := 28) rfl ?_); refine goL (some 57) Tryd.func28 [.agg #[.bool a1_0, .slice A1_1 l1_1.length c1_1]] ?_; (with_reducible refine (whole_Sign.calls a1_0 _ _ l1_1 t1164 _ ?side1 ?side2 A54.out).mono ?_); (case side1 => exact Kd.C_below HR1_1.out (by repeat first | exact HB.out | refine bxSet ?_ (by assumption) | apply below_alloc | apply pw_below_drewN)); (case side2 => exact HC1_1.out); rintro e w152 ⟨rfl, hb⟩; refine ⟨_, rfl, ?_⟩; replace HO_1155001 := Aside0.mk (Kd.R_below (Kd.R_mono (Kd.R_far (p := ⟨gb1163, 1, none⟩) (Kd.R_far (p := ⟨gb1163, 0, none⟩) (Kd.R_types HO_1155001.out BK1163.out (by decide)) (fun _ hk => hk.2) (.bool a1_0)) (fun _ hk => hk.2) (.slice A1_1 l1_1.length c1_1)) (fun _ h_ => h_.1)) hb); replace HO_1156001 := Aside0.mk (Kd.R_below (Kd.R_mono (Kd.R_far (p := ⟨gb1163, 1, none⟩) (Kd.R_far (p := ⟨gb1163, 0, none⟩) (Kd.R_types HO_1156001.out BK1163.out (by decide)) (fun _ hk => hk.2) (.bool a1_0)) (fun _ hk => hk.2) (.slice A1_1 l1_1.length c1_1)) (fun _ h_ => h_.1)) hb); replace HO_1162001 := Aside0.mk (Kd.R_below (Kd.R_mono (Kd.R_far (p := ⟨gb1163, 1, none⟩) (Kd.R_far (p := ⟨gb1163, 0, none⟩) (Kd.R_types HO_1162001.out BK1163.out (by decide)) (fun _ hk => hk.2) (.bool a1_0)) (fun _ hk => hk.2) (.slice A1_1 l1_1.length c1_1)) (fun _ h_ => h_.1)) hb); replace BK1141 := Aside0.mk (blk_below (g := gb1141) (o := .cells #[.bool a0_0, .slice A0_1 l0_1.length c0_1] 24 (0, 0)) (by refine blk_far ?_ NB1141_1163.out _; refine blk_far ?_ NB1141_1163.out _; exact BK1141.out) hb); replace BK1142 := Aside0.mk (blk_below (g := gb1142) (o := .cells #[.bool a1_0, .slice A1_1 l1_1.length c1_1] 24 (0, 0)) (by refine blk_far ?_ NB1142_1163.out _; refine blk_far ?_ NB1142_1163.out _; exact BK1142.out) hb); replace BK1154 := Aside0.mk (blk_below (g := gb1154) (o := .cells #[.bool t1145, .slice Ao28 t1146.length co28] 24 (0, 0)) (by refine blk_far ?_ NB1154_1163.out _; refine blk_far ?_ NB1154_1163.out _; exact BK1154.out) hb); replace BK1155 := Aside0.mk (blk_below (g := gb1155) (o := .cells #[.bool t1149, .slice Ao32 t1150.length co32] 24 (0, 0)) (by refine blk_far ?_ NB1155_1163.out _; refine blk_far ?_ NB1155_1163.out _; exact BK1155.out) hb); replace BK1161 := Aside0.mk (blk_below (g := gb1161) (o := .cells #[.bool t1156, .slice Ao42 t1157.length co42] 24 (0, 0)) (by refine blk_far ?_ NB1161_1163.out _; refine blk_far ?_ NB1161_1163.out _; exact BK1161.out) hb); replace BK1163 := Aside0.mk (blk_below (g := gb1163) (o := .cells #[.bool a1_0, .slice A1_1 l1_1.length c1_1] 24 (0, 0)) (by refine blk_put (cs := #[.bool a1_0, .slice none 0 0]) ?_ 1 _ rfl; refine blk_put (cs := #[.bool false, .slice none 0 0]) ?_ 0 _ rfl; exact BK1163.out) hb); replace HB := Aside0.mk (below_step (by repeat first | exact HB.out | refine bxSet ?_ (by assumption) | apply below_alloc | apply pw_below_drewN) hb); (try clear hb); (try clear hb2); (try clear hk); (try clear hi)))
             replace HO_1155001 := Aside0.mk (Kd.R_drew HO_1155001.out)
             replace HO_1156001 := Aside0.mk (Kd.R_drew HO_1156001.out)
             replace HO_1162001 := Aside0.mk (Kd.R_drew HO_1162001.out)
             replace BK1141 := Aside0.mk (blk_drew BK1141.out)
             replace BK1142 := Aside0.mk (blk_drew BK1142.out)
             replace BK1154 := Aside0.mk (blk_drew BK1154.out)
             replace BK1155 := Aside0.mk (blk_drew BK1155.out)
             replace BK1161 := Aside0.mk (blk_drew BK1161.out)
             replace BK1163 := Aside0.mk (blk_drew BK1163.out)
             replace HB := Aside0.mk (below_drew1 HB.out)
             refine start_ (n := 7) (S := fun w' => w'.cell? ⟨gb1141, 0, none⟩ = some (.bool a0_0) ∧ w'.cell? ⟨gb1141, 1, none⟩ = some (.slice A0_1 l0_1.length c0_1) ∧ w'.cell? ⟨gb1161, 0, none⟩ = some (.bool t1156) ∧ w'.cell? ⟨gb1161, 1, none⟩ = some (.slice Ao42 t1157.length co42) ∧ w'.cell? ⟨gb1142, 0, none⟩ = some (.bool a1_0) ∧ w'.cell? ⟨gb1142, 1, none⟩ = some (.slice A1_1 l1_1.length c1_1)) (ds := []) #[false, false, false, false, false, false, false] (by kernel_rfl) rfl rfl ⟨bc0 BK1141.out, bc1 BK1141.out, bc0 BK1161.out, bc1 BK1161.out, bc0 BK1142.out, bc1 BK1142.out⟩ (fun hHeld => ?_)
             generalize w152.drew = w153 at HO_1155001 HO_1156001 HO_1162001 BK1141 BK1142 BK1154 BK1155 BK1161 BK1163 HB hHeld ⊢
             refine take_ (i := 0) (N := some 61) (v := ?_) (a' := ?_) #[true, false, false, false, false, false, false] rfl rfl (by kernel_rfl) (fun _ _ _ h => h) (Or.inl ⟨by rfl, ?_⟩) hHeld ?_ ?_
             rotate_left
             ·rintro w' ⟨s0, s1, s2, s3, s4, s5⟩
              go_simp
              with_reducible rfl
             rotate_left
             ·simp only [Act.put, List.setIfInBounds_toArray, List.set_cons_zero, List.set_cons_succ, i64_w, i32_w]
              rfl
             refine take_ (i := 1) (N := some 62) (v := ?_) (a' := ?_) #[true, true, false, false, false, false, false] rfl rfl (by kernel_rfl) (fun _ _ _ h => h) (Or.inl ⟨by rfl, ?_⟩) hHeld ?_ ?_
             rotate_left
             ·rintro w' ⟨s0, s1, s2, s3, s4, s5⟩
              go_simp
              with_reducible rfl
             rotate_left
             ·simp only [Act.put, List.setIfInBounds_toArray, List.set_cons_zero, List.set_cons_succ, i64_w, i32_w]
              rfl
             refine take_ (i := 2) (N := some 63) (v := ?_) (a' := ?_) #[true, true, true, false, false, false, false] rfl rfl (by kernel_rfl) (fun _ _ _ h => h) (Or.inl ⟨by rfl, ?_⟩) hHeld ?_ ?_
             rotate_left
             ·rintro w' ⟨s0, s1, s2, s3, s4, s5⟩
              go_simp
              with_reducible rfl
             rotate_left
             ·simp only [Act.put, List.setIfInBounds_toArray, List.set_cons_zero, List.set_cons_succ, i64_w, i32_w]
              rfl
             refine join_ (σ := Value × Value × Nat) 1 #[true, true, true, true, true, true, false] (fun s_ => [(64, .agg #[.bool t1196, s_.1]), (65, .agg #[.bool t1200, s_.2.1]), (13, .pointer (some ⟨s_.2.2, 0, none⟩))]) (fun s_ w' => (w'.cell? ⟨gb1141, 0, none⟩ = some (.bool a0_0) ∧ w'.cell? ⟨gb1141, 1, none⟩ = some (.slice A0_1 l0_1.length c0_1) ∧ w'.cell? ⟨gb1161, 0, none⟩ = some (.bool t1156) ∧ w'.cell? ⟨gb1161, 1, none⟩ = some (.slice Ao42 t1157.length co42) ∧ w'.cell? ⟨gb1142, 0, none⟩ = some (.bool a1_0) ∧ w'.cell? ⟨gb1142, 1, none⟩ = some (.slice A1_1 l1_1.length c1_1)) ∧ (Kd.R (Kd.int .u32) 51 w' w.heap.size (fun k_ => some k_ ≠ (s_.2.1 : Value).ownBlock ∧ some k_ ≠ (.slice Ao28 t1146.length co28 : Value).ownBlock ∧ some k_ ≠ (.slice Ao32 t1150.length co32 : Value).ownBlock ∧ some k_ ≠ (.slice Ao42 t1157.length co42 : Value).ownBlock) s_.1 t1197) ∧ (Kd.R (Kd.int .u32) 51 w' w.heap.size (fun k_ => some k_ ≠ (s_.1 : Value).ownBlock ∧ some k_ ≠ (.slice Ao28 t1146.length co28 : Value).ownBlock ∧ some k_ ≠ (.slice Ao32 t1150.length co32 : Value).ownBlock ∧ some k_ ≠ (.slice Ao42 t1157.length co42 : Value).ownBlock) s_.2.1 t1201) ∧ (Kd.R (Kd.int .u32) 51 w' w.heap.size (fun k_ => some k_ ≠ (s_.1 : Value).ownBlock ∧ some k_ ≠ (s_.2.1 : Value).ownBlock ∧ some k_ ≠ (.slice Ao32 t1150.length co32 : Value).ownBlock ∧ some k_ ≠ (.slice Ao42 t1157.length co42 : Value).ownBlock) (.slice Ao28 t1146.length co28) t1146) ∧ (Kd.R (Kd.int .u32) 51 w' w.heap.size (fun k_ => some k_ ≠ (s_.1 : Value).ownBlock ∧ some k_ ≠ (s_.2.1 : Value).ownBlock ∧ some k_ ≠ (.slice Ao28 t1146.length co28 : Value).ownBlock ∧ some k_ ≠ (.slice Ao42 t1157.length co42 : Value).ownBlock) (.slice Ao32 t1150.length co32) t1150) ∧ (Kd.R (Kd.int .u32) 51 w' w.heap.size (fun k_ => some k_ ≠ (s_.1 : Value).ownBlock ∧ some k_ ≠ (s_.2.1 : Value).ownBlock ∧ some k_ ≠ (.slice Ao28 t1146.length co28 : Value).ownBlock ∧ some k_ ≠ (.slice Ao32 t1150.length co32 : Value).ownBlock) (.slice Ao42 t1157.length co42) t1157) ∧ (w'.heap[gb1141]? = some (.cells #[.bool a0_0, .slice A0_1 l0_1.length c0_1] 24 (0, 0))) ∧ (w'.heap[gb1142]? = some (.cells #[.bool a1_0, .slice A1_1 l1_1.length c1_1] 24 (0, 0))) ∧ (w'.heap[gb1154]? = some (.cells #[.bool t1145, .slice Ao28 t1146.length co28] 24 (0, 0))) ∧ (w'.heap[gb1155]? = some (.cells #[.bool t1149, .slice Ao32 t1150.length co32] 24 (0, 0))) ∧ (w'.heap[gb1161]? = some (.cells #[.bool t1156, .slice Ao42 t1157.length co42] 24 (0, 0))) ∧ (w'.heap[gb1163]? = some (.cells #[.bool a1_0, .slice A1_1 l1_1.length c1_1] 24 (0, 0))) ∧ (w'.heap[s_.2.2]? = some (.cells #[.bool false, .slice none 0 0] 24 (0, 0))) ∧ (w.heap.size ≤ s_.2.2) ∧ (w.heap.size ≤ s_.2.2) ∧ (gb1141 ≠ s_.2.2) ∧ (s_.2.2 ≠ gb1141) ∧ (gb1142 ≠ s_.2.2) ∧ (s_.2.2 ≠ gb1142) ∧ (gb1154 ≠ s_.2.2) ∧ (s_.2.2 ≠ gb1154) ∧ (gb1155 ≠ s_.2.2) ∧ (s_.2.2 ≠ gb1155) ∧ (gb1161 ≠ s_.2.2) ∧ (s_.2.2 ≠ gb1161) ∧ (gb1163 ≠ s_.2.2) ∧ (s_.2.2 ≠ gb1163) ∧ (Below w.heap.size w w')) ?_ ?_
             rotate_left
             ·intro hCont
              refine two_ (i := 3) (j := 5) (Ni := some 64) (Nj := some 13) #[true, true, true, true, false, false, false] #[true, true, true, false, false, true, false] rfl rfl rfl rfl (by kernel_rfl) (by decide) (by decide) (fun K hK => ?_) (fun K hK => ?_)
              ·skip
               refine goR Tryd.func24 [.agg #[.bool t1156, .slice Ao42 t1157.length co42], .agg #[.bool a1_0, .slice A1_1 l1_1.length c1_1]] ?_
               with_reducible refine (whole_Mul.calls kj16 t1156 _ _ t1157 a1_0 _ _ l1_1 t1196 t1197 _ ?side1 ?side2 ?side3 ?side4 A124.out).mono ?_
               (case side1 => exact (Kd.R_reads' HO_1162001.out).2.2)
               (case side2 => exact (Kd.R_reads' HO_1162001.out).2.1)
               (case side3 => exact (Kd.C_below HR1_1.out HB.out))
               (case side4 => exact HC1_1.out)
               rintro e w154 ⟨v1198, rfl, ho0, hb⟩
               refine ⟨_, rfl, ?_⟩
               have HO1199 := Aside0.mk (Kd.R_lower (Kd.R_new' (Kd.R_new' (Kd.R_new' ho0 (Kd.R_lt HO_1155001.out)) (Kd.R_lt HO_1156001.out)) (Kd.R_lt HO_1162001.out)) (below_size HB.out))
               replace HO_1155001 := Aside0.mk (Kd.R_elder' HO_1155001.out (Kd.R_base ho0) hb)
               replace HO_1156001 := Aside0.mk (Kd.R_elder' HO_1156001.out (Kd.R_base ho0) hb)
               replace HO_1162001 := Aside0.mk (Kd.R_elder' HO_1162001.out (Kd.R_base ho0) hb)
               replace BK1141 := Aside0.mk (blk_below BK1141.out hb)
               replace BK1142 := Aside0.mk (blk_below BK1142.out hb)
               replace BK1154 := Aside0.mk (blk_below BK1154.out hb)
               replace BK1155 := Aside0.mk (blk_below BK1155.out hb)
               replace BK1161 := Aside0.mk (blk_below BK1161.out hb)
               replace BK1163 := Aside0.mk (blk_below BK1163.out hb)
               replace HB := Aside0.mk (below_step HB.out hb)
               (try clear hb)
               (try clear hb2)
               (try clear hk)
               (try clear hi)
               (try clear ho0)
               obtain ⟨Ao155, co155, eo155⟩ := Kd.R_slice HO1199.out
               subst eo155
               refine hK.out _ _ ⟨bc0 BK1141.out, bc1 BK1141.out, bc0 BK1161.out, bc1 BK1161.out, bc0 BK1142.out, bc1 BK1142.out⟩ (fun hHeld => ?_)
               clear hK K
               refine norm_ (a' := ?_) ?_ ?_
               rotate_left
               ·show Act.put _ (some 64) _ = _
                simp only [Act.put, List.setIfInBounds_toArray, List.set_cons_zero, List.set_cons_succ, i64_w, i32_w]
                rfl
               refine two_ (i := 4) (j := 5) (Ni := some 65) (Nj := some 13) #[true, true, true, true, true, false, false] #[true, true, true, true, false, true, false] rfl rfl rfl rfl (by kernel_rfl) (by decide) (by decide) (fun K hK => ?_) (fun K hK => ?_)
               ·skip
                refine goR Tryd.func22 [.agg #[.bool a0_0, .slice A0_1 l0_1.length c0_1], .agg #[.bool t1196, .slice Ao155 t1197.length co155]] ?_
                with_reducible refine (whole_Sub.calls kj16 a0_0 _ _ l0_1 t1196 _ _ t1197 t1200 t1201 _ ?side1 ?side2 ?side3 ?side4 A125.out).mono ?_
                (case side1 => exact (Kd.C_below HR0_1.out HB.out))
                (case side2 => exact HC0_1.out)
                (case side3 => exact (Kd.R_reads' HO1199.out).2.2)
                (case side4 => exact (Kd.R_reads' HO1199.out).2.1)
                rintro e w156 ⟨v1202, rfl, ho0, hb⟩
                refine ⟨_, rfl, ?_⟩
                have HO1203 := Aside0.mk (Kd.R_lower (Kd.R_new' (Kd.R_new' (Kd.R_new' (Kd.R_new' ho0 (Kd.R_lt HO_1155001.out)) (Kd.R_lt HO_1156001.out)) (Kd.R_lt HO_1162001.out)) (Kd.R_lt HO1199.out)) (below_size HB.out))
                replace HO_1155001 := Aside0.mk (Kd.R_elder' HO_1155001.out (Kd.R_base ho0) hb)
                replace HO_1156001 := Aside0.mk (Kd.R_elder' HO_1156001.out (Kd.R_base ho0) hb)
                replace HO_1162001 := Aside0.mk (Kd.R_elder' HO_1162001.out (Kd.R_base ho0) hb)
                replace HO1199 := Aside0.mk (Kd.R_elder' HO1199.out (Kd.R_base ho0) hb)
                replace BK1141 := Aside0.mk (blk_below BK1141.out hb)
                replace BK1142 := Aside0.mk (blk_below BK1142.out hb)
                replace BK1154 := Aside0.mk (blk_below BK1154.out hb)
                replace BK1155 := Aside0.mk (blk_below BK1155.out hb)
                replace BK1161 := Aside0.mk (blk_below BK1161.out hb)
                replace BK1163 := Aside0.mk (blk_below BK1163.out hb)
                replace HB := Aside0.mk (below_step HB.out hb)
                (try clear hb)
                (try clear hb2)
                (try clear hk)
                (try clear hi)
                (try clear ho0)
                refine hK.out _ _ ⟨bc0 BK1141.out, bc1 BK1141.out, bc0 BK1161.out, bc1 BK1161.out, bc0 BK1142.out, bc1 BK1142.out⟩ (fun hHeld => ?_)
                clear hK K
                refine norm_ (a' := ?_) ?_ ?_
                rotate_left
                ·show Act.put _ (some 65) _ = _
                 simp only [Act.put, List.setIfInBounds_toArray, List.set_cons_zero, List.set_cons_succ, i64_w, i32_w]
                 rfl
                refine one_ (i := 5) (N := some 13) #[true, true, true, true, true, true, false] rfl rfl (by kernel_rfl) (by decide) (fun K hK => ?_)
                refine box_step ?hg (N := 13) ?hd (cs := #[.bool false, .slice none 0 0]) (t := 24) ?hr ?_; (case hd => rfl); (case hg => rfl); (case hr => first | (go_simp; done) | (go_simp; rfl))
                intro gb1204 hg w157 hbox hb
                replace HO_1155001 := Aside0.mk (Kd.R_below HO_1155001.out hb)
                replace HO_1156001 := Aside0.mk (Kd.R_below HO_1156001.out hb)
                replace HO_1162001 := Aside0.mk (Kd.R_below HO_1162001.out hb)
                replace HO1199 := Aside0.mk (Kd.R_below HO1199.out hb)
                replace HO1203 := Aside0.mk (Kd.R_below HO1203.out hb)
                have BK1204 := Aside0.mk (hbox)
                have GW1204 := Aside0.mk (bxLe HB.out hg)
                have GE1204 := GW1204
                replace HB := Aside0.mk (below_step HB.out hb)
                have NB1141_1204 := Aside0.mk (neL BK1141.out hg)
                have NB1204_1141 := Aside0.mk (neR BK1141.out hg)
                replace BK1141 := Aside0.mk (blk_below BK1141.out hb)
                have NB1142_1204 := Aside0.mk (neL BK1142.out hg)
                have NB1204_1142 := Aside0.mk (neR BK1142.out hg)
                replace BK1142 := Aside0.mk (blk_below BK1142.out hb)
                have NB1154_1204 := Aside0.mk (neL BK1154.out hg)
                have NB1204_1154 := Aside0.mk (neR BK1154.out hg)
                replace BK1154 := Aside0.mk (blk_below BK1154.out hb)
                have NB1155_1204 := Aside0.mk (neL BK1155.out hg)
                have NB1204_1155 := Aside0.mk (neR BK1155.out hg)
                replace BK1155 := Aside0.mk (blk_below BK1155.out hb)
                have NB1161_1204 := Aside0.mk (neL BK1161.out hg)
                have NB1204_1161 := Aside0.mk (neR BK1161.out hg)
                replace BK1161 := Aside0.mk (blk_below BK1161.out hb)
                have NB1163_1204 := Aside0.mk (neL BK1163.out hg)
                have NB1204_1163 := Aside0.mk (neR BK1163.out hg)
                replace BK1163 := Aside0.mk (blk_below BK1163.out hb)
                clear hb hbox hg
                refine hK.out _ _ ⟨bc0 BK1141.out, bc1 BK1141.out, bc0 BK1161.out, bc1 BK1161.out, bc0 BK1142.out, bc1 BK1142.out⟩ (fun hHeld => ?_)
                clear hK K
                refine norm_ (a' := ?_) ?_ ?_
                rotate_left
                ·show Act.put _ (some 13) _ = _
                 simp only [Act.put, List.setIfInBounds_toArray, List.set_cons_zero, List.set_cons_succ, i64_w, i32_w]
                 rfl
                exact norm_ (by simp only [putAll, Act.put, List.setIfInBounds_toArray, List.set_cons_zero, List.set_cons_succ]) (hCont (.slice Ao155 t1197.length co155, v1202, gb1204) _ ⟨hHeld, (Kd.R_mono HO1199.out (fun _ hk => ⟨hk.2, ⟨hk.1.1.1.2, ⟨hk.1.1.2, hk.1.2⟩⟩⟩)), (Kd.R_mono HO1203.out (fun _ hk => ⟨hk.2, ⟨hk.1.1.1.2, ⟨hk.1.1.2, hk.1.2⟩⟩⟩)), (Kd.R_mono HO_1155001.out (fun _ hk => ⟨hk.1.2, ⟨hk.2, ⟨hk.1.1.1, hk.1.1.2⟩⟩⟩)), (Kd.R_mono HO_1156001.out (fun _ hk => ⟨hk.1.2, ⟨hk.2, ⟨hk.1.1.1, hk.1.1.2⟩⟩⟩)), (Kd.R_mono HO_1162001.out (fun _ hk => ⟨hk.1.2, ⟨hk.2, ⟨hk.1.1.1, hk.1.1.2⟩⟩⟩)), BK1141.out, BK1142.out, BK1154.out, BK1155.out, BK1161.out, BK1163.out, BK1204.out, GW1204.out, GE1204.out, NB1141_1204.out, NB1204_1141.out, NB1142_1204.out, NB1204_1142.out, NB1154_1204.out, NB1204_1154.out, NB1155_1204.out, NB1204_1155.out, NB1161_1204.out, NB1204_1161.out, NB1163_1204.out, NB1204_1163.out, HB.out⟩)
               ·skip
                refine box_step ?hg (N := 13) ?hd (cs := #[.bool false, .slice none 0 0]) (t := 24) ?hr ?_; (case hd => rfl); (case hg => rfl); (case hr => first | (go_simp; done) | (go_simp; rfl))
                intro gb1204 hg w155 hbox hb
                replace HO_1155001 := Aside0.mk (Kd.R_below HO_1155001.out hb)
                replace HO_1156001 := Aside0.mk (Kd.R_below HO_1156001.out hb)
                replace HO_1162001 := Aside0.mk (Kd.R_below HO_1162001.out hb)
                replace HO1199 := Aside0.mk (Kd.R_below HO1199.out hb)
                have BK1204 := Aside0.mk (hbox)
                have GW1204 := Aside0.mk (bxLe HB.out hg)
                have GE1204 := GW1204
                replace HB := Aside0.mk (below_step HB.out hb)
                have NB1141_1204 := Aside0.mk (neL BK1141.out hg)
                have NB1204_1141 := Aside0.mk (neR BK1141.out hg)
                replace BK1141 := Aside0.mk (blk_below BK1141.out hb)
                have NB1142_1204 := Aside0.mk (neL BK1142.out hg)
                have NB1204_1142 := Aside0.mk (neR BK1142.out hg)
                replace BK1142 := Aside0.mk (blk_below BK1142.out hb)
                have NB1154_1204 := Aside0.mk (neL BK1154.out hg)
                have NB1204_1154 := Aside0.mk (neR BK1154.out hg)
                replace BK1154 := Aside0.mk (blk_below BK1154.out hb)
                have NB1155_1204 := Aside0.mk (neL BK1155.out hg)
                have NB1204_1155 := Aside0.mk (neR BK1155.out hg)
                replace BK1155 := Aside0.mk (blk_below BK1155.out hb)
                have NB1161_1204 := Aside0.mk (neL BK1161.out hg)
                have NB1204_1161 := Aside0.mk (neR BK1161.out hg)
                replace BK1161 := Aside0.mk (blk_below BK1161.out hb)
                have NB1163_1204 := Aside0.mk (neL BK1163.out hg)
                have NB1204_1163 := Aside0.mk (neR BK1163.out hg)
                replace BK1163 := Aside0.mk (blk_below BK1163.out hb)
                clear hb hbox hg
                obtain ⟨Ao156, co156, eo156⟩ := Kd.R_slice HO1199.out
                (first | subst eo156 | (injection eo156 with f1_ f2_ f3_; have f4_ := f1_.symm; have f5_ := f3_.symm; clear f1_ f2_ f3_; subst f4_; subst f5_))
                refine hK.out _ _ ⟨bc0 BK1141.out, bc1 BK1141.out, bc0 BK1161.out, bc1 BK1161.out, bc0 BK1142.out, bc1 BK1142.out⟩ (fun hHeld => ?_)
                clear hK K
                refine norm_ (a' := ?_) ?_ ?_
                rotate_left
                ·show Act.put _ (some 13) _ = _
                 simp only [Act.put, List.setIfInBounds_toArray, List.set_cons_zero, List.set_cons_succ, i64_w, i32_w]
                 rfl
                refine one_ (i := 4) (N := some 65) #[true, true, true, true, true, true, false] rfl rfl (by kernel_rfl) (by decide) (fun K hK => ?_)
                refine goR Tryd.func22 [.agg #[.bool a0_0, .slice A0_1 l0_1.length c0_1], .agg #[.bool t1196, .slice Ao156 t1197.length co156]] ?_
                with_reducible refine (whole_Sub.calls kj16 a0_0 _ _ l0_1 t1196 _ _ t1197 t1200 t1201 _ ?side1 ?side2 ?side3 ?side4 A125.out).mono ?_
                (case side1 => exact (Kd.C_below HR0_1.out HB.out))
                (case side2 => exact HC0_1.out)
                (case side3 => exact (Kd.R_reads' HO1199.out).2.2)
                (case side4 => exact (Kd.R_reads' HO1199.out).2.1)
                rintro e w157 ⟨v1202, rfl, ho0, hb⟩
                refine ⟨_, rfl, ?_⟩
                have HO1203 := Aside0.mk (Kd.R_lower (Kd.R_new' (Kd.R_new' (Kd.R_new' (Kd.R_new' ho0 (Kd.R_lt HO_1155001.out)) (Kd.R_lt HO_1156001.out)) (Kd.R_lt HO_1162001.out)) (Kd.R_lt HO1199.out)) (below_size HB.out))
                replace HO_1155001 := Aside0.mk (Kd.R_elder' HO_1155001.out (Kd.R_base ho0) hb)
                replace HO_1156001 := Aside0.mk (Kd.R_elder' HO_1156001.out (Kd.R_base ho0) hb)
                replace HO_1162001 := Aside0.mk (Kd.R_elder' HO_1162001.out (Kd.R_base ho0) hb)
                replace HO1199 := Aside0.mk (Kd.R_elder' HO1199.out (Kd.R_base ho0) hb)
                replace BK1141 := Aside0.mk (blk_below BK1141.out hb)
                replace BK1142 := Aside0.mk (blk_below BK1142.out hb)
                replace BK1154 := Aside0.mk (blk_below BK1154.out hb)
                replace BK1155 := Aside0.mk (blk_below BK1155.out hb)
                replace BK1161 := Aside0.mk (blk_below BK1161.out hb)
                replace BK1163 := Aside0.mk (blk_below BK1163.out hb)
                replace BK1204 := Aside0.mk (blk_below BK1204.out hb)
                replace HB := Aside0.mk (below_step HB.out hb)
                (try clear hb)
                (try clear hb2)
                (try clear hk)
                (try clear hi)
                (try clear ho0)
                refine hK.out _ _ ⟨bc0 BK1141.out, bc1 BK1141.out, bc0 BK1161.out, bc1 BK1161.out, bc0 BK1142.out, bc1 BK1142.out⟩ (fun hHeld => ?_)
                clear hK K
                refine norm_ (a' := ?_) ?_ ?_
                rotate_left
                ·show Act.put _ (some 65) _ = _
                 simp only [Act.put, List.setIfInBounds_toArray, List.set_cons_zero, List.set_cons_succ, i64_w, i32_w]
                 rfl
                exact norm_ (by simp only [putAll, Act.put, List.setIfInBounds_toArray, List.set_cons_zero, List.set_cons_succ]) (hCont (.slice Ao156 t1197.length co156, v1202, gb1204) _ ⟨hHeld, (Kd.R_mono HO1199.out (fun _ hk => ⟨hk.2, ⟨hk.1.1.1.2, ⟨hk.1.1.2, hk.1.2⟩⟩⟩)), (Kd.R_mono HO1203.out (fun _ hk => ⟨hk.2, ⟨hk.1.1.1.2, ⟨hk.1.1.2, hk.1.2⟩⟩⟩)), (Kd.R_mono HO_1155001.out (fun _ hk => ⟨hk.1.2, ⟨hk.2, ⟨hk.1.1.1, hk.1.1.2⟩⟩⟩)), (Kd.R_mono HO_1156001.out (fun _ hk => ⟨hk.1.2, ⟨hk.2, ⟨hk.1.1.1, hk.1.1.2⟩⟩⟩)), (Kd.R_mono HO_1162001.out (fun _ hk => ⟨hk.1.2, ⟨hk.2, ⟨hk.1.1.1, hk.1.1.2⟩⟩⟩)), BK1141.out, BK1142.out, BK1154.out, BK1155.out, BK1161.out, BK1163.out, BK1204.out, GW1204.out, GE1204.out, NB1141_1204.out, NB1204_1141.out, NB1142_1204.out, NB1204_1142.out, NB1154_1204.out, NB1204_1154.out, NB1155_1204.out, NB1204_1155.out, NB1161_1204.out, NB1204_1161.out, NB1163_1204.out, NB1204_1163.out, HB.out⟩)
              ·skip
               refine box_step ?hg (N := 13) ?hd (cs := #[.bool false, .slice none 0 0]) (t := 24) ?hr ?_; (case hd => rfl); (case hg => rfl); (case hr => first | (go_simp; done) | (go_simp; rfl))
               intro gb1204 hg w154 hbox hb
               replace HO_1155001 := Aside0.mk (Kd.R_below HO_1155001.out hb)
               replace HO_1156001 := Aside0.mk (Kd.R_below HO_1156001.out hb)
               replace HO_1162001 := Aside0.mk (Kd.R_below HO_1162001.out hb)
               have BK1204 := Aside0.mk (hbox)
               have GW1204 := Aside0.mk (bxLe HB.out hg)
               have GE1204 := GW1204
               replace HB := Aside0.mk (below_step HB.out hb)
               have NB1141_1204 := Aside0.mk (neL BK1141.out hg)
               have NB1204_1141 := Aside0.mk (neR BK1141.out hg)
               replace BK1141 := Aside0.mk (blk_below BK1141.out hb)
               have NB1142_1204 := Aside0.mk (neL BK1142.out hg)
               have NB1204_1142 := Aside0.mk (neR BK1142.out hg)
               replace BK1142 := Aside0.mk (blk_below BK1142.out hb)
               have NB1154_1204 := Aside0.mk (neL BK1154.out hg)
               have NB1204_1154 := Aside0.mk (neR BK1154.out hg)
               replace BK1154 := Aside0.mk (blk_below BK1154.out hb)
               have NB1155_1204 := Aside0.mk (neL BK1155.out hg)
               have NB1204_1155 := Aside0.mk (neR BK1155.out hg)
               replace BK1155 := Aside0.mk (blk_below BK1155.out hb)
               have NB1161_1204 := Aside0.mk (neL BK1161.out hg)
               have NB1204_1161 := Aside0.mk (neR BK1161.out hg)
               replace BK1161 := Aside0.mk (blk_below BK1161.out hb)
               have NB1163_1204 := Aside0.mk (neL BK1163.out hg)
               have NB1204_1163 := Aside0.mk (neR BK1163.out hg)
               replace BK1163 := Aside0.mk (blk_below BK1163.out hb)
               clear hb hbox hg
               refine hK.out _ _ ⟨bc0 BK1141.out, bc1 BK1141.out, bc0 BK1161.out, bc1 BK1161.out, bc0 BK1142.out, bc1 BK1142.out⟩ (fun hHeld => ?_)
               clear hK K
               refine norm_ (a' := ?_) ?_ ?_
               rotate_left
               ·show Act.put _ (some 13) _ = _
                simp only [Act.put, List.setIfInBounds_toArray, List.set_cons_zero, List.set_cons_succ, i64_w, i32_w]
                rfl
               refine one_ (i := 3) (N := some 64) #[true, true, true, true, false, true, false] rfl rfl (by kernel_rfl) (by decide) (fun K hK => ?_)
               refine goR Tryd.func24 [.agg #[.bool t1156, .slice Ao42 t1157.length co42], .agg #[.bool a1_0, .slice A1_1 l1_1.length c1_1]] ?_
               with_reducible refine (whole_Mul.calls kj16 t1156 _ _ t1157 a1_0 _ _ l1_1 t1196 t1197 _ ?side1 ?side2 ?side3 ?side4 A124.out).mono ?_
               (case side1 => exact (Kd.R_reads' HO_1162001.out).2.2)
               (case side2 => exact (Kd.R_reads' HO_1162001.out).2.1)
               (case side3 => exact (Kd.C_below HR1_1.out HB.out))
               (case side4 => exact HC1_1.out)
               rintro e w155 ⟨v1198, rfl, ho0, hb⟩
               refine ⟨_, rfl, ?_⟩
               have HO1199 := Aside0.mk (Kd.R_lower (Kd.R_new' (Kd.R_new' (Kd.R_new' ho0 (Kd.R_lt HO_1155001.out)) (Kd.R_lt HO_1156001.out)) (Kd.R_lt HO_1162001.out)) (below_size HB.out))
               replace HO_1155001 := Aside0.mk (Kd.R_elder' HO_1155001.out (Kd.R_base ho0) hb)
               replace HO_1156001 := Aside0.mk (Kd.R_elder' HO_1156001.out (Kd.R_base ho0) hb)
               replace HO_1162001 := Aside0.mk (Kd.R_elder' HO_1162001.out (Kd.R_base ho0) hb)
               replace BK1141 := Aside0.mk (blk_below BK1141.out hb)
               replace BK1142 := Aside0.mk (blk_below BK1142.out hb)
               replace BK1154 := Aside0.mk (blk_below BK1154.out hb)
               replace BK1155 := Aside0.mk (blk_below BK1155.out hb)
               replace BK1161 := Aside0.mk (blk_below BK1161.out hb)
               replace BK1163 := Aside0.mk (blk_below BK1163.out hb)
               replace BK1204 := Aside0.mk (blk_below BK1204.out hb)
               replace HB := Aside0.mk (below_step HB.out hb)
               (try clear hb)
               (try clear hb2)
               (try clear hk)
               (try clear hi)
               (try clear ho0)
               obtain ⟨Ao156, co156, eo156⟩ := Kd.R_slice HO1199.out
               subst eo156
               refine hK.out _ _ ⟨bc0 BK1141.out, bc1 BK1141.out, bc0 BK1161.out, bc1 BK1161.out, bc0 BK1142.out, bc1 BK1142.out⟩ (fun hHeld => ?_)
               clear hK K
               refine norm_ (a' := ?_) ?_ ?_
               rotate_left
               ·show Act.put _ (some 64) _ = _
                simp only [Act.put, List.setIfInBounds_toArray, List.set_cons_zero, List.set_cons_succ, i64_w, i32_w]
                rfl
               refine one_ (i := 4) (N := some 65) #[true, true, true, true, true, true, false] rfl rfl (by kernel_rfl) (by decide) (fun K hK => ?_)
               refine goR Tryd.func22 [.agg #[.bool a0_0, .slice A0_1 l0_1.length c0_1], .agg #[.bool t1196, .slice Ao156 t1197.length co156]] ?_
               with_reducible refine (whole_Sub.calls kj16 a0_0 _ _ l0_1 t1196 _ _ t1197 t1200 t1201 _ ?side1 ?side2 ?side3 ?side4 A125.out).mono ?_
               (case side1 => exact (Kd.C_below HR0_1.out HB.out))
               (case side2 => exact HC0_1.out)
               (case side3 => exact (Kd.R_reads' HO1199.out).2.2)
               (case side4 => exact (Kd.R_reads' HO1199.out).2.1)
               rintro e w157 ⟨v1202, rfl, ho0, hb⟩
               refine ⟨_, rfl, ?_⟩
               have HO1203 := Aside0.mk (Kd.R_lower (Kd.R_new' (Kd.R_new' (Kd.R_new' (Kd.R_new' ho0 (Kd.R_lt HO_1155001.out)) (Kd.R_lt HO_1156001.out)) (Kd.R_lt HO_1162001.out)) (Kd.R_lt HO1199.out)) (below_size HB.out))
               replace HO_1155001 := Aside0.mk (Kd.R_elder' HO_1155001.out (Kd.R_base ho0) hb)
               replace HO_1156001 := Aside0.mk (Kd.R_elder' HO_1156001.out (Kd.R_base ho0) hb)
               replace HO_1162001 := Aside0.mk (Kd.R_elder' HO_1162001.out (Kd.R_base ho0) hb)
               replace HO1199 := Aside0.mk (Kd.R_elder' HO1199.out (Kd.R_base ho0) hb)
               replace BK1141 := Aside0.mk (blk_below BK1141.out hb)
               replace BK1142 := Aside0.mk (blk_below BK1142.out hb)
               replace BK1154 := Aside0.mk (blk_below BK1154.out hb)
               replace BK1155 := Aside0.mk (blk_below BK1155.out hb)
               replace BK1161 := Aside0.mk (blk_below BK1161.out hb)
               replace BK1163 := Aside0.mk (blk_below BK1163.out hb)
               replace BK1204 := Aside0.mk (blk_below BK1204.out hb)
               replace HB := Aside0.mk (below_step HB.out hb)
               (try clear hb)
               (try clear hb2)
               (try clear hk)
               (try clear hi)
               (try clear ho0)
               refine hK.out _ _ ⟨bc0 BK1141.out, bc1 BK1141.out, bc0 BK1161.out, bc1 BK1161.out, bc0 BK1142.out, bc1 BK1142.out⟩ (fun hHeld => ?_)
               clear hK K
               refine norm_ (a' := ?_) ?_ ?_
               rotate_left
               ·show Act.put _ (some 65) _ = _
                simp only [Act.put, List.setIfInBounds_toArray, List.set_cons_zero, List.set_cons_succ, i64_w, i32_w]
                rfl
               exact norm_ (by simp only [putAll, Act.put, List.setIfInBounds_toArray, List.set_cons_zero, List.set_cons_succ]) (hCont (.slice Ao156 t1197.length co156, v1202, gb1204) _ ⟨hHeld, (Kd.R_mono HO1199.out (fun _ hk => ⟨hk.2, ⟨hk.1.1.1.2, ⟨hk.1.1.2, hk.1.2⟩⟩⟩)), (Kd.R_mono HO1203.out (fun _ hk => ⟨hk.2, ⟨hk.1.1.1.2, ⟨hk.1.1.2, hk.1.2⟩⟩⟩)), (Kd.R_mono HO_1155001.out (fun _ hk => ⟨hk.1.2, ⟨hk.2, ⟨hk.1.1.1, hk.1.1.2⟩⟩⟩)), (Kd.R_mono HO_1156001.out (fun _ hk => ⟨hk.1.2, ⟨hk.2, ⟨hk.1.1.1, hk.1.1.2⟩⟩⟩)), (Kd.R_mono HO_1162001.out (fun _ hk => ⟨hk.1.2, ⟨hk.2, ⟨hk.1.1.1, hk.1.1.2⟩⟩⟩)), BK1141.out, BK1142.out, BK1154.out, BK1155.out, BK1161.out, BK1163.out, BK1204.out, GW1204.out, GE1204.out, NB1141_1204.out, NB1204_1141.out, NB1142_1204.out, NB1204_1142.out, NB1154_1204.out, NB1204_1154.out, NB1155_1204.out, NB1204_1155.out, NB1161_1204.out, NB1204_1161.out, NB1163_1204.out, NB1204_1163.out, HB.out⟩)
             rintro ⟨v1198, v1202, gb1204⟩ w158 ⟨hS_, h0_, h1_, h2_, h3_, h4_, h5_, h6_, h7_, h8_, h9_, h10_, h11_, h12_, h13_, h14_, h15_, h16_, h17_, h18_, h19_, h20_, h21_, h22_, h23_, h24_, h25_, h26_⟩
             have n0_ : Aside0 (Kd.R (Kd.int .u32) 51 w158 w.heap.size (fun k_ => some k_ ≠ (v1202 : Value).ownBlock ∧ some k_ ≠ (.slice Ao28 t1146.length co28 : Value).ownBlock ∧ some k_ ≠ (.slice Ao32 t1150.length co32 : Value).ownBlock ∧ some k_ ≠ (.slice Ao42 t1157.length co42 : Value).ownBlock) v1198 t1197) := ⟨h0_⟩
             have n1_ : Aside0 (Kd.R (Kd.int .u32) 51 w158 w.heap.size (fun k_ => some k_ ≠ (v1198 : Value).ownBlock ∧ some k_ ≠ (.slice Ao28 t1146.length co28 : Value).ownBlock ∧ some k_ ≠ (.slice Ao32 t1150.length co32 : Value).ownBlock ∧ some k_ ≠ (.slice Ao42 t1157.length co42 : Value).ownBlock) v1202 t1201) := ⟨h1_⟩
             have n2_ : Aside0 (Kd.R (Kd.int .u32) 51 w158 w.heap.size (fun k_ => some k_ ≠ (v1198 : Value).ownBlock ∧ some k_ ≠ (v1202 : Value).ownBlock ∧ some k_ ≠ (.slice Ao32 t1150.length co32 : Value).ownBlock ∧ some k_ ≠ (.slice Ao42 t1157.length co42 : Value).ownBlock) (.slice Ao28 t1146.length co28) t1146) := ⟨h2_⟩
             have n3_ : Aside0 (Kd.R (Kd.int .u32) 51 w158 w.heap.size (fun k_ => some k_ ≠ (v1198 : Value).ownBlock ∧ some k_ ≠ (v1202 : Value).ownBlock ∧ some k_ ≠ (.slice Ao28 t1146.length co28 : Value).ownBlock ∧ some k_ ≠ (.slice Ao42 t1157.length co42 : Value).ownBlock) (.slice Ao32 t1150.length co32) t1150) := ⟨h3_⟩
             have n4_ : Aside0 (Kd.R (Kd.int .u32) 51 w158 w.heap.size (fun k_ => some k_ ≠ (v1198 : Value).ownBlock ∧ some k_ ≠ (v1202 : Value).ownBlock ∧ some k_ ≠ (.slice Ao28 t1146.length co28 : Value).ownBlock ∧ some k_ ≠ (.slice Ao32 t1150.length co32 : Value).ownBlock) (.slice Ao42 t1157.length co42) t1157) := ⟨h4_⟩
             have n5_ : Aside0 (w158.heap[gb1141]? = some (.cells #[.bool a0_0, .slice A0_1 l0_1.length c0_1] 24 (0, 0))) := ⟨h5_⟩
             have n6_ : Aside0 (w158.heap[gb1142]? = some (.cells #[.bool a1_0, .slice A1_1 l1_1.length c1_1] 24 (0, 0))) := ⟨h6_⟩
             have n7_ : Aside0 (w158.heap[gb1154]? = some (.cells #[.bool t1145, .slice Ao28 t1146.length co28] 24 (0, 0))) := ⟨h7_⟩
             have n8_ : Aside0 (w158.heap[gb1155]? = some (.cells #[.bool t1149, .slice Ao32 t1150.length co32] 24 (0, 0))) := ⟨h8_⟩
             have n9_ : Aside0 (w158.heap[gb1161]? = some (.cells #[.bool t1156, .slice Ao42 t1157.length co42] 24 (0, 0))) := ⟨h9_⟩
             have n10_ : Aside0 (w158.heap[gb1163]? = some (.cells #[.bool a1_0, .slice A1_1 l1_1.length c1_1] 24 (0, 0))) := ⟨h10_⟩
             have n11_ : Aside0 (w158.heap[gb1204]? = some (.cells #[.bool false, .slice none 0 0] 24 (0, 0))) := ⟨h11_⟩
             have n12_ : Aside0 (w.heap.size ≤ gb1204) := ⟨h12_⟩
             have n13_ : Aside0 (w.heap.size ≤ gb1204) := ⟨h13_⟩
             have n14_ : Aside0 (gb1141 ≠ gb1204) := ⟨h14_⟩
             have n15_ : Aside0 (gb1204 ≠ gb1141) := ⟨h15_⟩
             have n16_ : Aside0 (gb1142 ≠ gb1204) := ⟨h16_⟩
             have n17_ : Aside0 (gb1204 ≠ gb1142) := ⟨h17_⟩
             have n18_ : Aside0 (gb1154 ≠ gb1204) := ⟨h18_⟩
             have n19_ : Aside0 (gb1204 ≠ gb1154) := ⟨h19_⟩
             have n20_ : Aside0 (gb1155 ≠ gb1204) := ⟨h20_⟩
             have n21_ : Aside0 (gb1204 ≠ gb1155) := ⟨h21_⟩
             have n22_ : Aside0 (gb1161 ≠ gb1204) := ⟨h22_⟩
             have n23_ : Aside0 (gb1204 ≠ gb1161) := ⟨h23_⟩
             have n24_ : Aside0 (gb1163 ≠ gb1204) := ⟨h24_⟩
             have n25_ : Aside0 (gb1204 ≠ gb1163) := ⟨h25_⟩
             have n26_ : Aside0 (Below w.heap.size w w158) := ⟨h26_⟩
             clear HO_1155001
             clear HO_1156001
             clear HO_1162001
             clear BK1141
             clear BK1142
             clear BK1154
             clear BK1155
             clear BK1161
             clear BK1163
             clear HB
             clear h0_ h1_ h2_ h3_ h4_ h5_ h6_ h7_ h8_ h9_ h10_ h11_ h12_ h13_ h14_ h15_ h16_ h17_ h18_ h19_ h20_ h21_ h22_ h23_ h24_ h25_ h26_
             have HO1199 := n0_
             have HO1203 := n1_
             have HO_1155001 := n2_
             have HO_1156001 := n3_
             have HO_1162001 := n4_
             have BK1141 := n5_
             have BK1142 := n6_
             have BK1154 := n7_
             have BK1155 := n8_
             have BK1161 := n9_
             have BK1163 := n10_
             have BK1204 := n11_
             have GW1204 := n12_
             have GE1204 := n13_
             have NB1141_1204 := n14_
             have NB1204_1141 := n15_
             have NB1142_1204 := n16_
             have NB1204_1142 := n17_
             have NB1154_1204 := n18_
             have NB1204_1154 := n19_
             have NB1155_1204 := n20_
             have NB1204_1155 := n21_
             have NB1161_1204 := n22_
             have NB1204_1161 := n23_
             have NB1163_1204 := n24_
             have NB1204_1163 := n25_
             have HB := n26_
             clear n0_ n1_ n2_ n3_ n4_ n5_ n6_ n7_ n8_ n9_ n10_ n11_ n12_ n13_ n14_ n15_ n16_ n17_ n18_ n19_ n20_ n21_ n22_ n23_ n24_ n25_ n26_
             have hHeld : w158.cell? ⟨gb1141, 0, none⟩ = some (.bool a0_0) ∧ w158.cell? ⟨gb1141, 1, none⟩ = some (.slice A0_1 l0_1.length c0_1) ∧ w158.cell? ⟨gb1161, 0, none⟩ = some (.bool t1156) ∧ w158.cell? ⟨gb1161, 1, none⟩ = some (.slice Ao42 t1157.length co42) ∧ w158.cell? ⟨gb1142, 0, none⟩ = some (.bool a1_0) ∧ w158.cell? ⟨gb1142, 1, none⟩ = some (.slice A1_1 l1_1.length c1_1) := hS_
             obtain ⟨Ao160, co160, eo160⟩ := Kd.R_slice HO1203.out
             subst eo160
             refine norm_ (a' := ?_) ?_ ?_
             rotate_left
             ·simp only [putAll, Act.put, List.setIfInBounds_toArray, List.set_cons_zero, List.set_cons_succ]
              rfl
             refine one_ (i := 6) (N := none) #[true, true, true, true, true, true, true] rfl rfl (by kernel_rfl) (by decide) (fun K hK => ?_)
             have hs159 : w158.cell? ⟨gb1204, 0, none⟩ = some (.bool false) := bc0 BK1204.out
             have hfs159 := blk_frozen BK1204.out 0
             have hns159_0 := NB1141_1204.out
             have hns159_1 := NB1142_1204.out
             have hns159_2 := NB1154_1204.out
             have hns159_3 := NB1155_1204.out
             have hns159_4 := NB1161_1204.out
             have hns159_5 := NB1163_1204.out
             have hms159_0 := NB1204_1141.out
             have hms159_1 := NB1204_1142.out
             have hms159_2 := NB1204_1154.out
             have hms159_3 := NB1204_1155.out
             have hms159_4 := NB1204_1161.out
             have hms159_5 := NB1204_1163.out
             have hs161 : w158.cell? ⟨gb1204, 1, none⟩ = some (.slice none 0 0) := bc1 BK1204.out
             have hfs161 := blk_frozen BK1204.out 1
             have hns161_0 := NB1141_1204.out
             have hns161_1 := NB1142_1204.out
             have hns161_2 := NB1154_1204.out
             have hns161_3 := NB1155_1204.out
             have hns161_4 := NB1161_1204.out
             have hns161_5 := NB1163_1204.out
             have hms161_0 := NB1204_1141.out
             have hms161_1 := NB1204_1142.out
             have hms161_2 := NB1204_1154.out
             have hms161_3 := NB1204_1155.out
             have hms161_4 := NB1204_1161.out
             have hms161_5 := NB1204_1163.out
             refine skip_ (w1 := ?_) (by rfl) rfl ?_ ?_
             rotate_left
             ·go_simp
              rfl
             refine hK.out _ _ ⟨((cell_far (p := ⟨gb1204, _, none⟩) NB1141_1204.out _).trans (((cell_far (p := ⟨gb1204, _, none⟩) NB1141_1204.out _).trans (hHeld.1)))), ((cell_far (p := ⟨gb1204, _, none⟩) NB1141_1204.out _).trans (((cell_far (p := ⟨gb1204, _, none⟩) NB1141_1204.out _).trans (hHeld.2.1)))), ((cell_far (p := ⟨gb1204, _, none⟩) NB1161_1204.out _).trans (((cell_far (p := ⟨gb1204, _, none⟩) NB1161_1204.out _).trans (hHeld.2.2.1)))), ((cell_far (p := ⟨gb1204, _, none⟩) NB1161_1204.out _).trans (((cell_far (p := ⟨gb1204, _, none⟩) NB1161_1204.out _).trans (hHeld.2.2.2.1)))), ((cell_far (p := ⟨gb1204, _, none⟩) NB1142_1204.out _).trans (((cell_far (p := ⟨gb1204, _, none⟩) NB1142_1204.out _).trans (hHeld.2.2.2.2.1)))), ((cell_far (p := ⟨gb1204, _, none⟩) NB1142_1204.out _).trans (((cell_far (p := ⟨gb1204, _, none⟩) NB1142_1204.out _).trans (hHeld.2.2.2.2.2))))⟩ (fun hHeld => ?_)
             clear hK K
             refine done_ (by kernel_rfl) ?_
             have hnb162 := NB1142_1204.out
             have hnc162 := NB1204_1142.out
             have hcz163_0 : w158.cell? ⟨gb1142, 0, none⟩ = some (.bool a1_0) := bc0 BK1142.out
             have hcz163_1 : w158.cell? ⟨gb1142, 1, none⟩ = some (.slice A1_1 l1_1.length c1_1) := bc1 BK1142.out
             have hfz163_0 := blk_frozen BK1142.out 0
             have hfz163_1 := blk_frozen BK1142.out 1
             try go_wp2_with (first | ((with_reducible refine gate_callee (f := 28) rfl ?_); refine goL (some 67) Tryd.func28 [.agg #[.bool a1_0, .slice A1_1 l1_1.length c1_1]] ?_; (with_reducible refine (whole_Sign.calls a1_0 _ _ l1_1 t1205 _ ?side1 ?side2 A126.out).mono ?_); (case side1 => exact Kd.C_below HR1_1.out (by repeat first | exact HB.out | refine bxSet ?_ (by assumption) | apply below_alloc | apply pw_below_drewN)); (case side2 => exact HC1_1.out); rintro e w164 ⟨rfl, hb⟩; refine ⟨_, rfl, ?_⟩; replace HO_1155001 := Aside0.mk (Kd.R_below (Kd.R_mono (Kd.R_far (p := ⟨gb1204, 1, none⟩) (Kd.R_far (p := ⟨gb1204, 0, none⟩) (Kd.R_types HO_1155001.out BK1204.out (by decide)) (fun _ hk => hk.2) (.bool t1200)) (fun _ hk => hk.2) (.slice Ao160 t1201.length co160)) (fun _ h_ => h_.1)) hb); replace HO_1156001 := Aside0.mk (Kd.R_below (Kd.R_mono (Kd.R_far (p := ⟨gb1204, 1, none⟩) (Kd.R_far (p := ⟨gb1204, 0, none⟩) (Kd.R_types HO_1156001.out BK1204.out (by decide)) (fun _ hk => hk.2) (.bool t1200)) (fun _ hk => hk.2) (.slice Ao160 t1201.length co160)) (fun _ h_ => h_.1)) hb); replace HO_1162001 := Aside0.mk (Kd.R_below (Kd.R_mono (Kd.R_far (p := ⟨gb1204, 1, none⟩) (Kd.R_far (p := ⟨gb1204, 0, none⟩) (Kd.R_types HO_1162001.out BK1204.out (by decide)) (fun _ hk => hk.2) (.bool t1200)) (fun _ hk => hk.2) (.slice Ao160 t1201.length co160)) (fun _ h_ => h_.1)) hb); replace HO1199 := Aside0.mk (Kd.R_below (Kd.R_mono (Kd.R_far (p := ⟨gb1204, 1, none⟩) (Kd.R_far (p := ⟨gb1204, 0, none⟩) (Kd.R_types HO1199.out BK1204.out (by decide)) (fun _ hk => hk.2) (.bool t1200)) (fun _ hk => hk.2) (.slice Ao160 t1201.length co160)) (fun _ h_ => h_.1)) hb); replace HO1203 := Aside0.mk (Kd.R_below (Kd.R_mono (Kd.R_far (p := ⟨gb1204, 1, none⟩) (Kd.R_far (p := ⟨gb1204, 0, none⟩) (Kd.R_types HO1203.out BK1204.out (by decide)) (fun _ hk => hk.2) (.bool t1200)) (fun _ hk => hk.2) (.slice Ao160 t1201.length co160)) (fun _ h_ => h_.1)) hb); replace BK1141 := Aside0.mk (blk_below (g := gb1141) (o := .cells #[.bool a0_0, .slice A0_1 l0_1.length c0_1] 24 (0, 0)) (by refine blk_far ?_ NB1141_1204.out _; refine blk_far ?_ NB1141_1204.out _; exact BK1141.out) hb); replace BK1142 := Aside0.mk (blk_below (g := gb1142) (o := .cells #[.bool a1_0, .slice A1_1 l1_1.length c1_1] 24 (0, 0)) (by refine blk_far ?_ NB1142_1204.out _; refine blk_far ?_ NB1142_1204.out _; exact BK1142.out) hb); replace BK1154 := Aside0.mk (blk_below (g := gb1154) (o := .cells #[.bool t1145, .slice Ao28 t1146.length co28] 24 (0, 0)) (by refine blk_far ?_ NB1154_1204.out _; refine blk_far ?_ NB1154_1204.out _; exact BK1154.out) hb); replace BK1155 := Aside0.mk (blk_below (g := gb1155) (o := .cells #[.bool t1149, .slice Ao32 t1150.length co32] 24 (0, 0)) (by refine blk_far ?_ NB1155_1204.out _; refine blk_far ?_ NB1155_1204.out _; exact BK1155.out) hb); replace BK1163 := Aside0.mk (blk_below (g := gb1163) (o := .cells #[.bool a1_0, .slice A1_1 l1_1.length c1_1] 24 (0, 0)) (by refine blk_far ?_ NB1163_1204.out _; refine blk_far ?_ NB1163_1204.out _; exact BK1163.out) hb); replace BK1204 := Aside0.mk (blk_below (g := gb1204) (o := .cells #[.bool t1200, .slice Ao160 t1201.length co160] 24 (0, 0)) (by refine blk_put (cs := #[.bool t1200, .slice none 0 0]) ?_ 1 _ rfl; refine blk_put (cs := #[.bool false, .slice none 0 0]) ?_ 0 _ rfl; exact BK1204.out) hb); replace HB := Aside0.mk (below_step (by repeat first | exact HB.out | refine bxSet ?_ (by assumption) | apply below_alloc | apply pw_below_drewN) hb); (try clear hb); (try clear hb2); (try clear hk); (try clear hi)))
             replace HO_1155001 := Aside0.mk (Kd.R_drew HO_1155001.out)
             replace HO_1156001 := Aside0.mk (Kd.R_drew HO_1156001.out)
             replace HO_1162001 := Aside0.mk (Kd.R_drew HO_1162001.out)
             replace HO1199 := Aside0.mk (Kd.R_drew HO1199.out)
             replace HO1203 := Aside0.mk (Kd.R_drew HO1203.out)
             replace BK1141 := Aside0.mk (blk_drew BK1141.out)
             replace BK1142 := Aside0.mk (blk_drew BK1142.out)
             replace BK1154 := Aside0.mk (blk_drew BK1154.out)
             replace BK1155 := Aside0.mk (blk_drew BK1155.out)
             replace BK1163 := Aside0.mk (blk_drew BK1163.out)
             replace BK1204 := Aside0.mk (blk_drew BK1204.out)
             replace HB := Aside0.mk (below_drew1 HB.out)
             refine start_ (n := 31) (S := fun w' => w'.cell? ⟨gb1154, 0, none⟩ = some (.bool t1145) ∧ w'.cell? ⟨gb1154, 1, none⟩ = some (.slice Ao28 t1146.length co28) ∧ w'.cell? ⟨gb1142, 0, none⟩ = some (.bool a1_0) ∧ w'.cell? ⟨gb1142, 1, none⟩ = some (.slice A1_1 l1_1.length c1_1) ∧ w'.cell? ⟨gb1155, 0, none⟩ = some (.bool t1149) ∧ w'.cell? ⟨gb1155, 1, none⟩ = some (.slice Ao32 t1150.length co32) ∧ w'.cell? ⟨gb1141, 0, none⟩ = some (.bool a0_0) ∧ w'.cell? ⟨gb1141, 1, none⟩ = some (.slice A0_1 l0_1.length c0_1) ∧ w'.cell? ⟨gb1163, 0, none⟩ = some (.bool a1_0) ∧ w'.cell? ⟨gb1163, 1, none⟩ = some (.slice A1_1 l1_1.length c1_1) ∧ w'.cell? ⟨gb1204, 0, none⟩ = some (.bool t1200) ∧ w'.cell? ⟨gb1204, 1, none⟩ = some (.slice Ao160 t1201.length co160)) (ds := []) #[false, false, false, false, false, false, false, false, false, false, false, false, false, false, false, false, false, false, false, false, false, false, false, false, false, false, false, false, false, false, false] (by kernel_rfl) rfl rfl ⟨bc0 BK1154.out, bc1 BK1154.out, bc0 BK1142.out, bc1 BK1142.out, bc0 BK1155.out, bc1 BK1155.out, bc0 BK1141.out, bc1 BK1141.out, bc0 BK1163.out, bc1 BK1163.out, bc0 BK1204.out, bc1 BK1204.out⟩ (fun hHeld => ?_); refine with_tabW gudgeonlaw02_WholeBack.tab15 gudgeonlaw02_WholeBack.bits15 (fun HT_ HW_ => ?_)
             generalize w164.drew = w165 at HO_1155001 HO_1156001 HO_1162001 HO1199 HO1203 BK1141 BK1142 BK1154 BK1155 BK1161 BK1163 BK1204 HB hHeld ⊢
             refine take_ (i := 0) (N := some 71) (v := ?_) (a' := ?_) #[true, false, false, false, false, false, false, false, false, false, false, false, false, false, false, false, false, false, false, false, false, false, false, false, false, false, false, false, false, false, false] rfl rfl (take_ofW HT_.out HW_.out (by kernel_rfl)) (fun _ _ _ h => h) (Or.inl ⟨by rfl, ?_⟩) hHeld ?_ ?_
             rotate_left
             ·rintro w' ⟨s0, s1, s2, s3, s4, s5, s6, s7, s8, s9, s10, s11⟩
              go_simp
              with_reducible rfl
             rotate_left
             ·simp only [Act.put, List.setIfInBounds_toArray, List.set_cons_zero, List.set_cons_succ, i64_w, i32_w]
              rfl
             refine take_ (i := 1) (N := some 72) (v := ?_) (a' := ?_) #[true, true, false, false, false, false, false, false, false, false, false, false, false, false, false, false, false, false, false, false, false, false, false, false, false, false, false, false, false, false, false] rfl rfl (take_ofW HT_.out HW_.out (by kernel_rfl)) (fun _ _ _ h => h) (Or.inl ⟨by rfl, ?_⟩) hHeld ?_ ?_
             rotate_left
             ·rintro w' ⟨s0, s1, s2, s3, s4, s5, s6, s7, s8, s9, s10, s11⟩
              go_simp
              with_reducible rfl
             rotate_left
             ·simp only [Act.put, List.setIfInBounds_toArray, List.set_cons_zero, List.set_cons_succ, i64_w, i32_w]
              rfl
             refine take_ (i := 3) (N := some 74) (v := ?_) (a' := ?_) #[true, true, false, true, false, false, false, false, false, false, false, false, false, false, false, false, false, false, false, false, false, false, false, false, false, false, false, false, false, false, false] rfl rfl (take_ofW HT_.out HW_.out (by kernel_rfl)) (fun _ _ _ h => h) (Or.inl ⟨by rfl, ?_⟩) hHeld ?_ ?_
             rotate_left
             ·rintro w' ⟨s0, s1, s2, s3, s4, s5, s6, s7, s8, s9, s10, s11⟩
              go_simp
              with_reducible rfl
             rotate_left
             ·simp only [Act.put, List.setIfInBounds_toArray, List.set_cons_zero, List.set_cons_succ, i64_w, i32_w]
              rfl
             refine take_ (i := 5) (N := some 76) (v := ?_) (a' := ?_) #[true, true, false, true, false, true, false, false, false, false, false, false, false, false, false, false, false, false, false, false, false, false, false, false, false, false, false, false, false, false, false] rfl rfl (take_ofW HT_.out HW_.out (by kernel_rfl)) (fun _ _ _ h => h) (Or.inl ⟨by rfl, ?_⟩) hHeld ?_ ?_
             rotate_left
             ·rintro w' ⟨s0, s1, s2, s3, s4, s5, s6, s7, s8, s9, s10, s11⟩
              go_simp
              with_reducible rfl
             rotate_left
             ·simp only [Act.put, List.setIfInBounds_toArray, List.set_cons_zero, List.set_cons_succ, i64_w, i32_w]
              rfl
             refine one_ (i := 2) (N := some 73) #[true, true, true, true, false, true, false, false, false, false, false, false, false, false, false, false, false, false, false, false, false, false, false, false, false, false, false, false, false, false, false] rfl rfl (one_of HT_.out (by kernel_rfl)) (by decide) (fun K hK => ?_)
             refine goR Tryd.func24 [.agg #[.bool t1145, .slice Ao28 t1146.length co28], .agg #[.bool a1_0, .slice A1_1 l1_1.length c1_1]] ?_
             with_reducible refine (whole_Mul.calls kj16 t1145 _ _ t1146 a1_0 _ _ l1_1 t1206 t1207 _ ?side1 ?side2 ?side3 ?side4 A128.out).mono ?_
             (case side1 => exact (Kd.R_reads' HO_1155001.out).2.2)
             (case side2 => exact (Kd.R_reads' HO_1155001.out).2.1)
             (case side3 => exact (Kd.C_below HR1_1.out HB.out))
             (case side4 => exact HC1_1.out)
             rintro e w166 ⟨v1208, rfl, ho0, hb⟩
             refine ⟨_, rfl, ?_⟩
             have HO1209 := Aside0.mk (Kd.R_lower (Kd.R_new' (Kd.R_new' (Kd.R_new' (Kd.R_new' (Kd.R_new' ho0 (Kd.R_lt HO_1155001.out)) (Kd.R_lt HO_1156001.out)) (Kd.R_lt HO_1162001.out)) (Kd.R_lt HO1199.out)) (Kd.R_lt HO1203.out)) (below_size HB.out))
             replace HO_1155001 := Aside0.mk (Kd.R_elder' HO_1155001.out (Kd.R_base ho0) hb)
             replace HO_1156001 := Aside0.mk (Kd.R_elder' HO_1156001.out (Kd.R_base ho0) hb)
             replace HO_1162001 := Aside0.mk (Kd.R_elder' HO_1162001.out (Kd.R_base ho0) hb)
             replace HO1199 := Aside0.mk (Kd.R_elder' HO1199.out (Kd.R_base ho0) hb)
             replace HO1203 := Aside0.mk (Kd.R_elder' HO1203.out (Kd.R_base ho0) hb)
             replace BK1141 := Aside0.mk (blk_below BK1141.out hb)
             replace BK1142 := Aside0.mk (blk_below BK1142.out hb)
             replace BK1154 := Aside0.mk (blk_below BK1154.out hb)
             replace BK1155 := Aside0.mk (blk_below BK1155.out hb)
             replace BK1163 := Aside0.mk (blk_below BK1163.out hb)
             replace BK1204 := Aside0.mk (blk_below BK1204.out hb)
             replace HB := Aside0.mk (below_step HB.out hb)
             (try clear hb)
             (try clear hb2)
             (try clear hk)
             (try clear hi)
             (try clear ho0)
             obtain ⟨Ao167, co167, eo167⟩ := Kd.R_slice HO1209.out
             subst eo167
             refine hK.out _ _ ⟨bc0 BK1154.out, bc1 BK1154.out, bc0 BK1142.out, bc1 BK1142.out, bc0 BK1155.out, bc1 BK1155.out, bc0 BK1141.out, bc1 BK1141.out, bc0 BK1163.out, bc1 BK1163.out, bc0 BK1204.out, bc1 BK1204.out⟩ (fun hHeld => ?_)
             clear hK K
             refine norm_ (a' := ?_) ?_ ?_
             rotate_left
             ·show Act.put _ (some 73) _ = _
              simp only [Act.put, List.setIfInBounds_toArray, List.set_cons_zero, List.set_cons_succ, i64_w, i32_w]
              rfl
             refine one_ (i := 4) (N := some 75) #[true, true, true, true, true, true, false, false, false, false, false, false, false, false, false, false, false, false, false, false, false, false, false, false, false, false, false, false, false, false, false] rfl rfl (one_of HT_.out (by kernel_rfl)) (by decide) (fun K hK => ?_)
             refine goR Tryd.func20 [.agg #[.bool t1206, .slice Ao167 t1207.length co167], .agg #[.bool t1149, .slice Ao32 t1150.length co32]] ?_
             with_reducible refine (whole_Add.calls kj16 t1206 _ _ t1207 t1149 _ _ t1150 t1210 t1211 _ ?side1 ?side2 ?side3 ?side4 A129.out).mono ?_
             (case side1 => exact (Kd.R_reads' HO1209.out).2.2)
             (case side2 => exact (Kd.R_reads' HO1209.out).2.1)
             (case side3 => exact (Kd.R_reads' HO_1156001.out).2.2)
             (case side4 => exact (Kd.R_reads' HO_1156001.out).2.1)
             rintro e w168 ⟨v1212, rfl, ho0, hb⟩
             refine ⟨_, rfl, ?_⟩
             have HO1213 := Aside0.mk (Kd.R_lower (Kd.R_new' (Kd.R_new' (Kd.R_new' (Kd.R_new' (Kd.R_new' (Kd.R_new' ho0 (Kd.R_lt HO_1155001.out)) (Kd.R_lt HO_1156001.out)) (Kd.R_lt HO_1162001.out)) (Kd.R_lt HO1199.out)) (Kd.R_lt HO1203.out)) (Kd.R_lt HO1209.out)) (below_size HB.out))
             replace HO_1156001 := Aside0.mk (Kd.R_elder' HO_1156001.out (Kd.R_base ho0) hb)
             replace HO1203 := Aside0.mk (Kd.R_elder' HO1203.out (Kd.R_base ho0) hb)
             replace BK1141 := Aside0.mk (blk_below BK1141.out hb)
             replace BK1142 := Aside0.mk (blk_below BK1142.out hb)
             replace BK1154 := Aside0.mk (blk_below BK1154.out hb)
             replace BK1155 := Aside0.mk (blk_below BK1155.out hb)
             replace BK1163 := Aside0.mk (blk_below BK1163.out hb)
             replace BK1204 := Aside0.mk (blk_below BK1204.out hb)
             replace HB := Aside0.mk (below_step HB.out hb)
             (try clear hb)
             (try clear hb2)
             (try clear hk)
             (try clear hi)
             (try clear ho0)
             obtain ⟨Ao169, co169, eo169⟩ := Kd.R_slice HO1213.out
             subst eo169
             refine hK.out _ _ ⟨bc0 BK1154.out, bc1 BK1154.out, bc0 BK1142.out, bc1 BK1142.out, bc0 BK1155.out, bc1 BK1155.out, bc0 BK1141.out, bc1 BK1141.out, bc0 BK1163.out, bc1 BK1163.out, bc0 BK1204.out, bc1 BK1204.out⟩ (fun hHeld => ?_)
             clear hK K
             refine norm_ (a' := ?_) ?_ ?_
             rotate_left
             ·show Act.put _ (some 75) _ = _
              simp only [Act.put, List.setIfInBounds_toArray, List.set_cons_zero, List.set_cons_succ, i64_w, i32_w]
              rfl
             refine one_ (i := 6) (N := some 77) #[true, true, true, true, true, true, true, false, false, false, false, false, false, false, false, false, false, false, false, false, false, false, false, false, false, false, false, false, false, false, false] rfl rfl (one_of HT_.out (by kernel_rfl)) (by decide) (fun K hK => ?_)
             refine goR Tryd.func26 [.agg #[.bool t1210, .slice Ao169 t1211.length co169], .agg #[.bool a0_0, .slice A0_1 l0_1.length c0_1]] ?_
             with_reducible refine (whole_Cmp.calls kj16 t1210 _ _ t1211 a0_0 _ _ l0_1 t1214 _ ?side1 ?side2 ?side3 ?side4 A130.out).mono ?_
             (case side1 => exact (Kd.R_reads' HO1213.out).2.2)
             (case side2 => exact (Kd.R_reads' HO1213.out).2.1)
             (case side3 => exact (Kd.C_below HR0_1.out HB.out))
             (case side4 => exact HC0_1.out)
             rintro e w170 ⟨rfl, hb⟩
             refine ⟨_, rfl, ?_⟩
             replace HO_1156001 := Aside0.mk (Kd.R_below HO_1156001.out hb)
             replace HO1203 := Aside0.mk (Kd.R_below HO1203.out hb)
             replace BK1141 := Aside0.mk (blk_below BK1141.out hb)
             replace BK1142 := Aside0.mk (blk_below BK1142.out hb)
             replace BK1154 := Aside0.mk (blk_below BK1154.out hb)
             replace BK1155 := Aside0.mk (blk_below BK1155.out hb)
             replace BK1163 := Aside0.mk (blk_below BK1163.out hb)
             replace BK1204 := Aside0.mk (blk_below BK1204.out hb)
             replace HB := Aside0.mk (below_step HB.out hb)
             (try clear hb)
             (try clear hb2)
             (try clear hk)
             (try clear hi)
             refine hK.out _ _ ⟨bc0 BK1154.out, bc1 BK1154.out, bc0 BK1142.out, bc1 BK1142.out, bc0 BK1155.out, bc1 BK1155.out, bc0 BK1141.out, bc1 BK1141.out, bc0 BK1163.out, bc1 BK1163.out, bc0 BK1204.out, bc1 BK1204.out⟩ (fun hHeld => ?_)
             clear hK K
             refine norm_ (a' := ?_) ?_ ?_
             rotate_left
             ·show Act.put _ (some 77) _ = _
              simp only [Act.put, List.setIfInBounds_toArray, List.set_cons_zero, List.set_cons_succ, i64_w, i32_w]
              rfl
             refine pure_ (i := 7) (N := some 78) (v := ?_) (a' := ?_) #[true, true, true, true, true, true, true, true, false, false, false, false, false, false, false, false, false, false, false, false, false, false, false, false, false, false, false, false, false, false, false] rfl rfl (any_of HT_.out (by kernel_rfl)) (fun _ _ _ h => h) (Or.inl ⟨by rfl, ?_⟩) ?_ ?_
             rotate_left
             ·intro w'
              go_simp
              with_reducible rfl
             rotate_left
             ·simp only [Act.put, List.setIfInBounds_toArray, List.set_cons_zero, List.set_cons_succ, i64_w, i32_w]
              rfl
             refine pure_ (i := 8) (N := some 79) (v := ?_) (a' := ?_) #[true, true, true, true, true, true, true, true, true, false, false, false, false, false, false, false, false, false, false, false, false, false, false, false, false, false, false, false, false, false, false] rfl rfl (any_of HT_.out (by kernel_rfl)) (fun _ _ _ h => h) (Or.inl ⟨by rfl, ?_⟩) ?_ ?_
             rotate_left
             ·intro w'
              go_simp
              with_reducible rfl
             rotate_left
             ·simp only [Act.put, List.setIfInBounds_toArray, List.set_cons_zero, List.set_cons_succ, i64_w, i32_w]
              rfl
             refine take_ (i := 9) (N := some 80) (v := ?_) (a' := ?_) #[true, true, true, true, true, true, true, true, true, true, false, false, false, false, false, false, false, false, false, false, false, false, false, false, false, false, false, false, false, false, false] rfl rfl (take_ofW HT_.out HW_.out (by kernel_rfl)) (fun _ _ _ h => h) (Or.inl ⟨by rfl, ?_⟩) hHeld ?_ ?_
             rotate_left
             ·rintro w' ⟨s0, s1, s2, s3, s4, s5, s6, s7, s8, s9, s10, s11⟩
              go_simp
              with_reducible rfl
             rotate_left
             ·simp only [Act.put, List.setIfInBounds_toArray, List.set_cons_zero, List.set_cons_succ, i64_w, i32_w]
              rfl
             refine one_ (i := 10) (N := some 81) #[true, true, true, true, true, true, true, true, true, true, true, false, false, false, false, false, false, false, false, false, false, false, false, false, false, false, false, false, false, false, false] rfl rfl (one_of HT_.out (by kernel_rfl)) (by decide) (fun K hK => ?_)
             refine goR Tryd.func28 [.agg #[.bool t1149, .slice Ao32 t1150.length co32]] ?_
             with_reducible refine (whole_Sign.calls t1149 _ _ t1150 t1215 _ ?side1 ?side2 A132.out).mono ?_
             (case side1 => exact (Kd.R_reads' HO_1156001.out).2.2)
             (case side2 => exact (Kd.R_reads' HO_1156001.out).2.1)
             rintro e w171 ⟨rfl, hb⟩
             refine ⟨_, rfl, ?_⟩
             replace HO_1156001 := Aside0.mk (Kd.R_below HO_1156001.out hb)
             replace HO1203 := Aside0.mk (Kd.R_below HO1203.out hb)
             replace BK1141 := Aside0.mk (blk_below BK1141.out hb)
             replace BK1142 := Aside0.mk (blk_below BK1142.out hb)
             replace BK1154 := Aside0.mk (blk_below BK1154.out hb)
             replace BK1155 := Aside0.mk (blk_below BK1155.out hb)
             replace BK1163 := Aside0.mk (blk_below BK1163.out hb)
             replace BK1204 := Aside0.mk (blk_below BK1204.out hb)
             replace HB := Aside0.mk (below_step HB.out hb)
             (try clear hb)
             (try clear hb2)
             (try clear hk)
             (try clear hi)
             refine hK.out _ _ ⟨bc0 BK1154.out, bc1 BK1154.out, bc0 BK1142.out, bc1 BK1142.out, bc0 BK1155.out, bc1 BK1155.out, bc0 BK1141.out, bc1 BK1141.out, bc0 BK1163.out, bc1 BK1163.out, bc0 BK1204.out, bc1 BK1204.out⟩ (fun hHeld => ?_)
             clear hK K
             refine norm_ (a' := ?_) ?_ ?_
             rotate_left
             ·show Act.put _ (some 81) _ = _
              simp only [Act.put, List.setIfInBounds_toArray, List.set_cons_zero, List.set_cons_succ, i64_w, i32_w]
              rfl
             refine pure_ (i := 11) (N := some 82) (v := ?_) (a' := ?_) #[true, true, true, true, true, true, true, true, true, true, true, true, false, false, false, false, false, false, false, false, false, false, false, false, false, false, false, false, false, false, false] rfl rfl (any_of HT_.out (by kernel_rfl)) (fun _ _ _ h => h) (Or.inl ⟨by rfl, ?_⟩) ?_ ?_
             rotate_left
             ·intro w'
              go_simp
              with_reducible rfl
             rotate_left
             ·simp only [Act.put, List.setIfInBounds_toArray, List.set_cons_zero, List.set_cons_succ, i64_w, i32_w]
              rfl
             refine pure_ (i := 12) (N := some 83) (v := ?_) (a' := ?_) #[true, true, true, true, true, true, true, true, true, true, true, true, true, false, false, false, false, false, false, false, false, false, false, false, false, false, false, false, false, false, false] rfl rfl (any_of HT_.out (by kernel_rfl)) (fun _ _ _ h => h) (Or.inl ⟨by rfl, ?_⟩) ?_ ?_
             rotate_left
             ·intro w'
              go_simp
              with_reducible rfl
             rotate_left
             ·simp only [Act.put, List.setIfInBounds_toArray, List.set_cons_zero, List.set_cons_succ, i64_w, i32_w]
              rfl
             refine pure_ (i := 13) (N := some 84) (v := ?_) (a' := ?_) #[true, true, true, true, true, true, true, true, true, true, true, true, true, true, false, false, false, false, false, false, false, false, false, false, false, false, false, false, false, false, false] rfl rfl (any_of HT_.out (by kernel_rfl)) (fun _ _ _ h => h) (Or.inl ⟨by rfl, ?_⟩) ?_ ?_
             rotate_left
             ·intro w'
              go_simp
              with_reducible rfl
             rotate_left
             ·simp only [Act.put, List.setIfInBounds_toArray, List.set_cons_zero, List.set_cons_succ, i64_w, i32_w]
              rfl
             refine take_ (i := 14) (N := some 85) (v := ?_) (a' := ?_) #[true, true, true, true, true, true, true, true, true, true, true, true, true, true, true, false, false, false, false, false, false, false, false, false, false, false, false, false, false, false, false] rfl rfl (take_ofW HT_.out HW_.out (by kernel_rfl)) (fun _ _ _ h => h) (Or.inl ⟨by rfl, ?_⟩) hHeld ?_ ?_
             rotate_left
             ·rintro w' ⟨s0, s1, s2, s3, s4, s5, s6, s7, s8, s9, s10, s11⟩
              go_simp
              with_reducible rfl
             rotate_left
             ·simp only [Act.put, List.setIfInBounds_toArray, List.set_cons_zero, List.set_cons_succ, i64_w, i32_w]
              rfl
             refine take_ (i := 15) (N := some 86) (v := ?_) (a' := ?_) #[true, true, true, true, true, true, true, true, true, true, true, true, true, true, true, true, false, false, false, false, false, false, false, false, false, false, false, false, false, false, false] rfl rfl (take_ofW HT_.out HW_.out (by kernel_rfl)) (fun _ _ _ h => h) (Or.inl ⟨by rfl, ?_⟩) hHeld ?_ ?_
             rotate_left
             ·rintro w' ⟨s0, s1, s2, s3, s4, s5, s6, s7, s8, s9, s10, s11⟩
              go_simp
              with_reducible rfl
             rotate_left
             ·simp only [Act.put, List.setIfInBounds_toArray, List.set_cons_zero, List.set_cons_succ, i64_w, i32_w]
              rfl
             refine one_ (i := 16) (N := some 87) #[true, true, true, true, true, true, true, true, true, true, true, true, true, true, true, true, true, false, false, false, false, false, false, false, false, false, false, false, false, false, false] rfl rfl (one_of HT_.out (by kernel_rfl)) (by decide) (fun K hK => ?_)
             refine goR Tryd.func26 [.agg #[.bool t1149, .slice Ao32 t1150.length co32], .agg #[.bool a1_0, .slice A1_1 l1_1.length c1_1]] ?_
             with_reducible refine (whole_Cmp.calls kj16 t1149 _ _ t1150 a1_0 _ _ l1_1 t1216 _ ?side1 ?side2 ?side3 ?side4 A134.out).mono ?_
             (case side1 => exact (Kd.R_reads' HO_1156001.out).2.2)
             (case side2 => exact (Kd.R_reads' HO_1156001.out).2.1)
             (case side3 => exact (Kd.C_below HR1_1.out HB.out))
             (case side4 => exact HC1_1.out)
             rintro e w172 ⟨rfl, hb⟩
             refine ⟨_, rfl, ?_⟩
             replace HO1203 := Aside0.mk (Kd.R_below HO1203.out hb)
             replace BK1141 := Aside0.mk (blk_below BK1141.out hb)
             replace BK1142 := Aside0.mk (blk_below BK1142.out hb)
             replace BK1154 := Aside0.mk (blk_below BK1154.out hb)
             replace BK1155 := Aside0.mk (blk_below BK1155.out hb)
             replace BK1163 := Aside0.mk (blk_below BK1163.out hb)
             replace BK1204 := Aside0.mk (blk_below BK1204.out hb)
             replace HB := Aside0.mk (below_step HB.out hb)
             (try clear hb)
             (try clear hb2)
             (try clear hk)
             (try clear hi)
             refine hK.out _ _ ⟨bc0 BK1154.out, bc1 BK1154.out, bc0 BK1142.out, bc1 BK1142.out, bc0 BK1155.out, bc1 BK1155.out, bc0 BK1141.out, bc1 BK1141.out, bc0 BK1163.out, bc1 BK1163.out, bc0 BK1204.out, bc1 BK1204.out⟩ (fun hHeld => ?_)
             clear hK K
             refine norm_ (a' := ?_) ?_ ?_
             rotate_left
             ·show Act.put _ (some 87) _ = _
              simp only [Act.put, List.setIfInBounds_toArray, List.set_cons_zero, List.set_cons_succ, i64_w, i32_w]
              rfl
             refine pure_ (i := 17) (N := some 88) (v := ?_) (a' := ?_) #[true, true, true, true, true, true, true, true, true, true, true, true, true, true, true, true, true, true, false, false, false, false, false, false, false, false, false, false, false, false, false] rfl rfl (any_of HT_.out (by kernel_rfl)) (fun _ _ _ h => h) (Or.inl ⟨by rfl, ?_⟩) ?_ ?_
             rotate_left
             ·intro w'
              go_simp
              with_reducible rfl
             rotate_left
             ·simp only [Act.put, List.setIfInBounds_toArray, List.set_cons_zero, List.set_cons_succ, i64_w, i32_w]
              rfl
             refine pure_ (i := 18) (N := some 89) (v := ?_) (a' := ?_) #[true, true, true, true, true, true, true, true, true, true, true, true, true, true, true, true, true, true, true, false, false, false, false, false, false, false, false, false, false, false, false] rfl rfl (any_of HT_.out (by kernel_rfl)) (fun _ _ _ h => h) (Or.inl ⟨by rfl, ?_⟩) ?_ ?_
             rotate_left
             ·intro w'
              go_simp
              with_reducible rfl
             rotate_left
             ·simp only [Act.put, List.setIfInBounds_toArray, List.set_cons_zero, List.set_cons_succ, i64_w, i32_w]
              rfl
             refine pure_ (i := 19) (N := some 90) (v := ?_) (a' := ?_) #[true, true, true, true, true, true, true, true, true, true, true, true, true, true, true, true, true, true, true, true, false, false, false, false, false, false, false, false, false, false, false] rfl rfl (any_of HT_.out (by kernel_rfl)) (fun _ _ _ h => h) (Or.inl ⟨by rfl, ?_⟩) ?_ ?_
             rotate_left
             ·intro w'
              go_simp
              with_reducible rfl
             rotate_left
             ·simp only [Act.put, List.setIfInBounds_toArray, List.set_cons_zero, List.set_cons_succ, i64_w, i32_w]
              rfl
             refine take_ (i := 20) (N := some 91) (v := ?_) (a' := ?_) #[true, true, true, true, true, true, true, true, true, true, true, true, true, true, true, true, true, true, true, true, true, false, false, false, false, false, false, false, false, false, false] rfl rfl (take_ofW HT_.out HW_.out (by kernel_rfl)) (fun _ _ _ h => h) (Or.inl ⟨by rfl, ?_⟩) hHeld ?_ ?_
             rotate_left
             ·rintro w' ⟨s0, s1, s2, s3, s4, s5, s6, s7, s8, s9, s10, s11⟩
              go_simp
              with_reducible rfl
             rotate_left
             ·simp only [Act.put, List.setIfInBounds_toArray, List.set_cons_zero, List.set_cons_succ, i64_w, i32_w]
              rfl
             refine one_ (i := 21) (N := some 92) #[true, true, true, true, true, true, true, true, true, true, true, true, true, true, true, true, true, true, true, true, true, true, false, false, false, false, false, false, false, false, false] rfl rfl (one_of HT_.out (by kernel_rfl)) (by decide) (fun K hK => ?_)
             refine goR Tryd.func28 [.agg #[.bool t1200, .slice Ao160 t1201.length co160]] ?_
             with_reducible refine (whole_Sign.calls t1200 _ _ t1201 t1217 _ ?side1 ?side2 A136.out).mono ?_
             (case side1 => exact (Kd.R_reads' HO1203.out).2.2)
             (case side2 => exact (Kd.R_reads' HO1203.out).2.1)
             rintro e w173 ⟨rfl, hb⟩
             refine ⟨_, rfl, ?_⟩
             replace HO1203 := Aside0.mk (Kd.R_below HO1203.out hb)
             replace BK1141 := Aside0.mk (blk_below BK1141.out hb)
             replace BK1142 := Aside0.mk (blk_below BK1142.out hb)
             replace BK1154 := Aside0.mk (blk_below BK1154.out hb)
             replace BK1155 := Aside0.mk (blk_below BK1155.out hb)
             replace BK1163 := Aside0.mk (blk_below BK1163.out hb)
             replace BK1204 := Aside0.mk (blk_below BK1204.out hb)
             replace HB := Aside0.mk (below_step HB.out hb)
             (try clear hb)
             (try clear hb2)
             (try clear hk)
             (try clear hi)
             refine hK.out _ _ ⟨bc0 BK1154.out, bc1 BK1154.out, bc0 BK1142.out, bc1 BK1142.out, bc0 BK1155.out, bc1 BK1155.out, bc0 BK1141.out, bc1 BK1141.out, bc0 BK1163.out, bc1 BK1163.out, bc0 BK1204.out, bc1 BK1204.out⟩ (fun hHeld => ?_)
             clear hK K
             refine norm_ (a' := ?_) ?_ ?_
             rotate_left
             ·show Act.put _ (some 92) _ = _
              simp only [Act.put, List.setIfInBounds_toArray, List.set_cons_zero, List.set_cons_succ, i64_w, i32_w]
              rfl
             refine pure_ (i := 22) (N := some 93) (v := ?_) (a' := ?_) #[true, true, true, true, true, true, true, true, true, true, true, true, true, true, true, true, true, true, true, true, true, true, true, false, false, false, false, false, false, false, false] rfl rfl (any_of HT_.out (by kernel_rfl)) (fun _ _ _ h => h) (Or.inl ⟨by rfl, ?_⟩) ?_ ?_
             rotate_left
             ·intro w'
              go_simp
              with_reducible rfl
             rotate_left
             ·simp only [Act.put, List.setIfInBounds_toArray, List.set_cons_zero, List.set_cons_succ, i64_w, i32_w]
              rfl
             refine pure_ (i := 23) (N := some 94) (v := ?_) (a' := ?_) #[true, true, true, true, true, true, true, true, true, true, true, true, true, true, true, true, true, true, true, true, true, true, true, true, false, false, false, false, false, false, false] rfl rfl (any_of HT_.out (by kernel_rfl)) (fun _ _ _ h => h) (Or.inl ⟨by rfl, ?_⟩) ?_ ?_
             rotate_left
             ·intro w'
              go_simp
              with_reducible rfl
             rotate_left
             ·simp only [Act.put, List.setIfInBounds_toArray, List.set_cons_zero, List.set_cons_succ, i64_w, i32_w]
              rfl
             refine pure_ (i := 24) (N := some 95) (v := ?_) (a' := ?_) #[true, true, true, true, true, true, true, true, true, true, true, true, true, true, true, true, true, true, true, true, true, true, true, true, true, false, false, false, false, false, false] rfl rfl (any_of HT_.out (by kernel_rfl)) (fun _ _ _ h => h) (Or.inl ⟨by rfl, ?_⟩) ?_ ?_
             rotate_left
             ·intro w'
              go_simp
              with_reducible rfl
             rotate_left
             ·simp only [Act.put, List.setIfInBounds_toArray, List.set_cons_zero, List.set_cons_succ, i64_w, i32_w]
              rfl
             refine take_ (i := 25) (N := some 96) (v := ?_) (a' := ?_) #[true, true, true, true, true, true, true, true, true, true, true, true, true, true, true, true, true, true, true, true, true, true, true, true, true, true, false, false, false, false, false] rfl rfl (take_ofW HT_.out HW_.out (by kernel_rfl)) (fun _ _ _ h => h) (Or.inl ⟨by rfl, ?_⟩) hHeld ?_ ?_
             rotate_left
             ·rintro w' ⟨s0, s1, s2, s3, s4, s5, s6, s7, s8, s9, s10, s11⟩
              go_simp
              with_reducible rfl
             rotate_left
             ·simp only [Act.put, List.setIfInBounds_toArray, List.set_cons_zero, List.set_cons_succ, i64_w, i32_w]
              rfl
             refine take_ (i := 26) (N := some 97) (v := ?_) (a' := ?_) #[true, true, true, true, true, true, true, true, true, true, true, true, true, true, true, true, true, true, true, true, true, true, true, true, true, true, true, false, false, false, false] rfl rfl (take_ofW HT_.out HW_.out (by kernel_rfl)) (fun _ _ _ h => h) (Or.inl ⟨by rfl, ?_⟩) hHeld ?_ ?_
             rotate_left
             ·rintro w' ⟨s0, s1, s2, s3, s4, s5, s6, s7, s8, s9, s10, s11⟩
              go_simp
              with_reducible rfl
             rotate_left
             ·simp only [Act.put, List.setIfInBounds_toArray, List.set_cons_zero, List.set_cons_succ, i64_w, i32_w]
              rfl
             refine one_ (i := 27) (N := some 98) #[true, true, true, true, true, true, true, true, true, true, true, true, true, true, true, true, true, true, true, true, true, true, true, true, true, true, true, true, false, false, false] rfl rfl (one_of HT_.out (by kernel_rfl)) (by decide) (fun K hK => ?_)
             refine goR Tryd.func26 [.agg #[.bool t1200, .slice Ao160 t1201.length co160], .agg #[.bool a1_0, .slice A1_1 l1_1.length c1_1]] ?_
             with_reducible refine (whole_Cmp.calls kj16 t1200 _ _ t1201 a1_0 _ _ l1_1 t1218 _ ?side1 ?side2 ?side3 ?side4 A138.out).mono ?_
             (case side1 => exact (Kd.R_reads' HO1203.out).2.2)
             (case side2 => exact (Kd.R_reads' HO1203.out).2.1)
             (case side3 => exact (Kd.C_below HR1_1.out HB.out))
             (case side4 => exact HC1_1.out)
             rintro e w174 ⟨rfl, hb⟩
             refine ⟨_, rfl, ?_⟩
             replace BK1141 := Aside0.mk (blk_below BK1141.out hb)
             replace BK1142 := Aside0.mk (blk_below BK1142.out hb)
             replace BK1154 := Aside0.mk (blk_below BK1154.out hb)
             replace BK1155 := Aside0.mk (blk_below BK1155.out hb)
             replace BK1163 := Aside0.mk (blk_below BK1163.out hb)
             replace BK1204 := Aside0.mk (blk_below BK1204.out hb)
             replace HB := Aside0.mk (below_step HB.out hb)
             (try clear hb)
             (try clear hb2)
             (try clear hk)
             (try clear hi)
             refine hK.out _ _ ⟨bc0 BK1154.out, bc1 BK1154.out, bc0 BK1142.out, bc1 BK1142.out, bc0 BK1155.out, bc1 BK1155.out, bc0 BK1141.out, bc1 BK1141.out, bc0 BK1163.out, bc1 BK1163.out, bc0 BK1204.out, bc1 BK1204.out⟩ (fun hHeld => ?_)
             clear hK K
             refine norm_ (a' := ?_) ?_ ?_
             rotate_left
             ·show Act.put _ (some 98) _ = _
              simp only [Act.put, List.setIfInBounds_toArray, List.set_cons_zero, List.set_cons_succ, i64_w, i32_w]
              rfl
             refine pure_ (i := 28) (N := some 99) (v := ?_) (a' := ?_) #[true, true, true, true, true, true, true, true, true, true, true, true, true, true, true, true, true, true, true, true, true, true, true, true, true, true, true, true, true, false, false] rfl rfl (any_of HT_.out (by kernel_rfl)) (fun _ _ _ h => h) (Or.inl ⟨by rfl, ?_⟩) ?_ ?_
             rotate_left
             ·intro w'
              go_simp
              with_reducible rfl
             rotate_left
             ·simp only [Act.put, List.setIfInBounds_toArray, List.set_cons_zero, List.set_cons_succ, i64_w, i32_w]
              rfl
             refine pure_ (i := 29) (N := some 100) (v := ?_) (a' := ?_) #[true, true, true, true, true, true, true, true, true, true, true, true, true, true, true, true, true, true, true, true, true, true, true, true, true, true, true, true, true, true, false] rfl rfl (any_of HT_.out (by kernel_rfl)) (fun _ _ _ h => h) (Or.inl ⟨by rfl, ?_⟩) ?_ ?_
             rotate_left
             ·intro w'
              go_simp
              with_reducible rfl
             rotate_left
             ·simp only [Act.put, List.setIfInBounds_toArray, List.set_cons_zero, List.set_cons_succ, i64_w, i32_w]
              rfl
             refine pure_ (i := 30) (N := some 4) (v := ?_) (a' := ?_) #[true, true, true, true, true, true, true, true, true, true, true, true, true, true, true, true, true, true, true, true, true, true, true, true, true, true, true, true, true, true, true] rfl rfl (any_of HT_.out (by kernel_rfl)) (fun _ _ _ h => h) (Or.inl ⟨by rfl, ?_⟩) ?_ ?_
             rotate_left
             ·intro w'
              go_simp
              with_reducible rfl
             rotate_left
             ·simp only [Act.put, List.setIfInBounds_toArray, List.set_cons_zero, List.set_cons_succ, i64_w, i32_w]
              rfl
             refine done_ (done_of HT_.out (by kernel_rfl)) ?_
             try go_wp2
             go_ret
             exact ⟨by first | rfl | (simp [errW_none, errW_some] <;> rfl) | (refine congrArg (fun z_ => Ending.returned (Value.bool z_)) (decide_eq_decide.mpr ?_); unfold wrap64; omega) | (simp [*, errW_none, errW_some] <;> rfl), HB.out⟩
            ·rw [if_neg c137] at H
             exact absurd H (by simp)
           ·rw [if_neg c135] at H
            exact absurd H (by simp)
          ·rw [if_neg c133] at H
           exact absurd H (by simp)
         ·rw [if_neg c131] at H
          exact absurd H (by simp)

end Go.Proofs.YthnfmmaolkenkaaDoor.PA
/- Numbers by limbs: what a list of limbs is worth, and its own form. -/
namespace Go.Proofs.YthnfmmaolkenkaaDoor.V
set_option linter.unusedVariables false
set_option linter.unusedSimpArgs false

/-- What limbs are worth. -/
def val : List Int → Int
  | [] => 0
  | x :: r => x + 4294967296 * val r
/-- Limbs of 32 bits. -/
def Lim (l : List Int) : Prop := ∀ x ∈ l, 0 ≤ x ∧ x < 4294967296
theorem Lim.nil : Lim [] := fun _ h => by cases h
theorem Lim.cons {x : Int} {l : List Int} (h0 : 0 ≤ x) (h1 : x < 4294967296) (h : Lim l) : Lim (x :: l) := fun y hy => by
  rcases List.mem_cons.1 hy with rfl | hy
  · exact ⟨h0, h1⟩
  · exact h y hy
theorem Lim.head {x : Int} {l : List Int} (h : Lim (x :: l)) : 0 ≤ x ∧ x < 4294967296 := h x List.mem_cons_self
theorem Lim.tail {x : Int} {l : List Int} (h : Lim (x :: l)) : Lim l := fun y hy => h y (List.mem_cons_of_mem _ hy)
theorem Lim.append {a b : List Int} (ha : Lim a) (hb : Lim b) : Lim (a ++ b) := fun y hy => by
  rcases List.mem_append.1 hy with hy | hy
  · exact ha y hy
  · exact hb y hy
theorem Lim.left {a b : List Int} (h : Lim (a ++ b)) : Lim a := fun y hy => h y (List.mem_append_left _ hy)
theorem Lim.take {a : List Int} (n : Nat) (h : Lim a) : Lim (a.take n) := fun y hy => h y (List.mem_of_mem_take hy)
theorem Lim.drop {a : List Int} (n : Nat) (h : Lim a) : Lim (a.drop n) := fun y hy => h y (List.mem_of_mem_drop hy)
theorem Lim.get {l : List Int} (h : Lim l) (i : Nat) (hi : i < l.length) : 0 ≤ l[i] ∧ l[i] < 4294967296 := h _ (List.getElem_mem hi)
theorem Lim.set {l : List Int} (h : Lim l) (i : Nat) {x : Int} (h0 : 0 ≤ x) (h1 : x < 4294967296) : Lim (l.set i x) := fun y hy => by
  rcases List.mem_or_eq_of_mem_set hy with hy | rfl
  · exact h y hy
  · exact ⟨h0, h1⟩
theorem Lim.zeros (n : Nat) : Lim (List.replicate n 0) := fun y hy => by
  obtain rfl := List.eq_of_mem_replicate hy
  omega
theorem val_nonneg {l : List Int} (h : Lim l) : 0 ≤ val l := by
  induction l with
  | nil => simp [val]
  | cons x l ih =>
    have := ih h.tail
    have := h.head
    simp only [val]; omega
/-- The weight of the limb at a place. -/
def pw (n : Nat) : Int := 4294967296 ^ n
theorem pw_zero : pw 0 = 1 := rfl
theorem pw_succ (n : Nat) : pw (n + 1) = 4294967296 * pw n := by unfold pw; rw [Int.pow_succ]; omega
theorem pw_pos (n : Nat) : 0 < pw n := by
  induction n with
  | zero => decide
  | succ n ih => rw [pw_succ]; omega
theorem pw_add (m n : Nat) : pw (m + n) = pw m * pw n := by unfold pw; exact Int.pow_add ..
theorem val_lt {l : List Int} (h : Lim l) : val l < pw l.length := by
  induction l with
  | nil => simp [val, pw_zero]
  | cons x l ih =>
    have := ih h.tail
    have := h.head
    simp only [val, List.length_cons, pw_succ]; omega
theorem val_append (a b : List Int) : val (a ++ b) = val a + pw a.length * val b := by
  induction a with
  | nil => simp [val, pw_zero]
  | cons x a ih => simp only [List.cons_append, val, ih, List.length_cons, pw_succ]; grind
theorem val_zeros (n : Nat) : val (List.replicate n 0) = 0 := by
  induction n with
  | zero => rfl
  | succ n ih => simp only [List.replicate_succ, val, ih]; omega
/-- The limbs of a number, without noughts behind. -/
def digN (n : Nat) : List Int := if h : n = 0 then [] else ((n % 4294967296 : Nat) : Int) :: digN (n / 4294967296)
termination_by n
decreasing_by omega
def dig (n : Int) : List Int := digN n.toNat
theorem digN_lim (n : Nat) : Lim (digN n) := by
  induction n using Nat.strongRecOn with
  | _ n ih =>
    rw [digN]
    split
    · exact Lim.nil
    · exact Lim.cons (by omega) (by omega) (ih _ (by omega))
theorem val_digN (n : Nat) : val (digN n) = n := by
  induction n using Nat.strongRecOn with
  | _ n ih =>
    rw [digN]
    split
    · rename_i h; simp [val, h]
    · simp only [val]; rw [ih _ (by omega)]; omega
theorem dig_lim (n : Int) : Lim (dig n) := digN_lim _
theorem val_dig {n : Int} (h : 0 ≤ n) : val (dig n) = n := by unfold dig; rw [val_digN]; omega
theorem dig_zero : dig 0 = [] := by unfold dig; rw [digN]; rfl
theorem dig_eq_nil {n : Int} (h : 0 ≤ n) : dig n = [] ↔ n = 0 := by
  constructor
  · intro e
    have := val_dig h
    rw [e] at this
    exact this.symm
  · rintro rfl; exact dig_zero
theorem dig_cons {x n : Int} (h0 : 0 ≤ x) (h1 : x < 4294967296) (hn : 0 ≤ n) (h : x + 4294967296 * n ≠ 0) : dig (x + 4294967296 * n) = x :: dig n := by
  unfold dig
  rw [digN]
  rw [dif_neg (by omega)]
  have e1 : (((x + 4294967296 * n).toNat % 4294967296 : Nat) : Int) = x := by omega
  have e2 : (x + 4294967296 * n).toNat / 4294967296 = n.toNat := by omega
  rw [e1, e2]
theorem dig_length_le {n : Int} {k : Nat} (h0 : 0 ≤ n) (h : n < pw k) : (dig n).length ≤ k := by
  induction k generalizing n with
  | zero => rw [pw_zero] at h; rw [show n = 0 by omega, dig_zero]; simp
  | succ k ih =>
    rw [pw_succ] at h
    by_cases hn : n = 0
    · rw [hn, dig_zero]; simp
    · have e : n = n % 4294967296 + 4294967296 * (n / 4294967296) := by omega
      rw [e, dig_cons (by omega) (by omega) (by omega) (by omega)]
      have := ih (n := n / 4294967296) (by omega) (by omega)
      simp; omega
theorem lt_of_dig_length {n : Int} {k : Nat} (h0 : 0 ≤ n) (h : (dig n).length ≤ k) : n < pw k := by
  have := val_lt (dig_lim n)
  rw [val_dig h0] at this
  have hp : pw (dig n).length ≤ pw k := by
    obtain ⟨d, hd⟩ := Nat.exists_eq_add_of_le h
    rw [hd, pw_add]
    have := pw_pos (dig n).length
    have := pw_pos d
    calc pw (dig n).length = pw (dig n).length * 1 := by omega
      _ ≤ _ := Int.mul_le_mul_of_nonneg_left (by omega) (by omega)
  omega
/-- Without the noughts behind: as the machine's Norm. -/
theorem dropWhile_zeros (l : List Int) (h : Lim l) : (l.reverse.dropWhile (fun x => x == 0)).reverse = dig (val l) := by
  induction l with
  | nil => simp [val, dig_zero]
  | cons x l ih =>
    have ih := ih h.tail
    have hx := h.head
    have hv := val_nonneg h.tail
    simp only [val, List.reverse_cons]
    rw [List.dropWhile_append]
    by_cases hz : val l = 0
    · rw [hz, dig_zero] at ih
      have e : (List.dropWhile (fun x => x == 0) l.reverse) = [] := by simpa using ih
      rw [e, hz]
      by_cases h0 : x = 0
      · subst h0; simp [dig_zero]
      · have : dig (x + 4294967296 * 0) = x :: dig 0 := dig_cons (by omega) (by omega) (by omega) (by omega)
        rw [this, dig_zero]
        simp [h0]
    · have hne : dig (val l) ≠ [] := by rw [Ne, dig_eq_nil hv]; exact hz
      rw [dig_cons (by omega) (by omega) hv (by omega), ← ih]
      have e : (List.dropWhile (fun x => x == 0) l.reverse).isEmpty = false := by
        rw [← ih] at hne
        cases hd : List.dropWhile (fun x => x == 0) l.reverse with
        | nil => rw [hd] at hne; simp at hne
        | cons _ _ => rfl
      rw [e]; simp
theorem dig_last {n : Int} (hne : dig n ≠ []) : (dig n).getLast hne ≠ 0 := by
  have key : ∀ (m : Nat) (hne : digN m ≠ []), (digN m).getLast hne ≠ 0 := by
    intro m
    induction m using Nat.strongRecOn with
    | _ m ih =>
      rw [digN]
      split
      · intro h; exact absurd rfl h
      · intro _
        by_cases hd : digN (m / 4294967296) = []
        · have : m / 4294967296 = 0 := by
            have hv := val_digN (m / 4294967296)
            rw [hd] at hv
            simp only [val] at hv
            omega
          simp only [hd, List.getLast_singleton]
          omega
        · rw [List.getLast_cons hd]
          exact ih _ (by omega) hd
  exact key _ hne
theorem val_take_getD (l : List Int) (i : Nat) : val (l.take (i + 1)) = val (l.take i) + pw i * l.getD i 0 := by
  by_cases h : i < l.length
  · rw [List.take_succ_eq_append_getElem h, val_append, List.length_take, Nat.min_eq_left (Nat.le_of_lt h)]
    simp [val, h]
  · rw [List.take_of_length_le (by omega), List.take_of_length_le (by omega), List.getD_eq_getElem?_getD, List.getElem?_eq_none (by omega)]
    simp
theorem val_set_take (l : List Int) (i : Nat) (x : Int) (h : i < l.length) : val ((l.set i x).take (i + 1)) = val (l.take i) + pw i * x := by
  rw [val_take_getD, List.take_set_of_le (Nat.le_refl i)]
  simp [List.getD_eq_getElem?_getD, h]
theorem val_set (l : List Int) (i : Nat) (x : Int) (h : i < l.length) : val (l.set i x) = val l + pw i * (x - l[i]) := by
  induction l generalizing i with
  | nil => simp at h
  | cons y l ih =>
    cases i with
    | zero => simp [val, pw_zero]; omega
    | succ i =>
      have := ih i (by simpa using h)
      simp only [List.set_cons_succ, val, this, pw_succ, List.getElem_cons_succ]
      grind
theorem lim_one {x : Int} (h0 : 0 ≤ x) (h1 : x < 4294967296) : Lim [x] := Lim.cons h0 h1 Lim.nil
theorem val_one (x : Int) : val [x] = x := by simp [val]
theorem val_take_drop (l : List Int) (i : Nat) (h : i ≤ l.length) : val l = val (l.take i) + pw i * val (l.drop i) := by
  have := val_append (l.take i) (l.drop i)
  rwa [List.take_append_drop, List.length_take, Nat.min_eq_left h] at this
theorem val_take_succ (l : List Int) (i : Nat) (h : i < l.length) : val (l.take (i + 1)) = val (l.take i) + pw i * l[i] := by
  rw [List.take_succ_eq_append_getElem h, val_append, List.length_take, Nat.min_eq_left (Nat.le_of_lt h)]
  simp [val]
theorem val_drop_cons (l : List Int) (i : Nat) (h : i < l.length) : val (l.drop i) = l[i] + 4294967296 * val (l.drop (i + 1)) := by
  rw [List.drop_eq_getElem_cons h]; rfl
end Go.Proofs.YthnfmmaolkenkaaDoor.V
/- What nat's functions compute, as numbers: the order, sums, differences, products, a number by a small one, moved bits. -/
namespace Go.Proofs.YthnfmmaolkenkaaDoor.V
set_option linter.unusedVariables false
set_option linter.unusedSimpArgs false
open Go.RowKit Go.Proofs.YthnfmmaolkenkaaDoor.PA Go.Proofs.YthnfmmaolkenkaaDoor.H Go.Proofs.YthnfmmaolkenkaaDoorW.PrintWords Go.Proofs.YthnfmmaolkenkaaDoorW.PrintLast Go.Proofs.YthnfmmaolkenkaaDoorW.PrintMore

theorem w64 {x : Int} (h0 : -9223372036854775808 ≤ x) (h1 : x ≤ 9223372036854775807) : wrap64 x = x := by unfold wrap64; omega
theorem w11 : wrap64 2 = 2 := w64 (by omega) (by omega)
theorem w21 : wrap64 3 = 3 := w64 (by omega) (by omega)
theorem u64 {x : Int} (h0 : 0 ≤ x) (h1 : x < 18446744073709551616) : IntKind.u64.wrap x = x := by rw [IntKind.wrap_u64]; omega
theorem u64e (x : Int) : IntKind.u64.wrap x = x % 18446744073709551616 := IntKind.wrap_u64 x
theorem rd_get (l : List Int) (i : Nat) (h : i < l.length) : rd l (i : Int) = l[i] := by simp [rd, h]
theorem rd_D (l : List Int) (i : Nat) : rd l (i : Int) = l.getD i 0 := by simp [rd]
theorem Lim.getD {l : List Int} (h : Lim l) (i : Nat) : 0 ≤ l.getD i 0 ∧ l.getD i 0 < 4294967296 := by
  by_cases hi : i < l.length
  · have := h.get i hi
    simpa [List.getD_eq_getElem?_getD, hi] using this
  · rw [List.getD_eq_getElem?_getD, List.getElem?_eq_none (by omega)]
    simp
theorem norm_ev (l : List Int) (h : Lim l) (hn : l.length ≤ 1000000000000) : nat_Norm.f l = some (dig (val l)) := by
  unfold nat_Norm.f
  rw [if_pos hn]
  unfold normL
  rw [dropWhile_zeros l h]
theorem limb_ev (l : List Int) (i : Nat) (h : Lim l) : nat_limb.f l (i : Int) = some (l.getD i 0) := by
  have hg := h.getD i
  unfold nat_limb.f
  by_cases hi : i < l.length
  · rw [if_neg (by omega), if_pos (by omega), if_pos (by omega), rd_D, u64 hg.1 (by omega)]
  · rw [if_pos (by omega), List.getD_eq_getElem?_getD, List.getElem?_eq_none (by omega)]
    rfl
theorem sign_ev (n : Int) : nat_sign.f n = some (if n < 0 then -1 else if n > 0 then 1 else 0) := by
  unfold nat_sign.f
  split
  · rfl
  · split <;> rfl
/-- The order of two numbers. -/
def cmpI (a b : Int) : Int := if a < b then -1 else if b < a then 1 else 0
theorem val_lt_of_length {a b : List Int} (ha : Lim a) (hb : Lim b) (hl : a.length < b.length) (hne : ∀ h : b ≠ [], b.getLast h ≠ 0) : val a < val b := by
  have h1 := val_lt ha
  obtain ⟨b', x, rfl⟩ : ∃ b' x, b = b' ++ [x] := by
    have hb0 : b ≠ [] := by rintro rfl; simp at hl
    exact ⟨b.dropLast, b.getLast hb0, (List.dropLast_concat_getLast hb0).symm⟩
  have hx : x ≠ 0 := by simpa using hne (by simp)
  have hx0 := (hb x (by simp)).1
  rw [val_append]
  have h2 := val_nonneg hb.left
  have h3 : pw a.length ≤ pw b'.length := by
    simp at hl
    obtain ⟨d, hd⟩ := Nat.exists_eq_add_of_le (show a.length ≤ b'.length by omega)
    rw [hd, pw_add]
    have := pw_pos a.length
    have := pw_pos d
    calc pw a.length = pw a.length * 1 := by omega
      _ ≤ _ := Int.mul_le_mul_of_nonneg_left (by omega) (by omega)
  have h4 : pw b'.length * 1 ≤ pw b'.length * val [x] := Int.mul_le_mul_of_nonneg_left (by simp [val]; omega) (Int.le_of_lt (pw_pos _))
  omega
theorem cmp_l0 (a b : List Int) (ha : Lim a) (hb : Lim b) (hl : a.length = b.length) (hn : a.length ≤ 1000000000000) (d : Nat) (hd : d ≤ a.length) (he : a.drop d = b.drop d) :
    Ev (fun k => nat_Cmp.l0 k a b ((d : Int) - 1)) (cmpI (val a) (val b)) := by
  induction d with
  | zero =>
    simp only [List.drop_zero] at he
    refine Ev.step (f := fun _ => some _) (fun k => ?_) (Ev.now _)
    simp only [nat_Cmp.l0]
    rw [if_neg (by omega), he]
    unfold cmpI
    rw [if_neg (by omega), if_neg (by omega)]
  | succ d ih =>
    have hda : d < a.length := by omega
    have hdb : d < b.length := by omega
    have e0 : ((d + 1 : Nat) : Int) - 1 = (d : Int) := by omega
    rw [e0]
    have xa := ha.get d hda
    have xb := hb.get d hdb
    by_cases hx : a[d] = b[d]
    · refine Ev.step (fun k => ?_) (ih (by omega) (by rw [List.drop_eq_getElem_cons hda, List.drop_eq_getElem_cons hdb, he, hx]))
      simp only [nat_Cmp.l0]
      rw [if_pos (by omega), if_pos (by omega), if_pos (by omega), if_pos (by omega), rd_get _ _ hda, rd_get _ _ hdb, if_pos hx, w64 (by omega) (by omega)]
    · refine Ev.step (f := fun _ => some _) (fun k => ?_) (Ev.now _)
      simp only [nat_Cmp.l0]
      rw [if_pos (by omega), if_pos (by omega), if_pos (by omega), if_pos (by omega), rd_get _ _ hda, rd_get _ _ hdb, if_neg hx, w64 (x := a[d]) (by omega) (by omega), w64 (x := b[d]) (by omega) (by omega), w64 (by omega) (by omega), sign_ev]
      simp only [Option.bind_some]
      have e1 := val_take_drop a (d + 1) hd
      have e2 := val_take_drop b (d + 1) (by omega)
      rw [he] at e1
      rw [val_take_succ a d hda] at e1
      rw [val_take_succ b d hdb] at e2
      have b1 := val_nonneg (ha.take d)
      have b2 := val_nonneg (hb.take d)
      have b3 := val_lt (ha.take d)
      have b4 := val_lt (hb.take d)
      rw [List.length_take, Nat.min_eq_left (by omega)] at b3 b4
      unfold cmpI
      congr 1
      by_cases hlt : a[d] < b[d]
      · have h5 : pw d * (a[d] + 1) ≤ pw d * b[d] := Int.mul_le_mul_of_nonneg_left (by omega) (Int.le_of_lt (pw_pos _))
        rw [Int.mul_add, Int.mul_one] at h5
        rw [if_pos (by omega), if_pos (by omega)]
      · have h5 : pw d * (b[d] + 1) ≤ pw d * a[d] := Int.mul_le_mul_of_nonneg_left (by omega) (Int.le_of_lt (pw_pos _))
        rw [Int.mul_add, Int.mul_one] at h5
        rw [if_neg (by omega), if_pos (by omega), if_neg (by omega), if_pos (by omega)]
theorem dig_length (l : List Int) (h : Lim l) : (dig (val l)).length ≤ l.length := dig_length_le (val_nonneg h) (val_lt h)
theorem cmp_ev (a b : List Int) (ha : Lim a) (hb : Lim b) (hna : a.length ≤ 1000000000000) (hnb : b.length ≤ 1000000000000) : Ev (fun k => nat_Cmp.f k a b) (cmpI (val a) (val b)) := by
  have va := val_nonneg ha
  have vb := val_nonneg hb
  have la := dig_length a ha
  have lb := dig_length b hb
  by_cases hl : (dig (val a)).length = (dig (val b)).length
  · have := cmp_l0 (dig (val a)) (dig (val b)) (dig_lim _) (dig_lim _) hl (by omega) _ (Nat.le_refl _) (by rw [List.drop_eq_nil_of_le (by omega), List.drop_eq_nil_of_le (by omega)])
    rw [val_dig va, val_dig vb] at this
    refine Ev.congr (fun k => ?_) this
    unfold nat_Cmp.f
    rw [norm_ev a ha hna, norm_ev b hb hnb]
    simp only [Option.bind_some]
    rw [if_pos (by omega), w64 (by omega) (by omega)]
  · refine Ev.congr (f := fun _ => some _) (fun k => ?_) (Ev.now _)
    unfold nat_Cmp.f
    rw [norm_ev a ha hna, norm_ev b hb hnb]
    simp only [Option.bind_some]
    rw [if_neg (by omega), w64 (by omega) (by omega), sign_ev]
    simp only [Option.bind_some]
    congr 1
    unfold cmpI
    by_cases hlt : (dig (val a)).length < (dig (val b)).length
    · have := val_lt_of_length (dig_lim _) (dig_lim _) hlt (fun h => dig_last h)
      rw [val_dig va, val_dig vb] at this
      rw [if_pos (by omega), if_pos (by omega)]
    · have := val_lt_of_length (dig_lim _) (dig_lim _) (show (dig (val b)).length < (dig (val a)).length by omega) (fun h => dig_last h)
      rw [val_dig va, val_dig vb] at this
      rw [if_neg (by omega), if_pos (by omega), if_neg (by omega), if_pos (by omega)]
theorem of_ev (n : Int) (h0 : 0 ≤ n) (h1 : n < 18446744073709551616) : nat_Of.f n = some (dig n) := by
  unfold nat_Of.f
  rw [norm_ev _ (Lim.cons (by omega) (by omega) (Lim.cons (by omega) (by omega) Lim.nil)) (by simp)]
  simp only [Option.bind_some, val]
  congr 2
  omega
theorem pw_le_pw {a b : Nat} (h : a ≤ b) : pw a ≤ pw b := by
  obtain ⟨d, rfl⟩ := Nat.exists_eq_add_of_le h
  rw [pw_add]
  have := pw_pos a
  have := pw_pos d
  calc pw a = pw a * 1 := by omega
    _ ≤ _ := Int.mul_le_mul_of_nonneg_left (by omega) (by omega)

/-! ### sums -/
theorem step_add {P V A Bv c x y q r : Int} (h : V + P * c = A + Bv) (e : r + 4294967296 * q = c + (x + y)) : V + P * r + (4294967296 * P) * q = A + P * x + (Bv + P * y) := by grind
theorem add_l0 (a b : List Int) (ha : Lim a) (hb : Lim b) (n : Nat) (hna : a.length < n) (hnb : b.length < n) (hn : n ≤ 1000000000000) (d : Nat) : ∀ (i : Nat) (out : List Int) (c : Int), i + d = n → out.length = n → Lim out → 0 ≤ c → c ≤ 1 → val (out.take i) + pw i * c = val (a.take i) + val (b.take i) →
    Ev (fun k => nat_Add.l0 k a b out c (n : Int) (i : Int)) (dig (val a + val b)) := by
  induction d with
  | zero =>
    intro i out c hi ho hL c0 c1 hv
    obtain rfl : i = n := by omega
    refine Ev.step (f := fun _ => some _) (fun k => ?_) (Ev.now _)
    simp only [nat_Add.l0]
    rw [if_neg (by omega), norm_ev out hL (by omega)]
    simp only [Option.bind_some]
    rw [List.take_of_length_le (by omega), List.take_of_length_le (by omega), List.take_of_length_le (by omega)] at hv
    have h1 := val_lt ha
    have h2 := val_lt hb
    have h3 := val_nonneg hL
    obtain ⟨m, rfl⟩ : ∃ m, i = m + 1 := ⟨i - 1, by omega⟩
    have h4 := pw_le_pw (show a.length ≤ m by omega)
    have h5 := pw_le_pw (show b.length ≤ m by omega)
    have h6 := pw_succ m
    have h7 := pw_pos m
    have hc : c = 0 := by
      by_cases hc : c = 0
      · exact hc
      · have : c = 1 := by omega
        subst this
        omega
    subst hc
    congr 2
    omega
  | succ d ih =>
    intro i out c hi ho hL c0 c1 hv
    have ga := ha.getD i
    have gb := hb.getD i
    have hio : i < out.length := by omega
    refine Ev.step (fun k => ?_) (ih (i + 1) (out.set i ((c + (a.getD i 0 + b.getD i 0)) % 4294967296)) ((c + (a.getD i 0 + b.getD i 0)) / 4294967296) (by omega) (by simpa using ho) (hL.set i (by omega) (by omega)) (by omega) (by omega) ?_)
    · simp only [nat_Add.l0]
      rw [if_pos (by omega), limb_ev a i ha, limb_ev b i hb]
      simp only [Option.bind_some]
      rw [if_pos (by omega), if_pos (by omega), u64 (x := a.getD i 0 + b.getD i 0) (by omega) (by omega), u64 (by omega) (by omega), w64 (by omega) (by omega), Int.toNat_natCast]
      rfl
    · rw [val_set_take _ _ _ hio, val_take_getD a, val_take_getD b, pw_succ]
      exact step_add hv (by omega)
theorem mx_len (a b : List Int) : mx (a.length : Int) (b.length : Int) = ((max a.length b.length : Nat) : Int) := by unfold mx; split <;> omega
theorem add_ev (a b : List Int) (ha : Lim a) (hb : Lim b) (hna : a.length < 1000000000) (hnb : b.length < 1000000000) : Ev (fun k => nat_Add.f k a b) (dig (val a + val b)) := by
  have := add_l0 a b ha hb (max a.length b.length + 1) (by omega) (by omega) (by omega) (max a.length b.length + 1) 0 (List.replicate (max a.length b.length + 1) 0) 0 (by omega) (by simp) (Lim.zeros _) (by omega) (by omega) (by simp [val])
  refine Ev.congr (fun k => ?_) this
  unfold nat_Add.f
  rw [mx_len, w64 (by omega) (by omega), if_pos (by omega), if_pos (by omega)]
  congr 1 <;> omega

end Go.Proofs.YthnfmmaolkenkaaDoor.V
/- What nat's products, and a number by a small one, and moved bits are, as numbers. -/
namespace Go.Proofs.YthnfmmaolkenkaaDoor.V
set_option linter.unusedVariables false
set_option linter.unusedSimpArgs false
open Go.RowKit Go.Proofs.YthnfmmaolkenkaaDoor.PA Go.Proofs.YthnfmmaolkenkaaDoor.H Go.Proofs.YthnfmmaolkenkaaDoorW.PrintWords Go.Proofs.YthnfmmaolkenkaaDoorW.PrintLast Go.Proofs.YthnfmmaolkenkaaDoorW.PrintMore

theorem mul_bd {x y X Y : Int} (h0 : 0 ≤ x) (h1 : x ≤ X) (g0 : 0 ≤ y) (g1 : y ≤ Y) : 0 ≤ x * y ∧ x * y ≤ X * Y :=
  ⟨Int.mul_nonneg h0 g0, Int.mul_le_mul h1 g1 g0 (by omega)⟩
theorem mul_bd32 {x y : Int} (hx : 0 ≤ x ∧ x < 4294967296) (hy : 0 ≤ y ∧ y < 4294967296) : 0 ≤ x * y ∧ x * y ≤ 18446744065119617025 :=
  mul_bd hx.1 (show x ≤ 4294967295 by omega) hy.1 (show y ≤ 4294967295 by omega)
theorem getD_get (l : List Int) (i : Nat) (h : i < l.length) : l.getD i 0 = l[i] := by simp [List.getD_eq_getElem?_getD, h]
theorem getD_set_ne (l : List Int) (i p : Nat) (x : Int) (h : i ≠ p) : (l.set i x).getD p 0 = l.getD p 0 := by
  simp [List.getD_eq_getElem?_getD, h]
/-- Noughts from a place on. -/
def Zf (l : List Int) (n : Nat) : Prop := ∀ p, n ≤ p → l.getD p 0 = 0
theorem Zf.set {l : List Int} {n i : Nat} {x : Int} (h : Zf l n) (hi : i < n) : Zf (l.set i x) n := fun p hp => by
  rw [getD_set_ne _ _ _ _ (by omega)]; exact h p hp
theorem Zf.zeros (m n : Nat) : Zf (List.replicate m 0) n := fun p _ => by
  rw [List.getD_eq_getElem?_getD]
  by_cases h : p < m <;> simp [h]
theorem step_mul {W V0 Pi pj P x y c q r vb o : Int} (h : W + P * c = V0 + Pi * x * vb) (e : r + 4294967296 * q = c + (x * y + o)) (hP : P = Pi * pj) : W + P * (r - o) + (4294967296 * P) * q = V0 + Pi * x * (vb + pj * y) := by
  subst hP
  grind
theorem mul_l1 (a b : List Int) (ha : Lim a) (hb : Lim b) (hna : a.length < 1000000000) (hnb : b.length < 1000000000) (i : Nat) (hi : i < a.length) (x V0 : Int) (hx : 0 ≤ x ∧ x < 4294967296) (r : List Int)
    (hc : ∀ out, out.length = a.length + b.length → Lim out → val out = V0 + pw i * x * val b → Zf out (i + 1 + b.length) → Ev (fun k => nat_Mul.l0 k b out a (a.length : Int) ((i + 1 : Nat) : Int)) r) (d : Nat) : ∀ (j : Nat) (out : List Int) (c : Int), j + d = b.length → out.length = a.length + b.length → Lim out → 0 ≤ c → c < 4294967296 → val out + pw (i + j) * c = V0 + pw i * x * val (b.take j) → Zf out (i + b.length) →
    Ev (fun k => nat_Mul.l1 k b out (i : Int) x c a (a.length : Int) (i : Int) (b.length : Int) (j : Int)) r := by
  induction d with
  | zero =>
    intro j out c hj ho hL c0 c1 hv hz
    obtain rfl : j = b.length := by omega
    have hp : i + b.length < out.length := by omega
    refine Ev.step (fun k => ?_) (hc (out.set (i + b.length) c) (by simpa using ho) (hL.set _ c0 c1) ?_ ?_)
    · simp only [nat_Mul.l1]
      rw [if_neg (by omega), w64 (by omega) (by omega), if_pos (by omega), if_pos (by omega), w64 (by omega) (by omega), show ((i : Int) + (b.length : Int)).toNat = i + b.length by omega, show c % 4294967296 = c by omega]
      rfl
    · have h0 := hz (i + b.length) (Nat.le_refl _)
      rw [getD_get _ _ hp] at h0
      rw [val_set _ _ _ hp, h0]
      rw [List.take_of_length_le (by omega)] at hv
      rw [Int.sub_zero]; exact hv
    · intro p hpp
      rw [getD_set_ne _ _ _ _ (by omega)]
      exact hz p (by omega)
  | succ d ih =>
    intro j out c hj ho hL c0 c1 hv hz
    have hjb : j < b.length := by omega
    have hp : i + j < out.length := by omega
    have gb := hb.get j hjb
    have go := hL.get (i + j) hp
    have hm := mul_bd32 hx gb
    refine Ev.step (fun k => ?_) (ih (j + 1) (out.set (i + j) ((c + (x * b[j] + out[i + j])) % 4294967296)) ((c + (x * b[j] + out[i + j])) / 4294967296) (by omega) (by simpa using ho) (hL.set _ (by omega) (by omega)) (by omega) (by omega) ?_ (hz.set (by omega)))
    · simp only [nat_Mul.l1]
      rw [if_pos (by omega), if_pos (by omega), if_pos (by omega), w64 (x := (i : Int) + (j : Int)) (by omega) (by omega), if_pos (by omega), if_pos (by omega), show ((i : Int) + (j : Int)) = ((i + j : Nat) : Int) by omega, rd_get _ _ hp, rd_get _ _ hjb, u64 (x := x) (by omega) (by omega), u64 (x := b[j]) (by omega) (by omega), u64 (x := x * b[j]) (by omega) (by omega), u64 (x := out[i + j]) (by omega) (by omega), u64 (x := x * b[j] + out[i + j]) (by omega) (by omega), u64 (by omega) (by omega), w64 (by omega) (by omega), Int.toNat_natCast]
      rfl
    · rw [val_set _ _ _ hp, val_take_succ _ _ hjb, ← Nat.add_assoc, pw_succ]
      exact step_mul hv (by omega) (pw_add i j)
theorem mul_l0 (a b : List Int) (ha : Lim a) (hb : Lim b) (hna : a.length < 1000000000) (hnb : b.length < 1000000000) (d : Nat) : ∀ (i : Nat) (out : List Int), i + d = a.length → out.length = a.length + b.length → Lim out → val out = val (a.take i) * val b → Zf out (i + b.length) →
    Ev (fun k => nat_Mul.l0 k b out a (a.length : Int) (i : Int)) (dig (val a * val b)) := by
  induction d with
  | zero =>
    intro i out hi ho hL hv hz
    obtain rfl : i = a.length := by omega
    refine Ev.step (f := fun _ => some _) (fun k => ?_) (Ev.now _)
    simp only [nat_Mul.l0]
    rw [if_neg (by omega), norm_ev out hL (by omega), hv, List.take_of_length_le (by omega)]
    rfl
  | succ d ih =>
    intro i out hi ho hL hv hz
    have hia : i < a.length := by omega
    have ga := ha.get i hia
    refine Ev.step (fun k => ?_) (mul_l1 a b ha hb hna hnb i hia a[i] (val (a.take i) * val b) ga _ (fun out' h1 h2 h3 h4 => ih (i + 1) out' (by omega) h1 h2 ?_ h4) b.length 0 out 0 (by omega) ho hL (by omega) (by omega) ?_ hz)
    · simp only [nat_Mul.l0]
      rw [if_pos (by omega), if_pos (by omega), if_pos (by omega), rd_get _ _ hia]
      rfl
    · rw [h3, val_take_succ _ _ hia]; grind
    · simp [hv, val]
theorem mul_ev (a b : List Int) (ha : Lim a) (hb : Lim b) (hna : a.length < 1000000000) (hnb : b.length < 1000000000) : Ev (fun k => nat_Mul.f k a b) (dig (val a * val b)) := by
  refine Ev.congr (fun k => ?_) (mul_l0 a b ha hb hna hnb a.length 0 (List.replicate (a.length + b.length) 0) (by omega) (by simp) (Lim.zeros _) (by simp [val, val_zeros]) (Zf.zeros _ _))
  unfold nat_Mul.f
  rw [w64 (by omega) (by omega), if_pos (by omega), if_pos (by omega), show ((a.length : Int) + (b.length : Int)).toNat = a.length + b.length by omega]
  rfl

/-! ### a number by a small one -/
theorem wraps_u64 (n : Int) (h0 : 0 ≤ n) (h1 : n < 2 ^ 64) : IntKind.u64.wrap n = n := u64 h0 (by omega)
theorem or_join {x y : Int} (hx : 0 ≤ x ∧ x < 4294967296) (hy : 0 ≤ y ∧ y < 4294967296) : Go.bits .or .u64 (x * 4294967296) y = x * 4294967296 + y :=
  bits_join .u64 64 (by decide) wraps_u64 32 _ _ (by omega) (by omega) (by omega) hy.1 (by omega) (by omega)
theorem div_unique {a b q r : Int} (hb : 0 < b) (h : q * b + r = a) (h0 : 0 ≤ r) (h1 : r < b) : a / b = q ∧ a % b = r :=
  (Int.ediv_emod_unique hb).2 ⟨by rw [← h, Int.mul_comm]; omega, h0, h1⟩
theorem drop_set_self (l : List Int) (i : Nat) (x : Int) (h : i < l.length) : (l.set i x).drop i = x :: l.drop (i + 1) := by
  rw [List.drop_eq_getElem_cons (by simpa using h)]
  simp [List.drop_set_of_lt]
theorem small_l0 (a : List Int) (n : Int) (ha : Lim a) (hn0 : 0 < n) (hn1 : n ≤ 4294967296) (hna : a.length < 1000000000) (d : Nat) : ∀ (out : List Int) (r : Int), d ≤ a.length → out.length = a.length → Lim out → 0 ≤ r → r < n → val (out.drop d) * n + r = val (a.drop d) →
    Ev (fun k => nat_small.l0 k a n out r ((d : Int) - 1)) (dig (val a / n), val a % n) := by
  induction d with
  | zero =>
    intro out r hd ho hL r0 r1 hv
    refine Ev.step (f := fun _ => some _) (fun k => ?_) (Ev.now _)
    simp only [nat_small.l0]
    rw [if_neg (by omega), norm_ev out hL (by omega)]
    simp only [List.drop_zero] at hv
    obtain ⟨e1, e2⟩ := div_unique hn0 hv r0 r1
    rw [e1, e2]
    rfl
  | succ d ih =>
    intro out r hd ho hL r0 r1 hv
    have hda : d < a.length := by omega
    have hdo : d < out.length := by omega
    have ga := ha.get d hda
    have ho1 : Go.bits .or .u64 (IntKind.u64.wrap (r * 4294967296)) (IntKind.u64.wrap a[d]) = r * 4294967296 + a[d] := by
      rw [u64 (by omega) (by omega), u64 (by omega) (by omega)]
      exact or_join ⟨r0, by omega⟩ ga
    have hX0 : 0 ≤ r * 4294967296 + a[d] := by omega
    have hq0 : 0 ≤ (r * 4294967296 + a[d]) / n := Int.ediv_nonneg hX0 (by omega)
    have hq1 : (r * 4294967296 + a[d]) / n < 4294967296 := by
      apply Int.ediv_lt_of_lt_mul hn0
      have : (r + 1) * 4294967296 ≤ n * 4294967296 := Int.mul_le_mul_of_nonneg_right (by omega) (by omega)
      omega
    have hm0 := Int.emod_nonneg (r * 4294967296 + a[d]) (show n ≠ 0 by omega)
    have hm1 := Int.emod_lt_of_pos (r * 4294967296 + a[d]) hn0
    have hqr := Int.mul_ediv_add_emod (r * 4294967296 + a[d]) n
    refine Ev.step (fun k => ?_) (ih (out.set d ((r * 4294967296 + a[d]) / n)) ((r * 4294967296 + a[d]) % n) (by omega) (by simpa using ho) (hL.set _ hq0 hq1) hm0 hm1 ?_)
    · simp only [nat_small.l0]
      have e : ((d + 1 : Nat) : Int) - 1 = (d : Int) := by omega
      rw [e, if_pos (by omega), if_pos (by omega), if_pos (by omega), if_neg (by omega), if_pos (by omega), rd_get _ _ hda, ho1, Int.tdiv_eq_ediv_of_nonneg hX0, Int.tmod_eq_emod_of_nonneg hX0, u64 hq0 (by omega), Int.emod_eq_of_lt hq0 hq1, w64 (by omega) (by omega), Int.toNat_natCast]
    · rw [drop_set_self _ _ _ hdo, val_drop_cons _ _ hda]
      simp only [val]
      rw [← hv]
      generalize (r * 4294967296 + a[d]) / n = q at *
      generalize (r * 4294967296 + a[d]) % n = s at *
      grind
theorem small_ev (a : List Int) (n : Int) (ha : Lim a) (hn0 : 0 < n) (hn1 : n ≤ 4294967296) (hna : a.length < 1000000000) : Ev (fun k => nat_small.f k a n) (dig (val a / n), val a % n) := by
  refine Ev.congr (fun k => ?_) (small_l0 a n ha hn0 hn1 hna a.length (List.replicate a.length 0) 0 (Nat.le_refl _) (by simp) (Lim.zeros _) (by omega) (by omega) (by rw [List.drop_eq_nil_of_le (by simp), List.drop_eq_nil_of_le (by omega)]; simp [val]))
  unfold nat_small.f
  rw [if_pos (by omega), if_pos (by omega), w64 (by omega) (by omega), Int.toNat_natCast]

/-! ### moved bits -/
theorem wraps_u32 (n : Int) (h0 : 0 ≤ n) (h1 : n < 2 ^ 32) : IntKind.u32.wrap n = n := by rw [IntKind.wrap_u32]; omega
theorem or_comm_ (k : IntKind) (x y : Int) : Go.bits .or k x y = Go.bits .or k y x := by
  simp only [Go.bits, BitVec.or_comm]
theorem p_pos (n : Nat) : (0 : Int) < 2 ^ n := Int.pow_pos (by omega)
theorem p_split {n : Nat} (hn : n ≤ 32) : (2 : Int) ^ n * 2 ^ (32 - n) = 4294967296 := by
  rw [← Int.pow_add, show n + (32 - n) = 32 by omega]; rfl
theorem p_le {n : Nat} (hn : n ≤ 31) : (2 : Int) ^ n ≤ 2147483648 := by
  have := Nat.pow_le_pow_right (n := 2) (by omega) hn
  have e : (2 : Int) ^ n = ((2 ^ n : Nat) : Int) := by simp
  omega
theorem or_low {n : Nat} (hn : n ≤ 31) {x y : Int} (hx0 : 0 ≤ x) (hx1 : x < 2 ^ n) (hy0 : 0 ≤ y) (hy1 : y < 4294967296) (hy : y % 2 ^ n = 0) : Go.bits .or .u32 x y = x + y := by
  have := p_le hn
  rw [or_comm_, bits_join .u32 32 (by decide) wraps_u32 n y x hy0 hy (by omega) hx0 hx1 (by omega)]
  omega
theorem shl_u64 (x : Int) (n : Nat) (hn : n ≤ 31) (hx : 0 ≤ x ∧ x < 4294967296) : shl .u64 x (n : Int) = x * 2 ^ n ∧ 0 ≤ x * 2 ^ n ∧ x * 2 ^ n < 9223372036854775808 := by
  have h1 := p_pos n
  have h2 := p_le hn
  have h3 := mul_bd hx.1 (show x ≤ 4294967295 by omega) (Int.le_of_lt h1) h2
  refine ⟨?_, h3.1, by omega⟩
  unfold shl
  rw [Int.toNat_natCast, Nat.min_eq_left (by simp [IntKind.bits]; omega), u64 h3.1 (by omega)]
theorem mulmod_p {n : Nat} (hn : n ≤ 31) (x : Int) : (x * 2 ^ n) % 4294967296 % 2 ^ n = 0 := by
  rw [Int.emod_emod_of_dvd _ ⟨2 ^ (32 - n), (p_split (by omega)).symm⟩, Int.mul_emod_left]
theorem left_l0 (a : List Int) (n : Nat) (ha : Lim a) (hn : n ≤ 31) (hna : a.length < 1000000000) (d : Nat) : ∀ (i : Nat) (out : List Int), i + d = a.length → out.length = a.length + 1 → Lim out → out.getD i 0 < 2 ^ n → val (out.take (i + 1)) = val (a.take i) * 2 ^ n →
    ∃ o, Ev (fun k => nat_left.l0 k (n : Int) out a (a.length : Int) (i : Int)) o ∧ o.length = a.length + 1 ∧ Lim o ∧ val o = val a * 2 ^ n := by
  have hp := p_pos n
  have hp1 := p_le hn
  induction d with
  | zero =>
    intro i out hi ho hL h1 hv
    obtain rfl : i = a.length := by omega
    rw [List.take_of_length_le (by omega), List.take_of_length_le (by omega)] at hv
    refine ⟨out, Ev.step (f := fun _ => some _) (fun k => ?_) (Ev.now _), ho, hL, hv⟩
    simp only [nat_left.l0]
    rw [if_neg (by omega)]
  | succ d ih =>
    intro i out hi ho hL h1 hv
    have hia : i < a.length := by omega
    have hio : i < out.length := by omega
    have hio' : i + 1 < out.length := by omega
    have ga := ha.get i hia
    have go := hL.get i hio
    rw [getD_get _ _ hio] at h1
    obtain ⟨s1, s2, s3⟩ := shl_u64 a[i] n hn ga
    have hlow := mulmod_p hn a[i]
    have hor := or_low hn go.1 h1 (show 0 ≤ (a[i] * 2 ^ n) % 4294967296 by omega) (by omega) hlow
    have hq : (a[i] * 2 ^ n) / 4294967296 < 2 ^ n := by
      apply Int.ediv_lt_of_lt_mul (by omega)
      rw [Int.mul_comm (a[i])]
      exact Int.mul_lt_mul_of_pos_left ga.2 hp
    have hsum : out[i] + (a[i] * 2 ^ n) % 4294967296 < 4294967296 := by
      -- the low part is a multiple of 2^n below 2^32
      have e := Int.mul_ediv_add_emod ((a[i] * 2 ^ n) % 4294967296) (2 ^ n)
      rw [hlow] at e
      have hs := p_split (n := n) (by omega)
      have hs0 := p_pos (32 - n)
      have : (a[i] * 2 ^ n) % 4294967296 / 2 ^ n < 2 ^ (32 - n) := by
        apply Int.ediv_lt_of_lt_mul hp
        rw [Int.mul_comm (2 ^ (32 - n)), hs]; omega
      have h5 : 2 ^ n * ((a[i] * 2 ^ n) % 4294967296 / 2 ^ n + 1) ≤ 2 ^ n * 2 ^ (32 - n) := Int.mul_le_mul_of_nonneg_left (by omega) (Int.le_of_lt hp)
      rw [Int.mul_add, Int.mul_one] at h5
      omega
    have hstep := fun o' h2 h3 h4 h5 => ih (i + 1) o' (by omega) h2 h3 h4 h5
    obtain ⟨o, ho1, ho2, ho3, ho4⟩ := hstep ((out.set i (out[i] + (a[i] * 2 ^ n) % 4294967296)).set (i + 1) ((a[i] * 2 ^ n) / 4294967296)) (by simpa using ho) ((hL.set i (by omega) hsum).set (i + 1) (by omega) (by omega)) (by rw [getD_get _ _ (by simpa using hio')]; simpa using hq) (by
      rw [val_set_take _ _ _ (by simpa using hio'), val_set_take _ _ _ hio]
      rw [val_take_succ _ _ hio] at hv
      rw [val_take_succ _ _ hia, pw_succ]
      have e := Int.mul_ediv_add_emod (a[i] * 2 ^ n) 4294967296
      generalize a[i] * 2 ^ n / 4294967296 = q at *
      generalize a[i] * 2 ^ n % 4294967296 = r at *
      grind)
    refine ⟨o, Ev.step (fun k => ?_) ho1, ho2, ho3, ho4⟩
    simp only [nat_left.l0]
    rw [if_pos (by omega), if_pos (by omega), if_pos (by omega), if_pos (by omega), if_pos (by omega), w64 (by omega) (by omega), if_pos (by omega), if_pos (by omega), rd_get _ _ hio, rd_get _ _ hia, u64 (x := a[i]) ga.1 (by omega), s1, hor, Int.toNat_natCast, show ((i : Int) + 1).toNat = i + 1 by omega, Int.emod_eq_of_lt (a := a[i] * 2 ^ n / 4294967296) (by omega) (by omega)]
    rfl
theorem left_ev (a : List Int) (n : Nat) (ha : Lim a) (hn : n ≤ 31) (hna : a.length < 1000000000) : ∃ o, Ev (fun k => nat_left.f k a (n : Int)) o ∧ o.length = a.length + 1 ∧ Lim o ∧ val o = val a * 2 ^ n := by
  obtain ⟨o, h1, h2⟩ := left_l0 a n ha hn hna a.length 0 (List.replicate (a.length + 1) 0) (by omega) (by simp) (Lim.zeros _) (by have := p_pos n; simp; exact this) (by simp [val, List.replicate_succ])
  refine ⟨o, Ev.congr (fun k => ?_) h1, h2⟩
  unfold nat_left.f
  rw [w64 (by omega) (by omega), if_pos (by omega), if_pos (by omega), show ((a.length : Int) + 1).toNat = a.length + 1 by omega]
  rfl
theorem shr_u64 (x : Int) (n : Nat) (hn : n ≤ 31) : shr .u64 x (n : Int) = x / 2 ^ n := by
  unfold shr
  rw [Int.toNat_natCast, Nat.min_eq_left (by simp [IntKind.bits]; omega)]
/-- One limb of a number moved down. -/
theorem right_limb {p s X a : Int} (hp : 0 < p) (hs : 0 < s) (hps : p * s = 4294967296) (hX : 0 ≤ X ∧ X < 4294967296) (ha : 0 ≤ a ∧ a < 4294967296) : ((X * 4294967296 + a) / p % 4294967296) * p = (X % p) * 4294967296 + (a - a % p) ∧ 0 ≤ (X * 4294967296 + a) / p % 4294967296 ∧ (X * 4294967296 + a) / p % 4294967296 < 4294967296 := by
  have e1 : X * 4294967296 + a = a + p * (X * s) := by rw [← hps]; grind
  have e2 : (X * 4294967296 + a) / p = a / p + X * s := by rw [e1, Int.add_mul_ediv_left _ _ (by omega)]
  have e3 := Int.mul_ediv_add_emod X p
  have e4 := Int.mul_ediv_add_emod a p
  have m0 := Int.emod_nonneg X (show p ≠ 0 by omega)
  have m1 := Int.emod_lt_of_pos X hp
  have h0 : 0 ≤ a / p := Int.ediv_nonneg ha.1 (by omega)
  have h1 : a / p < s := Int.ediv_lt_of_lt_mul hp (by rw [Int.mul_comm s, hps]; exact ha.2)
  have e5 : (X * 4294967296 + a) / p = (X / p) * 4294967296 + ((X % p) * s + a / p) := by
    rw [e2, ← hps]
    generalize X / p = u at *
    generalize X % p = v at *
    generalize a / p = t at *
    subst e3
    grind
  have hb0 : 0 ≤ (X % p) * s := Int.mul_nonneg m0 (by omega)
  have hb1 : (X % p + 1) * s ≤ p * s := Int.mul_le_mul_of_nonneg_right (by omega) (by omega)
  rw [Int.add_mul, Int.one_mul, hps] at hb1
  have e6 : (X * 4294967296 + a) / p % 4294967296 = (X % p) * s + a / p := by
    rw [e5]
    generalize X % p * s = z at *
    omega
  refine ⟨?_, by omega, by omega⟩
  rw [e6]
  have : (X % p * s + a / p) * p = (X % p) * (p * s) + p * (a / p) := by grind
  rw [this, hps]
  omega
theorem right_l0 (a : List Int) (n : Nat) (ha : Lim a) (hn : n ≤ 31) (hna : a.length < 1000000000) (d : Nat) : ∀ (i : Nat) (out : List Int), i + d = a.length → out.length = a.length → Lim out → val (out.take i) * 2 ^ n + a.getD 0 0 % 2 ^ n = val (a.take i) + pw i * (a.getD i 0 % 2 ^ n) →
    Ev (fun k => nat_right.l0 k a (n : Int) out (a.length : Int) (i : Int)) (dig (val a / 2 ^ n)) := by
  have hp := p_pos n
  induction d with
  | zero =>
    intro i out hi ho hL hv
    obtain rfl : i = a.length := by omega
    refine Ev.step (f := fun _ => some _) (fun k => ?_) (Ev.now _)
    simp only [nat_right.l0]
    rw [if_neg (by omega), norm_ev out hL (by omega)]
    simp only [Option.bind_some]
    rw [List.take_of_length_le (by omega), List.take_of_length_le (by omega), List.getD_eq_getElem?_getD (i := a.length), List.getElem?_eq_none (by omega)] at hv
    simp only [Option.getD_none, Int.zero_emod, Int.mul_zero, Int.add_zero] at hv
    have h0 := Int.emod_nonneg (a.getD 0 0) (show (2 : Int) ^ n ≠ 0 by omega)
    have h1 := Int.emod_lt_of_pos (a.getD 0 0) hp
    rw [(div_unique hp hv h0 h1).1]
  | succ d ih =>
    intro i out hi ho hL hv
    have hia : i < a.length := by omega
    have hio : i < out.length := by omega
    have ga := ha.get i hia
    have gx := ha.getD (i + 1)
    obtain ⟨e1, e2, e3⟩ := right_limb hp (p_pos (32 - n)) (p_split (by omega)) gx ga
    refine Ev.step (fun k => ?_) (ih (i + 1) (out.set i ((a.getD (i + 1) 0 * 4294967296 + a[i]) / 2 ^ n % 4294967296)) (by omega) (by simpa using ho) (hL.set _ e2 e3) ?_)
    · simp only [nat_right.l0]
      rw [if_pos (by omega), w64 (x := (i : Int) + 1) (by omega) (by omega), show (i : Int) + 1 = ((i + 1 : Nat) : Int) by omega, limb_ev _ _ ha]
      simp only [Option.bind_some]
      rw [if_pos (by omega), if_pos (by omega), if_pos (by omega), if_pos (by omega), rd_get _ _ hia, u64 (x := a[i]) ga.1 (by omega), u64 (x := a.getD (i + 1) 0 * 4294967296) (by omega) (by omega), or_join gx ga, shr_u64 _ _ hn, Int.toNat_natCast]
    · rw [val_set_take _ _ _ hio, val_take_succ _ _ hia, pw_succ]
      rw [getD_get _ _ hia] at hv
      generalize (a.getD (i + 1) 0 * 4294967296 + a[i]) / 2 ^ n % 4294967296 = z at *
      generalize a.getD (i + 1) 0 % 2 ^ n = y at *
      generalize a[i] % 2 ^ n = w at *
      generalize (2 : Int) ^ n = p at *
      grind
theorem right_ev (a : List Int) (n : Nat) (ha : Lim a) (hn : n ≤ 31) (hna : a.length < 1000000000) : Ev (fun k => nat_right.f k a (n : Int)) (dig (val a / 2 ^ n)) := by
  refine Ev.congr (fun k => ?_) (right_l0 a n ha hn hna a.length 0 (List.replicate a.length 0) (by omega) (by simp) (Lim.zeros _) (by simp [val, pw_zero]))
  unfold nat_right.f
  rw [if_pos (by omega), if_pos (by omega)]
  simp only [Int.toNat_natCast]
  rfl
end Go.Proofs.YthnfmmaolkenkaaDoor.V
