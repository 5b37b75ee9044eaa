/- Joined by wip/tools/shake.py for the claim of WholeBack: PAx0, HNorm, PAx1, PAx2, PAx3, HWin, HDigit, HDigitW, Shelf, HLz, PAx4. -/
import Derived.Test.YthnfmmaolkenkaaDoorProg
import Derived.Below
import Derived.Sort.Row
import Derived.Deep.Draws
import Derived.Deep.AppendLies
import Derived.Maps.AppendAt
import Derived.OwnWalk
import Derived.Laws.BytesArg
import Derived.Laws.MakeOwn
import Derived.Laws.OwnMore
import Derived.Deep.OwnRows
import Derived.Tactics
import Derived.Lib.ConvBytes
import Derived.Laws.Slices
import Derived.WalkKit
import Derived.KernelRfl
import Derived.RowKit3
import Derived.Deep.LoopGhost
import Derived.Deep.QuietTactic
import Derived.BigQuiet
import Derived.WideLaws
import Derived.Deep.DeepCutAuto
import Derived.Deep.CutBlock
import Derived.Deep.RegionHeld3
import Derived.Laws.Rows
import Derived.Lib.AppendStr
import Derived.ArgAppend
import Derived.Laws.IdiomCopy
import Derived.OrdersHeld
import Derived.Laws.BitsLemmas
import Derived.RowKit
import Derived.Test.YthnfmmaolkenkaaDoorJWholeBack1
import Derived.Test.YthnfmmaolkenkaaDoorJWholeBack3
import Derived.Laws.StructEq
import Derived.Test.YthnfmmaolkenkaaDoorJWholeBack2
import Derived.Shelf.Strings.Trim
import Derived.Shelf.Small.Utf8
import Derived.Shelf.Small.Bits
import Derived.Shelf.Small.Strs
import Derived.Shelf.Strings.Search1
import Derived.Shelf.Strings.Runes
import Derived.Shelf.Strings.AsciiSet
import Derived.Shelf.Unicode.DecodeSlow
/- Written by a program of this session, wip/tools/patch_print.py, over the kit's print of the loaded functions. -/
namespace Go.Proofs.YthnfmmaolkenkaaDoor.H
end Go.Proofs.YthnfmmaolkenkaaDoor.H
namespace Go.Proofs.YthnfmmaolkenkaaDoor.PA
open Go.RowKit Go.Proofs.YthnfmmaolkenkaaDoorW.PrintWords Go.Proofs.YthnfmmaolkenkaaDoorW.PrintLast Go.Proofs.YthnfmmaolkenkaaDoorW.PrintMore Go.Proofs.YthnfmmaolkenkaaDoor.H
attribute [local go_sem] max2_int min2_int max_two min_two max_three min_three max_four min_four   -- for this text's walks alone
set_option linter.unusedVariables false
set_option linter.unusedSimpArgs false



def errW : Option Int → Value
 | none => .nilIface
 | some c => .iface 0 (.int .i64 c)
theorem errW_none : errW none = .nilIface := rfl
theorem errW_some (c : Int) : errW (some c) = .iface 0 (.int .i64 c) := rfl

theorem info51 : (Tryd.prog.info? 51).map (fun i => (i.zero, i.size, i.bytes)) = some (some (.int .u32 0), 1, 4) := by kernel_rfl
-- the values' own types

theorem box_twice (w : World) (b o : Nat) (v v' : Value) : ((w.setCell ⟨b, o, none⟩ v).setCell ⟨b, o, none⟩ v').cell? ⟨b, o, none⟩ = (w.setCell ⟨b, o, none⟩ v').cell? ⟨b, o, none⟩ := by
 rw [Go.Sort.setCell_eq, Go.Sort.setCell_eq, Go.Sort.mapBlock_mapBlock, Go.Sort.setCell_eq]
 congr 2
 funext c
 simp

end Go.Proofs.YthnfmmaolkenkaaDoor.PA
/- nat.Norm, in the printed shape: a copy without the noughts behind. -/
namespace Go.Proofs.YthnfmmaolkenkaaDoor.H
open Go.RowKit Go.Proofs.YthnfmmaolkenkaaDoorW.PrintWords Go.Proofs.YthnfmmaolkenkaaDoorW.PrintLast

/-- Without the noughts behind. -/
def normL (l : List Int) : List Int := (l.reverse.dropWhile (fun x => x == 0)).reverse
def nat_Norm.f (l0 : List Int) : Option (List Int) := if l0.length ≤ 1000000000000 then some (normL l0) else none
theorem normL_zero (l : List Int) (k : Nat) (h : k < l.length) (h0 : l[k] = 0) : normL (l.take (k + 1)) = normL (l.take k) := by
  unfold normL
  rw [List.take_succ_eq_append_getElem h, List.reverse_append, h0]
  rfl
theorem normL_stop (l : List Int) (k : Nat) (h : k < l.length) (h0 : l[k] ≠ 0) : normL (l.take (k + 1)) = l.take (k + 1) := by
  unfold normL
  rw [List.take_succ_eq_append_getElem h, List.reverse_append]
  have : ([l[k]] : List Int).reverse ++ (l.take k).reverse = l[k] :: (l.take k).reverse := rfl
  rw [this, List.dropWhile_cons_of_neg (by simpa using h0), List.reverse_cons, List.reverse_reverse]
theorem infoU32 : (Tryd.prog.info? 51).map (fun i => (i.zero, i.size, i.bytes)) = some (some (.int .u32 0), 1, 4) := by kernel_rfl
theorem sizeU32 : (Tryd.prog.info? 51).map (·.size) = some 1 := by kernel_rfl
set_option maxHeartbeats 1000000 in
set_option maxRecDepth 100000 in
theorem nat_Norm.calls (A0 : Option Addr) (c0 : Nat) (l0 : List Int) (r : List Int) (w : World) (hr0 : Kd.C (Kd.int .u32) w A0 l0.length l0) (_hc0 : l0.length ≤ c0) (h : nat_Norm.f l0 = some r) :
    Calls Tryd.prog 60 #[.slice A0 l0.length c0] w fun e w' => ∃ v0_ : Value, e = .returned (v0_) ∧ Kd.R (Kd.int .u32) 51 w' w.heap.size (fun _ => True) v0_ r ∧ Below w.heap.size w w' := by
  unfold nat_Norm.f at h
  split at h
  case isFalse => cases h
  case isTrue hlen =>
  have HR0 := Aside0.mk hr0
  have HRES := Aside0.mk (Option.some.inj h)
  have HLEN := Aside0.mk hlen
  clear hr0 h hlen
  go_enter Tryd.func60, Tryd.ntmps60
  go_wp2
  go_loopw [3] (fun v3 wr => ∃ k : Nat, v3 = .int .i64 (k : Int) ∧ wr = w ∧ Aside0 (k ≤ l0.length ∧ normL l0 = normL (l0.take k))) (fun v3 _ => (intOf v3).toNat)
  case atStart => exact ⟨l0.length, rfl, rfl, ⟨Nat.le_refl _, by rw [List.take_length]⟩⟩
  case round =>
    obtain ⟨k, rfl, rfl, HA⟩ := hrel
    have hk := HA.out.1
    have hl := HLEN.out
    cases k with
    | zero =>
      go_wp2_with (first | ((with_reducible refine gate_dst (N := 20) rfl ?_); refine Kd.R_make (Kd.int .u32) _ 51 rfl (N := 20) rfl 22 _ _ rfl (((0 : Nat) : Int)) rfl rfl Tryd.underlying22 (.int .u32 0) 4 infoU32 rfl (by decide) (by omega) 0 (ok := fun _ => True) (okp := fun _ => True) rfl (fun _ hk => hk) trivial (by omega) (by omega) (Below.refl _ _) (Nat.le_refl _) ?_; intro v20 w20 ho hb hg hnew) | ((with_reducible refine gate_builtin (b := .copy) (xs := #[.tmp 21, .tmp 22]) rfl ?_); refine Kd.R_copy (0 : Int) wr.heap.size rfl (.tmp 21) (.tmp 22) 22 22 51 rfl Tryd.underlying22 sizeU32 v20 _ l0 _ l0.length c0 (fun _ => True) rfl rfl ho (Kd.C_below HR0.out hb) hb hb.size ?_; intro w23 ho2 hb2 hg2))
      go_ret
      refine ⟨v20, rfl, ?_, hb2⟩
      have e : l0.take (min l0.length (List.replicate (((0 : Nat) : Int)).toNat (0 : Int)).length) ++ (List.replicate (((0 : Nat) : Int)).toNat (0 : Int)).drop (min l0.length (List.replicate (((0 : Nat) : Int)).toNat (0 : Int)).length) = r := by
        rw [← HRES.out, HA.out.2]
        simp [normL]
      rw [e] at ho2
      exact ho2
    | succ k =>
      have hlt : k < l0.length := hk
      obtain ⟨ad, rfl, hcell⟩ := Kd.at_int HR0.out (k : Int) (by omega) (by omega)
      have hrd : rd l0 (k : Int) = l0[k] := by unfold rd; simp [hlt]
      rw [hrd, Int.toNat_natCast] at hcell
      have hw : IntKind.i64.wrap (((k + 1 : Nat) : Int) - 1) = (k : Int) := by rw [i64_w]; unfold wrap64; omega
      have hkl : (k : Int) < (l0.length : Int) := by omega
      have hk0 : (0 : Int) ≤ (k : Int) := by omega
      have HRD := Aside0.mk hrd
      clear hrd
      have e1 : decide ((0 : Int) < ((k + 1 : Nat) : Int)) = true := decide_eq_true (by omega)
      by_cases hz : l0[k] = 0
      · have e2 : (l0[k] == 0) = true := by simpa using hz
        go_wp2
        go_roundw
        case rel => exact ⟨k, by go_num, trivial, ⟨by omega, by rw [HA.out.2, normL_zero l0 k hlt hz]⟩⟩
        case measure => simp [intOf]
      · have e2 : (l0[k] == 0) = false := by simpa using hz
        go_wp2_with (first | ((with_reducible refine gate_dst (N := 20) rfl ?_); refine Kd.R_make (Kd.int .u32) _ 51 rfl (N := 20) rfl 22 _ _ rfl ((k + 1 : Nat) : Int) rfl rfl Tryd.underlying22 (.int .u32 0) 4 infoU32 rfl (by decide) (by omega) 0 (ok := fun _ => True) (okp := fun _ => True) rfl (fun _ hk => hk) trivial (by omega) (by omega) (Below.refl _ _) (Nat.le_refl _) ?_; intro v20 w20 ho hb hg hnew) | ((with_reducible refine gate_builtin (b := .copy) (xs := #[.tmp 21, .tmp 22]) rfl ?_); refine Kd.R_copy (0 : Int) wr.heap.size rfl (.tmp 21) (.tmp 22) 22 22 51 rfl Tryd.underlying22 sizeU32 v20 _ l0 _ l0.length c0 (fun _ => True) rfl rfl ho (Kd.C_below HR0.out hb) hb hb.size ?_; intro w23 ho2 hb2 hg2))
        go_ret
        refine ⟨v20, rfl, ?_, hb2⟩
        have e : l0.take (min l0.length (List.replicate (((k + 1 : Nat) : Int)).toNat (0 : Int)).length) ++ (List.replicate (((k + 1 : Nat) : Int)).toNat (0 : Int)).drop (min l0.length (List.replicate (((k + 1 : Nat) : Int)).toNat (0 : Int)).length) = r := by
          rw [← HRES.out, HA.out.2, normL_stop l0 k hlt hz, Int.toNat_natCast, List.length_replicate, Nat.min_eq_right hlt, List.drop_eq_nil_of_le (by simp), List.append_nil]
        rw [e] at ho2
        exact ho2
end Go.Proofs.YthnfmmaolkenkaaDoor.H
/- Written by a program of this session, wip/tools/patch_print.py, over the kit's print of the loaded functions. -/
namespace Go.Proofs.YthnfmmaolkenkaaDoor.H
end Go.Proofs.YthnfmmaolkenkaaDoor.H
namespace Go.Proofs.YthnfmmaolkenkaaDoor.PA
open Go.RowKit Go.Proofs.YthnfmmaolkenkaaDoorW.PrintWords Go.Proofs.YthnfmmaolkenkaaDoorW.PrintLast Go.Proofs.YthnfmmaolkenkaaDoorW.PrintMore Go.Proofs.YthnfmmaolkenkaaDoor.H
attribute [local go_sem] max2_int min2_int max_two min_two max_three min_three max_four min_four   -- for this text's walks alone
attribute [local go_sem] box_twice
set_option linter.unusedVariables false
set_option linter.unusedSimpArgs false

/-! ### whole_made: function 40 -/
def whole_made.f (a0 : Bool) (l1 : List Int) : Option (Bool × List Int) := (nat_Norm.f l1).bind fun t102 => (if a0 = true then (some (decide ((t102.length : Int) > 0), t102)) else (some (false, t102)))
set_option maxHeartbeats 8000000 in
set_option maxRecDepth 100000 in
theorem whole_made.calls (a0 : Bool) (A1 : Option Addr) (c1 : Nat) (l1 : List Int) (r1 : Bool) (r2 : List Int) (w : World) (hr1 : Kd.C (Kd.int .u32) w A1 l1.length l1) (hc1 : l1.length ≤ c1) (h : whole_made.f a0 l1 = some (r1, r2)) :
  Calls Tryd.prog 40 #[.bool a0, .slice A1 l1.length c1] w fun e w' => ∃ v1_ : Value, e = .returned (.agg #[.bool r1, v1_]) ∧ Kd.R (Kd.int .u32) 51 w' w.heap.size (fun _ => True) v1_ r2 ∧ Below w.heap.size w w' := by
 have hu24 := Tryd.underlying24
 have HR1 := Aside0.mk hr1
 have HC1 := Aside0.mk hc1
 clear hr1 hc1
 have HB := Aside0.mk (Below.refl w.heap.size w)
 have H : ((nat_Norm.f l1).bind fun t102 => (if a0 = true then (some (decide ((t102.length : Int) > 0), t102)) else (some (false, t102)))) = some (r1, r2) := h
 clear h
 obtain ⟨t102, A30, H⟩ := Option.bind_eq_some_iff.mp H
 try dsimp only at H
 have A3 := Aside0.mk A30
 clear A30
 by_cases c4 : a0 = true
 ·subst c4
  rw [if_pos rfl] at H
  rw [show decide ((t102.length : Int) > 0) = decide (0 < t102.length) from decide_eq_decide.mpr (by omega)] at H
  simp only [Option.some.injEq, Prod.mk.injEq] at H
  obtain ⟨rfl, rfl⟩ := H
  go_enter Tryd.func40, Tryd.ntmps40
  go_wp2_with (first | ((with_reducible refine gate_dst (N := 4) rfl ?_); (try (refine gate_guard (by rfl) ?_; dsimp only)); refine box_event ?hg (N := 4) ?hd (cs := #[.bool false, .slice none 0 0]) (t := 24) ?hr ?_; (case hd => rfl); (case hg => rfl); (case hr => first | (go_simp; done) | (go_simp; rfl)); intro gb101 hg w5 hbox hb; have BK101 := Aside0.mk (hbox); have GW101 := Aside0.mk (bxLe HB.out hg); have GE101 := GW101; replace HB := Aside0.mk (below_step HB.out hb); clear hb hbox hg) | ((with_reducible refine gate_callee (f := 60) rfl ?_); refine goL (some 6) Tryd.func60 [.slice A1 l1.length c1] ?_; (with_reducible refine (nat_Norm.calls _ _ l1 t102 _ ?side1 ?side2 A3.out).mono ?_); (case side1 => exact (Kd.C_below HR1.out HB.out)); (case side2 => exact HC1.out); rintro e w6 ⟨v103, rfl, ho0, hb⟩; refine ⟨_, rfl, ?_⟩; have HO104 := Aside0.mk (Kd.R_lower ho0 (below_size HB.out)); replace BK101 := Aside0.mk (blk_below BK101.out hb); replace HB := Aside0.mk (below_step HB.out hb); obtain ⟨Ao7, co7, eo7⟩ := Kd.R_slice HO104.out; subst eo7; have hcz8_0 : w6.cell? ⟨gb101, 0, none⟩ = some (.bool false) := bc0 BK101.out; have hcz8_1 : w6.cell? ⟨gb101, 1, none⟩ = some (.slice none 0 0) := bc1 BK101.out; have hfz8_0 := blk_frozen BK101.out 0; have hfz8_1 := blk_frozen BK101.out 1))
  refine bodyPost_ret (results_cell_row rfl _ _ gb101 24 #[.bool (decide (0 < t102.length)), .slice Ao7 t102.length co7] (0, 0) _ rfl (by refine blk_put (cs := #[.bool (decide (0 < t102.length)), .slice none 0 0]) ?_ 1 _ rfl; refine blk_put (cs := #[.bool false, .slice none 0 0]) ?_ 0 _ rfl; exact BK101.out) Tryd.underlying24 rfl (by kernel_rfl)) rfl ?_
  exact ⟨_, rfl, Kd.R_mono (Kd.R_far (p := ⟨gb101, 1, none⟩) (Kd.R_far (p := ⟨gb101, 0, none⟩) (Kd.R_types HO104.out BK101.out (by decide)) (fun _ hk => hk.2) (.bool (decide (0 < t102.length)))) (fun _ hk => hk.2) (.slice Ao7 t102.length co7)) (fun _ hk => trivial), by repeat first | exact HB.out | refine bxSet ?_ (by assumption) | apply below_alloc | apply pw_below_drewN⟩
 ·replace c4 := Bool.eq_false_iff.mpr c4
  subst c4
  rw [if_neg (show ¬ (false = true) by decide)] at H
  simp only [Option.some.injEq, Prod.mk.injEq] at H
  obtain ⟨rfl, rfl⟩ := H
  go_enter Tryd.func40, Tryd.ntmps40
  go_wp2_with (first | ((with_reducible refine gate_dst (N := 4) rfl ?_); (try (refine gate_guard (by rfl) ?_; dsimp only)); refine box_event ?hg (N := 4) ?hd (cs := #[.bool false, .slice none 0 0]) (t := 24) ?hr ?_; (case hd => rfl); (case hg => rfl); (case hr => first | (go_simp; done) | (go_simp; rfl)); intro gb101 hg w9 hbox hb; have BK101 := Aside0.mk (hbox); have GW101 := Aside0.mk (bxLe HB.out hg); have GE101 := GW101; replace HB := Aside0.mk (below_step HB.out hb); clear hb hbox hg) | ((with_reducible refine gate_callee (f := 60) rfl ?_); refine goL (some 6) Tryd.func60 [.slice A1 l1.length c1] ?_; (with_reducible refine (nat_Norm.calls _ _ l1 t102 _ ?side1 ?side2 A3.out).mono ?_); (case side1 => exact (Kd.C_below HR1.out HB.out)); (case side2 => exact HC1.out); rintro e w10 ⟨v103, rfl, ho0, hb⟩; refine ⟨_, rfl, ?_⟩; have HO104 := Aside0.mk (Kd.R_lower ho0 (below_size HB.out)); replace BK101 := Aside0.mk (blk_below BK101.out hb); replace HB := Aside0.mk (below_step HB.out hb); obtain ⟨Ao11, co11, eo11⟩ := Kd.R_slice HO104.out; subst eo11; have hcz12_0 : w10.cell? ⟨gb101, 0, none⟩ = some (.bool false) := bc0 BK101.out; have hcz12_1 : w10.cell? ⟨gb101, 1, none⟩ = some (.slice none 0 0) := bc1 BK101.out; have hfz12_0 := blk_frozen BK101.out 0; have hfz12_1 := blk_frozen BK101.out 1))
  refine bodyPost_ret (results_cell_row rfl _ _ gb101 24 #[.bool false, .slice Ao11 t102.length co11] (0, 0) _ rfl (by refine blk_put (cs := #[.bool false, .slice none 0 0]) ?_ 1 _ rfl; refine blk_put (cs := #[.bool false, .slice none 0 0]) ?_ 0 _ rfl; exact BK101.out) Tryd.underlying24 rfl (by kernel_rfl)) rfl ?_
  exact ⟨_, rfl, Kd.R_mono (Kd.R_far (p := ⟨gb101, 1, none⟩) (Kd.R_far (p := ⟨gb101, 0, none⟩) (Kd.R_types HO104.out BK101.out (by decide)) (fun _ hk => hk.2) (.bool false)) (fun _ hk => hk.2) (.slice Ao11 t102.length co11)) (fun _ hk => trivial), by repeat first | exact HB.out | refine bxSet ?_ (by assumption) | apply below_alloc | apply pw_below_drewN⟩

/-! ### whole_Norm: function 16 -/
def whole_Norm.f (a0_0 : Bool) (l0_1 : List Int) : Option (Bool × List Int) := (whole_made.f a0_0 l0_1).bind fun bt107 => (some (bt107.1, bt107.2))
set_option maxHeartbeats 8000000 in
set_option maxRecDepth 100000 in
theorem whole_Norm.calls (a0_0 : Bool) (A0_1 : Option Addr) (c0_1 : Nat) (l0_1 : List Int) (r1 : Bool) (r2 : List Int) (w : World) (hr0_1 : Kd.C (Kd.int .u32) w A0_1 l0_1.length l0_1) (hc0_1 : l0_1.length ≤ c0_1) (h : whole_Norm.f a0_0 l0_1 = some (r1, r2)) :
  Calls Tryd.prog 16 #[.agg #[.bool a0_0, .slice A0_1 l0_1.length c0_1]] w fun e w' => ∃ v1_ : Value, e = .returned (.agg #[.bool r1, v1_]) ∧ Kd.R (Kd.int .u32) 51 w' w.heap.size (fun _ => True) v1_ r2 ∧ Below w.heap.size w w' := by
 have hu24 := Tryd.underlying24
 have HR0_1 := Aside0.mk hr0_1
 have HC0_1 := Aside0.mk hc0_1
 clear hr0_1 hc0_1
 have HB := Aside0.mk (Below.refl w.heap.size w)
 have H : ((whole_made.f a0_0 l0_1).bind fun bt107 => (some (bt107.1, bt107.2))) = some (r1, r2) := h
 clear h
 obtain ⟨⟨t107, t108⟩, A20, H⟩ := Option.bind_eq_some_iff.mp H
 try dsimp only at H
 have A2 := Aside0.mk A20
 clear A20
 simp only [Option.some.injEq, Prod.mk.injEq] at H
 obtain ⟨rfl, rfl⟩ := H
 go_enter Tryd.func16, Tryd.ntmps16
 go_wp2_with (first | ((with_reducible refine gate_dst (N := 1) rfl ?_); refine box_event ?hg (N := 1) ?hd (cs := #[.bool a0_0, .slice A0_1 l0_1.length c0_1]) (t := 24) ?hr ?_; (case hd => rfl); (case hg => rfl); (case hr => first | (go_simp; done) | (go_simp; rfl)); intro gb105 hg w3 hbox hb; have BK105 := Aside0.mk (hbox); have GW105 := Aside0.mk (bxLe HB.out hg); have GE105 := GW105; replace HB := Aside0.mk (below_step HB.out hb); clear hb hbox hg) | ((with_reducible refine gate_dst (N := 2) rfl ?_); refine box_event ?hg (N := 2) ?hd (cs := #[.bool false, .slice none 0 0]) (t := 24) ?hr ?_; (case hd => rfl); (case hg => rfl); (case hr => first | (go_simp; done) | (go_simp; rfl)); intro gb106 hg w4 hbox hb; have BK106 := Aside0.mk (hbox); have GW106 := Aside0.mk (bxLe HB.out hg); have GE106 := GW106; replace HB := Aside0.mk (below_step HB.out hb); have NB105_106 := Aside0.mk (neL BK105.out hg); have NB106_105 := Aside0.mk (neR BK105.out hg); replace BK105 := Aside0.mk (blk_below BK105.out hb); clear hb hbox hg; have hnb5 := NB105_106.out; have hnc5 := NB106_105.out; have hcz6_0 : w4.cell? ⟨gb105, 0, none⟩ = some (.bool a0_0) := bc0 BK105.out; have hcz6_1 : w4.cell? ⟨gb105, 1, none⟩ = some (.slice A0_1 l0_1.length c0_1) := bc1 BK105.out; have hfz6_0 := blk_frozen BK105.out 0; have hfz6_1 := blk_frozen BK105.out 1) | ((with_reducible refine gate_callee (f := 40) rfl ?_); refine goL (some 7) Tryd.func40 [.bool a0_0, .slice A0_1 l0_1.length c0_1] ?_; (with_reducible refine (whole_made.calls a0_0 _ _ l0_1 t107 t108 _ ?side1 ?side2 A2.out).mono ?_); (case side1 => exact (Kd.C_below HR0_1.out HB.out)); (case side2 => exact HC0_1.out); rintro e w7 ⟨v109, rfl, ho0, hb⟩; refine ⟨_, rfl, ?_⟩; have HO110 := Aside0.mk (Kd.R_lower ho0 (below_size HB.out)); replace BK106 := Aside0.mk (blk_below BK106.out hb); replace HB := Aside0.mk (below_step HB.out hb); have hcz8_0 : w7.cell? ⟨gb106, 0, none⟩ = some (.bool false) := bc0 BK106.out; have hcz8_1 : w7.cell? ⟨gb106, 1, none⟩ = some (.slice none 0 0) := bc1 BK106.out; have hfz8_0 := blk_frozen BK106.out 0; have hfz8_1 := blk_frozen BK106.out 1; obtain ⟨Ao9, co9, eo9⟩ := Kd.R_slice HO110.out; subst eo9))
 refine bodyPost_ret (results_cell_row rfl _ _ gb106 24 #[.bool t107, .slice Ao9 t108.length co9] (0, 0) _ rfl (by refine blk_put (cs := #[.bool t107, .slice none 0 0]) ?_ 1 _ rfl; refine blk_put (cs := #[.bool false, .slice none 0 0]) ?_ 0 _ rfl; exact BK106.out) Tryd.underlying24 rfl (by kernel_rfl)) rfl ?_
 exact ⟨_, rfl, Kd.R_mono (Kd.R_far (p := ⟨gb106, 1, none⟩) (Kd.R_far (p := ⟨gb106, 0, none⟩) (Kd.R_types HO110.out BK106.out (by decide)) (fun _ hk => hk.2) (.bool t107)) (fun _ hk => hk.2) (.slice Ao9 t108.length co9)) (fun _ hk => trivial), by repeat first | exact HB.out | refine bxSet ?_ (by assumption) | apply below_alloc | apply pw_below_drewN⟩

/-! ### nat_sign: function 71 -/
def nat_sign.f (a0 : Int) : Option (Int) := if a0 < 0 then (some (-1)) else (if a0 > 0 then (some 1) else (some 0))
set_option maxHeartbeats 8000000 in
set_option maxRecDepth 100000 in
theorem nat_sign.calls (a0 : Int) (r : Int) (w : World) (h : nat_sign.f a0 = some r) :
  Calls Tryd.prog 71 #[.int .i64 a0] w fun e w' => e = .returned (.int .i64 r) ∧ Drawn0 w w' := by
 have H : (if a0 < 0 then (some (-1)) else (if a0 > 0 then (some 1) else (some 0))) = some r := h
 clear h
 by_cases c2 : a0 < 0
 ·rw [if_pos c2] at H
  have c2b0 : decide (a0 < 0) = true := decide_eq_true c2
  clear c2
  obtain rfl := Option.some.inj H
  go_enter Tryd.func71, Tryd.ntmps71
  go_wp2
  go_ret
  exact ⟨by first | rfl | (simp; done), by repeat (first | exact Drawn0.refl _ | apply Drawn0.step)⟩
 ·rw [if_neg c2] at H
  have c2b0 : decide (a0 < 0) = false := decide_eq_false c2
  clear c2
  by_cases c3 : a0 > 0
  ·rw [if_pos c3] at H
   have c3b0 : decide (0 < a0) = true := decide_eq_true c3
   clear c3
   obtain rfl := Option.some.inj H
   go_enter Tryd.func71, Tryd.ntmps71
   go_wp2
   go_ret
   exact ⟨by first | rfl | (simp; done), by repeat (first | exact Drawn0.refl _ | apply Drawn0.step)⟩
  ·rw [if_neg c3] at H
   have c3b0 : decide (0 < a0) = false := decide_eq_false c3
   clear c3
   obtain rfl := Option.some.inj H
   go_enter Tryd.func71, Tryd.ntmps71
   go_wp2
   go_ret
   exact ⟨by first | rfl | (simp; done), by repeat (first | exact Drawn0.refl _ | apply Drawn0.step)⟩

/-! ### nat_Cmp: function 47 -/
def nat_Cmp.l0 : Nat → List Int → List Int → Int → Option (Int)
 | 0, _, _, _ => none
 | k + 1, x0, x1, x5 => if x5 ≥ 0 then (if 0 ≤ x5 then (if x5 < (x0.length : Int) then (if x5 < (x1.length : Int) then (if (rd x0 x5) = (rd x1 x5) then (nat_Cmp.l0 k x0 x1 (wrap64 (x5 - 1))) else ((nat_sign.f (wrap64 ((wrap64 (rd x0 x5)) - (wrap64 (rd x1 x5))))).bind fun t122 => (some t122))) else (none)) else (none)) else (none)) else (some 0)
def nat_Cmp.f (k : Nat) (l0 : List Int) (l1 : List Int) : Option (Int) := (nat_Norm.f l0).bind fun t111 => ((nat_Norm.f l1).bind fun t114 => (if (t111.length : Int) = (t114.length : Int) then (nat_Cmp.l0 k t111 t114 (wrap64 ((t111.length : Int) - 1))) else ((nat_sign.f (wrap64 ((t111.length : Int) - (t114.length : Int)))).bind fun t117 => (some t117))))
set_option maxHeartbeats 8000000 in
set_option maxRecDepth 100000 in
theorem nat_Cmp.calls (k : Nat) (A0 : Option Addr) (c0 : Nat) (l0 : List Int) (A1 : Option Addr) (c1 : Nat) (l1 : List Int) (r : Int) (w : World) (hr0 : Kd.C (Kd.int .u32) w A0 l0.length l0) (hc0 : l0.length ≤ c0) (hr1 : Kd.C (Kd.int .u32) w A1 l1.length l1) (hc1 : l1.length ≤ c1) (h : nat_Cmp.f k l0 l1 = some r) :
  Calls Tryd.prog 47 #[.slice A0 l0.length c0, .slice A1 l1.length c1] w fun e w' => e = .returned (.int .i64 r) ∧ Below w.heap.size w w' := by
 have HR0 := Aside0.mk hr0
 have HC0 := Aside0.mk hc0
 clear hr0 hc0
 have HR1 := Aside0.mk hr1
 have HC1 := Aside0.mk hc1
 clear hr1 hc1
 have HB := Aside0.mk (Below.refl w.heap.size w)
 have H : ((nat_Norm.f l0).bind fun t111 => ((nat_Norm.f l1).bind fun t114 => (if (t111.length : Int) = (t114.length : Int) then (nat_Cmp.l0 k t111 t114 (wrap64 ((t111.length : Int) - 1))) else ((nat_sign.f (wrap64 ((t111.length : Int) - (t114.length : Int)))).bind fun t117 => (some t117))))) = some r := h
 clear h
 obtain ⟨t111, A30, H⟩ := Option.bind_eq_some_iff.mp H
 try dsimp only at H
 have A3 := Aside0.mk A30
 clear A30
 obtain ⟨t114, A40, H⟩ := Option.bind_eq_some_iff.mp H
 try dsimp only at H
 have A4 := Aside0.mk A40
 clear A40
 by_cases c5 : (t111.length : Int) = (t114.length : Int)
 ·rw [if_pos c5] at H
  have c5b0 : ((t111.length : Int) == (t114.length : Int)) = true := beq_iff_eq.mpr c5
  have c5b1 : ((t111.length : Int) != (t114.length : Int)) = false := bne_eq_false_iff_eq.mpr c5
  have c5b2 : (t111.length == t114.length) = true := by first | simpa using c5 | (simp at c5 ⊢; omega)
  clear c5
  have H' := Aside0.mk H
  clear H
  go_enter Tryd.func47, Tryd.ntmps47
  go_wp2_with (first | (go_at_call 60; (with_reducible refine (nat_Norm.calls _ _ l0 t111 _ ?side1 ?side2 A3.out).mono ?_); (case side1 => exact HR0.out); (case side2 => exact HC0.out); rintro e w6 ⟨v112, rfl, ho0, hb⟩; have n0_ := Aside0.mk (Kd.R_lower ho0 (below_size HB.out)); have n1_ := Aside0.mk (below_step HB.out hb); clear HB; have HO113 := n0_; have HB := n1_; clear n0_ n1_) | (go_at_call 60; (with_reducible refine (nat_Norm.calls _ _ l1 t114 _ ?side1 ?side2 A4.out).mono ?_); (case side1 => exact (Kd.C_below HR1.out HB.out)); (case side2 => exact HC1.out); rintro e w7 ⟨v115, rfl, ho0, hb⟩; have n0_ := Aside0.mk (Kd.R_elder' HO113.out (Kd.R_base ho0) hb); have n1_ := Aside0.mk (Kd.R_lower (Kd.R_new' ho0 (Kd.R_lt HO113.out)) (below_size HB.out)); have n2_ := Aside0.mk (below_step HB.out hb); clear HO113; clear HB; have HO113 := n0_; have HO116 := n1_; have HB := n2_; clear n0_ n1_ n2_; obtain ⟨Ao8, co8, eo8⟩ := Kd.R_slice HO113.out; subst eo8; obtain ⟨Ao9, co9, eo9⟩ := Kd.R_slice HO116.out; subst eo9))
  repeat (go_quiet (first | (go_at_call 60; (with_reducible refine (nat_Norm.calls _ _ l0 t111 _ ?side1 ?side2 A3.out).mono ?_); (case side1 => exact HR0.out); (case side2 => exact HC0.out); rintro e w6 ⟨v112, rfl, ho0, hb⟩; have n0_ := Aside0.mk (Kd.R_lower ho0 (below_size HB.out)); have n1_ := Aside0.mk (below_step HB.out hb); clear HB; have HO113 := n0_; have HB := n1_; clear n0_ n1_) | (go_at_call 60; (with_reducible refine (nat_Norm.calls _ _ l1 t114 _ ?side1 ?side2 A4.out).mono ?_); (case side1 => exact (Kd.C_below HR1.out HB.out)); (case side2 => exact HC1.out); rintro e w7 ⟨v115, rfl, ho0, hb⟩; have n0_ := Aside0.mk (Kd.R_elder' HO113.out (Kd.R_base ho0) hb); have n1_ := Aside0.mk (Kd.R_lower (Kd.R_new' ho0 (Kd.R_lt HO113.out)) (below_size HB.out)); have n2_ := Aside0.mk (below_step HB.out hb); clear HO113; clear HB; have HO113 := n0_; have HO116 := n1_; have HB := n2_; clear n0_ n1_ n2_; obtain ⟨Ao8, co8, eo8⟩ := Kd.R_slice HO113.out; subst eo8; obtain ⟨Ao9, co9, eo9⟩ := Kd.R_slice HO116.out; subst eo9)); try go_wp2_with (first | (go_at_call 60; (with_reducible refine (nat_Norm.calls _ _ l0 t111 _ ?side1 ?side2 A3.out).mono ?_); (case side1 => exact HR0.out); (case side2 => exact HC0.out); rintro e w6 ⟨v112, rfl, ho0, hb⟩; have n0_ := Aside0.mk (Kd.R_lower ho0 (below_size HB.out)); have n1_ := Aside0.mk (below_step HB.out hb); clear HB; have HO113 := n0_; have HB := n1_; clear n0_ n1_) | (go_at_call 60; (with_reducible refine (nat_Norm.calls _ _ l1 t114 _ ?side1 ?side2 A4.out).mono ?_); (case side1 => exact (Kd.C_below HR1.out HB.out)); (case side2 => exact HC1.out); rintro e w7 ⟨v115, rfl, ho0, hb⟩; have n0_ := Aside0.mk (Kd.R_elder' HO113.out (Kd.R_base ho0) hb); have n1_ := Aside0.mk (Kd.R_lower (Kd.R_new' ho0 (Kd.R_lt HO113.out)) (below_size HB.out)); have n2_ := Aside0.mk (below_step HB.out hb); clear HO113; clear HB; have HO113 := n0_; have HO116 := n1_; have HB := n2_; clear n0_ n1_ n2_; obtain ⟨Ao8, co8, eo8⟩ := Kd.R_slice HO113.out; subst eo8; obtain ⟨Ao9, co9, eo9⟩ := Kd.R_slice HO116.out; subst eo9)))
  go_loopg [5] k (fun kq v5 w' => ∃ (x5_1 : Int), v5 = .int .i64 x5_1 ∧ Aside0 (nat_Cmp.l0 kq t111 t114 x5_1 = some r) ∧ Aside0 (kq ≤ k) ∧ Aside0 (Kd.R (Kd.int .u32) 51 w' w.heap.size (fun k_ => some k_ ≠ ((.slice Ao9 t114.length co9) : Value).ownBlock) (.slice Ao8 t111.length co8) t111) ∧ Aside0 (Kd.R (Kd.int .u32) 51 w' w.heap.size (fun k_ => some k_ ≠ ((.slice Ao8 t111.length co8) : Value).ownBlock) (.slice Ao9 t114.length co9) t114) ∧ Aside0 (Below w.heap.size w w'))
  case atStart => exact ⟨(wrap64 ((t111.length : Int) - 1)), (by first | rfl | (simp; done)), H', ⟨Nat.le_refl _⟩, ⟨Kd.R_mono HO113.out (fun _ hk => hk.2)⟩, ⟨Kd.R_mono HO116.out (fun _ hk => hk.2)⟩, ⟨HB.out⟩⟩
  case round =>
   clear H'
   try clear c1
   try clear p2
   try clear c4
   try clear c5
   try clear c5b0
   try clear c5b1
   try clear c5b2
   try clear p6
   obtain ⟨x5_1, rfl, HA, HK1, HO_0, HO_1, HB⟩ := hrel
   cases gk with
   | zero => exact absurd HA.out (by simp [nat_Cmp.l0])
   | succ k1 =>
    have H := HA.out
    clear HA
    simp only [nat_Cmp.l0] at H
    by_cases c10 : x5_1 ≥ 0
    ·rw [if_pos c10] at H
     have c10b0 : decide (0 ≤ x5_1) = true := decide_eq_true c10
     clear c10
     by_cases c11 : 0 ≤ x5_1
     ·rw [if_pos c11] at H
      have c11b0 : decide (0 ≤ x5_1) = true := decide_eq_true c11
      clear c11
      by_cases c12 : x5_1 < (t111.length : Int)
      ·rw [if_pos c12] at H
       have c12b0 : decide (x5_1 < (t111.length : Int)) = true := decide_eq_true c12
       clear c12
       by_cases c13 : x5_1 < (t114.length : Int)
       ·rw [if_pos c13] at H
        have c13b0 : decide (x5_1 < (t114.length : Int)) = true := decide_eq_true c13
        clear c13
        by_cases c14 : (rd t111 x5_1) = (rd t114 x5_1)
        ·rw [if_pos c14] at H
         have c14b0 : ((rd t111 x5_1) == (rd t114 x5_1)) = true := beq_iff_eq.mpr c14
         have c14b1 : ((rd t111 x5_1) != (rd t114 x5_1)) = false := bne_eq_false_iff_eq.mpr c14
         clear c14
         have H' := Aside0.mk H
         clear H
         have p118 : 0 ≤ (x5_1 : Int) := of_decide_eq_true (by first | (with_reducible assumption) | assumption)
         have q118 : x5_1 < (t111.length : Int) := of_decide_eq_true (by first | (with_reducible assumption) | assumption)
         obtain ⟨ad118, e118, hx118_0⟩ := Kd.at_int (Kd.R_reads' HO_0.out).2.2 x5_1 p118 q118
         cases e118
         replace p118 := eq_true p118
         replace q118 := eq_true q118
         have p119 : 0 ≤ (x5_1 : Int) := of_decide_eq_true (by first | (with_reducible assumption) | assumption)
         have q119 : x5_1 < (t114.length : Int) := of_decide_eq_true (by first | (with_reducible assumption) | assumption)
         obtain ⟨ad119, e119, hx119_0⟩ := Kd.at_int (Kd.R_reads' HO_1.out).2.2 x5_1 p119 q119
         cases e119
         replace p119 := eq_true p119
         replace q119 := eq_true q119
         go_wp2
         repeat (go_quiet (fail); try go_wp2)
         go_roundg k1
         case measure => have := HK1.out; omega
         case rel => exact ⟨(wrap64 (x5_1 - 1)), (by first | rfl | (simp; done) | (simp [*]; done) | (refine congrArg (Value.int _) ?_; omega) | (refine congrArg Value.bool ?_; generalize ByteArray.toList _ = z_; cases z_ <;> rfl)), H', ⟨by have := HK1.out; omega⟩, ⟨by (with_reducible repeat (first | apply Kd.R_alloc | apply Kd.R_drewN | apply Kd.R_drew)); exact HO_0.out⟩, ⟨by (with_reducible repeat (first | apply Kd.R_alloc | apply Kd.R_drewN | apply Kd.R_drew)); exact HO_1.out⟩, ⟨by repeat first | exact HB.out | refine bxSet ?_ (by assumption) | apply below_alloc | apply pw_below_drewN⟩⟩
        ·rw [if_neg c14] at H
         have c14b0 : ((rd t111 x5_1) == (rd t114 x5_1)) = false := beq_eq_false_iff_ne.mpr c14
         have c14b1 : ((rd t111 x5_1) != (rd t114 x5_1)) = true := bne_iff_ne.mpr c14
         obtain ⟨t122, A150, H⟩ := Option.bind_eq_some_iff.mp H
         try dsimp only at H
         have A15 := Aside0.mk A150
         clear A150
         obtain rfl := Option.some.inj H
         have p118 : 0 ≤ (x5_1 : Int) := of_decide_eq_true (by first | (with_reducible assumption) | assumption)
         have q118 : x5_1 < (t111.length : Int) := of_decide_eq_true (by first | (with_reducible assumption) | assumption)
         obtain ⟨ad118, e118, hx118_0⟩ := Kd.at_int (Kd.R_reads' HO_0.out).2.2 x5_1 p118 q118
         cases e118
         replace p118 := eq_true p118
         replace q118 := eq_true q118
         have p119 : 0 ≤ (x5_1 : Int) := of_decide_eq_true (by first | (with_reducible assumption) | assumption)
         have q119 : x5_1 < (t114.length : Int) := of_decide_eq_true (by first | (with_reducible assumption) | assumption)
         obtain ⟨ad119, e119, hx119_0⟩ := Kd.at_int (Kd.R_reads' HO_1.out).2.2 x5_1 p119 q119
         cases e119
         replace p119 := eq_true p119
         replace q119 := eq_true q119
         have p120 : 0 ≤ (x5_1 : Int) := of_decide_eq_true (by first | (with_reducible assumption) | assumption)
         have q120 : x5_1 < (t111.length : Int) := of_decide_eq_true (by first | (with_reducible assumption) | assumption)
         obtain ⟨ad120, e120, hx120_0⟩ := Kd.at_int (Kd.R_reads' HO_0.out).2.2 x5_1 p120 q120
         obtain rfl : ad118 = ad120 := (by injection e120)
         replace p120 := eq_true p120
         replace q120 := eq_true q120
         have p121 : 0 ≤ (x5_1 : Int) := of_decide_eq_true (by first | (with_reducible assumption) | assumption)
         have q121 : x5_1 < (t114.length : Int) := of_decide_eq_true (by first | (with_reducible assumption) | assumption)
         obtain ⟨ad121, e121, hx121_0⟩ := Kd.at_int (Kd.R_reads' HO_1.out).2.2 x5_1 p121 q121
         obtain rfl : ad119 = ad121 := (by injection e121)
         replace p121 := eq_true p121
         replace q121 := eq_true q121
         go_wp2_with (first | (go_at_call 71; (with_reducible refine (nat_sign.calls (wrap64 ((wrap64 (rd t111 x5_1)) - (wrap64 (rd t114 x5_1)))) t122 _ A15.out).mono ?_); rintro e w' ⟨rfl, ⟨nd, rfl⟩⟩; (try first | exact ⟨rfl, _, World.drewN_drewN _ _ _⟩ | exact ⟨rfl, _, Eq.trans (World.drewN_drewN _ _ _) (congrArg (World.drewN _) (Nat.add_assoc _ _ _))⟩)))
         repeat (go_quiet (first | (go_at_call 71; (with_reducible refine (nat_sign.calls (wrap64 ((wrap64 (rd t111 x5_1)) - (wrap64 (rd t114 x5_1)))) t122 _ A15.out).mono ?_); rintro e w' ⟨rfl, ⟨nd, rfl⟩⟩; (try first | exact ⟨rfl, _, World.drewN_drewN _ _ _⟩ | exact ⟨rfl, _, Eq.trans (World.drewN_drewN _ _ _) (congrArg (World.drewN _) (Nat.add_assoc _ _ _))⟩))); try go_wp2_with (first | (go_at_call 71; (with_reducible refine (nat_sign.calls (wrap64 ((wrap64 (rd t111 x5_1)) - (wrap64 (rd t114 x5_1)))) t122 _ A15.out).mono ?_); rintro e w' ⟨rfl, ⟨nd, rfl⟩⟩; (try first | exact ⟨rfl, _, World.drewN_drewN _ _ _⟩ | exact ⟨rfl, _, Eq.trans (World.drewN_drewN _ _ _) (congrArg (World.drewN _) (Nat.add_assoc _ _ _))⟩))))
         go_ret
         exact ⟨by first | rfl | (simp [errW_none, errW_some] <;> rfl) | (refine congrArg (fun z_ => Ending.returned (Value.bool z_)) (decide_eq_decide.mpr ?_); unfold wrap64; omega) | (simp [*, errW_none, errW_some] <;> rfl), by repeat first | exact HB.out | refine bxSet ?_ (by assumption) | apply below_alloc | apply pw_below_drewN⟩
       ·rw [if_neg c13] at H
        exact absurd H (by simp)
      ·rw [if_neg c12] at H
       exact absurd H (by simp)
     ·rw [if_neg c11] at H
      exact absurd H (by simp)
    ·rw [if_neg c10] at H
     have c10b0 : decide (0 ≤ x5_1) = false := decide_eq_false c10
     clear c10
     obtain rfl := Option.some.inj H
     go_wp2
     repeat (go_quiet (fail); try go_wp2)
     go_ret
     exact ⟨by first | rfl | (simp [errW_none, errW_some] <;> rfl) | (refine congrArg (fun z_ => Ending.returned (Value.bool z_)) (decide_eq_decide.mpr ?_); unfold wrap64; omega) | (simp [*, errW_none, errW_some] <;> rfl), HB.out⟩
 ·rw [if_neg c5] at H
  have c5b0 : ((t111.length : Int) == (t114.length : Int)) = false := beq_eq_false_iff_ne.mpr c5
  have c5b1 : ((t111.length : Int) != (t114.length : Int)) = true := bne_iff_ne.mpr c5
  have c5b2 : (t111.length == t114.length) = false := by first | simpa using c5 | (simp at c5 ⊢; omega)
  obtain ⟨t117, A160, H⟩ := Option.bind_eq_some_iff.mp H
  try dsimp only at H
  have A16 := Aside0.mk A160
  clear A160
  obtain rfl := Option.some.inj H
  go_enter Tryd.func47, Tryd.ntmps47
  go_wp2_with (first | (go_at_call 60; (with_reducible refine (nat_Norm.calls _ _ l0 t111 _ ?side1 ?side2 A3.out).mono ?_); (case side1 => exact HR0.out); (case side2 => exact HC0.out); rintro e w17 ⟨v112, rfl, ho0, hb⟩; have n0_ := Aside0.mk (Kd.R_lower ho0 (below_size HB.out)); have n1_ := Aside0.mk (below_step HB.out hb); clear HB; have HO113 := n0_; have HB := n1_; clear n0_ n1_) | (go_at_call 60; (with_reducible refine (nat_Norm.calls _ _ l1 t114 _ ?side1 ?side2 A4.out).mono ?_); (case side1 => exact (Kd.C_below HR1.out HB.out)); (case side2 => exact HC1.out); rintro e w18 ⟨v115, rfl, ho0, hb⟩; have n0_ := Aside0.mk (Kd.R_elder' HO113.out (Kd.R_base ho0) hb); have n1_ := Aside0.mk (Kd.R_lower (Kd.R_new' ho0 (Kd.R_lt HO113.out)) (below_size HB.out)); have n2_ := Aside0.mk (below_step HB.out hb); clear HO113; clear HB; have HO113 := n0_; have HO116 := n1_; have HB := n2_; clear n0_ n1_ n2_; obtain ⟨Ao19, co19, eo19⟩ := Kd.R_slice HO113.out; subst eo19; obtain ⟨Ao20, co20, eo20⟩ := Kd.R_slice HO116.out; subst eo20) | (go_at_call 71; (with_reducible refine (nat_sign.calls (wrap64 ((t111.length : Int) - (t114.length : Int))) t117 _ A16.out).mono ?_); rintro e w' ⟨rfl, ⟨nd, rfl⟩⟩; (try first | exact ⟨rfl, _, World.drewN_drewN _ _ _⟩ | exact ⟨rfl, _, Eq.trans (World.drewN_drewN _ _ _) (congrArg (World.drewN _) (Nat.add_assoc _ _ _))⟩)))
  repeat (go_quiet (first | (go_at_call 60; (with_reducible refine (nat_Norm.calls _ _ l0 t111 _ ?side1 ?side2 A3.out).mono ?_); (case side1 => exact HR0.out); (case side2 => exact HC0.out); rintro e w17 ⟨v112, rfl, ho0, hb⟩; have n0_ := Aside0.mk (Kd.R_lower ho0 (below_size HB.out)); have n1_ := Aside0.mk (below_step HB.out hb); clear HB; have HO113 := n0_; have HB := n1_; clear n0_ n1_) | (go_at_call 60; (with_reducible refine (nat_Norm.calls _ _ l1 t114 _ ?side1 ?side2 A4.out).mono ?_); (case side1 => exact (Kd.C_below HR1.out HB.out)); (case side2 => exact HC1.out); rintro e w18 ⟨v115, rfl, ho0, hb⟩; have n0_ := Aside0.mk (Kd.R_elder' HO113.out (Kd.R_base ho0) hb); have n1_ := Aside0.mk (Kd.R_lower (Kd.R_new' ho0 (Kd.R_lt HO113.out)) (below_size HB.out)); have n2_ := Aside0.mk (below_step HB.out hb); clear HO113; clear HB; have HO113 := n0_; have HO116 := n1_; have HB := n2_; clear n0_ n1_ n2_; obtain ⟨Ao19, co19, eo19⟩ := Kd.R_slice HO113.out; subst eo19; obtain ⟨Ao20, co20, eo20⟩ := Kd.R_slice HO116.out; subst eo20) | (go_at_call 71; (with_reducible refine (nat_sign.calls (wrap64 ((t111.length : Int) - (t114.length : Int))) t117 _ A16.out).mono ?_); rintro e w' ⟨rfl, ⟨nd, rfl⟩⟩; (try first | exact ⟨rfl, _, World.drewN_drewN _ _ _⟩ | exact ⟨rfl, _, Eq.trans (World.drewN_drewN _ _ _) (congrArg (World.drewN _) (Nat.add_assoc _ _ _))⟩))); try go_wp2_with (first | (go_at_call 60; (with_reducible refine (nat_Norm.calls _ _ l0 t111 _ ?side1 ?side2 A3.out).mono ?_); (case side1 => exact HR0.out); (case side2 => exact HC0.out); rintro e w17 ⟨v112, rfl, ho0, hb⟩; have n0_ := Aside0.mk (Kd.R_lower ho0 (below_size HB.out)); have n1_ := Aside0.mk (below_step HB.out hb); clear HB; have HO113 := n0_; have HB := n1_; clear n0_ n1_) | (go_at_call 60; (with_reducible refine (nat_Norm.calls _ _ l1 t114 _ ?side1 ?side2 A4.out).mono ?_); (case side1 => exact (Kd.C_below HR1.out HB.out)); (case side2 => exact HC1.out); rintro e w18 ⟨v115, rfl, ho0, hb⟩; have n0_ := Aside0.mk (Kd.R_elder' HO113.out (Kd.R_base ho0) hb); have n1_ := Aside0.mk (Kd.R_lower (Kd.R_new' ho0 (Kd.R_lt HO113.out)) (below_size HB.out)); have n2_ := Aside0.mk (below_step HB.out hb); clear HO113; clear HB; have HO113 := n0_; have HO116 := n1_; have HB := n2_; clear n0_ n1_ n2_; obtain ⟨Ao19, co19, eo19⟩ := Kd.R_slice HO113.out; subst eo19; obtain ⟨Ao20, co20, eo20⟩ := Kd.R_slice HO116.out; subst eo20) | (go_at_call 71; (with_reducible refine (nat_sign.calls (wrap64 ((t111.length : Int) - (t114.length : Int))) t117 _ A16.out).mono ?_); rintro e w' ⟨rfl, ⟨nd, rfl⟩⟩; (try first | exact ⟨rfl, _, World.drewN_drewN _ _ _⟩ | exact ⟨rfl, _, Eq.trans (World.drewN_drewN _ _ _) (congrArg (World.drewN _) (Nat.add_assoc _ _ _))⟩))))
  go_ret
  exact ⟨by first | rfl | (simp [errW_none, errW_some] <;> rfl) | (refine congrArg (fun z_ => Ending.returned (Value.bool z_)) (decide_eq_decide.mpr ?_); unfold wrap64; omega) | (simp [*, errW_none, errW_some] <;> rfl), by repeat first | exact HB.out | refine bxSet ?_ (by assumption) | apply below_alloc | apply pw_below_drewN⟩

/-! ### nat_Of: function 54 -/
def nat_Of.f (a0 : Int) : Option (List Int) := (nat_Norm.f (([(a0) % 4294967296, (a0 / 4294967296) % 4294967296] : List Int))).bind fun t126 => (some t126)
set_option maxHeartbeats 8000000 in
set_option maxRecDepth 100000 in
theorem nat_Of.calls (a0 : Int) (r : List Int) (w : World) (h : nat_Of.f a0 = some r) :
  Calls Tryd.prog 54 #[.int .u64 a0] w fun e w' => ∃ v0_ : Value, e = .returned (v0_) ∧ Kd.R (Kd.int .u32) 51 w' w.heap.size (fun _ => True) v0_ r ∧ Below w.heap.size w w' := by
 have HB := Aside0.mk (Below.refl w.heap.size w)
 have H : ((nat_Norm.f (([(a0) % 4294967296, (a0 / 4294967296) % 4294967296] : List Int))).bind fun t126 => (some t126)) = some r := h
 clear h
 obtain ⟨y123, hy123⟩ : ∃ y_ : List Int, y_ = (([(a0) % 4294967296, (a0 / 4294967296) % 4294967296] : List Int)) := ⟨_, rfl⟩
 replace H : ((nat_Norm.f y123).bind fun t126 => (some t126)) = some r := by first | (rw [hy123]; with_reducible exact H) | (have H2_ := (Option.bind_some _ _).symm.trans H; rw [hy123]; with_reducible exact H2_) | (have H2_ := (Option.bind_some _ _).symm.trans H; with_reducible exact H2_) | with_reducible exact H | (rw [hy123]; exact H) | exact H
 have Ny123 := Aside0.mk hy123
 clear hy123
 obtain ⟨t126, A20, H⟩ := Option.bind_eq_some_iff.mp H
 try dsimp only at H
 have A2 := Aside0.mk A20
 clear A20
 obtain rfl := Option.some.inj H
 go_enter Tryd.func54, Tryd.ntmps54
 go_wp2_with (first | ((with_reducible refine gate_dst (N := 8) rfl ?_); refine Kd.R_lit (Kd.int .u32) _ 51 ?hg (N := 8) ?hd (xs := ([(a0) % 4294967296, (a0 / 4294967296) % 4294967296] : List Int)) (inner := [.int .u32 ((a0) % 4294967296), .int .u32 ((a0 / 4294967296) % 4294967296)]) (ok := fun _ => True) (okp := fun _ => True) ?hr ?hp (fun _ hk => hk) trivial (Below.refl _ _) (Nat.le_refl _) (by simp) ?_; (case hd => rfl); (case hg => rfl); (case hr => first | (go_simp; done) | (go_simp; rfl)); (case hp => exact (Reps.one (show Kd.M (Kd.int .u32) _ _ _ ((a0) % 4294967296) [.int .u32 ((a0) % 4294967296)] from rfl) (Reps.one (show Kd.M (Kd.int .u32) _ _ _ ((a0 / 4294967296) % 4294967296) [.int .u32 ((a0 / 4294967296) % 4294967296)] from rfl) (Reps.none _ _)))); intro v124 w3 ho4 hb hg_ hnew_; clear hg_ hnew_; (first | rw [← Ny123.out] at ho4 | (simp only [Int.reduceToNat] at ho4; rw [← Ny123.out] at ho4)); have HO125 := Aside0.mk (Kd.R_lower ho4 (below_size HB.out)); replace HB := Aside0.mk (below_step HB.out hb); clear hb ho4; obtain ⟨Ao5, co5, eo5⟩ := Kd.R_slice HO125.out; subst eo5) | ((with_reducible refine gate_callee (f := 60) rfl ?_); refine goL (some 9) Tryd.func60 [.slice Ao5 y123.length co5] ?_; (with_reducible refine (nat_Norm.calls _ _ y123 t126 _ ?side1 ?side2 A2.out).mono ?_); (case side1 => exact (Kd.R_reads' HO125.out).2.2); (case side2 => exact (Kd.R_reads' HO125.out).2.1); rintro e w6 ⟨v127, rfl, ho0, hb⟩; refine ⟨_, rfl, ?_⟩; have HO128 := Aside0.mk (Kd.R_lower (Kd.R_new' ho0 (Kd.R_lt HO125.out)) (below_size HB.out)); replace HB := Aside0.mk (below_step HB.out hb)))
 go_ret
 exact ⟨_, rfl, Kd.R_mono HO128.out (fun _ hk => trivial), HB.out⟩

/-! ### nat_small: function 61 -/
def nat_small.l0 : Nat → List Int → Int → List Int → Int → Int → Option (List Int × Int)
 | 0, _, _, _, _, _ => none
 | k + 1, x0, x1, x6, x7, x8 => if x8 ≥ 0 then (if 0 ≤ x8 then (if x8 < (x0.length : Int) then (if x1 = 0 then (none) else (if x8 < (x6.length : Int) then (nat_small.l0 k x0 x1 (x6.set (x8 : Int).toNat ((IntKind.u64.wrap (Int.tdiv (Go.bits .or .u64 (IntKind.u64.wrap (x7 * 4294967296)) (IntKind.u64.wrap (rd x0 x8))) x1)) % 4294967296)) (Int.tmod (Go.bits .or .u64 (IntKind.u64.wrap (x7 * 4294967296)) (IntKind.u64.wrap (rd x0 x8))) x1) (wrap64 (x8 - 1))) else (none))) else (none)) else (none)) else ((nat_Norm.f x6).bind fun t134 => (some (t134, x7)))
def nat_small.f (k : Nat) (l0 : List Int) (a1 : Int) : Option (List Int × Int) := if 0 ≤ (l0.length : Int) then (if ((l0.length : Int) : Int).toNat ≤ 70368744177664 then (nat_small.l0 k l0 a1 (List.replicate ((l0.length : Int) : Int).toNat 0) 0 (wrap64 ((l0.length : Int) - 1))) else (none)) else (none)
set_option maxHeartbeats 8000000 in
set_option maxRecDepth 100000 in
theorem nat_small.calls (k : Nat) (A0 : Option Addr) (c0 : Nat) (l0 : List Int) (a1 : Int) (r1 : List Int) (r2 : Int) (w : World) (hr0 : Kd.C (Kd.int .u32) w A0 l0.length l0) (hc0 : l0.length ≤ c0) (h : nat_small.f k l0 a1 = some (r1, r2)) :
  Calls Tryd.prog 61 #[.slice A0 l0.length c0, .int .u64 a1] w fun e w' => ∃ v0_ : Value, e = .returned (.tuple #[v0_, .int .u64 r2]) ∧ Kd.R (Kd.int .u32) 51 w' w.heap.size (fun _ => True) v0_ r1 ∧ Below w.heap.size w w' := by
 have HR0 := Aside0.mk hr0
 have HC0 := Aside0.mk hc0
 clear hr0 hc0
 have HB := Aside0.mk (Below.refl w.heap.size w)
 have H : (if 0 ≤ (l0.length : Int) then (if ((l0.length : Int) : Int).toNat ≤ 70368744177664 then (nat_small.l0 k l0 a1 (List.replicate ((l0.length : Int) : Int).toNat 0) 0 (wrap64 ((l0.length : Int) - 1))) else (none)) else (none)) = some (r1, r2) := h
 clear h
 by_cases c3 : 0 ≤ (l0.length : Int)
 ·rw [if_pos c3] at H
  have c3b0 := eq_true c3
  have c3b1 : decide (0 ≤ (l0.length : Int)) = true := decide_eq_true c3
  clear c3
  by_cases c4 : ((l0.length : Int) : Int).toNat ≤ 70368744177664
  ·rw [if_pos c4] at H
   have c4b0 := eq_true c4
   have c4b1 : decide (((l0.length : Int) : Int).toNat ≤ 70368744177664) = true := decide_eq_true c4
   clear c4
   obtain ⟨y129, hy129⟩ : ∃ y_ : List Int, y_ = (List.replicate ((l0.length : Int) : Int).toNat 0) := ⟨_, rfl⟩
   replace H : (nat_small.l0 k l0 a1 y129 0 (wrap64 ((l0.length : Int) - 1))) = some (r1, r2) := by first | (rw [hy129]; with_reducible exact H) | (have H2_ := (Option.bind_some _ _).symm.trans H; rw [hy129]; with_reducible exact H2_) | (have H2_ := (Option.bind_some _ _).symm.trans H; with_reducible exact H2_) | with_reducible exact H | (rw [hy129]; exact H) | exact H
   have Ny129 := Aside0.mk hy129
   clear hy129
   have H' := Aside0.mk H
   clear H
   go_enter Tryd.func61, Tryd.ntmps61
   go_wp2_with (first | ((with_reducible refine gate_dst (N := 11) rfl ?_); refine Kd.R_make (Kd.int .u32) _ 51 rfl (N := 11) rfl 22 _ _ rfl (l0.length : Int) rfl rfl Tryd.underlying22 (.int .u32 0) 4 info51 rfl (by decide) (by omega) 0 (ok := fun _ => True) (okp := fun _ => True) rfl (fun _ hk => hk) trivial (of_decide_eq_true (by first | (with_reducible assumption) | assumption)) (Nat.le_trans (Nat.mul_le_mul_right _ (of_decide_eq_true (by first | (with_reducible assumption) | assumption) : (l0.length : Int).toNat ≤ 70368744177664)) (by omega)) (Below.refl _ _) (Nat.le_refl _) ?_; intro v130 w5 ho6 hb hg_ hnew_; clear hg_ hnew_; (first | rw [← Ny129.out] at ho6 | (simp only [Int.reduceToNat] at ho6; rw [← Ny129.out] at ho6)); have HO131 := Aside0.mk (Kd.R_lower ho6 (below_size HB.out)); replace HB := Aside0.mk (below_step HB.out hb); clear hb ho6))
   go_loopg [7, 8] k (fun kq v7 v8 w' => ∃ (x6_1 : List Int) (x7_1 : Int) (x8_1 : Int), v7 = .int .u64 x7_1 ∧ v8 = .int .i64 x8_1 ∧ Aside0 (nat_small.l0 kq l0 a1 x6_1 x7_1 x8_1 = some (r1, r2)) ∧ Aside0 (kq ≤ k) ∧ Aside0 (Kd.R (Kd.int .u32) 51 w' w.heap.size (fun _ => True) v130 x6_1) ∧ Aside0 (Below w.heap.size w w'))
   case atStart => exact ⟨(y129), (0), (wrap64 ((l0.length : Int) - 1)), (by first | rfl | (simp; done)), (by first | rfl | (simp; done)), H', ⟨Nat.le_refl _⟩, ⟨HO131.out⟩, ⟨HB.out⟩⟩
   case round =>
    clear H'
    try clear p2
    try clear c3
    try clear c3b0
    try clear c3b1
    try clear c4
    try clear c4b0
    try clear c4b1
    try clear c6
    try clear p6
    obtain ⟨x6_1, x7_1, x8_1, rfl, rfl, HA, HK1, HO_6, HB⟩ := hrel
    cases gk with
    | zero => exact absurd HA.out (by simp [nat_small.l0])
    | succ k1 =>
     have H := HA.out
     clear HA
     simp only [nat_small.l0] at H
     by_cases c7 : x8_1 ≥ 0
     ·rw [if_pos c7] at H
      have c7b0 : decide (0 ≤ x8_1) = true := decide_eq_true c7
      clear c7
      by_cases c8 : 0 ≤ x8_1
      ·rw [if_pos c8] at H
       have c8b0 : decide (0 ≤ x8_1) = true := decide_eq_true c8
       clear c8
       by_cases c9 : x8_1 < (l0.length : Int)
       ·rw [if_pos c9] at H
        have c9b0 : decide (x8_1 < (l0.length : Int)) = true := decide_eq_true c9
        clear c9
        by_cases c10 : a1 = 0
        ·rw [if_pos c10] at H
         exact absurd H (by simp)
        ·rw [if_neg c10] at H
         have c10b0 : (a1 == 0) = false := beq_eq_false_iff_ne.mpr c10
         have c10b1 : (a1 != 0) = true := bne_iff_ne.mpr c10
         by_cases c11 : x8_1 < (x6_1.length : Int)
         ·rw [if_pos c11] at H
          have c11b0 : decide (x8_1 < (x6_1.length : Int)) = true := decide_eq_true c11
          clear c11
          obtain ⟨y133, hy133⟩ : ∃ y_ : List Int, y_ = (x6_1.set (x8_1 : Int).toNat ((IntKind.u64.wrap (Int.tdiv (Go.bits .or .u64 (IntKind.u64.wrap (x7_1 * 4294967296)) (IntKind.u64.wrap (rd l0 x8_1))) a1)) % 4294967296)) := ⟨_, rfl⟩
          replace H : (nat_small.l0 k1 l0 a1 y133 (Int.tmod (Go.bits .or .u64 (IntKind.u64.wrap (x7_1 * 4294967296)) (IntKind.u64.wrap (rd l0 x8_1))) a1) (wrap64 (x8_1 - 1))) = some (r1, r2) := by first | (rw [hy133]; with_reducible exact H) | (have H2_ := (Option.bind_some _ _).symm.trans H; rw [hy133]; with_reducible exact H2_) | (have H2_ := (Option.bind_some _ _).symm.trans H; with_reducible exact H2_) | with_reducible exact H | (rw [hy133]; exact H) | exact H
          have Ny133 := Aside0.mk hy133
          clear hy133
          have H' := Aside0.mk H
          clear H
          have p132 : 0 ≤ (x8_1 : Int) := of_decide_eq_true (by first | (with_reducible assumption) | assumption)
          have q132 : x8_1 < (l0.length : Int) := of_decide_eq_true (by first | (with_reducible assumption) | assumption)
          obtain ⟨ad132, e132, hx132_0⟩ := Kd.at_int HR0.out x8_1 p132 q132
          cases e132
          replace hx132_0 := (HB.out.cell (World.block_lt_of_cell? w _ hx132_0)).trans hx132_0
          replace p132 := eq_true p132
          replace q132 := eq_true q132
          have p12 : 0 ≤ (x8_1 : Int) := of_decide_eq_true (by first | (with_reducible assumption) | assumption)
          have q12 : (x8_1 : Int) < ((x6_1.length : Int) : Int) := of_decide_eq_true (by first | (with_reducible assumption) | assumption)
          obtain ⟨go12, co12, eo12, gb12, gl12, cl12, HG12⟩ := Kd.R_form HO_6.out (by omega)
          (first | cases eo12 | (injection eo12 with ea_ en_ ec_; (first | subst ea_ | (injection ea_ with ea_; subst ea_)); subst ec_; clear en_))
          have GB12 := Aside0.mk gb12
          have GG12 := Aside0.mk HG12
          clear gb12 gl12 HG12
          obtain ⟨hx12_0, hf12_0⟩ := Kd.R_celln 0 HO_6.out (x8_1 : Int) p12 q12
          replace p12 := eq_true p12
          replace q12 := eq_true q12
          have HP13 := Kd.R_putg HO_6.out (x8_1 : Int) ((IntKind.u64.wrap (Int.tdiv (Go.bits .or .u64 (IntKind.u64.wrap (x7_1 * 4294967296)) (IntKind.u64.wrap (rd l0 x8_1))) a1)) % 4294967296)
          go_wp2_with (first | ((with_reducible refine gate_store (t := 51) (p := 33) rfl ?_); refine store_event (t := 51) (p := 33) (v := ?vo_w14) (w1 := (wr.setCell ⟨go12, (x8_1 : Int).toNat, none⟩ (.int .u32 ((IntKind.u64.wrap (Int.tdiv (Go.bits .or .u64 (IntKind.u64.wrap (x7_1 * 4294967296)) (IntKind.u64.wrap (rd l0 x8_1))) a1)) % 4294967296)))) ?hg ?ho ?hn ?hr ?_; (case ho => rfl); (case hg => rfl); (case hn => rfl); (case hr => first | (go_simp; done) | (go_simp; rfl)); intro w14 hw; have hg : wr.grownBy w14 (some go12) := (by rw [hw]; exact HP13.2); have hp_ : Kd.R (Kd.int .u32) 51 w14 w.heap.size (fun _ => True) (.slice (some ⟨go12, 0, none⟩) x6_1.length co12) y133 := (by rw [hw, Ny133.out]; exact HP13.1); clear HP13; replace HO_6 := Aside0.mk (hp_); replace HB := Aside0.mk ((by rw [hw]; exact below_set (HB.out) GB12.out : Below w.heap.size w w14)); clear hg hw hp_))
          go_roundg k1
          case measure => have := HK1.out; omega
          case rel => exact ⟨(y133), (Int.tmod (Go.bits .or .u64 (IntKind.u64.wrap (x7_1 * 4294967296)) (IntKind.u64.wrap (rd l0 x8_1))) a1), (wrap64 (x8_1 - 1)), (by first | rfl | (simp; done)), (by first | rfl | (simp; done)), H', ⟨by have := HK1.out; omega⟩, ⟨HO_6.out⟩, ⟨HB.out⟩⟩
         ·rw [if_neg c11] at H
          exact absurd H (by simp)
       ·rw [if_neg c9] at H
        exact absurd H (by simp)
      ·rw [if_neg c8] at H
       exact absurd H (by simp)
     ·rw [if_neg c7] at H
      have c7b0 : decide (0 ≤ x8_1) = false := decide_eq_false c7
      clear c7
      obtain ⟨t134, A150, H⟩ := Option.bind_eq_some_iff.mp H
      try dsimp only at H
      have A15 := Aside0.mk A150
      clear A150
      simp only [Option.some.injEq, Prod.mk.injEq] at H
      obtain ⟨rfl, rfl⟩ := H
      obtain ⟨Ao16, co16, eo16⟩ := Kd.R_slice HO_6.out
      subst eo16
      go_wp2_with (first | ((with_reducible refine gate_callee (f := 60) rfl ?_); refine goL (some 38) Tryd.func60 [.slice Ao16 x6_1.length co16] ?_; (with_reducible refine (nat_Norm.calls _ _ x6_1 t134 _ ?side1 ?side2 A15.out).mono ?_); (case side1 => exact (Kd.R_reads' HO_6.out).2.2); (case side2 => exact (Kd.R_reads' HO_6.out).2.1); rintro e w17 ⟨v135, rfl, ho0, hb⟩; refine ⟨_, rfl, ?_⟩; have HO136 := Aside0.mk (Kd.R_lower (Kd.R_new' ho0 (Kd.R_lt HO_6.out)) (below_size HB.out)); replace HB := Aside0.mk (below_step HB.out hb)))
      go_ret2
      exact ⟨_, rfl, Kd.R_mono HO136.out (fun _ hk => trivial), HB.out⟩
  ·rw [if_neg c4] at H
   exact absurd H (by simp)
 ·rw [if_neg c3] at H
  exact absurd H (by simp)

/-! ### nat_left: function 63 -/
def nat_left.l0 : Nat → Int → List Int → List Int → Int → Int → Option (List Int)
 | 0, _, _, _, _, _ => none
 | k + 1, x1, x5, x13, x14, x15 => if x15 < x14 then (if 0 ≤ x15 then (if x15 < (x13.length : Int) then (if 0 ≤ x1 then (if x15 < (x5.length : Int) then (if 0 ≤ (wrap64 (x15 + 1)) then (if (wrap64 (x15 + 1)) < (x5.length : Int) then (nat_left.l0 k x1 ((x5.set (x15 : Int).toNat (Go.bits .or .u32 (rd x5 x15) ((shl .u64 (IntKind.u64.wrap (rd x13 x15)) x1) % 4294967296))).set ((wrap64 (x15 + 1)) : Int).toNat (((shl .u64 (IntKind.u64.wrap (rd x13 x15)) x1) / 4294967296) % 4294967296)) x13 x14 (wrap64 (x15 + 1))) else (none)) else (none)) else (none)) else (none)) else (none)) else (none)) else (some x5)
def nat_left.f (k : Nat) (l0 : List Int) (a1 : Int) : Option (List Int) := if 0 ≤ (wrap64 ((l0.length : Int) + 1)) then (if (wrap64 ((l0.length : Int) + 1) : Int).toNat ≤ 70368744177664 then (nat_left.l0 k a1 (List.replicate (wrap64 ((l0.length : Int) + 1) : Int).toNat 0) l0 (l0.length : Int) 0) else (none)) else (none)
set_option maxHeartbeats 8000000 in
set_option maxRecDepth 100000 in
theorem nat_left.calls (k : Nat) (A0 : Option Addr) (c0 : Nat) (l0 : List Int) (a1 : Int) (r : List Int) (w : World) (hr0 : Kd.C (Kd.int .u32) w A0 l0.length l0) (hc0 : l0.length ≤ c0) (h : nat_left.f k l0 a1 = some r) :
  Calls Tryd.prog 63 #[.slice A0 l0.length c0, .int .i64 a1] w fun e w' => ∃ v0_ : Value, e = .returned (v0_) ∧ Kd.R (Kd.int .u32) 51 w' w.heap.size (fun _ => True) v0_ r ∧ Below w.heap.size w w' := by
 have HR0 := Aside0.mk hr0
 have HC0 := Aside0.mk hc0
 clear hr0 hc0
 have HB := Aside0.mk (Below.refl w.heap.size w)
 have H : (if 0 ≤ (wrap64 ((l0.length : Int) + 1)) then (if (wrap64 ((l0.length : Int) + 1) : Int).toNat ≤ 70368744177664 then (nat_left.l0 k a1 (List.replicate (wrap64 ((l0.length : Int) + 1) : Int).toNat 0) l0 (l0.length : Int) 0) else (none)) else (none)) = some r := h
 clear h
 obtain ⟨ji3, hji3⟩ : ∃ j_ : Int, (wrap64 ((l0.length : Int) + 1)) = j_ := ⟨_, rfl⟩
 replace H : (if 0 ≤ (ji3) then (if (ji3 : Int).toNat ≤ 70368744177664 then (nat_left.l0 k a1 (List.replicate (ji3 : Int).toNat 0) l0 (l0.length : Int) 0) else (none)) else (none)) = some r := by first | (rw [hji3] at H; exact H) | (simp only [hji3] at H ⊢; exact H)
 have hji3w : (IntKind.i64.wrap ((l0.length : Int) + 1)) = ji3 := (i64_w _).trans hji3
 by_cases c4 : 0 ≤ (ji3)
 ·rw [if_pos c4] at H
  have c4b0 := eq_true c4
  have c4b1 : decide (0 ≤ (ji3)) = true := decide_eq_true c4
  clear c4
  by_cases c5 : (ji3 : Int).toNat ≤ 70368744177664
  ·rw [if_pos c5] at H
   have c5b0 := eq_true c5
   have c5b1 : decide ((ji3 : Int).toNat ≤ 70368744177664) = true := decide_eq_true c5
   clear c5
   obtain ⟨y137, hy137⟩ : ∃ y_ : List Int, y_ = (List.replicate (ji3 : Int).toNat 0) := ⟨_, rfl⟩
   replace H : (nat_left.l0 k a1 y137 l0 (l0.length : Int) 0) = some r := by first | (rw [hy137]; with_reducible exact H) | (have H2_ := (Option.bind_some _ _).symm.trans H; rw [hy137]; with_reducible exact H2_) | (have H2_ := (Option.bind_some _ _).symm.trans H; with_reducible exact H2_) | with_reducible exact H | (rw [hy137]; exact H) | exact H
   have Ny137 := Aside0.mk hy137
   clear hy137
   have H' := Aside0.mk H
   clear H
   go_enter Tryd.func63, Tryd.ntmps63
   go_wp2_with (first | ((with_reducible refine gate_dst (N := 12) rfl ?_); refine Kd.R_make (Kd.int .u32) _ 51 rfl (N := 12) rfl 22 _ _ rfl ji3 rfl rfl Tryd.underlying22 (.int .u32 0) 4 info51 rfl (by decide) (by omega) 0 (ok := fun _ => True) (okp := fun _ => True) rfl (fun _ hk => hk) trivial (of_decide_eq_true (by first | (with_reducible assumption) | assumption)) (Nat.le_trans (Nat.mul_le_mul_right _ (of_decide_eq_true (by first | (with_reducible assumption) | assumption) : ji3.toNat ≤ 70368744177664)) (by omega)) (Below.refl _ _) (Nat.le_refl _) ?_; intro v138 w6 ho7 hb hg_ hnew_; clear hg_ hnew_; (first | rw [← Ny137.out] at ho7 | (simp only [Int.reduceToNat] at ho7; rw [← Ny137.out] at ho7)); have HO139 := Aside0.mk (Kd.R_lower ho7 (below_size HB.out)); replace HB := Aside0.mk (below_step HB.out hb); clear hb ho7))
   go_loopg [15] k (fun kq v15 w' => ∃ (x5_1 : List Int) (x15_1 : Int), v15 = .int .i64 x15_1 ∧ Aside0 (nat_left.l0 kq a1 x5_1 l0 (l0.length : Int) x15_1 = some r) ∧ Aside0 (kq ≤ k) ∧ Aside0 (Kd.R (Kd.int .u32) 51 w' w.heap.size (fun _ => True) v138 x5_1) ∧ Aside0 (Below w.heap.size w w'))
   case atStart => exact ⟨(y137), (0), (by first | rfl | (simp; done)), H', ⟨Nat.le_refl _⟩, ⟨HO139.out⟩, ⟨HB.out⟩⟩
   case round =>
    clear H'
    try clear p2
    try clear c4
    try clear c4b0
    try clear c4b1
    try clear c5
    try clear c5b0
    try clear c5b1
    try clear c6
    try clear p6
    obtain ⟨x5_1, x15_1, rfl, HA, HK1, HO_5, HB⟩ := hrel
    cases gk with
    | zero => exact absurd HA.out (by simp [nat_left.l0])
    | succ k1 =>
     have H := HA.out
     clear HA
     simp only [nat_left.l0] at H
     by_cases c8 : x15_1 < (l0.length : Int)
     ·rw [if_pos c8] at H
      have c8b0 : decide (x15_1 < (l0.length : Int)) = true := decide_eq_true c8
      clear c8
      by_cases c9 : 0 ≤ x15_1
      ·rw [if_pos c9] at H
       have c9b0 : decide (0 ≤ x15_1) = true := decide_eq_true c9
       clear c9
       by_cases c10 : x15_1 < (l0.length : Int)
       ·rw [if_pos c10] at H
        have c10b0 : decide (x15_1 < (l0.length : Int)) = true := decide_eq_true c10
        clear c10
        by_cases c11 : 0 ≤ a1
        ·rw [if_pos c11] at H
         have c11b0 := eq_true c11
         have c11b1 : decide (0 ≤ a1) = true := decide_eq_true c11
         clear c11
         obtain ⟨ji12, hji12⟩ : ∃ j_ : Int, (shl .u64 (IntKind.u64.wrap (rd l0 x15_1)) a1) = j_ := ⟨_, rfl⟩
         replace H : (if x15_1 < (x5_1.length : Int) then (if 0 ≤ (wrap64 (x15_1 + 1)) then (if (wrap64 (x15_1 + 1)) < (x5_1.length : Int) then (nat_left.l0 k1 a1 ((x5_1.set (x15_1 : Int).toNat (Go.bits .or .u32 (rd x5_1 x15_1) ((ji12) % 4294967296))).set ((wrap64 (x15_1 + 1)) : Int).toNat (((ji12) / 4294967296) % 4294967296)) l0 (l0.length : Int) (wrap64 (x15_1 + 1))) else (none)) else (none)) else (none)) = some r := by first | (rw [hji12] at H; exact H) | (simp only [hji12] at H ⊢; exact H)
         have hji12_ : (IntKind.u64.wrap ((IntKind.u64.wrap (rd l0 x15_1)) * 2 ^ min a1.toNat 64)) = ji12 := hji12
         have hji12z : a1 ≤ 64 → (IntKind.u64.wrap ((IntKind.u64.wrap (rd l0 x15_1)) * 2 ^ a1.toNat)) = ji12 := shl_small hji12
         by_cases c13 : x15_1 < (x5_1.length : Int)
         ·rw [if_pos c13] at H
          have c13b0 : decide (x15_1 < (x5_1.length : Int)) = true := decide_eq_true c13
          clear c13
          obtain ⟨y142, hy142⟩ : ∃ y_ : List Int, y_ = (x5_1.set (x15_1 : Int).toNat (Go.bits .or .u32 (rd x5_1 x15_1) ((ji12) % 4294967296))) := ⟨_, rfl⟩
          replace H : (if 0 ≤ (wrap64 (x15_1 + 1)) then (if (wrap64 (x15_1 + 1)) < (x5_1.length : Int) then (nat_left.l0 k1 a1 (y142.set ((wrap64 (x15_1 + 1)) : Int).toNat (((ji12) / 4294967296) % 4294967296)) l0 (l0.length : Int) (wrap64 (x15_1 + 1))) else (none)) else (none)) = some r := by first | (rw [hy142]; with_reducible exact H) | (have H2_ := (Option.bind_some _ _).symm.trans H; rw [hy142]; with_reducible exact H2_) | (have H2_ := (Option.bind_some _ _).symm.trans H; with_reducible exact H2_) | with_reducible exact H | (rw [hy142]; exact H) | exact H
          have Ny142 := Aside0.mk hy142
          clear hy142
          obtain ⟨ji15, hji15⟩ : ∃ j_ : Int, (wrap64 (x15_1 + 1)) = j_ := ⟨_, rfl⟩
          replace H : (if 0 ≤ (ji15) then (if (ji15) < (x5_1.length : Int) then (nat_left.l0 k1 a1 (y142.set ((ji15) : Int).toNat (((ji12) / 4294967296) % 4294967296)) l0 (l0.length : Int) ji15) else (none)) else (none)) = some r := by first | (rw [hji15] at H; exact H) | (simp only [hji15] at H ⊢; exact H)
          have hji15w : (IntKind.i64.wrap (x15_1 + 1)) = ji15 := (i64_w _).trans hji15
          by_cases c16 : 0 ≤ (ji15)
          ·rw [if_pos c16] at H
           have c16b0 : decide (0 ≤ (ji15)) = true := decide_eq_true c16
           clear c16
           by_cases c17 : (ji15) < (x5_1.length : Int)
           ·rw [if_pos c17] at H
            have c17b0 : decide ((ji15) < (x5_1.length : Int)) = true := decide_eq_true c17
            clear c17
            obtain ⟨y143, hy143⟩ : ∃ y_ : List Int, y_ = (y142.set ((ji15) : Int).toNat (((ji12) / 4294967296) % 4294967296)) := ⟨_, rfl⟩
            replace H : (nat_left.l0 k1 a1 y143 l0 (l0.length : Int) ji15) = some r := by first | (rw [hy143]; with_reducible exact H) | (have H2_ := (Option.bind_some _ _).symm.trans H; rw [hy143]; with_reducible exact H2_) | (have H2_ := (Option.bind_some _ _).symm.trans H; with_reducible exact H2_) | with_reducible exact H | (rw [hy143]; exact H) | exact H
            have Ny143 := Aside0.mk hy143
            clear hy143
            have H' := Aside0.mk H
            clear H
            have p140 : 0 ≤ (x15_1 : Int) := of_decide_eq_true (by first | (with_reducible assumption) | assumption)
            have q140 : x15_1 < (l0.length : Int) := of_decide_eq_true (by first | (with_reducible assumption) | assumption)
            obtain ⟨ad140, e140, hx140_0⟩ := Kd.at_int HR0.out x15_1 p140 q140
            cases e140
            replace hx140_0 := (HB.out.cell (World.block_lt_of_cell? w _ hx140_0)).trans hx140_0
            replace p140 := eq_true p140
            replace q140 := eq_true q140
            obtain ⟨Ao19, co19, eo19⟩ := Kd.R_slice HO_5.out
            subst eo19
            have p141 : 0 ≤ (x15_1 : Int) := of_decide_eq_true (by first | (with_reducible assumption) | assumption)
            have q141 : x15_1 < (x5_1.length : Int) := of_decide_eq_true (by first | (with_reducible assumption) | assumption)
            obtain ⟨ad141, e141, hx141_0⟩ := Kd.at_int (Kd.R_reads' HO_5.out).2.2 x15_1 p141 q141
            cases e141
            replace p141 := eq_true p141
            replace q141 := eq_true q141
            have p14 : 0 ≤ (x15_1 : Int) := of_decide_eq_true (by first | (with_reducible assumption) | assumption)
            have q14 : (x15_1 : Int) < ((x5_1.length : Int) : Int) := of_decide_eq_true (by first | (with_reducible assumption) | assumption)
            obtain ⟨go14, co14, eo14, gb14, gl14, cl14, HG14⟩ := Kd.R_form HO_5.out (by omega)
            (first | cases eo14 | (injection eo14 with ea_ en_ ec_; (first | subst ea_ | (injection ea_ with ea_; subst ea_)); subst ec_; clear en_))
            have GB14 := Aside0.mk gb14
            have GG14 := Aside0.mk HG14
            clear gb14 gl14 HG14
            (first | simp only [add_plain] at hx141_0 | skip)
            obtain ⟨hx14_0, hf14_0⟩ := Kd.R_celln 0 HO_5.out (x15_1 : Int) p14 q14
            replace p14 := eq_true p14
            replace q14 := eq_true q14
            have HP20 := Kd.R_putg HO_5.out (x15_1 : Int) (Go.bits .or .u32 (rd x5_1 x15_1) ((ji12) % 4294967296))
            go_wp2_with (first | ((with_reducible refine gate_store (t := 51) (p := 31) rfl ?_); refine store_event (t := 51) (p := 31) (v := ?vo_w21) (w1 := (wr.setCell ⟨go14, (x15_1 : Int).toNat, none⟩ (.int .u32 (Go.bits .or .u32 (rd x5_1 x15_1) ((ji12) % 4294967296))))) ?hg ?ho ?hn ?hr ?_; (case ho => rfl); (case hg => rfl); (case hn => rfl); (case hr => first | (go_simp; done) | (go_simp; rfl)); intro w21 hw; have hg : wr.grownBy w21 (some go14) := (by rw [hw]; exact HP20.2); have hp_ : Kd.R (Kd.int .u32) 51 w21 w.heap.size (fun _ => True) (.slice (some ⟨go14, 0, none⟩) x5_1.length co19) y142 := (by rw [hw, Ny142.out]; exact HP20.1); clear HP20; replace HO_5 := Aside0.mk (hp_); replace HB := Aside0.mk ((by rw [hw]; exact below_set (HB.out) GB14.out : Below w.heap.size w w21)); clear hg hw hp_; have p18 : 0 ≤ ((ji15) : Int) := of_decide_eq_true (by first | (with_reducible assumption) | assumption); have q18 : ((ji15) : Int) < ((x5_1.length : Int) : Int) := of_decide_eq_true (by first | (with_reducible assumption) | assumption); obtain ⟨hx18_0, hf18_0⟩ := Kd.R_celln 0 HO_5.out ((ji15) : Int) p18 q18; replace p18 := eq_true p18; replace q18 := eq_true q18; obtain ⟨hy22_, hz22_⟩ := Kd.R_celln 0 HO_5.out ((ji15) : Int) (of_decide_eq_true (by first | (with_reducible assumption) | assumption)) (of_decide_eq_true (by first | (with_reducible assumption) | assumption)); have HP22 := Kd.R_putg HO_5.out ((ji15) : Int) (((ji12) / 4294967296) % 4294967296)) | ((with_reducible refine gate_store (t := 51) (p := 38) rfl ?_); refine store_event (t := 51) (p := 38) (v := ?vo_w23) (w1 := (w21.setCell ⟨go14, ((ji15) : Int).toNat, none⟩ (.int .u32 (((ji12) / 4294967296) % 4294967296)))) ?hg ?ho ?hn ?hr ?_; (case ho => rfl); (case hg => rfl); (case hn => rfl); (case hr => first | (go_simp; done) | (go_simp; rfl)); intro w23 hw; have hg : w21.grownBy w23 (some go14) := (by rw [hw]; exact HP22.2); have hp_ : Kd.R (Kd.int .u32) 51 w23 w.heap.size (fun _ => True) (.slice (some ⟨go14, 0, none⟩) x5_1.length co19) y143 := (by rw [hw, Ny143.out]; exact HP22.1); clear HP22; replace HO_5 := Aside0.mk (hp_); replace HB := Aside0.mk ((by rw [hw]; exact below_set (HB.out) GB14.out : Below w.heap.size w w23)); clear hg hw hp_))
            go_roundg k1
            case measure => have := HK1.out; omega
            case rel => exact ⟨(y143), (ji15), (by first | rfl | (simp; done) | (simp only [← hji15] <;> (first | rfl | simp)) | (simp [*]; done)), H', ⟨by have := HK1.out; omega⟩, ⟨HO_5.out⟩, ⟨HB.out⟩⟩
           ·rw [if_neg c17] at H
            exact absurd H (by simp)
          ·rw [if_neg c16] at H
           exact absurd H (by simp)
         ·rw [if_neg c13] at H
          exact absurd H (by simp)
        ·rw [if_neg c11] at H
         exact absurd H (by simp)
       ·rw [if_neg c10] at H
        exact absurd H (by simp)
      ·rw [if_neg c9] at H
       exact absurd H (by simp)
     ·rw [if_neg c8] at H
      have c8b0 : decide (x15_1 < (l0.length : Int)) = false := decide_eq_false c8
      clear c8
      obtain rfl := Option.some.inj H
      go_wp2
      go_ret
      exact ⟨_, by first | rfl | (simp [errW_none, errW_some] <;> rfl) | (simp only [← hji3]; first | rfl | (simp [errW_none, errW_some] <;> rfl)) | (simp [*, errW_none, errW_some] <;> rfl), HO_5.out, HB.out⟩
  ·rw [if_neg c5] at H
   exact absurd H (by simp)
 ·rw [if_neg c4] at H
  exact absurd H (by simp)

/-! ### nat_take: function 79 -/
def nat_take.l0 : Nat → List Int → List Int → Int → Int → Int → Int → Int → Option (Bool × List Int)
 | 0, _, _, _, _, _, _, _ => none
 | k + 1, x0, x1, x2, x7, x8, x13, x14 => if x14 < x13 then (if 0 ≤ x14 then (if x14 < (x1.length : Int) then (if x14 < (x0.length : Int) then (nat_take.l0 k (x0.set (x14 : Int).toNat ((IntKind.u64.wrap ((IntKind.u64.wrap ((IntKind.u64.wrap (rd x0 x14)) - (Go.bits .and .u64 (IntKind.u64.wrap (x7 + (IntKind.u64.wrap (x2 * (IntKind.u64.wrap (rd x1 x14)))))) 4294967295))) - x8)) % 4294967296)) x1 x2 ((IntKind.u64.wrap (x7 + (IntKind.u64.wrap (x2 * (IntKind.u64.wrap (rd x1 x14)))))) / 4294967296) ((IntKind.u64.wrap ((IntKind.u64.wrap ((IntKind.u64.wrap (rd x0 x14)) - (Go.bits .and .u64 (IntKind.u64.wrap (x7 + (IntKind.u64.wrap (x2 * (IntKind.u64.wrap (rd x1 x14)))))) 4294967295))) - x8)) / 9223372036854775808) x13 (wrap64 (x14 + 1))) else (none)) else (none)) else (none)) else (if 0 ≤ (x1.length : Int) then (if (x1.length : Int) < (x0.length : Int) then (some ((((IntKind.u64.wrap ((IntKind.u64.wrap ((IntKind.u64.wrap (rd x0 (x1.length : Int))) - x7)) - x8)) / 9223372036854775808) == 1), (x0.set ((x1.length : Int) : Int).toNat ((IntKind.u64.wrap ((IntKind.u64.wrap ((IntKind.u64.wrap (rd x0 (x1.length : Int))) - x7)) - x8)) % 4294967296)))) else (none)) else (none))
def nat_take.f (k : Nat) (l0 : List Int) (l1 : List Int) (a2 : Int) : Option (Bool × List Int) := nat_take.l0 k l0 l1 a2 0 0 (l1.length : Int) 0
end Go.Proofs.YthnfmmaolkenkaaDoor.PA
/- Written by a program of this session, wip/tools/patch_print.py, over the kit's print of the loaded functions. -/
namespace Go.Proofs.YthnfmmaolkenkaaDoor.H
end Go.Proofs.YthnfmmaolkenkaaDoor.H
namespace Go.Proofs.YthnfmmaolkenkaaDoor.PA
open Go.RowKit Go.Proofs.YthnfmmaolkenkaaDoorW.PrintWords Go.Proofs.YthnfmmaolkenkaaDoorW.PrintLast Go.Proofs.YthnfmmaolkenkaaDoorW.PrintMore Go.Proofs.YthnfmmaolkenkaaDoor.H
attribute [local go_sem] max2_int min2_int max_two min_two max_three min_three max_four min_four   -- for this text's walks alone
set_option linter.unusedVariables false
set_option linter.unusedSimpArgs false

/-! ### nat_give: function 80 -/
def nat_give.l0 : Nat → List Int → List Int → Int → Int → Int → Option (List Int)
 | 0, _, _, _, _, _ => none
 | k + 1, x0, x1, x4, x7, x8 => if x8 < x7 then (if 0 ≤ x8 then (if x8 < (x0.length : Int) then (if x8 < (x1.length : Int) then (nat_give.l0 k (x0.set (x8 : Int).toNat ((IntKind.u64.wrap (x4 + (IntKind.u64.wrap ((IntKind.u64.wrap (rd x0 x8)) + (IntKind.u64.wrap (rd x1 x8)))))) % 4294967296)) x1 ((IntKind.u64.wrap (x4 + (IntKind.u64.wrap ((IntKind.u64.wrap (rd x0 x8)) + (IntKind.u64.wrap (rd x1 x8)))))) / 4294967296) x7 (wrap64 (x8 + 1))) else (none)) else (none)) else (none)) else (if 0 ≤ (x1.length : Int) then (if (x1.length : Int) < (x0.length : Int) then (some (x0.set ((x1.length : Int) : Int).toNat (((rd x0 (x1.length : Int)) + ((x4) % 4294967296)) % 4294967296))) else (none)) else (none))
def nat_give.f (k : Nat) (l0 : List Int) (l1 : List Int) : Option (List Int) := nat_give.l0 k l0 l1 0 (l1.length : Int) 0
/-! ### nat_digit: function 64 -/
mutual
def nat_digit.j1 : Nat → List Int → List Int → Int → Option (Int × List Int)
 | 0, _, _, _ => none
 | k + 1, x0, x1, x7 => (nat_take.f k x0 x1 x7).bind fun bt161 => (if bt161.1 = true then ((nat_give.f k bt161.2 x1).bind fun t163 => (some ((IntKind.u64.wrap (x7 - 1)) % 4294967296, t163))) else (some ((x7) % 4294967296, bt161.2)))
def nat_digit.l0 : Nat → List Int → List Int → Int → Int → Int → Option (Int × List Int)
 | 0, _, _, _, _, _ => none
 | k + 1, x0, x1, x5, x7, x8 => if x8 < 4294967296 then (if 0 ≤ (wrap64 (x5 - 2)) then (if (wrap64 (x5 - 2)) < (x1.length : Int) then (if (wrap64 (x5 - 2)) < (x0.length : Int) then (if (IntKind.u64.wrap (x7 * (IntKind.u64.wrap (rd x1 (wrap64 (x5 - 2)))))) > (Go.bits .or .u64 (IntKind.u64.wrap (x8 * 4294967296)) (IntKind.u64.wrap (rd x0 (wrap64 (x5 - 2))))) then (if 0 ≤ (wrap64 (x5 - 1)) then (if (wrap64 (x5 - 1)) < (x1.length : Int) then (nat_digit.l0 k x0 x1 x5 (IntKind.u64.wrap (x7 - 1)) (IntKind.u64.wrap (x8 + (IntKind.u64.wrap (rd x1 (wrap64 (x5 - 1))))))) else (none)) else (none)) else (nat_digit.j1 k x0 x1 x7)) else (none)) else (none)) else (none)) else (nat_digit.j1 k x0 x1 x7)
end
def nat_digit.f (k : Nat) (l0 : List Int) (l1 : List Int) : Option (Int × List Int) := if 0 ≤ (l1.length : Int) then (if (l1.length : Int) < (l0.length : Int) then (if 0 ≤ (wrap64 ((l1.length : Int) - 1)) then (if (wrap64 ((l1.length : Int) - 1)) < (l0.length : Int) then (if (wrap64 ((l1.length : Int) - 1)) < (l1.length : Int) then (if (IntKind.u64.wrap (rd l1 (wrap64 ((l1.length : Int) - 1)))) = 0 then (none) else (nat_digit.l0 k l0 l1 (l1.length : Int) (mn (IntKind.u64.wrap (Int.tdiv (Go.bits .or .u64 (IntKind.u64.wrap ((IntKind.u64.wrap (rd l0 (l1.length : Int))) * 4294967296)) (IntKind.u64.wrap (rd l0 (wrap64 ((l1.length : Int) - 1))))) (IntKind.u64.wrap (rd l1 (wrap64 ((l1.length : Int) - 1)))))) 4294967295) (IntKind.u64.wrap ((Go.bits .or .u64 (IntKind.u64.wrap ((IntKind.u64.wrap (rd l0 (l1.length : Int))) * 4294967296)) (IntKind.u64.wrap (rd l0 (wrap64 ((l1.length : Int) - 1))))) - (IntKind.u64.wrap ((mn (IntKind.u64.wrap (Int.tdiv (Go.bits .or .u64 (IntKind.u64.wrap ((IntKind.u64.wrap (rd l0 (l1.length : Int))) * 4294967296)) (IntKind.u64.wrap (rd l0 (wrap64 ((l1.length : Int) - 1))))) (IntKind.u64.wrap (rd l1 (wrap64 ((l1.length : Int) - 1)))))) 4294967295) * (IntKind.u64.wrap (rd l1 (wrap64 ((l1.length : Int) - 1)))))))))) else (none)) else (none)) else (none)) else (none)) else (none)
/-! ### nat_limb: function 66 -/
def nat_limb.f (l0 : List Int) (a1 : Int) : Option (Int) := if a1 ≥ (l0.length : Int) then (some 0) else (if 0 ≤ a1 then (if a1 < (l0.length : Int) then (some (IntKind.u64.wrap (rd l0 a1))) else (none)) else (none))
set_option maxHeartbeats 8000000 in
set_option maxRecDepth 100000 in
theorem nat_limb.calls (A0 : Option Addr) (c0 : Nat) (l0 : List Int) (a1 : Int) (r : Int) (w : World) (hr0 : Kd.C (Kd.int .u32) w A0 l0.length l0) (hc0 : l0.length ≤ c0) (h : nat_limb.f l0 a1 = some r) :
  Calls Tryd.prog 66 #[.slice A0 l0.length c0, .int .i64 a1] w fun e w' => e = .returned (.int .u64 r) ∧ Drawn0 w w' := by
 have HR0 := Aside0.mk hr0
 have HC0 := Aside0.mk hc0
 clear hr0 hc0
 have H : (if a1 ≥ (l0.length : Int) then (some 0) else (if 0 ≤ a1 then (if a1 < (l0.length : Int) then (some (IntKind.u64.wrap (rd l0 a1))) else (none)) else (none))) = some r := h
 clear h
 by_cases c3 : a1 ≥ (l0.length : Int)
 ·rw [if_pos c3] at H
  have c3b0 : decide ((l0.length : Int) ≤ a1) = true := decide_eq_true c3
  clear c3
  obtain rfl := Option.some.inj H
  go_enter Tryd.func66, Tryd.ntmps66
  go_wp2
  go_ret
  exact ⟨by first | rfl | (simp; done) | (simp [*]; done) | (refine congrArg (fun z_ => Ending.returned (Value.bool z_)) ?_; generalize ByteArray.toList _ = z_; cases z_ <;> rfl) | (refine congrArg (Value.int _) ?_; omega) | (refine congrArg Value.bool ?_; generalize ByteArray.toList _ = z_; cases z_ <;> rfl), by repeat (first | exact Drawn0.refl _ | apply Drawn0.step)⟩
 ·rw [if_neg c3] at H
  have c3b0 : decide ((l0.length : Int) ≤ a1) = false := decide_eq_false c3
  clear c3
  by_cases c4 : 0 ≤ a1
  ·rw [if_pos c4] at H
   have c4b0 : decide (0 ≤ a1) = true := decide_eq_true c4
   clear c4
   by_cases c5 : a1 < (l0.length : Int)
   ·rw [if_pos c5] at H
    have c5b0 : decide (a1 < (l0.length : Int)) = true := decide_eq_true c5
    clear c5
    obtain rfl := Option.some.inj H
    have p164 : 0 ≤ (a1 : Int) := of_decide_eq_true (by first | (with_reducible assumption) | assumption)
    have q164 : a1 < (l0.length : Int) := of_decide_eq_true (by first | (with_reducible assumption) | assumption)
    obtain ⟨ad164, e164, hx164_0⟩ := Kd.at_int HR0.out a1 p164 q164
    cases e164
    replace p164 := eq_true p164
    replace q164 := eq_true q164
    go_enter Tryd.func66, Tryd.ntmps66
    go_wp2
    go_ret
    exact ⟨by first | rfl | (simp; done) | (simp [*]; done) | (refine congrArg (fun z_ => Ending.returned (Value.bool z_)) ?_; generalize ByteArray.toList _ = z_; cases z_ <;> rfl) | (refine congrArg (Value.int _) ?_; omega) | (refine congrArg Value.bool ?_; generalize ByteArray.toList _ = z_; cases z_ <;> rfl), by repeat (first | exact Drawn0.refl _ | apply Drawn0.step)⟩
   ·rw [if_neg c5] at H
    exact absurd H (by simp)
  ·rw [if_neg c4] at H
   exact absurd H (by simp)

end Go.Proofs.YthnfmmaolkenkaaDoor.PA
/- Written by a program of this session, wip/tools/patch_print.py, over the kit's print of the loaded functions. -/
namespace Go.Proofs.YthnfmmaolkenkaaDoor.H
end Go.Proofs.YthnfmmaolkenkaaDoor.H
namespace Go.Proofs.YthnfmmaolkenkaaDoor.PA
open Go.RowKit Go.Proofs.YthnfmmaolkenkaaDoorW.PrintWords Go.Proofs.YthnfmmaolkenkaaDoorW.PrintLast Go.Proofs.YthnfmmaolkenkaaDoorW.PrintMore Go.Proofs.YthnfmmaolkenkaaDoor.H
attribute [local go_sem] max2_int min2_int max_two min_two max_three min_three max_four min_four   -- for this text's walks alone
set_option linter.unusedVariables false
set_option linter.unusedSimpArgs false

/-! ### nat_right: function 65 -/
def nat_right.l0 : Nat → List Int → Int → List Int → Int → Int → Option (List Int)
 | 0, _, _, _, _, _ => none
 | k + 1, x0, x1, x5, x11, x12 => if x12 < x11 then ((nat_limb.f x0 (wrap64 (x12 + 1))).bind fun t168 => (if 0 ≤ x12 then (if x12 < (x0.length : Int) then (if 0 ≤ x1 then (if x12 < (x5.length : Int) then (nat_right.l0 k x0 x1 (x5.set (x12 : Int).toNat ((shr .u64 (Go.bits .or .u64 (IntKind.u64.wrap (t168 * 4294967296)) (IntKind.u64.wrap (rd x0 x12))) x1) % 4294967296)) x11 (wrap64 (x12 + 1))) else (none)) else (none)) else (none)) else (none))) else ((nat_Norm.f x5).bind fun t171 => (some t171))
def nat_right.f (k : Nat) (l0 : List Int) (a1 : Int) : Option (List Int) := if 0 ≤ (l0.length : Int) then (if ((l0.length : Int) : Int).toNat ≤ 70368744177664 then (nat_right.l0 k l0 a1 (List.replicate ((l0.length : Int) : Int).toNat 0) (l0.length : Int) 0) else (none)) else (none)
def nat_right.T5 : Bool × List (List Nat × List Nat) := (true, [([], []), ([], []), ([], []), ([], []), ([3], [3]), ([2, 4], [2, 4]), ([5], [5]), ([], []), ([], []), ([7, 8], [7, 8]), ([9], [9]), ([10], [10]), ([6, 11], [6, 11]), ([], []), ([12, 13], [12, 13]), ([14], [14]), ([0, 1, 0, 1, 2, 3, 4, 5, 6, 7, 8, 9, 10, 11, 12, 13, 14, 15], [0, 1]), ([16, 15, 5, 0, 1, 2, 3, 4, 5, 6, 7, 8, 9, 10, 11, 12, 13, 14, 15], [15, 16])])
def nat_right.B5 : List Nat := [0, 0, 0, 0, 8, 28, 60, 0, 0, 384, 896, 1920, 4092, 0, 16380, 32764, 65535, 131071]
theorem nat_right.tab5 : rtab .any (opsOf Tryd.f65 5) = nat_right.T5 := by kernel_rfl
theorem nat_right.bits5 : waitsOk nat_right.T5.2 nat_right.B5 = true := by kernel_rfl
set_option maxHeartbeats 8000000 in
set_option maxRecDepth 100000 in
theorem nat_right.calls (k : Nat) (A0 : Option Addr) (c0 : Nat) (l0 : List Int) (a1 : Int) (r : List Int) (w : World) (hr0 : Kd.C (Kd.int .u32) w A0 l0.length l0) (hc0 : l0.length ≤ c0) (h : nat_right.f k l0 a1 = some r) :
  Calls Tryd.prog 65 #[.slice A0 l0.length c0, .int .i64 a1] w fun e w' => ∃ v0_ : Value, e = .returned (v0_) ∧ Kd.R (Kd.int .u32) 51 w' w.heap.size (fun _ => True) v0_ r ∧ Below w.heap.size w w' := by
 have HR0 := Aside0.mk hr0
 have HC0 := Aside0.mk hc0
 clear hr0 hc0
 have HB := Aside0.mk (Below.refl w.heap.size w)
 have H : (if 0 ≤ (l0.length : Int) then (if ((l0.length : Int) : Int).toNat ≤ 70368744177664 then (nat_right.l0 k l0 a1 (List.replicate ((l0.length : Int) : Int).toNat 0) (l0.length : Int) 0) else (none)) else (none)) = some r := h
 clear h
 by_cases c3 : 0 ≤ (l0.length : Int)
 ·rw [if_pos c3] at H
  have c3b0 := eq_true c3
  have c3b1 : decide (0 ≤ (l0.length : Int)) = true := decide_eq_true c3
  clear c3
  by_cases c4 : ((l0.length : Int) : Int).toNat ≤ 70368744177664
  ·rw [if_pos c4] at H
   have c4b0 := eq_true c4
   have c4b1 : decide (((l0.length : Int) : Int).toNat ≤ 70368744177664) = true := decide_eq_true c4
   clear c4
   obtain ⟨y165, hy165⟩ : ∃ y_ : List Int, y_ = (List.replicate ((l0.length : Int) : Int).toNat 0) := ⟨_, rfl⟩
   replace H : (nat_right.l0 k l0 a1 y165 (l0.length : Int) 0) = some r := by first | (rw [hy165]; with_reducible exact H) | (have H2_ := (Option.bind_some _ _).symm.trans H; rw [hy165]; with_reducible exact H2_) | (have H2_ := (Option.bind_some _ _).symm.trans H; with_reducible exact H2_) | with_reducible exact H | (rw [hy165]; exact H) | exact H
   have Ny165 := Aside0.mk hy165
   clear hy165
   have H' := Aside0.mk H
   clear H
   go_enter Tryd.func65, Tryd.ntmps65
   go_wp2_with (first | ((with_reducible refine gate_dst (N := 9) rfl ?_); refine Kd.R_make (Kd.int .u32) _ 51 rfl (N := 9) rfl 22 _ _ rfl (l0.length : Int) rfl rfl Tryd.underlying22 (.int .u32 0) 4 info51 rfl (by decide) (by omega) 0 (ok := fun _ => True) (okp := fun _ => True) rfl (fun _ hk => hk) trivial (of_decide_eq_true (by first | (with_reducible assumption) | assumption)) (Nat.le_trans (Nat.mul_le_mul_right _ (of_decide_eq_true (by first | (with_reducible assumption) | assumption) : (l0.length : Int).toNat ≤ 70368744177664)) (by omega)) (Below.refl _ _) (Nat.le_refl _) ?_; intro v166 w5 ho6 hb hg_ hnew_; clear hg_ hnew_; (first | rw [← Ny165.out] at ho6 | (simp only [Int.reduceToNat] at ho6; rw [← Ny165.out] at ho6)); have HO167 := Aside0.mk (Kd.R_lower ho6 (below_size HB.out)); replace HB := Aside0.mk (below_step HB.out hb); clear hb ho6))
   go_loopg [12] k (fun kq v12 w' => ∃ (x5_1 : List Int) (x12_1 : Int), v12 = .int .i64 x12_1 ∧ Aside0 (nat_right.l0 kq l0 a1 x5_1 (l0.length : Int) x12_1 = some r) ∧ Aside0 (kq ≤ k) ∧ Aside0 (Kd.R (Kd.int .u32) 51 w' w.heap.size (fun _ => True) v166 x5_1) ∧ Aside0 (Below w.heap.size w w'))
   case atStart => exact ⟨(y165), (0), (by first | rfl | (simp; done) | (simp [*]; done) | (refine congrArg (Value.int _) ?_; omega) | (refine congrArg Value.bool ?_; generalize ByteArray.toList _ = z_; cases z_ <;> rfl)), H', ⟨Nat.le_refl _⟩, ⟨by (with_reducible repeat (first | apply Kd.R_alloc | apply Kd.R_drewN | apply Kd.R_drew)); exact HO167.out⟩, ⟨by repeat (first | (with_reducible first | exact HB.out | apply below_alloc | apply pw_below_drewN | apply below_drew1) | exact HB.out)⟩⟩
   case round =>
    clear H'
    try clear p2
    try clear c3
    try clear c3b0
    try clear c3b1
    try clear c4
    try clear c4b0
    try clear c4b1
    try clear c6
    obtain ⟨x5_1, x12_1, rfl, HA, HK1, HO_5, HB⟩ := hrel
    cases gk with
    | zero => exact absurd HA.out (by simp [nat_right.l0])
    | succ k1 =>
     have H := HA.out
     clear HA
     simp only [nat_right.l0] at H
     by_cases c7 : x12_1 < (l0.length : Int)
     ·rw [if_pos c7] at H
      have c7b0 : decide (x12_1 < (l0.length : Int)) = true := decide_eq_true c7
      clear c7
      replace H := Option.bind_eq_some_iff.mp H
      obtain ⟨t168, A80, H⟩ := H
      replace H : (if 0 ≤ x12_1 then (if x12_1 < (l0.length : Int) then (if 0 ≤ a1 then (if x12_1 < (x5_1.length : Int) then (nat_right.l0 k1 l0 a1 (x5_1.set (x12_1 : Int).toNat ((shr .u64 (Go.bits .or .u64 (IntKind.u64.wrap (t168 * 4294967296)) (IntKind.u64.wrap (rd l0 x12_1))) a1) % 4294967296)) (l0.length : Int) (wrap64 (x12_1 + 1))) else (none)) else (none)) else (none)) else (none)) = some r := H
      have A8 := Aside0.mk A80
      clear A80
      by_cases c9 : 0 ≤ x12_1
      ·rw [if_pos c9] at H
       have c9b0 : decide (0 ≤ x12_1) = true := decide_eq_true c9
       clear c9
       by_cases c10 : x12_1 < (l0.length : Int)
       ·rw [if_pos c10] at H
        have c10b0 : decide (x12_1 < (l0.length : Int)) = true := decide_eq_true c10
        clear c10
        by_cases c11 : 0 ≤ a1
        ·rw [if_pos c11] at H
         have c11b0 := eq_true c11
         have c11b1 : decide (0 ≤ a1) = true := decide_eq_true c11
         clear c11
         obtain ⟨ji12, hji12⟩ : ∃ j_ : Int, (shr .u64 (Go.bits .or .u64 (IntKind.u64.wrap (t168 * 4294967296)) (IntKind.u64.wrap (rd l0 x12_1))) a1) = j_ := ⟨_, rfl⟩
         replace H : (if x12_1 < (x5_1.length : Int) then (nat_right.l0 k1 l0 a1 (x5_1.set (x12_1 : Int).toNat ((ji12) % 4294967296)) (l0.length : Int) (wrap64 (x12_1 + 1))) else (none)) = some r := by first | (rw [hji12] at H; exact H) | (simp only [hji12] at H ⊢; exact H)
         (try rw [hji12] at A8)
         have hji12_ : ((Go.bits .or .u64 (IntKind.u64.wrap (t168 * 4294967296)) (IntKind.u64.wrap (rd l0 x12_1))) / 2 ^ min a1.toNat 64) = ji12 := hji12
         have hji12z : a1 ≤ 64 → ((Go.bits .or .u64 (IntKind.u64.wrap (t168 * 4294967296)) (IntKind.u64.wrap (rd l0 x12_1))) / 2 ^ a1.toNat) = ji12 := shr_small hji12
         by_cases c13 : x12_1 < (x5_1.length : Int)
         ·rw [if_pos c13] at H
          have c13b0 : decide (x12_1 < (x5_1.length : Int)) = true := decide_eq_true c13
          clear c13
          obtain ⟨y170, hy170⟩ : ∃ y_ : List Int, y_ = (x5_1.set (x12_1 : Int).toNat ((ji12) % 4294967296)) := ⟨_, rfl⟩
          replace H : (nat_right.l0 k1 l0 a1 y170 (l0.length : Int) (wrap64 (x12_1 + 1))) = some r := by first | (rw [hy170]; with_reducible exact H) | (have H2_ := (Option.bind_some _ _).symm.trans H; rw [hy170]; with_reducible exact H2_) | (have H2_ := (Option.bind_some _ _).symm.trans H; with_reducible exact H2_) | with_reducible exact H | (rw [hy170]; exact H) | exact H
          have Ny170 := Aside0.mk hy170
          clear hy170
          have H' := Aside0.mk H
          clear H
          try go_wp2
          replace HO_5 := Aside0.mk (Kd.R_drew HO_5.out)
          replace HB := Aside0.mk (below_drew1 HB.out)
          have p169 : 0 ≤ (x12_1 : Int) := of_decide_eq_true (by first | (with_reducible assumption) | assumption)
          have q169 : x12_1 < (l0.length : Int) := of_decide_eq_true (by first | (with_reducible assumption) | assumption)
          obtain ⟨ad169, e169, hx169_0⟩ := Kd.at_int HR0.out x12_1 p169 q169
          have hw169_0 := hx169_0
          cases e169
          replace hx169_0 := (HB.out.cell (World.block_lt_of_cell? w _ hx169_0)).trans hx169_0
          replace p169 := eq_true p169
          replace q169 := eq_true q169
          refine start_ (n := 18) (S := fun w' => w'.cell? (ad169.add (x12_1).toNat) = some (.int .u32 (rd l0 x12_1))) (ds := [17]) #[false, false, false, false, false, false, false, false, false, false, false, false, false, false, false, false, false, false] (by kernel_rfl) rfl rfl (((HB.out.cell (World.block_lt_of_cell? w _ hw169_0)).trans hw169_0)) (fun hHeld => ?_); refine with_tabW nat_right.tab5 nat_right.bits5 (fun HT_ HW_ => ?_)
          generalize wr.drew = w15 at HO_5 HB hx169_0 hHeld ⊢
          refine pure_ (i := 0) (N := some 15) (v := ?_) (a' := ?_) #[true, false, false, false, false, false, false, false, false, false, false, false, false, false, false, false, false, false] rfl rfl (any_of HT_.out (by kernel_rfl)) (fun _ _ _ h => h) (Or.inl ⟨by rfl, ?_⟩) ?_ ?_
          rotate_left
          ·intro w'
           go_simp
           with_reducible rfl
          rotate_left
          ·simp only [Act.put, List.setIfInBounds_toArray, List.set_cons_zero, List.set_cons_succ, i64_w, i32_w]
           rfl
          refine pure_ (i := 1) (N := some 16) (v := ?_) (a' := ?_) #[true, true, false, false, false, false, false, false, false, false, false, false, false, false, false, false, false, false] rfl rfl (any_of HT_.out (by kernel_rfl)) (fun _ _ _ h => h) (Or.inl ⟨by rfl, ?_⟩) ?_ ?_
          rotate_left
          ·intro w'
           go_simp
           with_reducible rfl
          rotate_left
          ·simp only [Act.put, List.setIfInBounds_toArray, List.set_cons_zero, List.set_cons_succ, i64_w, i32_w]
           rfl
          refine pure_ (i := 2) (N := some 17) (v := ?_) (a' := ?_) #[true, true, true, false, false, false, false, false, false, false, false, false, false, false, false, false, false, false] rfl rfl (any_of HT_.out (by kernel_rfl)) (fun _ _ _ h => h) (Or.inl ⟨by rfl, ?_⟩) ?_ ?_
          rotate_left
          ·intro w'
           go_simp
           with_reducible rfl
          rotate_left
          ·simp only [Act.put, List.setIfInBounds_toArray, List.set_cons_zero, List.set_cons_succ, i64_w, i32_w]
           rfl
          refine pure_ (i := 3) (N := some 18) (v := ?_) (a' := ?_) #[true, true, true, true, false, false, false, false, false, false, false, false, false, false, false, false, false, false] rfl rfl (any_of HT_.out (by kernel_rfl)) (fun _ _ _ h => h) (Or.inl ⟨by rfl, ?_⟩) ?_ ?_
          rotate_left
          ·intro w'
           go_simp
           with_reducible rfl
          rotate_left
          ·simp only [Act.put, List.setIfInBounds_toArray, List.set_cons_zero, List.set_cons_succ, i64_w, i32_w]
           rfl
          refine pure_ (i := 4) (N := some 19) (v := ?_) (a' := ?_) #[true, true, true, true, true, false, false, false, false, false, false, false, false, false, false, false, false, false] rfl rfl (any_of HT_.out (by kernel_rfl)) (fun _ _ _ h => h) (Or.inl ⟨by rfl, ?_⟩) ?_ ?_
          rotate_left
          ·intro w'
           go_simp
           with_reducible rfl
          rotate_left
          ·simp only [Act.put, List.setIfInBounds_toArray, List.set_cons_zero, List.set_cons_succ, i64_w, i32_w]
           rfl
          refine pure_ (i := 7) (N := some 22) (v := ?_) (a' := ?_) #[true, true, true, true, true, false, false, true, false, false, false, false, false, false, false, false, false, false] rfl rfl (any_of HT_.out (by kernel_rfl)) (fun _ _ _ h => h) (Or.inl ⟨by rfl, ?_⟩) ?_ ?_
          rotate_left
          ·intro w'
           go_simp
           with_reducible rfl
          rotate_left
          ·simp only [Act.put, List.setIfInBounds_toArray, List.set_cons_zero, List.set_cons_succ, i64_w, i32_w]
           rfl
          refine pure_ (i := 8) (N := some 23) (v := ?_) (a' := ?_) #[true, true, true, true, true, false, false, true, true, false, false, false, false, false, false, false, false, false] rfl rfl (any_of HT_.out (by kernel_rfl)) (fun _ _ _ h => h) (Or.inl ⟨by rfl, ?_⟩) ?_ ?_
          rotate_left
          ·intro w'
           go_simp
           with_reducible rfl
          rotate_left
          ·simp only [Act.put, List.setIfInBounds_toArray, List.set_cons_zero, List.set_cons_succ, i64_w, i32_w]
           rfl
          refine pure_ (i := 9) (N := some 24) (v := ?_) (a' := ?_) #[true, true, true, true, true, false, false, true, true, true, false, false, false, false, false, false, false, false] rfl rfl (any_of HT_.out (by kernel_rfl)) (fun _ _ _ h => h) (Or.inl ⟨by rfl, ?_⟩) ?_ ?_
          rotate_left
          ·intro w'
           go_simp
           with_reducible rfl
          rotate_left
          ·simp only [Act.put, List.setIfInBounds_toArray, List.set_cons_zero, List.set_cons_succ, i64_w, i32_w]
           rfl
          refine pure_ (i := 13) (N := some 28) (v := ?_) (a' := ?_) #[true, true, true, true, true, false, false, true, true, true, false, false, false, true, false, false, false, false] rfl rfl (any_of HT_.out (by kernel_rfl)) (fun _ _ _ h => h) (Or.inl ⟨by rfl, ?_⟩) ?_ ?_
          rotate_left
          ·intro w'
           go_simp
           with_reducible rfl
          rotate_left
          ·simp only [Act.put, List.setIfInBounds_toArray, List.set_cons_zero, List.set_cons_succ, i64_w, i32_w]
           rfl
          refine take_ (i := 10) (N := some 25) (v := ?_) (a' := ?_) #[true, true, true, true, true, false, false, true, true, true, true, false, false, true, false, false, false, false] rfl rfl (take_ofW HT_.out HW_.out (by kernel_rfl)) (fun _ _ _ h => h) (Or.inl ⟨by rfl, ?_⟩) hHeld ?_ ?_
          rotate_left
          ·intro w' s0
           go_simp
           with_reducible rfl
          rotate_left
          ·simp only [Act.put, List.setIfInBounds_toArray, List.set_cons_zero, List.set_cons_succ, i64_w, i32_w]
           rfl
          refine pure_ (i := 11) (N := some 26) (v := ?_) (a' := ?_) #[true, true, true, true, true, false, false, true, true, true, true, true, false, true, false, false, false, false] rfl rfl (any_of HT_.out (by kernel_rfl)) (fun _ _ _ h => h) (Or.inl ⟨by rfl, ?_⟩) ?_ ?_
          rotate_left
          ·intro w'
           go_simp
           with_reducible rfl
          rotate_left
          ·simp only [Act.put, List.setIfInBounds_toArray, List.set_cons_zero, List.set_cons_succ, i64_w, i32_w]
           rfl
          refine one_ (i := 5) (N := some 20) #[true, true, true, true, true, true, false, true, true, true, true, true, false, true, false, false, false, false] rfl rfl (one_of HT_.out (by kernel_rfl)) (by decide) (fun K hK => ?_)
          refine goR Tryd.func66 [.slice (some ad169) l0.length c0, .int .i64 (wrap64 (x12_1 + 1))] ?_
          with_reducible refine (nat_limb.calls _ _ l0 (wrap64 (x12_1 + 1)) t168 _ ?side1 ?side2 A8.out).mono ?_
          (case side1 => exact (Kd.C_below HR0.out HB.out))
          (case side2 => exact HC0.out)
          rintro e w' ⟨rfl, ⟨nd, rfl⟩⟩
          refine ⟨_, rfl, ?_⟩
          have p14 : 0 ≤ (x12_1 : Int) := of_decide_eq_true (by first | (with_reducible assumption) | assumption)
          have q14 : (x12_1 : Int) < ((x5_1.length : Int) : Int) := of_decide_eq_true (by first | (with_reducible assumption) | assumption)
          obtain ⟨go14, co14, eo14, gb14, gl14, cl14, HG14⟩ := Kd.R_form HO_5.out (by omega)
          (first | cases eo14 | (injection eo14 with ea_ en_ ec_; (first | subst ea_ | (injection ea_ with ea_; subst ea_)); subst ec_; clear en_))
          have GB14 := Aside0.mk gb14
          have GG14 := Aside0.mk HG14
          clear gb14 gl14 HG14
          obtain ⟨hx14_0, hf14_0⟩ := Kd.R_celln 0 HO_5.out (x12_1 : Int) p14 q14
          replace p14 := eq_true p14
          replace q14 := eq_true q14
          have HP16 := Kd.R_putn HO_5.out (x12_1 : Int) ((ji12) % 4294967296)
          rw [← Ny170.out] at HP16
          have HQ16 := Aside0.mk HP16
          clear HP16
          refine hK.out _ _ (((HB.out.cell (World.block_lt_of_cell? w _ hw169_0)).trans hw169_0)) (fun hHeld => ?_)
          clear hK K
          refine norm_ (a' := ?_) ?_ ?_
          rotate_left
          ·show Act.put _ (some 20) _ = _
           simp only [Act.put, List.setIfInBounds_toArray, List.set_cons_zero, List.set_cons_succ, i64_w, i32_w]
           rfl
          refine pure_ (i := 6) (N := some 21) (v := ?_) (a' := ?_) #[true, true, true, true, true, true, true, true, true, true, true, true, false, true, false, false, false, false] rfl rfl (any_of HT_.out (by kernel_rfl)) (fun _ _ _ h => h) (Or.inl ⟨by rfl, ?_⟩) ?_ ?_
          rotate_left
          ·intro w'
           go_simp
           with_reducible rfl
          rotate_left
          ·simp only [Act.put, List.setIfInBounds_toArray, List.set_cons_zero, List.set_cons_succ, i64_w, i32_w]
           rfl
          refine pure_ (i := 12) (N := some 27) (v := ?_) (a' := ?_) #[true, true, true, true, true, true, true, true, true, true, true, true, true, true, false, false, false, false] rfl rfl (any_of HT_.out (by kernel_rfl)) (fun _ _ _ h => h) (Or.inl ⟨by rfl, ?_⟩) ?_ ?_
          rotate_left
          ·intro w'
           go_simp
           with_reducible rfl
          rotate_left
          ·simp only [Act.put, List.setIfInBounds_toArray, List.set_cons_zero, List.set_cons_succ, i64_w, i32_w]
           rfl
          refine pure_ (i := 14) (N := some 29) (v := ?_) (a' := ?_) #[true, true, true, true, true, true, true, true, true, true, true, true, true, true, true, false, false, false] rfl rfl (any_of HT_.out (by kernel_rfl)) (fun _ _ _ h => h) (Or.inl ⟨by rfl, ?_⟩) ?_ ?_
          rotate_left
          ·intro w'
           go_simp
           with_reducible rfl
          rotate_left
          ·simp only [Act.put, List.setIfInBounds_toArray, List.set_cons_zero, List.set_cons_succ, i64_w, i32_w]
           rfl
          refine pure_ (i := 15) (N := some 30) (v := ?_) (a' := ?_) #[true, true, true, true, true, true, true, true, true, true, true, true, true, true, true, true, false, false] rfl rfl (any_of HT_.out (by kernel_rfl)) (fun _ _ _ h => h) (Or.inl ⟨by rfl, ?_⟩) ?_ ?_
          rotate_left
          ·intro w'
           go_simp
           with_reducible rfl
          rotate_left
          ·simp only [Act.put, List.setIfInBounds_toArray, List.set_cons_zero, List.set_cons_succ, i64_w, i32_w]
           rfl
          refine pure_ (i := 16) (N := some 31) (v := ?_) (a' := ?_) #[true, true, true, true, true, true, true, true, true, true, true, true, true, true, true, true, true, false] rfl rfl (any_of HT_.out (by kernel_rfl)) (fun _ _ _ h => h) (Or.inl ⟨by rfl, ?_⟩) ?_ ?_
          rotate_left
          ·intro w'
           go_simp
           with_reducible rfl
          rotate_left
          ·simp only [Act.put, List.setIfInBounds_toArray, List.set_cons_zero, List.set_cons_succ, i64_w, i32_w]
           rfl
          refine last_ (i := 17) (N := none) #[true, true, true, true, true, true, true, true, true, true, true, true, true, true, true, true, true, true] rfl rfl (one_of HT_.out (by kernel_rfl)) (by decide) (fun K hK => ?_)
          refine skip_ (w1 := ?_) (by rfl) rfl ?_ ?_
          rotate_left
          ·go_simp
           rfl
          refine hK.out _ _ ?_
          clear hK K
          refine done_ (done_of HT_.out (by kernel_rfl)) ?_
          try go_wp2
          go_roundg k1
          case measure => have := HK1.out; omega
          case rel => exact ⟨(y170), (wrap64 (x12_1 + 1)), (by first | rfl | (simp; done) | (simp [*]; done) | (refine congrArg (Value.int _) ?_; omega) | (refine congrArg Value.bool ?_; generalize ByteArray.toList _ = z_; cases z_ <;> rfl)), H', ⟨by have := HK1.out; omega⟩, ⟨by (with_reducible repeat (first | apply Kd.R_alloc | apply Kd.R_drewN | apply Kd.R_drew)); exact HQ16.out⟩, ⟨by repeat (first | (with_reducible first | exact HB.out | apply below_alloc | apply pw_below_drewN | apply below_drew1 | refine below_set ?_ GB14.out) | exact HB.out)⟩⟩
         ·rw [if_neg c13] at H
          exact absurd H (by simp)
        ·rw [if_neg c11] at H
         exact absurd H (by simp)
       ·rw [if_neg c10] at H
        exact absurd H (by simp)
      ·rw [if_neg c9] at H
       exact absurd H (by simp)
     ·rw [if_neg c7] at H
      have c7b0 : decide (x12_1 < (l0.length : Int)) = false := decide_eq_false c7
      clear c7
      replace H := Option.bind_eq_some_iff.mp H
      obtain ⟨t171, A170, H⟩ := H
      replace H : (some t171) = some r := H
      have A17 := Aside0.mk A170
      clear A170
      obtain rfl := Option.some.inj H
      obtain ⟨Ao18, co18, eo18⟩ := Kd.R_slice HO_5.out
      subst eo18
      go_wp2_with (first | ((with_reducible refine gate_callee (f := 60) rfl ?_); refine goL (some 34) Tryd.func60 [.slice Ao18 x5_1.length co18] ?_; (with_reducible refine (nat_Norm.calls _ _ x5_1 t171 _ ?side1 ?side2 A17.out).mono ?_); (case side1 => exact (Kd.R_reads' HO_5.out).2.2); (case side2 => exact (Kd.R_reads' HO_5.out).2.1); rintro e w19 ⟨v172, rfl, ho0, hb⟩; refine ⟨_, rfl, ?_⟩; have HO173 := Aside0.mk (Kd.R_lower (Kd.R_new' ho0 (Kd.R_lt HO_5.out)) (below_size HB.out)); replace HO_5 := Aside0.mk (Kd.R_elder' HO_5.out (Kd.R_base ho0) hb); replace HB := Aside0.mk (below_step HB.out hb)))
      go_ret
      exact ⟨_, by first | rfl | (simp [errW_none, errW_some] <;> rfl) | (simp [*, errW_none, errW_some] <;> rfl), by (with_reducible repeat (first | apply Kd.R_alloc | apply Kd.R_drewN | apply Kd.R_drew)); exact Kd.R_mono HO173.out (fun _ hk => trivial), by repeat (first | (with_reducible first | exact HB.out | apply below_alloc | apply pw_below_drewN | apply below_drew1) | exact HB.out)⟩
  ·rw [if_neg c4] at H
   exact absurd H (by simp)
 ·rw [if_neg c3] at H
  exact absurd H (by simp)

end Go.Proofs.YthnfmmaolkenkaaDoor.PA
/- A window of a row of one's own (numbers of 32 bits): what the words ask of a row, for the window. -/
namespace Go.Proofs.YthnfmmaolkenkaaDoor.H
open Go.RowKit Go.Proofs.YthnfmmaolkenkaaDoorW.PrintWords Go.Proofs.YthnfmmaolkenkaaDoorW.PrintLast

theorem own_any {k : Nat} {A : Option Addr} {n m c : Nat} (h : some k ≠ (Value.slice A n c).ownBlock) : some k ≠ (Value.slice A m c).ownBlock := by
  cases A with
  | none => exact h
  | some a => exact h
theorem win_add (g o j : Nat) : (⟨g, o, none⟩ : Addr).add j = ⟨g, o + j, none⟩ := by unfold Addr.add; split <;> simp_all
/-- A window: of the row of block g (N elements, capacity C) the part behind pre and ahead of suf; cap: the window's capacity. -/
structure Wn where
  g : Nat
  N : Nat
  C : Nat
  cap : Nat
  pre : List Int
  suf : List Int
def Wn.R (X : Wn) (w : World) (base : Nat) (ok : Nat → Prop) (v : Value) (xs : List Int) : Prop :=
  (∀ k, v.ownBlock = some k → ok k) ∧ v = .slice (some ⟨X.g, X.pre.length, none⟩) xs.length X.cap ∧ xs.length ≤ X.cap ∧ Kd.R (Kd.int .u32) 51 w base ok (.slice (some ⟨X.g, 0, none⟩) X.N X.C) (X.pre ++ xs ++ X.suf)
namespace Wn
variable {X : Wn} {w w1 : World} {base : Nat} {ok ok' : Nat → Prop} {v : Value} {xs : List Int}
theorem R_mono (h : X.R w base ok v xs) (hok : ∀ k, ok k → ok' k) : X.R w base ok' v xs := ⟨fun k hk => hok k (h.1 k hk), h.2.1, h.2.2.1, Kd.R_mono h.2.2.2 hok⟩
theorem R_alloc (h : X.R w base ok v xs) (o : Obj) : X.R (w.alloc o) base ok v xs := ⟨h.1, h.2.1, h.2.2.1, Kd.R_alloc h.2.2.2 o⟩
theorem R_drew (h : X.R w base ok v xs) : X.R w.drew base ok v xs := ⟨h.1, h.2.1, h.2.2.1, Kd.R_drew h.2.2.2⟩
theorem R_drewN (h : X.R w base ok v xs) (m : Nat) : X.R (w.drewN m) base ok v xs := ⟨h.1, h.2.1, h.2.2.1, Kd.R_drewN h.2.2.2 m⟩
theorem R_at {m : Nat} {w' : World} (hq : w.drewN m = w') (h : X.R w base ok v xs) : X.R w' base ok v xs := by subst hq; exact R_drewN h m
theorem R_slice (h : X.R w base ok v xs) : ∃ A c, v = .slice A xs.length c := ⟨_, _, h.2.1⟩
theorem R_tight (h : X.R w base ok v xs) : X.R w base (fun k => some k = v.ownBlock) v xs := ⟨fun k hk => hk.symm, h.2.1, h.2.2.1, by
  have := Kd.R_tight rfl h.2.2.2
  rw [h.2.1]
  exact this⟩
theorem R_reok {Q : Nat → Prop} (h : X.R w base Q v xs) (hok : ∀ k, v.ownBlock = some k → ok k) : X.R w base ok v xs := ⟨hok, h.2.1, h.2.2.1, Kd.R_reok rfl h.2.2.2 (fun k hk => hok k (by rw [h.2.1]; exact hk))⟩
theorem shape {A : Option Addr} {n c : Nat} (h : X.R w base ok (.slice A n c) xs) : A = some ⟨X.g, X.pre.length, none⟩ ∧ n = xs.length ∧ c = X.cap := by
  have := h.2.1
  injection this with h1 h2 h3
  exact ⟨h1, h2, h3⟩
theorem cell (h : X.R w base ok v xs) (i : Nat) (hi : i < xs.length) : w.cell? ⟨X.g, X.pre.length + i, none⟩ = some (.int .u32 (rd xs (i : Int))) ∧ w.frozen? ⟨X.g, X.pre.length + i, none⟩ = false := by
  obtain ⟨hN, _⟩ := Kd.R_reads' h.2.2.2
  have hl : (X.pre ++ xs ++ X.suf).length = X.pre.length + xs.length + X.suf.length := by simp; omega
  have := Kd.R_celln (0 : Int) h.2.2.2 ((X.pre.length + i : Nat) : Int) (by omega) (by omega)
  rw [Int.toNat_natCast] at this
  refine ⟨this.1.trans ?_, this.2⟩
  have e : rdOf (0 : Int) (X.pre ++ xs ++ X.suf) ((X.pre.length + i : Nat) : Int) = rd xs (i : Int) := by
    unfold rdOf rd
    rw [Int.toNat_natCast, Int.toNat_natCast, List.append_assoc, List.getD_eq_getElem?_getD, List.getElem?_append_right (by omega), Nat.add_sub_cancel_left, List.getElem?_append_left (by omega)]
    simp [List.getD_eq_getElem?_getD, hi]
  rw [e]
theorem R_reads' {A : Option Addr} {n c : Nat} (h : X.R w base ok (.slice A n c) xs) : n = xs.length ∧ n ≤ c ∧ Kd.C (Kd.int .u32) w A xs.length xs := by
  obtain ⟨rfl, rfl, rfl⟩ := shape h
  have hm := (Kd.R_reads' h.2.2.2).2.2.2.1
  refine ⟨rfl, h.2.2.1, rfl, by simp at hm; omega, fun hn => ⟨_, rfl, fun j p hp => ⟨[.int .u32 p], rfl, rfl, fun i u hu => ?_⟩⟩⟩
  have hi0 : i = 0 := by
    rcases i with _ | i
    · rfl
    · simp at hu
  subst hi0
  have hu' : Value.int .u32 p = u := by simpa using hu
  subst hu'
  obtain ⟨hj, rfl⟩ := List.getElem?_eq_some_iff.1 hp
  have := (cell h j hj).1
  have e : (⟨X.g, X.pre.length, none⟩ : Addr).add (j * (Kd.int .u32).sz + 0) = ⟨X.g, X.pre.length + j, none⟩ := by
    rw [win_add]; simp [Kd.int, Kd.scalar]
  rw [e, this]
  simp [rd, hj]
theorem R_form (h : X.R w base ok v xs) (_hp : 0 < xs.length) : ∃ g cap, v = .slice (some ⟨g, X.pre.length, none⟩) xs.length cap ∧ base ≤ g ∧ g < w.heap.size ∧ ∃ cells, w.heap[g]? = some (.cells cells 51 (0, 0)) := by
  obtain ⟨g, cap, he, hb, hl, hc⟩ := Kd.R_form h.2.2.2 (by simp; omega)
  injection he with h1 h2 h3
  injection h1 with h1
  injection h1 with h1
  subst h1
  exact ⟨_, _, h.2.1, hb, hl, hc⟩
theorem R_celln {g n cap : Nat} (h : X.R w base ok (.slice (some ⟨g, X.pre.length, none⟩) n cap) xs) (i : Int) (h0 : 0 ≤ i) (hi : i < n) : w.cell? ⟨g, X.pre.length + i.toNat, none⟩ = some (.int .u32 (rd xs i)) ∧ w.frozen? ⟨g, X.pre.length + i.toNat, none⟩ = false := by
  obtain ⟨h1, rfl, rfl⟩ := shape h
  injection h1 with h1
  injection h1 with h1
  subst h1
  have := cell h i.toNat (by omega)
  rwa [show ((i.toNat : Nat) : Int) = i by omega] at this
theorem R_putg {g n cap : Nat} (h : X.R w base ok (.slice (some ⟨g, X.pre.length, none⟩) n cap) xs) (i : Int) (x : Int) (h0 : 0 ≤ i) (hi : i < n) : X.R (w.setCell ⟨g, X.pre.length + i.toNat, none⟩ (.int .u32 x)) base ok (.slice (some ⟨g, X.pre.length, none⟩) n cap) (xs.set i.toNat x) ∧ w.grownBy (w.setCell ⟨g, X.pre.length + i.toNat, none⟩ (.int .u32 x)) (some g) := by
  obtain ⟨h1, rfl, rfl⟩ := shape h
  injection h1 with h1
  injection h1 with h1
  subst h1
  have := Kd.R_putg h.2.2.2 ((X.pre.length + i.toNat : Nat) : Int) x
  rw [Int.toNat_natCast] at this
  refine ⟨⟨h.1, by rw [List.length_set], by rw [List.length_set]; exact h.2.2.1, ?_⟩, this.2⟩
  have e : (X.pre ++ xs ++ X.suf).set (X.pre.length + i.toNat) x = X.pre ++ xs.set i.toNat x ++ X.suf := by
    rw [List.append_assoc, List.set_append_right _ _ (by omega), Nat.add_sub_cancel_left, List.set_append_left _ _ (by omega), List.append_assoc]
  rw [← e]
  exact this.1
end Wn
end Go.Proofs.YthnfmmaolkenkaaDoor.H
/- Contracts over a window of a row that is written: turned by wip/tools/winprint.py from the printed contracts of YthnfmmaolkenkaaDoorPAx1, YthnfmmaolkenkaaDoorPAx2. -/
namespace Go.Proofs.YthnfmmaolkenkaaDoor.H
open Go.RowKit Go.Proofs.YthnfmmaolkenkaaDoorW.PrintWords Go.Proofs.YthnfmmaolkenkaaDoorW.PrintLast Go.Proofs.YthnfmmaolkenkaaDoorW.PrintMore Go.Proofs.YthnfmmaolkenkaaDoor.H Go.Proofs.YthnfmmaolkenkaaDoor.PA
attribute [local go_sem] max2_int min2_int max_two min_two max_three min_three max_four min_four   -- for this text's walks alone
set_option linter.unusedVariables false
set_option linter.unusedSimpArgs false
set_option maxHeartbeats 8000000 in
set_option maxRecDepth 100000 in
theorem nat_take.callsW (X_ : Wn) (k : Nat) (P0_ : Nat → Prop) (u9000_ : Value) (l0 : List Int) (A1 : Option Addr) (c1 : Nat) (l1 : List Int) (a2 : Int) (r1 : Bool) (r2 : List Int) (w0 w : World) (hB : Below w0.heap.size w0 w) (ho0 : X_.R w w0.heap.size P0_ u9000_ l0) (hr1 : ∀ W_, Kept w W_ (fun k_ => P0_ k_) → Kd.C (Kd.int .u32) W_ A1 l1.length l1) (hc1 : l1.length ≤ c1) (h : nat_take.f k l0 l1 a2 = some (r1, r2)) :
    Calls Tryd.prog 79 #[u9000_, .slice A1 l1.length c1, .int .u64 a2] w fun e w' => e = .returned (.bool r1) ∧ X_.R w' w0.heap.size (fun k_ => (P0_ k_ ∨ w.heap.size ≤ k_)) u9000_ r2 ∧ Below w0.heap.size w0 w' ∧ Kept w w' (fun k_ => P0_ k_) := by
  have HO0 := Aside0.mk (show X_.R w w0.heap.size (fun k_ => (P0_ k_ ∨ w.heap.size ≤ k_)) u9000_ l0 from Wn.R_mono ho0 (fun k_ hk => (.inl hk)))
  have HR1 := Aside0.mk hr1
  have HC1 := Aside0.mk hc1
  clear hr1 hc1
  have HK := Aside0.mk (Kept.refl w (fun k_ => P0_ k_))
  have HW0 := Aside0.mk hB.size
  have HB := Aside0.mk hB
  clear hB
  have H : (nat_take.l0 k l0 l1 a2 0 0 (l1.length : Int) 0) = some (r1, r2) := h
  clear h
  have H' := Aside0.mk H
  clear H
  go_enter Tryd.func79, Tryd.ntmps79
  go_wp2
  go_loopg [7, 8, 14] k (fun kq v7 v8 v14 w' => ∃ (x0_1 : List Int) (x7_1 : Int) (x8_1 : Int) (x14_1 : Int), v7 = .int .u64 x7_1 ∧ v8 = .int .u64 x8_1 ∧ v14 = .int .i64 x14_1 ∧ Aside0 (nat_take.l0 kq x0_1 l1 a2 x7_1 x8_1 (l1.length : Int) x14_1 = some (r1, r2)) ∧ Aside0 (kq ≤ k) ∧ Aside0 (X_.R w' w0.heap.size (fun k_ => (P0_ k_ ∨ w.heap.size ≤ k_)) u9000_ x0_1) ∧ Aside0 (Kept w w' (fun k_ => P0_ k_)) ∧ Aside0 (Below w0.heap.size w0 w'))
  case atStart => exact ⟨(l0), (0), (0), (0), (by first | rfl | (simp; done) | (simp [*]; done) | (refine congrArg (Value.int _) ?_; omega) | (refine congrArg Value.bool ?_; generalize ByteArray.toList _ = z_; cases z_ <;> rfl)), (by first | rfl | (simp; done) | (simp [*]; done) | (refine congrArg (Value.int _) ?_; omega) | (refine congrArg Value.bool ?_; generalize ByteArray.toList _ = z_; cases z_ <;> rfl)), (by first | rfl | (simp; done) | (simp [*]; done) | (refine congrArg (Value.int _) ?_; omega) | (refine congrArg Value.bool ?_; generalize ByteArray.toList _ = z_; cases z_ <;> rfl)), H', ⟨Nat.le_refl _⟩, ⟨by (with_reducible repeat (first | apply Wn.R_alloc | apply Wn.R_drewN | apply Wn.R_drew)); exact HO0.out⟩, ⟨by repeat (first | (with_reducible first | exact HK.out | apply Kept.alloc | apply Kept.drewN | apply Kept.drew) | exact HK.out)⟩, ⟨by repeat (first | (with_reducible first | exact HB.out | apply below_alloc | apply pw_below_drewN | apply below_drew1) | exact HB.out)⟩⟩
  case round =>
    clear H'
    try clear c1
    try clear p2
    obtain ⟨x0_1, x7_1, x8_1, x14_1, rfl, rfl, rfl, HA, HK1, HO_0, HK, HB⟩ := hrel
    cases gk with
    | zero => exact absurd HA.out (by simp [nat_take.l0])
    | succ k1 =>
      have H := HA.out
      clear HA
      simp only [nat_take.l0] at H
      by_cases c4 : x14_1 < (l1.length : Int)
      · rw [if_pos c4] at H
        have c4b0 : decide (x14_1 < (l1.length : Int)) = true := decide_eq_true c4
        clear c4
        by_cases c5 : 0 ≤ x14_1
        · rw [if_pos c5] at H
          have c5b0 : decide (0 ≤ x14_1) = true := decide_eq_true c5
          clear c5
          by_cases c6 : x14_1 < (l1.length : Int)
          · rw [if_pos c6] at H
            have c6b0 : decide (x14_1 < (l1.length : Int)) = true := decide_eq_true c6
            clear c6
            by_cases c7 : x14_1 < (x0_1.length : Int)
            · rw [if_pos c7] at H
              have c7b0 : decide (x14_1 < (x0_1.length : Int)) = true := decide_eq_true c7
              clear c7
              obtain ⟨y146, hy146⟩ : ∃ y_ : List Int, y_ = (x0_1.set (x14_1 : Int).toNat ((IntKind.u64.wrap ((IntKind.u64.wrap ((IntKind.u64.wrap (rd x0_1 x14_1)) - (Go.bits .and .u64 (IntKind.u64.wrap (x7_1 + (IntKind.u64.wrap (a2 * (IntKind.u64.wrap (rd l1 x14_1)))))) 4294967295))) - x8_1)) % 4294967296)) := ⟨_, rfl⟩
              replace H : (nat_take.l0 k1 y146 l1 a2 ((IntKind.u64.wrap (x7_1 + (IntKind.u64.wrap (a2 * (IntKind.u64.wrap (rd l1 x14_1)))))) / 4294967296) ((IntKind.u64.wrap ((IntKind.u64.wrap ((IntKind.u64.wrap (rd x0_1 x14_1)) - (Go.bits .and .u64 (IntKind.u64.wrap (x7_1 + (IntKind.u64.wrap (a2 * (IntKind.u64.wrap (rd l1 x14_1)))))) 4294967295))) - x8_1)) / 9223372036854775808) (l1.length : Int) (wrap64 (x14_1 + 1))) = some (r1, r2) := by first | (rw [hy146]; with_reducible exact H) | (have H2_ := (Option.bind_some _ _).symm.trans H; rw [hy146]; with_reducible exact H2_) | (have H2_ := (Option.bind_some _ _).symm.trans H; with_reducible exact H2_) | with_reducible exact H | (rw [hy146]; exact H) | exact H
              have Ny146 := Aside0.mk hy146
              clear hy146
              have H' := Aside0.mk H
              clear H
              have p144 : 0 ≤ (x14_1 : Int) := of_decide_eq_true (by first | (with_reducible assumption) | assumption)
              have q144 : x14_1 < (l1.length : Int) := of_decide_eq_true (by first | (with_reducible assumption) | assumption)
              obtain ⟨ad144, e144, hx144_0⟩ := Kd.at_int (Kd.C_kept_now HR1.out HK.out) x14_1 p144 q144
              cases e144
              replace p144 := eq_true p144
              replace q144 := eq_true q144
              obtain ⟨Ao9, co9, eo9⟩ := Wn.R_slice HO_0.out
              subst eo9
              have p145 : 0 ≤ (x14_1 : Int) := of_decide_eq_true (by first | (with_reducible assumption) | assumption)
              have q145 : x14_1 < (x0_1.length : Int) := of_decide_eq_true (by first | (with_reducible assumption) | assumption)
              obtain ⟨ad145, e145, hx145_0⟩ := Kd.at_int (Wn.R_reads' HO_0.out).2.2 x14_1 p145 q145
              cases e145
              replace p145 := eq_true p145
              replace q145 := eq_true q145
              have p8 : 0 ≤ (x14_1 : Int) := of_decide_eq_true (by first | (with_reducible assumption) | assumption)
              have q8 : (x14_1 : Int) < ((x0_1.length : Int) : Int) := of_decide_eq_true (by first | (with_reducible assumption) | assumption)
              obtain ⟨go8, co8, eo8, gb8, gl8, cl8, HG8⟩ := Wn.R_form HO_0.out (by omega)
              (first | cases eo8 | (injection eo8 with ea_ en_ ec_; (first | subst ea_ | (injection ea_ with ea_; subst ea_)); subst ec_; clear en_))
              have GB8 := Aside0.mk gb8
              have GG8 := Aside0.mk HG8
              clear gb8 gl8 HG8
              have HMgo8 := Aside0.mk (show (P0_ go8 ∨ w.heap.size ≤ go8) from (HO_0.out.1 _ rfl))
              (first | simp only [win_add] at hx145_0 | skip)
              obtain ⟨hx8_0, hf8_0⟩ := Wn.R_celln HO_0.out (x14_1 : Int) p8 q8
              replace p8 := eq_true p8
              replace q8 := eq_true q8
              have HP10 := Wn.R_putg HO_0.out (x14_1 : Int) ((IntKind.u64.wrap ((IntKind.u64.wrap ((IntKind.u64.wrap (rd x0_1 x14_1)) - (Go.bits .and .u64 (IntKind.u64.wrap (x7_1 + (IntKind.u64.wrap (a2 * (IntKind.u64.wrap (rd l1 x14_1)))))) 4294967295))) - x8_1)) % 4294967296) (of_eq_true p8) (of_eq_true q8)
              go_wp2_with (first | ((with_reducible refine gate_store (t := 51) (p := 40) rfl ?_); refine store_event (t := 51) (p := 40) (v := ?vo_w11) (w1 := (wr.setCell ⟨go8, X_.pre.length + (x14_1 : Int).toNat, none⟩ (.int .u32 ((IntKind.u64.wrap ((IntKind.u64.wrap ((IntKind.u64.wrap (rd x0_1 x14_1)) - (Go.bits .and .u64 (IntKind.u64.wrap (x7_1 + (IntKind.u64.wrap (a2 * (IntKind.u64.wrap (rd l1 x14_1)))))) 4294967295))) - x8_1)) % 4294967296)))) ?hg ?ho ?hn ?hr ?_; (case ho => rfl); (case hg => rfl); (case hn => rfl); (case hr => first | (go_simp; done) | (go_simp; rfl) | (go_simp; simp only [IntKind.wrap_u8, IntKind.wrap_u32]; congr 4; omega) | (go_simp; simp only [IntKind.wrap_u8, IntKind.wrap_u32]; congr 5; omega)); intro w11 hw; have hg : wr.grownBy w11 (some go8) := (by rw [hw]; exact HP10.2); have hp_ : X_.R w11 w0.heap.size (fun k_ => (P0_ k_ ∨ w.heap.size ≤ k_)) (.slice (some ⟨go8, X_.pre.length, none⟩) x0_1.length co9) y146 := (by rw [hw, Ny146.out]; exact HP10.1); clear HP10; have n0_ := Aside0.mk (hp_); have n1_ := Aside0.mk ((by rw [hw]; exact below_set (HB.out) GB8.out : Below w0.heap.size w0 w11)); have n2_ := Aside0.mk (Kept.of_grown (S := (fun k_ => P0_ k_)) hg (by repeat (first | (with_reducible first | exact HK.out | apply Kept.alloc | apply Kept.drewN | apply Kept.drew) | exact HK.out)) (fun k_ e_ => (HO_0.out.1 k_ e_))); clear HO_0; clear HB; clear HK; have HO_0 := n0_; have HB := n1_; have HK := n2_; clear n0_ n1_ n2_; clear hg hw hp_))
              go_roundg k1
              case measure => have := HK1.out; omega
              case rel => exact ⟨(y146), ((IntKind.u64.wrap (x7_1 + (IntKind.u64.wrap (a2 * (IntKind.u64.wrap (rd l1 x14_1)))))) / 4294967296), ((IntKind.u64.wrap ((IntKind.u64.wrap ((IntKind.u64.wrap (rd x0_1 x14_1)) - (Go.bits .and .u64 (IntKind.u64.wrap (x7_1 + (IntKind.u64.wrap (a2 * (IntKind.u64.wrap (rd l1 x14_1)))))) 4294967295))) - x8_1)) / 9223372036854775808), (wrap64 (x14_1 + 1)), (by first | rfl | (simp; done) | (simp [*]; done) | (refine congrArg (Value.int _) ?_; omega) | (refine congrArg Value.bool ?_; generalize ByteArray.toList _ = z_; cases z_ <;> rfl)), (by first | rfl | (simp; done) | (simp [*]; done) | (refine congrArg (Value.int _) ?_; omega) | (refine congrArg Value.bool ?_; generalize ByteArray.toList _ = z_; cases z_ <;> rfl)), (by first | rfl | (simp; done) | (simp [*]; done) | (refine congrArg (Value.int _) ?_; omega) | (refine congrArg Value.bool ?_; generalize ByteArray.toList _ = z_; cases z_ <;> rfl)), H', ⟨by have := HK1.out; omega⟩, ⟨by (with_reducible repeat (first | apply Wn.R_alloc | apply Wn.R_drewN | apply Wn.R_drew)); exact HO_0.out⟩, ⟨by repeat (first | (with_reducible first | exact HK.out | apply Kept.alloc | apply Kept.drewN | apply Kept.drew) | exact HK.out)⟩, ⟨by repeat (first | (with_reducible first | exact HB.out | apply below_alloc | apply pw_below_drewN | apply below_drew1) | exact HB.out)⟩⟩
            · rw [if_neg c7] at H
              exact absurd H (by simp)
          · rw [if_neg c6] at H
            exact absurd H (by simp)
        · rw [if_neg c5] at H
          exact absurd H (by simp)
      · rw [if_neg c4] at H
        have c4b0 : decide (x14_1 < (l1.length : Int)) = false := decide_eq_false c4
        clear c4
        by_cases c12 : 0 ≤ (l1.length : Int)
        · rw [if_pos c12] at H
          have c12b0 : decide (0 ≤ (l1.length : Int)) = true := decide_eq_true c12
          have c12b1 : decide (0 ≤ l1.length) = true := decide_eq_true (by omega)
          clear c12
          by_cases c13 : (l1.length : Int) < (x0_1.length : Int)
          · rw [if_pos c13] at H
            have c13b0 : decide ((l1.length : Int) < (x0_1.length : Int)) = true := decide_eq_true c13
            have c13b1 : decide (l1.length < x0_1.length) = true := decide_eq_true (Int.ofNat_lt.mp c13)
            clear c13
            obtain ⟨y148, hy148⟩ : ∃ y_ : List Int, y_ = (x0_1.set ((l1.length : Int) : Int).toNat ((IntKind.u64.wrap ((IntKind.u64.wrap ((IntKind.u64.wrap (rd x0_1 (l1.length : Int))) - x7_1)) - x8_1)) % 4294967296)) := ⟨_, rfl⟩
            replace H : (some ((((IntKind.u64.wrap ((IntKind.u64.wrap ((IntKind.u64.wrap (rd x0_1 (l1.length : Int))) - x7_1)) - x8_1)) / 9223372036854775808) == 1), y148)) = some (r1, r2) := by first | (rw [hy148]; with_reducible exact H) | (have H2_ := (Option.bind_some _ _).symm.trans H; rw [hy148]; with_reducible exact H2_) | (have H2_ := (Option.bind_some _ _).symm.trans H; with_reducible exact H2_) | with_reducible exact H | (rw [hy148]; exact H) | exact H
            have Ny148 := Aside0.mk hy148
            clear hy148
            simp only [Option.some.injEq, Prod.mk.injEq] at H
            obtain ⟨rfl, rfl⟩ := H
            obtain ⟨Ao15, co15, eo15⟩ := Wn.R_slice HO_0.out
            subst eo15
            have p147 : 0 ≤ ((l1.length : Int) : Int) := of_decide_eq_true (by first | (with_reducible assumption) | assumption)
            have q147 : (l1.length : Int) < (x0_1.length : Int) := of_decide_eq_true (by first | (with_reducible assumption) | assumption)
            obtain ⟨ad147, e147, hx147_0⟩ := Kd.at_int (Wn.R_reads' HO_0.out).2.2 (l1.length : Int) p147 q147
            cases e147
            (try simp only [Go.IntWalk.toNatUp] at hx147_0)
            replace p147 := eq_true p147
            replace q147 := eq_true q147
            have p14 : 0 ≤ ((l1.length : Int) : Int) := of_decide_eq_true (by first | (with_reducible assumption) | assumption)
            have q14 : ((l1.length : Int) : Int) < ((x0_1.length : Int) : Int) := of_decide_eq_true (by first | (with_reducible assumption) | assumption)
            obtain ⟨go14, co14, eo14, gb14, gl14, cl14, HG14⟩ := Wn.R_form HO_0.out (by omega)
            (first | cases eo14 | (injection eo14 with ea_ en_ ec_; (first | subst ea_ | (injection ea_ with ea_; subst ea_)); subst ec_; clear en_))
            have GB14 := Aside0.mk gb14
            have GG14 := Aside0.mk HG14
            clear gb14 gl14 HG14
            have HMgo14 := Aside0.mk (show (P0_ go14 ∨ w.heap.size ≤ go14) from (HO_0.out.1 _ rfl))
            (first | simp only [win_add] at hx147_0 | skip)
            obtain ⟨hx14_0, hf14_0⟩ := Wn.R_celln HO_0.out ((l1.length : Int) : Int) p14 q14
            (try simp only [Int.toNat_natCast] at hx14_0 hf14_0)
            replace p14 := eq_true p14
            replace q14 := eq_true q14
            have HP16 := Wn.R_putg HO_0.out ((l1.length : Int) : Int) ((IntKind.u64.wrap ((IntKind.u64.wrap ((IntKind.u64.wrap (rd x0_1 (l1.length : Int))) - x7_1)) - x8_1)) % 4294967296) (of_eq_true p14) (of_eq_true q14)
            go_wp2_with (first | ((with_reducible refine gate_store (t := 51) (p := 61) rfl ?_); refine store_event (t := 51) (p := 61) (v := ?vo_w17) (w1 := (wr.setCell ⟨go14, X_.pre.length + ((l1.length : Int) : Int).toNat, none⟩ (.int .u32 ((IntKind.u64.wrap ((IntKind.u64.wrap ((IntKind.u64.wrap (rd x0_1 (l1.length : Int))) - x7_1)) - x8_1)) % 4294967296)))) ?hg ?ho ?hn ?hr ?_; (case ho => rfl); (case hg => rfl); (case hn => rfl); (case hr => first | (go_simp; done) | (go_simp; rfl) | (go_simp; simp only [IntKind.wrap_u8, IntKind.wrap_u32]; congr 4; omega) | (go_simp; simp only [IntKind.wrap_u8, IntKind.wrap_u32]; congr 5; omega)); intro w17 hw; have hg : wr.grownBy w17 (some go14) := (by rw [hw]; exact HP16.2); have hp_ : X_.R w17 w0.heap.size (fun k_ => (P0_ k_ ∨ w.heap.size ≤ k_)) (.slice (some ⟨go14, X_.pre.length, none⟩) x0_1.length co15) y148 := (by rw [hw, Ny148.out]; exact HP16.1); clear HP16; have n0_ := Aside0.mk (hp_); have n1_ := Aside0.mk ((by rw [hw]; exact below_set (HB.out) GB14.out : Below w0.heap.size w0 w17)); have n2_ := Aside0.mk (Kept.of_grown (S := (fun k_ => P0_ k_)) hg (by repeat (first | (with_reducible first | exact HK.out | apply Kept.alloc | apply Kept.drewN | apply Kept.drew) | exact HK.out)) (fun k_ e_ => (HO_0.out.1 k_ e_))); clear HO_0; clear HB; clear HK; have HO_0 := n0_; have HB := n1_; have HK := n2_; clear n0_ n1_ n2_; clear hg hw hp_))
            go_ret
            exact ⟨by first | rfl | (simp [errW_none, errW_some] <;> rfl) | (refine congrArg (fun z_ => Ending.returned (Value.bool z_)) (decide_eq_decide.mpr ?_); unfold wrap64; omega) | (simp [*, errW_none, errW_some] <;> rfl), by (with_reducible repeat (first | apply Wn.R_alloc | apply Wn.R_drewN | apply Wn.R_drew)); exact HO_0.out, by repeat (first | (with_reducible first | exact HB.out | apply below_alloc | apply pw_below_drewN | apply below_drew1) | exact HB.out), by repeat (first | (with_reducible first | exact HK.out | apply Kept.alloc | apply Kept.drewN | apply Kept.drew) | exact HK.out)⟩
          · rw [if_neg c13] at H
            exact absurd H (by simp)
        · rw [if_neg c12] at H
          exact absurd H (by simp)
set_option maxHeartbeats 8000000 in
set_option maxRecDepth 100000 in
theorem nat_give.callsW (X_ : Wn) (k : Nat) (P0_ : Nat → Prop) (u9000_ : Value) (l0 : List Int) (A1 : Option Addr) (c1 : Nat) (l1 : List Int) (r : List Int) (w0 w : World) (hB : Below w0.heap.size w0 w) (ho0 : X_.R w w0.heap.size P0_ u9000_ l0) (hr1 : ∀ W_, Kept w W_ (fun k_ => P0_ k_) → Kd.C (Kd.int .u32) W_ A1 l1.length l1) (hc1 : l1.length ≤ c1) (h : nat_give.f k l0 l1 = some r) :
    Calls Tryd.prog 80 #[u9000_, .slice A1 l1.length c1] w fun e w' => e = .returned (.tuple #[]) ∧ X_.R w' w0.heap.size (fun k_ => (P0_ k_ ∨ w.heap.size ≤ k_)) u9000_ r ∧ Below w0.heap.size w0 w' ∧ Kept w w' (fun k_ => P0_ k_) := by
  have HO0 := Aside0.mk (show X_.R w w0.heap.size (fun k_ => (P0_ k_ ∨ w.heap.size ≤ k_)) u9000_ l0 from Wn.R_mono ho0 (fun k_ hk => (.inl hk)))
  have HR1 := Aside0.mk hr1
  have HC1 := Aside0.mk hc1
  clear hr1 hc1
  have HK := Aside0.mk (Kept.refl w (fun k_ => P0_ k_))
  have HW0 := Aside0.mk hB.size
  have HB := Aside0.mk hB
  clear hB
  have H : (nat_give.l0 k l0 l1 0 (l1.length : Int) 0) = some r := h
  clear h
  have H' := Aside0.mk H
  clear H
  go_enter Tryd.func80, Tryd.ntmps80
  go_wp2
  repeat (go_quiet (fail); try go_wp2)
  go_loopg [4, 8] k (fun kq v4 v8 w' => ∃ (x0_1 : List Int) (x4_1 : Int) (x8_1 : Int), v4 = .int .u64 x4_1 ∧ v8 = .int .i64 x8_1 ∧ Aside0 (nat_give.l0 kq x0_1 l1 x4_1 (l1.length : Int) x8_1 = some r) ∧ Aside0 (kq ≤ k) ∧ Aside0 (X_.R w' w0.heap.size (fun k_ => (P0_ k_ ∨ w.heap.size ≤ k_)) u9000_ x0_1) ∧ Aside0 (Kept w w' (fun k_ => P0_ k_)) ∧ Aside0 (Below w0.heap.size w0 w'))
  case atStart => exact ⟨(l0), (0), (0), (by first | rfl | (simp; done) | (simp [*]; done) | (refine congrArg (Value.int _) ?_; omega) | (refine congrArg Value.bool ?_; generalize ByteArray.toList _ = z_; cases z_ <;> rfl)), (by first | rfl | (simp; done) | (simp [*]; done) | (refine congrArg (Value.int _) ?_; omega) | (refine congrArg Value.bool ?_; generalize ByteArray.toList _ = z_; cases z_ <;> rfl)), H', ⟨Nat.le_refl _⟩, ⟨by (with_reducible repeat (first | apply Wn.R_alloc | apply Wn.R_drewN | apply Wn.R_drew)); exact HO0.out⟩, ⟨by repeat (first | (with_reducible first | exact HK.out | apply Kept.alloc | apply Kept.drewN | apply Kept.drew) | exact HK.out)⟩, ⟨by repeat (first | (with_reducible first | exact HB.out | apply below_alloc | apply pw_below_drewN | apply below_drew1) | exact HB.out)⟩⟩
  case round =>
    clear H'
    try clear c1
    try clear p2
    obtain ⟨x0_1, x4_1, x8_1, rfl, rfl, HA, HK1, HO_0, HK, HB⟩ := hrel
    cases gk with
    | zero => exact absurd HA.out (by simp [nat_give.l0])
    | succ k1 =>
      have H := HA.out
      clear HA
      simp only [nat_give.l0] at H
      by_cases c3 : x8_1 < (l1.length : Int)
      · rw [if_pos c3] at H
        have c3b0 : decide (x8_1 < (l1.length : Int)) = true := decide_eq_true c3
        clear c3
        by_cases c4 : 0 ≤ x8_1
        · rw [if_pos c4] at H
          have c4b0 : decide (0 ≤ x8_1) = true := decide_eq_true c4
          clear c4
          by_cases c5 : x8_1 < (x0_1.length : Int)
          · rw [if_pos c5] at H
            have c5b0 : decide (x8_1 < (x0_1.length : Int)) = true := decide_eq_true c5
            clear c5
            by_cases c6 : x8_1 < (l1.length : Int)
            · rw [if_pos c6] at H
              have c6b0 : decide (x8_1 < (l1.length : Int)) = true := decide_eq_true c6
              clear c6
              obtain ⟨y151, hy151⟩ : ∃ y_ : List Int, y_ = (x0_1.set (x8_1 : Int).toNat ((IntKind.u64.wrap (x4_1 + (IntKind.u64.wrap ((IntKind.u64.wrap (rd x0_1 x8_1)) + (IntKind.u64.wrap (rd l1 x8_1)))))) % 4294967296)) := ⟨_, rfl⟩
              replace H : (nat_give.l0 k1 y151 l1 ((IntKind.u64.wrap (x4_1 + (IntKind.u64.wrap ((IntKind.u64.wrap (rd x0_1 x8_1)) + (IntKind.u64.wrap (rd l1 x8_1)))))) / 4294967296) (l1.length : Int) (wrap64 (x8_1 + 1))) = some r := by first | (rw [hy151]; with_reducible exact H) | (have H2_ := (Option.bind_some _ _).symm.trans H; rw [hy151]; with_reducible exact H2_) | (have H2_ := (Option.bind_some _ _).symm.trans H; with_reducible exact H2_) | with_reducible exact H | (rw [hy151]; exact H) | exact H
              have Ny151 := Aside0.mk hy151
              clear hy151
              have H' := Aside0.mk H
              clear H
              obtain ⟨Ao8, co8, eo8⟩ := Wn.R_slice HO_0.out
              subst eo8
              have p149 : 0 ≤ (x8_1 : Int) := of_decide_eq_true (by first | (with_reducible assumption) | assumption)
              have q149 : x8_1 < (x0_1.length : Int) := of_decide_eq_true (by first | (with_reducible assumption) | assumption)
              obtain ⟨ad149, e149, hx149_0⟩ := Kd.at_int (Wn.R_reads' HO_0.out).2.2 x8_1 p149 q149
              cases e149
              replace p149 := eq_true p149
              replace q149 := eq_true q149
              have p150 : 0 ≤ (x8_1 : Int) := of_decide_eq_true (by first | (with_reducible assumption) | assumption)
              have q150 : x8_1 < (l1.length : Int) := of_decide_eq_true (by first | (with_reducible assumption) | assumption)
              obtain ⟨ad150, e150, hx150_0⟩ := Kd.at_int (Kd.C_kept_now HR1.out HK.out) x8_1 p150 q150
              cases e150
              replace p150 := eq_true p150
              replace q150 := eq_true q150
              have p7 : 0 ≤ (x8_1 : Int) := of_decide_eq_true (by first | (with_reducible assumption) | assumption)
              have q7 : (x8_1 : Int) < ((x0_1.length : Int) : Int) := of_decide_eq_true (by first | (with_reducible assumption) | assumption)
              obtain ⟨go7, co7, eo7, gb7, gl7, cl7, HG7⟩ := Wn.R_form HO_0.out (by omega)
              (first | cases eo7 | (injection eo7 with ea_ en_ ec_; (first | subst ea_ | (injection ea_ with ea_; subst ea_)); subst ec_; clear en_))
              have GB7 := Aside0.mk gb7
              have GG7 := Aside0.mk HG7
              clear gb7 gl7 HG7
              have HMgo7 := Aside0.mk (show (P0_ go7 ∨ w.heap.size ≤ go7) from (HO_0.out.1 _ rfl))
              (first | simp only [win_add] at hx149_0 | skip)
              obtain ⟨hx7_0, hf7_0⟩ := Wn.R_celln HO_0.out (x8_1 : Int) p7 q7
              replace p7 := eq_true p7
              replace q7 := eq_true q7
              have HP9 := Wn.R_putg HO_0.out (x8_1 : Int) ((IntKind.u64.wrap (x4_1 + (IntKind.u64.wrap ((IntKind.u64.wrap (rd x0_1 x8_1)) + (IntKind.u64.wrap (rd l1 x8_1)))))) % 4294967296) (of_eq_true p7) (of_eq_true q7)
              go_wp2_with (first | ((with_reducible refine gate_store (t := 51) (p := 28) rfl ?_); (try (rw [drewN_self wr]; generalize hq_ : World.drewN wr _ = wr; have n0_ := Aside0.mk (Wn.R_at hq_ HO_0.out); have n1_ := Aside0.mk (kept_at hq_ HK.out); have n2_ := Aside0.mk (below_at hq_ HB.out); clear hq_ HO_0 HK HB; have HO_0 := n0_; have HK := n1_; have HB := n2_; clear n0_ n1_ n2_; (try (obtain ⟨hx7_0, hf7_0⟩ := Wn.R_celln HO_0.out (x8_1 : Int) (of_eq_true p7) (of_eq_true q7))); (try (have HP9 := Wn.R_putg HO_0.out (x8_1 : Int) ((IntKind.u64.wrap (x4_1 + (IntKind.u64.wrap ((IntKind.u64.wrap (rd x0_1 x8_1)) + (IntKind.u64.wrap (rd l1 x8_1)))))) % 4294967296) (of_eq_true p7) (of_eq_true q7))))); refine store_event (t := 51) (p := 28) (v := ?vo_w10) (w1 := (wr.setCell ⟨go7, X_.pre.length + (x8_1 : Int).toNat, none⟩ (.int .u32 ((IntKind.u64.wrap (x4_1 + (IntKind.u64.wrap ((IntKind.u64.wrap (rd x0_1 x8_1)) + (IntKind.u64.wrap (rd l1 x8_1)))))) % 4294967296)))) ?hg ?ho ?hn ?hr ?_; (case ho => rfl); (case hg => rfl); (case hn => rfl); (case hr => first | (go_simp; done) | (go_simp; rfl) | (go_simp; simp only [IntKind.wrap_u8, IntKind.wrap_u32]; congr 4; omega) | (go_simp; simp only [IntKind.wrap_u8, IntKind.wrap_u32]; congr 5; omega)); intro w10 hw; have hg : wr.grownBy w10 (some go7) := (by rw [hw]; exact HP9.2); have hp_ : X_.R w10 w0.heap.size (fun k_ => (P0_ k_ ∨ w.heap.size ≤ k_)) (.slice (some ⟨go7, X_.pre.length, none⟩) x0_1.length co8) y151 := (by rw [hw, Ny151.out]; exact HP9.1); clear HP9; have n0_ := Aside0.mk (hp_); have n1_ := Aside0.mk ((by rw [hw]; exact below_set (HB.out) GB7.out : Below w0.heap.size w0 w10)); have n2_ := Aside0.mk (Kept.of_grown (S := (fun k_ => P0_ k_)) hg (by repeat (first | (with_reducible first | exact HK.out | apply Kept.alloc | apply Kept.drewN | apply Kept.drew) | exact HK.out)) (fun k_ e_ => (HO_0.out.1 k_ e_))); clear HO_0; clear HB; clear HK; have HO_0 := n0_; have HB := n1_; have HK := n2_; clear n0_ n1_ n2_; clear hg hw hp_))
              repeat (go_quiet (first | ((with_reducible refine gate_store (t := 51) (p := 28) rfl ?_); (try (rw [drewN_self wr]; generalize hq_ : World.drewN wr _ = wr; have n0_ := Aside0.mk (Wn.R_at hq_ HO_0.out); have n1_ := Aside0.mk (kept_at hq_ HK.out); have n2_ := Aside0.mk (below_at hq_ HB.out); clear hq_ HO_0 HK HB; have HO_0 := n0_; have HK := n1_; have HB := n2_; clear n0_ n1_ n2_; (try (obtain ⟨hx7_0, hf7_0⟩ := Wn.R_celln HO_0.out (x8_1 : Int) (of_eq_true p7) (of_eq_true q7))); (try (have HP9 := Wn.R_putg HO_0.out (x8_1 : Int) ((IntKind.u64.wrap (x4_1 + (IntKind.u64.wrap ((IntKind.u64.wrap (rd x0_1 x8_1)) + (IntKind.u64.wrap (rd l1 x8_1)))))) % 4294967296) (of_eq_true p7) (of_eq_true q7))))); refine store_event (t := 51) (p := 28) (v := ?vo_w10) (w1 := (wr.setCell ⟨go7, X_.pre.length + (x8_1 : Int).toNat, none⟩ (.int .u32 ((IntKind.u64.wrap (x4_1 + (IntKind.u64.wrap ((IntKind.u64.wrap (rd x0_1 x8_1)) + (IntKind.u64.wrap (rd l1 x8_1)))))) % 4294967296)))) ?hg ?ho ?hn ?hr ?_; (case ho => rfl); (case hg => rfl); (case hn => rfl); (case hr => first | (go_simp; done) | (go_simp; rfl) | (go_simp; simp only [IntKind.wrap_u8, IntKind.wrap_u32]; congr 4; omega) | (go_simp; simp only [IntKind.wrap_u8, IntKind.wrap_u32]; congr 5; omega)); intro w10 hw; have hg : wr.grownBy w10 (some go7) := (by rw [hw]; exact HP9.2); have hp_ : X_.R w10 w0.heap.size (fun k_ => (P0_ k_ ∨ w.heap.size ≤ k_)) (.slice (some ⟨go7, X_.pre.length, none⟩) x0_1.length co8) y151 := (by rw [hw, Ny151.out]; exact HP9.1); clear HP9; have n0_ := Aside0.mk (hp_); have n1_ := Aside0.mk ((by rw [hw]; exact below_set (HB.out) GB7.out : Below w0.heap.size w0 w10)); have n2_ := Aside0.mk (Kept.of_grown (S := (fun k_ => P0_ k_)) hg (by repeat (first | (with_reducible first | exact HK.out | apply Kept.alloc | apply Kept.drewN | apply Kept.drew) | exact HK.out)) (fun k_ e_ => (HO_0.out.1 k_ e_))); clear HO_0; clear HB; clear HK; have HO_0 := n0_; have HB := n1_; have HK := n2_; clear n0_ n1_ n2_; clear hg hw hp_)); try go_wp2_with (first | ((with_reducible refine gate_store (t := 51) (p := 28) rfl ?_); (try (rw [drewN_self wr]; generalize hq_ : World.drewN wr _ = wr; have n0_ := Aside0.mk (Wn.R_at hq_ HO_0.out); have n1_ := Aside0.mk (kept_at hq_ HK.out); have n2_ := Aside0.mk (below_at hq_ HB.out); clear hq_ HO_0 HK HB; have HO_0 := n0_; have HK := n1_; have HB := n2_; clear n0_ n1_ n2_; (try (obtain ⟨hx7_0, hf7_0⟩ := Wn.R_celln HO_0.out (x8_1 : Int) (of_eq_true p7) (of_eq_true q7))); (try (have HP9 := Wn.R_putg HO_0.out (x8_1 : Int) ((IntKind.u64.wrap (x4_1 + (IntKind.u64.wrap ((IntKind.u64.wrap (rd x0_1 x8_1)) + (IntKind.u64.wrap (rd l1 x8_1)))))) % 4294967296) (of_eq_true p7) (of_eq_true q7))))); refine store_event (t := 51) (p := 28) (v := ?vo_w10) (w1 := (wr.setCell ⟨go7, X_.pre.length + (x8_1 : Int).toNat, none⟩ (.int .u32 ((IntKind.u64.wrap (x4_1 + (IntKind.u64.wrap ((IntKind.u64.wrap (rd x0_1 x8_1)) + (IntKind.u64.wrap (rd l1 x8_1)))))) % 4294967296)))) ?hg ?ho ?hn ?hr ?_; (case ho => rfl); (case hg => rfl); (case hn => rfl); (case hr => first | (go_simp; done) | (go_simp; rfl) | (go_simp; simp only [IntKind.wrap_u8, IntKind.wrap_u32]; congr 4; omega) | (go_simp; simp only [IntKind.wrap_u8, IntKind.wrap_u32]; congr 5; omega)); intro w10 hw; have hg : wr.grownBy w10 (some go7) := (by rw [hw]; exact HP9.2); have hp_ : X_.R w10 w0.heap.size (fun k_ => (P0_ k_ ∨ w.heap.size ≤ k_)) (.slice (some ⟨go7, X_.pre.length, none⟩) x0_1.length co8) y151 := (by rw [hw, Ny151.out]; exact HP9.1); clear HP9; have n0_ := Aside0.mk (hp_); have n1_ := Aside0.mk ((by rw [hw]; exact below_set (HB.out) GB7.out : Below w0.heap.size w0 w10)); have n2_ := Aside0.mk (Kept.of_grown (S := (fun k_ => P0_ k_)) hg (by repeat (first | (with_reducible first | exact HK.out | apply Kept.alloc | apply Kept.drewN | apply Kept.drew) | exact HK.out)) (fun k_ e_ => (HO_0.out.1 k_ e_))); clear HO_0; clear HB; clear HK; have HO_0 := n0_; have HB := n1_; have HK := n2_; clear n0_ n1_ n2_; clear hg hw hp_)))
              go_roundg k1
              case measure => have := HK1.out; omega
              case rel => exact ⟨(y151), ((IntKind.u64.wrap (x4_1 + (IntKind.u64.wrap ((IntKind.u64.wrap (rd x0_1 x8_1)) + (IntKind.u64.wrap (rd l1 x8_1)))))) / 4294967296), (wrap64 (x8_1 + 1)), (by first | rfl | (simp; done) | (simp [*]; done) | (refine congrArg (Value.int _) ?_; omega) | (refine congrArg Value.bool ?_; generalize ByteArray.toList _ = z_; cases z_ <;> rfl)), (by first | rfl | (simp; done) | (simp [*]; done) | (refine congrArg (Value.int _) ?_; omega) | (refine congrArg Value.bool ?_; generalize ByteArray.toList _ = z_; cases z_ <;> rfl)), H', ⟨by have := HK1.out; omega⟩, ⟨by (with_reducible repeat (first | apply Wn.R_alloc | apply Wn.R_drewN | apply Wn.R_drew)); exact HO_0.out⟩, ⟨by repeat (first | (with_reducible first | exact HK.out | apply Kept.alloc | apply Kept.drewN | apply Kept.drew) | exact HK.out)⟩, ⟨by repeat (first | (with_reducible first | exact HB.out | apply below_alloc | apply pw_below_drewN | apply below_drew1) | exact HB.out)⟩⟩
            · rw [if_neg c6] at H
              exact absurd H (by simp)
          · rw [if_neg c5] at H
            exact absurd H (by simp)
        · rw [if_neg c4] at H
          exact absurd H (by simp)
      · rw [if_neg c3] at H
        have c3b0 : decide (x8_1 < (l1.length : Int)) = false := decide_eq_false c3
        clear c3
        by_cases c11 : 0 ≤ (l1.length : Int)
        · rw [if_pos c11] at H
          have c11b0 : decide (0 ≤ (l1.length : Int)) = true := decide_eq_true c11
          have c11b1 : decide (0 ≤ l1.length) = true := decide_eq_true (by omega)
          clear c11
          by_cases c12 : (l1.length : Int) < (x0_1.length : Int)
          · rw [if_pos c12] at H
            have c12b0 : decide ((l1.length : Int) < (x0_1.length : Int)) = true := decide_eq_true c12
            have c12b1 : decide (l1.length < x0_1.length) = true := decide_eq_true (Int.ofNat_lt.mp c12)
            clear c12
            obtain ⟨y153, hy153⟩ : ∃ y_ : List Int, y_ = (x0_1.set ((l1.length : Int) : Int).toNat (((rd x0_1 (l1.length : Int)) + ((x4_1) % 4294967296)) % 4294967296)) := ⟨_, rfl⟩
            replace H : (some y153) = some r := by first | (rw [hy153]; with_reducible exact H) | (have H2_ := (Option.bind_some _ _).symm.trans H; rw [hy153]; with_reducible exact H2_) | (have H2_ := (Option.bind_some _ _).symm.trans H; with_reducible exact H2_) | with_reducible exact H | (rw [hy153]; exact H) | exact H
            have Ny153 := Aside0.mk hy153
            clear hy153
            obtain rfl := Option.some.inj H
            obtain ⟨Ao14, co14, eo14⟩ := Wn.R_slice HO_0.out
            subst eo14
            have p152 : 0 ≤ ((l1.length : Int) : Int) := of_decide_eq_true (by first | (with_reducible assumption) | assumption)
            have q152 : (l1.length : Int) < (x0_1.length : Int) := of_decide_eq_true (by first | (with_reducible assumption) | assumption)
            obtain ⟨ad152, e152, hx152_0⟩ := Kd.at_int (Wn.R_reads' HO_0.out).2.2 (l1.length : Int) p152 q152
            cases e152
            (try simp only [Go.IntWalk.toNatUp] at hx152_0)
            replace p152 := eq_true p152
            replace q152 := eq_true q152
            have p13 : 0 ≤ ((l1.length : Int) : Int) := of_decide_eq_true (by first | (with_reducible assumption) | assumption)
            have q13 : ((l1.length : Int) : Int) < ((x0_1.length : Int) : Int) := of_decide_eq_true (by first | (with_reducible assumption) | assumption)
            obtain ⟨go13, co13, eo13, gb13, gl13, cl13, HG13⟩ := Wn.R_form HO_0.out (by omega)
            (first | cases eo13 | (injection eo13 with ea_ en_ ec_; (first | subst ea_ | (injection ea_ with ea_; subst ea_)); subst ec_; clear en_))
            have GB13 := Aside0.mk gb13
            have GG13 := Aside0.mk HG13
            clear gb13 gl13 HG13
            have HMgo13 := Aside0.mk (show (P0_ go13 ∨ w.heap.size ≤ go13) from (HO_0.out.1 _ rfl))
            (first | simp only [win_add] at hx152_0 | skip)
            obtain ⟨hx13_0, hf13_0⟩ := Wn.R_celln HO_0.out ((l1.length : Int) : Int) p13 q13
            (try simp only [Int.toNat_natCast] at hx13_0 hf13_0)
            replace p13 := eq_true p13
            replace q13 := eq_true q13
            have HP15 := Wn.R_putg HO_0.out ((l1.length : Int) : Int) (((rd x0_1 (l1.length : Int)) + ((x4_1) % 4294967296)) % 4294967296) (of_eq_true p13) (of_eq_true q13)
            go_wp2_with (first | ((with_reducible refine gate_store (t := 51) (p := 40) rfl ?_); (try (rw [drewN_self wr]; generalize hq_ : World.drewN wr _ = wr; have n0_ := Aside0.mk (Wn.R_at hq_ HO_0.out); have n1_ := Aside0.mk (kept_at hq_ HK.out); have n2_ := Aside0.mk (below_at hq_ HB.out); clear hq_ HO_0 HK HB; have HO_0 := n0_; have HK := n1_; have HB := n2_; clear n0_ n1_ n2_; (try (obtain ⟨hx13_0, hf13_0⟩ := Wn.R_celln HO_0.out ((l1.length : Int) : Int) (of_eq_true p13) (of_eq_true q13))); (try (have HP15 := Wn.R_putg HO_0.out ((l1.length : Int) : Int) (((rd x0_1 (l1.length : Int)) + ((x4_1) % 4294967296)) % 4294967296) (of_eq_true p13) (of_eq_true q13))))); refine store_event (t := 51) (p := 40) (v := ?vo_w16) (w1 := (wr.setCell ⟨go13, X_.pre.length + ((l1.length : Int) : Int).toNat, none⟩ (.int .u32 (((rd x0_1 (l1.length : Int)) + ((x4_1) % 4294967296)) % 4294967296)))) ?hg ?ho ?hn ?hr ?_; (case ho => rfl); (case hg => rfl); (case hn => rfl); (case hr => first | (go_simp; done) | (go_simp; rfl) | (go_simp; simp only [IntKind.wrap_u8, IntKind.wrap_u32]; congr 4; omega) | (go_simp; simp only [IntKind.wrap_u8, IntKind.wrap_u32]; congr 5; omega)); intro w16 hw; have hg : wr.grownBy w16 (some go13) := (by rw [hw]; exact HP15.2); have hp_ : X_.R w16 w0.heap.size (fun k_ => (P0_ k_ ∨ w.heap.size ≤ k_)) (.slice (some ⟨go13, X_.pre.length, none⟩) x0_1.length co14) y153 := (by rw [hw, Ny153.out]; exact HP15.1); clear HP15; have n0_ := Aside0.mk (hp_); have n1_ := Aside0.mk ((by rw [hw]; exact below_set (HB.out) GB13.out : Below w0.heap.size w0 w16)); have n2_ := Aside0.mk (Kept.of_grown (S := (fun k_ => P0_ k_)) hg (by repeat (first | (with_reducible first | exact HK.out | apply Kept.alloc | apply Kept.drewN | apply Kept.drew) | exact HK.out)) (fun k_ e_ => (HO_0.out.1 k_ e_))); clear HO_0; clear HB; clear HK; have HO_0 := n0_; have HB := n1_; have HK := n2_; clear n0_ n1_ n2_; clear hg hw hp_))
            repeat (go_quiet (first | ((with_reducible refine gate_store (t := 51) (p := 40) rfl ?_); (try (rw [drewN_self wr]; generalize hq_ : World.drewN wr _ = wr; have n0_ := Aside0.mk (Wn.R_at hq_ HO_0.out); have n1_ := Aside0.mk (kept_at hq_ HK.out); have n2_ := Aside0.mk (below_at hq_ HB.out); clear hq_ HO_0 HK HB; have HO_0 := n0_; have HK := n1_; have HB := n2_; clear n0_ n1_ n2_; (try (obtain ⟨hx13_0, hf13_0⟩ := Wn.R_celln HO_0.out ((l1.length : Int) : Int) (of_eq_true p13) (of_eq_true q13))); (try (have HP15 := Wn.R_putg HO_0.out ((l1.length : Int) : Int) (((rd x0_1 (l1.length : Int)) + ((x4_1) % 4294967296)) % 4294967296) (of_eq_true p13) (of_eq_true q13))))); refine store_event (t := 51) (p := 40) (v := ?vo_w16) (w1 := (wr.setCell ⟨go13, X_.pre.length + ((l1.length : Int) : Int).toNat, none⟩ (.int .u32 (((rd x0_1 (l1.length : Int)) + ((x4_1) % 4294967296)) % 4294967296)))) ?hg ?ho ?hn ?hr ?_; (case ho => rfl); (case hg => rfl); (case hn => rfl); (case hr => first | (go_simp; done) | (go_simp; rfl) | (go_simp; simp only [IntKind.wrap_u8, IntKind.wrap_u32]; congr 4; omega) | (go_simp; simp only [IntKind.wrap_u8, IntKind.wrap_u32]; congr 5; omega)); intro w16 hw; have hg : wr.grownBy w16 (some go13) := (by rw [hw]; exact HP15.2); have hp_ : X_.R w16 w0.heap.size (fun k_ => (P0_ k_ ∨ w.heap.size ≤ k_)) (.slice (some ⟨go13, X_.pre.length, none⟩) x0_1.length co14) y153 := (by rw [hw, Ny153.out]; exact HP15.1); clear HP15; have n0_ := Aside0.mk (hp_); have n1_ := Aside0.mk ((by rw [hw]; exact below_set (HB.out) GB13.out : Below w0.heap.size w0 w16)); have n2_ := Aside0.mk (Kept.of_grown (S := (fun k_ => P0_ k_)) hg (by repeat (first | (with_reducible first | exact HK.out | apply Kept.alloc | apply Kept.drewN | apply Kept.drew) | exact HK.out)) (fun k_ e_ => (HO_0.out.1 k_ e_))); clear HO_0; clear HB; clear HK; have HO_0 := n0_; have HB := n1_; have HK := n2_; clear n0_ n1_ n2_; clear hg hw hp_)); try go_wp2_with (first | ((with_reducible refine gate_store (t := 51) (p := 40) rfl ?_); (try (rw [drewN_self wr]; generalize hq_ : World.drewN wr _ = wr; have n0_ := Aside0.mk (Wn.R_at hq_ HO_0.out); have n1_ := Aside0.mk (kept_at hq_ HK.out); have n2_ := Aside0.mk (below_at hq_ HB.out); clear hq_ HO_0 HK HB; have HO_0 := n0_; have HK := n1_; have HB := n2_; clear n0_ n1_ n2_; (try (obtain ⟨hx13_0, hf13_0⟩ := Wn.R_celln HO_0.out ((l1.length : Int) : Int) (of_eq_true p13) (of_eq_true q13))); (try (have HP15 := Wn.R_putg HO_0.out ((l1.length : Int) : Int) (((rd x0_1 (l1.length : Int)) + ((x4_1) % 4294967296)) % 4294967296) (of_eq_true p13) (of_eq_true q13))))); refine store_event (t := 51) (p := 40) (v := ?vo_w16) (w1 := (wr.setCell ⟨go13, X_.pre.length + ((l1.length : Int) : Int).toNat, none⟩ (.int .u32 (((rd x0_1 (l1.length : Int)) + ((x4_1) % 4294967296)) % 4294967296)))) ?hg ?ho ?hn ?hr ?_; (case ho => rfl); (case hg => rfl); (case hn => rfl); (case hr => first | (go_simp; done) | (go_simp; rfl) | (go_simp; simp only [IntKind.wrap_u8, IntKind.wrap_u32]; congr 4; omega) | (go_simp; simp only [IntKind.wrap_u8, IntKind.wrap_u32]; congr 5; omega)); intro w16 hw; have hg : wr.grownBy w16 (some go13) := (by rw [hw]; exact HP15.2); have hp_ : X_.R w16 w0.heap.size (fun k_ => (P0_ k_ ∨ w.heap.size ≤ k_)) (.slice (some ⟨go13, X_.pre.length, none⟩) x0_1.length co14) y153 := (by rw [hw, Ny153.out]; exact HP15.1); clear HP15; have n0_ := Aside0.mk (hp_); have n1_ := Aside0.mk ((by rw [hw]; exact below_set (HB.out) GB13.out : Below w0.heap.size w0 w16)); have n2_ := Aside0.mk (Kept.of_grown (S := (fun k_ => P0_ k_)) hg (by repeat (first | (with_reducible first | exact HK.out | apply Kept.alloc | apply Kept.drewN | apply Kept.drew) | exact HK.out)) (fun k_ e_ => (HO_0.out.1 k_ e_))); clear HO_0; clear HB; clear HK; have HO_0 := n0_; have HB := n1_; have HK := n2_; clear n0_ n1_ n2_; clear hg hw hp_)))
            first | go_end0 | ((try simp only [Exit.inBlock, Exit.then]); refine bodyPost_ret (results_none rfl _ _ _) rfl ?_)
            exact ⟨by first | rfl | (simp [errW_none, errW_some] <;> rfl) | (refine congrArg (fun z_ => Ending.returned (Value.bool z_)) (decide_eq_decide.mpr ?_); unfold wrap64; omega) | (simp [*, errW_none, errW_some] <;> rfl), by (with_reducible repeat (first | apply Wn.R_alloc | apply Wn.R_drewN | apply Wn.R_drew)); exact HO_0.out, by repeat (first | (with_reducible first | exact HB.out | apply below_alloc | apply pw_below_drewN | apply below_drew1) | exact HB.out), by repeat (first | (with_reducible first | exact HK.out | apply Kept.alloc | apply Kept.drewN | apply Kept.drew) | exact HK.out)⟩
          · rw [if_neg c12] at H
            exact absurd H (by simp)
        · rw [if_neg c11] at H
          exact absurd H (by simp)
set_option maxHeartbeats 8000000 in
set_option maxRecDepth 100000 in
theorem nat_digit.callsW (X_ : Wn) (k : Nat) (P0_ : Nat → Prop) (u9000_ : Value) (l0 : List Int) (A1 : Option Addr) (c1 : Nat) (l1 : List Int) (r1 : Int) (r2 : List Int) (w0 w : World) (hB : Below w0.heap.size w0 w) (ho0 : X_.R w w0.heap.size P0_ u9000_ l0) (hr1 : ∀ W_, Kept w W_ (fun k_ => P0_ k_) → Kd.C (Kd.int .u32) W_ A1 l1.length l1) (hc1 : l1.length ≤ c1) (h : nat_digit.f k l0 l1 = some (r1, r2)) :
    Calls Tryd.prog 64 #[u9000_, .slice A1 l1.length c1] w fun e w' => e = .returned (.int .u32 r1) ∧ X_.R w' w0.heap.size (fun k_ => (P0_ k_ ∨ w.heap.size ≤ k_)) u9000_ r2 ∧ Below w0.heap.size w0 w' ∧ Kept w w' (fun k_ => P0_ k_) := by
  have HO0 := Aside0.mk (show X_.R w w0.heap.size (fun k_ => (P0_ k_ ∨ w.heap.size ≤ k_)) u9000_ l0 from Wn.R_mono ho0 (fun k_ hk => (.inl hk)))
  have HR1 := Aside0.mk hr1
  have HC1 := Aside0.mk hc1
  clear hr1 hc1
  have HK := Aside0.mk (Kept.refl w (fun k_ => P0_ k_))
  have HW0 := Aside0.mk hB.size
  have HB := Aside0.mk hB
  clear hB
  have H : (if 0 ≤ (l1.length : Int) then (if (l1.length : Int) < (l0.length : Int) then (if 0 ≤ (wrap64 ((l1.length : Int) - 1)) then (if (wrap64 ((l1.length : Int) - 1)) < (l0.length : Int) then (if (wrap64 ((l1.length : Int) - 1)) < (l1.length : Int) then (if (IntKind.u64.wrap (rd l1 (wrap64 ((l1.length : Int) - 1)))) = 0 then (none) else (nat_digit.l0 k l0 l1 (l1.length : Int) (mn (IntKind.u64.wrap (Int.tdiv (Go.bits .or .u64 (IntKind.u64.wrap ((IntKind.u64.wrap (rd l0 (l1.length : Int))) * 4294967296)) (IntKind.u64.wrap (rd l0 (wrap64 ((l1.length : Int) - 1))))) (IntKind.u64.wrap (rd l1 (wrap64 ((l1.length : Int) - 1)))))) 4294967295) (IntKind.u64.wrap ((Go.bits .or .u64 (IntKind.u64.wrap ((IntKind.u64.wrap (rd l0 (l1.length : Int))) * 4294967296)) (IntKind.u64.wrap (rd l0 (wrap64 ((l1.length : Int) - 1))))) - (IntKind.u64.wrap ((mn (IntKind.u64.wrap (Int.tdiv (Go.bits .or .u64 (IntKind.u64.wrap ((IntKind.u64.wrap (rd l0 (l1.length : Int))) * 4294967296)) (IntKind.u64.wrap (rd l0 (wrap64 ((l1.length : Int) - 1))))) (IntKind.u64.wrap (rd l1 (wrap64 ((l1.length : Int) - 1)))))) 4294967295) * (IntKind.u64.wrap (rd l1 (wrap64 ((l1.length : Int) - 1)))))))))) else (none)) else (none)) else (none)) else (none)) else (none)) = some (r1, r2) := h
  clear h
  by_cases c3 : 0 ≤ (l1.length : Int)
  · rw [if_pos c3] at H
    have c3b0 : decide (0 ≤ (l1.length : Int)) = true := decide_eq_true c3
    have c3b1 : decide (0 ≤ l1.length) = true := decide_eq_true (by omega)
    clear c3
    by_cases c4 : (l1.length : Int) < (l0.length : Int)
    · rw [if_pos c4] at H
      have c4b0 : decide ((l1.length : Int) < (l0.length : Int)) = true := decide_eq_true c4
      have c4b1 : decide (l1.length < l0.length) = true := decide_eq_true (Int.ofNat_lt.mp c4)
      clear c4
      obtain ⟨ji5, hji5⟩ : ∃ j_ : Int, (wrap64 ((l1.length : Int) - 1)) = j_ := ⟨_, rfl⟩
      replace H : (if 0 ≤ (ji5) then (if (ji5) < (l0.length : Int) then (if (ji5) < (l1.length : Int) then (if (IntKind.u64.wrap (rd l1 (ji5))) = 0 then (none) else (nat_digit.l0 k l0 l1 (l1.length : Int) (mn (IntKind.u64.wrap (Int.tdiv (Go.bits .or .u64 (IntKind.u64.wrap ((IntKind.u64.wrap (rd l0 (l1.length : Int))) * 4294967296)) (IntKind.u64.wrap (rd l0 (ji5)))) (IntKind.u64.wrap (rd l1 (ji5))))) 4294967295) (IntKind.u64.wrap ((Go.bits .or .u64 (IntKind.u64.wrap ((IntKind.u64.wrap (rd l0 (l1.length : Int))) * 4294967296)) (IntKind.u64.wrap (rd l0 (ji5)))) - (IntKind.u64.wrap ((mn (IntKind.u64.wrap (Int.tdiv (Go.bits .or .u64 (IntKind.u64.wrap ((IntKind.u64.wrap (rd l0 (l1.length : Int))) * 4294967296)) (IntKind.u64.wrap (rd l0 (ji5)))) (IntKind.u64.wrap (rd l1 (ji5))))) 4294967295) * (IntKind.u64.wrap (rd l1 (ji5))))))))) else (none)) else (none)) else (none)) = some (r1, r2) := by first | (rw [hji5] at H; exact H) | (simp only [hji5] at H ⊢; exact H)
      have hji5w : (IntKind.i64.wrap ((l1.length : Int) - 1)) = ji5 := (i64_w _).trans hji5
      by_cases c6 : 0 ≤ (ji5)
      · rw [if_pos c6] at H
        have c6b0 : decide (0 ≤ (ji5)) = true := decide_eq_true c6
        clear c6
        by_cases c7 : (ji5) < (l0.length : Int)
        · rw [if_pos c7] at H
          have c7b0 : decide ((ji5) < (l0.length : Int)) = true := decide_eq_true c7
          clear c7
          by_cases c8 : (ji5) < (l1.length : Int)
          · rw [if_pos c8] at H
            have c8b0 : decide ((ji5) < (l1.length : Int)) = true := decide_eq_true c8
            clear c8
            by_cases c9 : (IntKind.u64.wrap (rd l1 (ji5))) = 0
            · rw [if_pos c9] at H
              exact absurd H (by simp)
            · rw [if_neg c9] at H
              have c9b0 : ((IntKind.u64.wrap (rd l1 (ji5))) == 0) = false := beq_eq_false_iff_ne.mpr c9
              have c9b1 : ((IntKind.u64.wrap (rd l1 (ji5))) != 0) = true := bne_iff_ne.mpr c9
              obtain ⟨ji10, hji10⟩ : ∃ j_ : Int, (mn (IntKind.u64.wrap (Int.tdiv (Go.bits .or .u64 (IntKind.u64.wrap ((IntKind.u64.wrap (rd l0 (l1.length : Int))) * 4294967296)) (IntKind.u64.wrap (rd l0 (ji5)))) (IntKind.u64.wrap (rd l1 (ji5))))) 4294967295) = j_ := ⟨_, rfl⟩
              replace H : (nat_digit.l0 k l0 l1 (l1.length : Int) ji10 (IntKind.u64.wrap ((Go.bits .or .u64 (IntKind.u64.wrap ((IntKind.u64.wrap (rd l0 (l1.length : Int))) * 4294967296)) (IntKind.u64.wrap (rd l0 (ji5)))) - (IntKind.u64.wrap ((ji10) * (IntKind.u64.wrap (rd l1 (ji5)))))))) = some (r1, r2) := by first | (rw [hji10] at H; exact H) | (simp only [hji10] at H ⊢; exact H)
              have hji10_ : (if 4294967295 < (IntKind.u64.wrap (Int.tdiv (Go.bits .or .u64 (IntKind.u64.wrap ((IntKind.u64.wrap (rd l0 (l1.length : Int))) * 4294967296)) (IntKind.u64.wrap (rd l0 (ji5)))) (IntKind.u64.wrap (rd l1 (ji5))))) then 4294967295 else (IntKind.u64.wrap (Int.tdiv (Go.bits .or .u64 (IntKind.u64.wrap ((IntKind.u64.wrap (rd l0 (l1.length : Int))) * 4294967296)) (IntKind.u64.wrap (rd l0 (ji5)))) (IntKind.u64.wrap (rd l1 (ji5)))))) = ji10 := hji10
              have HC11 := Aside0.mk H
              clear H
              obtain ⟨Ao12, co12, eo12⟩ := Wn.R_slice HO0.out
              subst eo12
              have p154 : 0 ≤ ((l1.length : Int) : Int) := of_decide_eq_true (by first | (with_reducible assumption) | assumption)
              have q154 : (l1.length : Int) < (l0.length : Int) := of_decide_eq_true (by first | (with_reducible assumption) | assumption)
              obtain ⟨ad154, e154, hx154_0⟩ := Kd.at_int (Wn.R_reads' HO0.out).2.2 (l1.length : Int) p154 q154
              cases e154
              (try simp only [Go.IntWalk.toNatUp] at hx154_0)
              replace p154 := eq_true p154
              replace q154 := eq_true q154
              have p155 : 0 ≤ ((ji5) : Int) := of_decide_eq_true (by first | (with_reducible assumption) | assumption)
              have q155 : (ji5) < (l0.length : Int) := of_decide_eq_true (by first | (with_reducible assumption) | assumption)
              obtain ⟨ad155, e155, hx155_0⟩ := Kd.at_int (Wn.R_reads' HO0.out).2.2 (ji5) p155 q155
              obtain rfl : ad154 = ad155 := (by injection e155)
              replace p155 := eq_true p155
              replace q155 := eq_true q155
              have p156 : 0 ≤ ((ji5) : Int) := of_decide_eq_true (by first | (with_reducible assumption) | assumption)
              have q156 : (ji5) < (l1.length : Int) := of_decide_eq_true (by first | (with_reducible assumption) | assumption)
              obtain ⟨ad156, e156, hx156_0⟩ := Kd.at_int (Kd.C_kept_now HR1.out HK.out) (ji5) p156 q156
              cases e156
              replace p156 := eq_true p156
              replace q156 := eq_true q156
              have p157 : 0 ≤ ((ji5) : Int) := of_decide_eq_true (by first | (with_reducible assumption) | assumption)
              have q157 : (ji5) < (l1.length : Int) := of_decide_eq_true (by first | (with_reducible assumption) | assumption)
              obtain ⟨ad157, e157, hx157_0⟩ := Kd.at_int (Kd.C_kept_now HR1.out HK.out) (ji5) p157 q157
              obtain rfl : ad156 = ad157 := (by injection e157)
              replace p157 := eq_true p157
              replace q157 := eq_true q157
              go_enter Tryd.func64, Tryd.ntmps64
              go_upto_block 0 with (fail)
              repeat (go_quiet (fail); go_upto_block 0 with (fail))
              go_cut [7] (fun v7 wc => ∃ (kq : Nat) (x7_10 : Int), v7 = .int .u64 x7_10 ∧ Aside0 (nat_digit.j1 kq l0 l1 x7_10 = some (r1, r2)) ∧ Aside0 (kq ≤ k) ∧ Aside0 (X_.R wc w0.heap.size (fun k_ => (P0_ k_ ∨ w.heap.size ≤ k_)) (.slice (some ad154) l0.length co12) l0) ∧ Aside0 (Kept w wc (fun k_ => P0_ k_)) ∧ Aside0 (Below w0.heap.size w0 wc))
              case first =>
                have H := HC11.out
                clear HC11
                have H' := Aside0.mk H
                clear H
                go_wp2
                repeat (go_quiet (fail); try go_wp2)
                go_loopg [7, 8] k (fun kq v7 v8 w' => ∃ (x7_1 : Int) (x8_1 : Int), v7 = .int .u64 x7_1 ∧ v8 = .int .u64 x8_1 ∧ Aside0 (nat_digit.l0 kq l0 l1 (l1.length : Int) x7_1 x8_1 = some (r1, r2)) ∧ Aside0 (kq ≤ k) ∧ Aside0 (X_.R w' w0.heap.size (fun k_ => (P0_ k_ ∨ w.heap.size ≤ k_)) (.slice (some ad154) l0.length co12) l0) ∧ Aside0 (Kept w w' (fun k_ => P0_ k_)) ∧ Aside0 (Below w0.heap.size w0 w'))
                case atStart => exact ⟨(ji10), (IntKind.u64.wrap ((Go.bits .or .u64 (IntKind.u64.wrap ((IntKind.u64.wrap (rd l0 (l1.length : Int))) * 4294967296)) (IntKind.u64.wrap (rd l0 (ji5)))) - (IntKind.u64.wrap ((ji10) * (IntKind.u64.wrap (rd l1 (ji5))))))), (by first | rfl | (simp; done) | (simp only [← hji10] <;> (first | rfl | simp)) | (simp [*]; done)), (by first | rfl | (simp; done) | (simp only [← hji5, ← hji10] <;> (first | rfl | simp)) | (simp [*]; done)), H', ⟨Nat.le_refl _⟩, ⟨by (with_reducible repeat (first | apply Wn.R_alloc | apply Wn.R_drewN | apply Wn.R_drew)); exact HO0.out⟩, ⟨by repeat (first | (with_reducible first | exact HK.out | apply Kept.alloc | apply Kept.drewN | apply Kept.drew) | exact HK.out)⟩, ⟨by repeat (first | (with_reducible first | exact HB.out | apply below_alloc | apply pw_below_drewN | apply below_drew1) | exact HB.out)⟩⟩
                case round =>
                  clear H'
                  try clear c1
                  try clear p1
                  try clear q1
                  try clear hx1
                  try clear p2
                  try clear c3
                  try clear c3b0
                  try clear c3b1
                  try clear c4
                  try clear c4b0
                  try clear c4b1
                  try clear c6
                  try clear c6b0
                  try clear p6
                  try clear c7
                  try clear c7b0
                  try clear c8
                  try clear c8b0
                  try clear c9
                  try clear c9b0
                  try clear c9b1
                  try clear hx154_0
                  try clear hx155_0
                  try clear hx156_0
                  try clear hx157_0
                  try clear p154
                  try clear p155
                  try clear p156
                  try clear p157
                  try clear q154
                  try clear q155
                  try clear q156
                  try clear q157
                  obtain ⟨x7_1, x8_1, rfl, rfl, HA, HK1, HO_0, HK, HB⟩ := hrel
                  cases gk with
                  | zero => exact absurd HA.out (by simp [nat_digit.l0])
                  | succ k1 =>
                    have H := HA.out
                    clear HA
                    simp only [nat_digit.l0] at H
                    by_cases c13 : x8_1 < 4294967296
                    · rw [if_pos c13] at H
                      have c13b0 : decide (x8_1 < 4294967296) = true := decide_eq_true c13
                      clear c13
                      (first | rw [c13b0] | rw [c13b1] | (simp only [i64_w, i32_w]; rw [c13b0]) | skip)
                      obtain ⟨ji14, hji14⟩ : ∃ j_ : Int, (wrap64 ((l1.length : Int) - 2)) = j_ := ⟨_, rfl⟩
                      replace H : (if 0 ≤ (ji14) then (if (ji14) < (l1.length : Int) then (if (ji14) < (l0.length : Int) then (if (IntKind.u64.wrap (x7_1 * (IntKind.u64.wrap (rd l1 (ji14))))) > (Go.bits .or .u64 (IntKind.u64.wrap (x8_1 * 4294967296)) (IntKind.u64.wrap (rd l0 (ji14)))) then (if 0 ≤ (wrap64 ((l1.length : Int) - 1)) then (if (wrap64 ((l1.length : Int) - 1)) < (l1.length : Int) then (nat_digit.l0 k1 l0 l1 (l1.length : Int) (IntKind.u64.wrap (x7_1 - 1)) (IntKind.u64.wrap (x8_1 + (IntKind.u64.wrap (rd l1 (wrap64 ((l1.length : Int) - 1))))))) else (none)) else (none)) else (nat_digit.j1 k1 l0 l1 x7_1)) else (none)) else (none)) else (none)) = some (r1, r2) := by first | (rw [hji14] at H; exact H) | (simp only [hji14] at H ⊢; exact H)
                      have hji14w : (IntKind.i64.wrap ((l1.length : Int) - 2)) = ji14 := (i64_w _).trans hji14
                      by_cases c15 : 0 ≤ (ji14)
                      · rw [if_pos c15] at H
                        have c15b0 : decide (0 ≤ (ji14)) = true := decide_eq_true c15
                        clear c15
                        by_cases c16 : (ji14) < (l1.length : Int)
                        · rw [if_pos c16] at H
                          have c16b0 : decide ((ji14) < (l1.length : Int)) = true := decide_eq_true c16
                          clear c16
                          by_cases c17 : (ji14) < (l0.length : Int)
                          · rw [if_pos c17] at H
                            have c17b0 : decide ((ji14) < (l0.length : Int)) = true := decide_eq_true c17
                            clear c17
                            by_cases c18 : (IntKind.u64.wrap (x7_1 * (IntKind.u64.wrap (rd l1 (ji14))))) > (Go.bits .or .u64 (IntKind.u64.wrap (x8_1 * 4294967296)) (IntKind.u64.wrap (rd l0 (ji14))))
                            · rw [if_pos c18] at H
                              have c18b0 : decide ((Go.bits .or .u64 (IntKind.u64.wrap (x8_1 * 4294967296)) (IntKind.u64.wrap (rd l0 (ji14)))) < (IntKind.u64.wrap (x7_1 * (IntKind.u64.wrap (rd l1 (ji14)))))) = true := decide_eq_true c18
                              clear c18
                              obtain ⟨ji19, hji19⟩ : ∃ j_ : Int, (wrap64 ((l1.length : Int) - 1)) = j_ := ⟨_, rfl⟩
                              replace H : (if 0 ≤ (ji19) then (if (ji19) < (l1.length : Int) then (nat_digit.l0 k1 l0 l1 (l1.length : Int) (IntKind.u64.wrap (x7_1 - 1)) (IntKind.u64.wrap (x8_1 + (IntKind.u64.wrap (rd l1 (ji19)))))) else (none)) else (none)) = some (r1, r2) := by first | (rw [hji19] at H; exact H) | (simp only [hji19] at H ⊢; exact H)
                              (try rw [hji19] at hji5)
                              (try rw [hji19] at hji5w)
                              have hji19w : (IntKind.i64.wrap ((l1.length : Int) - 1)) = ji19 := (i64_w _).trans hji19
                              (try clear hji5w)
                              (try clear hji5)
                              by_cases c20 : 0 ≤ (ji19)
                              · rw [if_pos c20] at H
                                have c20b0 : decide (0 ≤ (ji19)) = true := decide_eq_true c20
                                clear c20
                                by_cases c21 : (ji19) < (l1.length : Int)
                                · rw [if_pos c21] at H
                                  have c21b0 : decide ((ji19) < (l1.length : Int)) = true := decide_eq_true c21
                                  clear c21
                                  have H' := Aside0.mk H
                                  clear H
                                  have p158 : 0 ≤ ((ji14) : Int) := of_decide_eq_true (by first | (with_reducible assumption) | assumption)
                                  have q158 : (ji14) < (l1.length : Int) := of_decide_eq_true (by first | (with_reducible assumption) | assumption)
                                  obtain ⟨ad158, e158, hx158_0⟩ := Kd.at_int (Kd.C_kept_now HR1.out HK.out) (ji14) p158 q158
                                  obtain rfl : ad156 = ad158 := (by injection e158)
                                  replace p158 := eq_true p158
                                  replace q158 := eq_true q158
                                  have p159 : 0 ≤ ((ji14) : Int) := of_decide_eq_true (by first | (with_reducible assumption) | assumption)
                                  have q159 : (ji14) < (l0.length : Int) := of_decide_eq_true (by first | (with_reducible assumption) | assumption)
                                  obtain ⟨ad159, e159, hx159_0⟩ := Kd.at_int (Wn.R_reads' HO_0.out).2.2 (ji14) p159 q159
                                  obtain rfl : ad154 = ad159 := (by injection e159)
                                  replace p159 := eq_true p159
                                  replace q159 := eq_true q159
                                  have p160 : 0 ≤ ((ji19) : Int) := of_decide_eq_true (by first | (with_reducible assumption) | assumption)
                                  have q160 : (ji19) < (l1.length : Int) := of_decide_eq_true (by first | (with_reducible assumption) | assumption)
                                  obtain ⟨ad160, e160, hx160_0⟩ := Kd.at_int (Kd.C_kept_now HR1.out HK.out) (ji19) p160 q160
                                  obtain rfl : ad156 = ad160 := (by injection e160)
                                  replace p160 := eq_true p160
                                  replace q160 := eq_true q160
                                  go_wp2
                                  repeat (go_quiet (fail); try go_wp2)
                                  go_roundg k1
                                  case measure => have := HK1.out; omega
                                  case rel => exact ⟨(IntKind.u64.wrap (x7_1 - 1)), (IntKind.u64.wrap (x8_1 + (IntKind.u64.wrap (rd l1 (ji19))))), (by first | rfl | (simp; done) | (simp [*]; done) | (refine congrArg (Value.int _) ?_; omega) | (refine congrArg Value.bool ?_; generalize ByteArray.toList _ = z_; cases z_ <;> rfl)), (by first | rfl | (simp; done) | (simp only [← hji19] <;> (first | rfl | simp)) | (simp [*]; done)), H', ⟨by have := HK1.out; omega⟩, ⟨by (with_reducible repeat (first | apply Wn.R_alloc | apply Wn.R_drewN | apply Wn.R_drew)); exact HO_0.out⟩, ⟨by repeat (first | (with_reducible first | exact HK.out | apply Kept.alloc | apply Kept.drewN | apply Kept.drew) | exact HK.out)⟩, ⟨by repeat (first | (with_reducible first | exact HB.out | apply below_alloc | apply pw_below_drewN | apply below_drew1) | exact HB.out)⟩⟩
                                · rw [if_neg c21] at H
                                  exact absurd H (by simp)
                              · rw [if_neg c20] at H
                                exact absurd H (by simp)
                            · rw [if_neg c18] at H
                              have c18b0 : decide ((Go.bits .or .u64 (IntKind.u64.wrap (x8_1 * 4294967296)) (IntKind.u64.wrap (rd l0 (ji14)))) < (IntKind.u64.wrap (x7_1 * (IntKind.u64.wrap (rd l1 (ji14)))))) = false := decide_eq_false c18
                              clear c18
                              have H' := Aside0.mk H
                              clear H
                              have p158 : 0 ≤ ((ji14) : Int) := of_decide_eq_true (by first | (with_reducible assumption) | assumption)
                              have q158 : (ji14) < (l1.length : Int) := of_decide_eq_true (by first | (with_reducible assumption) | assumption)
                              obtain ⟨ad158, e158, hx158_0⟩ := Kd.at_int (Kd.C_kept_now HR1.out HK.out) (ji14) p158 q158
                              obtain rfl : ad156 = ad158 := (by injection e158)
                              replace p158 := eq_true p158
                              replace q158 := eq_true q158
                              have p159 : 0 ≤ ((ji14) : Int) := of_decide_eq_true (by first | (with_reducible assumption) | assumption)
                              have q159 : (ji14) < (l0.length : Int) := of_decide_eq_true (by first | (with_reducible assumption) | assumption)
                              obtain ⟨ad159, e159, hx159_0⟩ := Kd.at_int (Wn.R_reads' HO_0.out).2.2 (ji14) p159 q159
                              obtain rfl : ad154 = ad159 := (by injection e159)
                              replace p159 := eq_true p159
                              replace q159 := eq_true q159
                              go_wp2
                              repeat (go_quiet (fail); try go_wp2)
                              go_meet
                              case rel => exact ⟨_, (x7_1), (by first | rfl | (simp; done) | (simp [*]; done) | (refine congrArg (Value.int _) ?_; omega) | (refine congrArg Value.bool ?_; generalize ByteArray.toList _ = z_; cases z_ <;> rfl)), H', ⟨by have := HK1.out; first | omega | exact Nat.le_refl _⟩, ⟨by (with_reducible repeat (first | apply Wn.R_alloc | apply Wn.R_drewN | apply Wn.R_drew)); exact HO_0.out⟩, ⟨by repeat (first | (with_reducible first | exact HK.out | apply Kept.alloc | apply Kept.drewN | apply Kept.drew) | exact HK.out)⟩, ⟨by repeat (first | (with_reducible first | exact HB.out | apply below_alloc | apply pw_below_drewN | apply below_drew1) | exact HB.out)⟩⟩
                          · rw [if_neg c17] at H
                            exact absurd H (by simp)
                        · rw [if_neg c16] at H
                          exact absurd H (by simp)
                      · rw [if_neg c15] at H
                        exact absurd H (by simp)
                    · rw [if_neg c13] at H
                      have c13b0 : decide (x8_1 < 4294967296) = false := decide_eq_false c13
                      clear c13
                      (first | rw [c13b0] | rw [c13b1] | (simp only [i64_w, i32_w]; rw [c13b0]) | skip)
                      have H' := Aside0.mk H
                      clear H
                      go_wp2
                      repeat (go_quiet (fail); try go_wp2)
                      go_meet
                      case rel => exact ⟨_, (x7_1), (by first | rfl | (simp; done) | (simp [*]; done) | (refine congrArg (Value.int _) ?_; omega) | (refine congrArg Value.bool ?_; generalize ByteArray.toList _ = z_; cases z_ <;> rfl)), H', ⟨by have := HK1.out; first | omega | exact Nat.le_refl _⟩, ⟨by (with_reducible repeat (first | apply Wn.R_alloc | apply Wn.R_drewN | apply Wn.R_drew)); exact HO_0.out⟩, ⟨by repeat (first | (with_reducible first | exact HK.out | apply Kept.alloc | apply Kept.drewN | apply Kept.drew) | exact HK.out)⟩, ⟨by repeat (first | (with_reducible first | exact HB.out | apply below_alloc | apply pw_below_drewN | apply below_drew1) | exact HB.out)⟩⟩
              case rest =>
                clear HC11
                try clear c1
                try clear p1
                try clear q1
                try clear hx1
                try clear c2
                try clear p2
                try clear c3
                try clear c3b0
                try clear c3b1
                try clear c4
                try clear c4b0
                try clear c4b1
                try clear c6
                try clear c6b0
                try clear p6
                try clear c7
                try clear c7b0
                try clear c8
                try clear c8b0
                try clear c9
                try clear c9b0
                try clear c9b1
                try clear c13
                try clear c13b0
                try clear c15
                try clear c15b0
                try clear p15
                try clear q15
                try clear hx15
                try clear c16
                try clear c16b0
                try clear p16
                try clear q16
                try clear hx16
                try clear c17
                try clear c17b0
                try clear c18
                try clear c18b0
                try clear c20
                try clear c20b0
                try clear c21
                try clear c21b0
                try clear hx154_0
                try clear hx155_0
                try clear hx156_0
                try clear hx157_0
                try clear hx158_0
                try clear hx159_0
                try clear hx160_0
                try clear p1
                try clear p154
                try clear p155
                try clear p156
                try clear p157
                try clear p158
                try clear p159
                try clear p160
                try clear p2
                try clear p6
                try clear q1
                try clear q154
                try clear q155
                try clear q156
                try clear q157
                try clear q158
                try clear q159
                try clear q160
                obtain ⟨kq, x7_10, rfl, HA, HJ10, HO_0, HK, HB⟩ := hcut
                cases kq with
                | zero => exact absurd HA.out (by simp [nat_digit.j1])
                | succ kj10 =>
                  have H := HA.out
                  clear HA
                  simp only [nat_digit.j1] at H
                  replace H := Option.bind_eq_some_iff.mp H
                  obtain ⟨⟨t161, t162⟩, A220, H⟩ := H
                  replace H : (if t161 = true then ((nat_give.f kj10 t162 l1).bind fun t163 => (some ((IntKind.u64.wrap (x7_10 - 1)) % 4294967296, t163))) else (some ((x7_10) % 4294967296, t162))) = some (r1, r2) := H
                  have A22 := Aside0.mk A220
                  clear A220
                  by_cases c23 : t161 = true
                  · subst c23
                    have H1 : ((nat_give.f kj10 t162 l1).bind fun t163 => (some ((IntKind.u64.wrap (x7_10 - 1)) % 4294967296, t163))) = some (r1, r2) := by rw [if_pos rfl] at H; exact H
                    clear H
                    have H := H1
                    clear H1
                    replace H := Option.bind_eq_some_iff.mp H
                    obtain ⟨t163, A240, H⟩ := H
                    replace H : (some ((IntKind.u64.wrap (x7_10 - 1)) % 4294967296, t163)) = some (r1, r2) := H
                    have A24 := Aside0.mk A240
                    clear A240
                    simp only [Option.some.injEq, Prod.mk.injEq] at H
                    obtain ⟨rfl, rfl⟩ := H
                    go_wp2_with (first | (go_at_call 79; (with_reducible refine (nat_take.callsW X_ kj10 (fun k_ => some k_ = (.slice (some ad154) l0.length co12 : Value).ownBlock) (.slice (some ad154) l0.length co12) l0 _ _ l1 x7_10 true t162 w0 _ ?side1 ?side2 ?side3 ?side4 A22.out).mono ?_); (case side1 => repeat (first | (with_reducible first | exact HB.out | apply below_alloc | apply pw_below_drewN | apply below_drew1) | exact HB.out)); (case side2 => exact Wn.R_tight HO_0.out); (case side3 => exact Kd.C_kept_call HR1.out (by repeat (first | (with_reducible first | exact HK.out | apply Kept.alloc | apply Kept.drewN | apply Kept.drew) | exact HK.out)) (fun k_ hs_ => (fun e_ => (HO_0.out.1 k_ e_.symm)) hs_)); (case side4 => exact HC1.out); rintro e w25 ⟨rfl, hy0, hb, hkp⟩; have n0_ := Aside0.mk (Wn.R_reok hy0 (fun k_ e_ => HO_0.out.1 k_ e_)); have n1_ := Aside0.mk (Kept.then_ (S := (fun k_ => P0_ k_)) (by repeat (first | (with_reducible first | exact HK.out | apply Kept.alloc | apply Kept.drewN | apply Kept.drew) | exact HK.out)) hkp (fun k_ hs_ => (fun e_ => (HO_0.out.1 k_ e_.symm)) hs_)); have n2_ := Aside0.mk (hb); clear HO_0; clear HK; clear HB; have HO_0 := n0_; have HK := n1_; have HB := n2_; clear n0_ n1_ n2_; (try clear hb); (try clear hkp); (try clear hy0)) | (go_at_call 80; (with_reducible refine (nat_give.callsW X_ kj10 (fun k_ => some k_ = (.slice (some ad154) l0.length co12 : Value).ownBlock) (.slice (some ad154) l0.length co12) t162 _ _ l1 t163 w0 _ ?side1 ?side2 ?side3 ?side4 A24.out).mono ?_); (case side1 => repeat (first | (with_reducible first | exact HB.out | apply below_alloc | apply pw_below_drewN | apply below_drew1) | exact HB.out)); (case side2 => exact Wn.R_tight HO_0.out); (case side3 => exact Kd.C_kept_call HR1.out (by repeat (first | (with_reducible first | exact HK.out | apply Kept.alloc | apply Kept.drewN | apply Kept.drew) | exact HK.out)) (fun k_ hs_ => (fun e_ => (HO_0.out.1 k_ e_.symm)) hs_)); (case side4 => exact HC1.out); rintro e w26 ⟨rfl, hy0, hb, hkp⟩; have n0_ := Aside0.mk (Wn.R_reok hy0 (fun k_ e_ => HO_0.out.1 k_ e_)); have n1_ := Aside0.mk (Kept.then_ (S := (fun k_ => P0_ k_)) (by repeat (first | (with_reducible first | exact HK.out | apply Kept.alloc | apply Kept.drewN | apply Kept.drew) | exact HK.out)) hkp (fun k_ hs_ => (fun e_ => (HO_0.out.1 k_ e_.symm)) hs_)); have n2_ := Aside0.mk (hb); clear HO_0; clear HK; clear HB; have HO_0 := n0_; have HK := n1_; have HB := n2_; clear n0_ n1_ n2_; (try clear hb); (try clear hkp); (try clear hy0)))
                    repeat (go_quiet (first | (go_at_call 79; (with_reducible refine (nat_take.callsW X_ kj10 (fun k_ => some k_ = (.slice (some ad154) l0.length co12 : Value).ownBlock) (.slice (some ad154) l0.length co12) l0 _ _ l1 x7_10 true t162 w0 _ ?side1 ?side2 ?side3 ?side4 A22.out).mono ?_); (case side1 => repeat (first | (with_reducible first | exact HB.out | apply below_alloc | apply pw_below_drewN | apply below_drew1) | exact HB.out)); (case side2 => exact Wn.R_tight HO_0.out); (case side3 => exact Kd.C_kept_call HR1.out (by repeat (first | (with_reducible first | exact HK.out | apply Kept.alloc | apply Kept.drewN | apply Kept.drew) | exact HK.out)) (fun k_ hs_ => (fun e_ => (HO_0.out.1 k_ e_.symm)) hs_)); (case side4 => exact HC1.out); rintro e w25 ⟨rfl, hy0, hb, hkp⟩; have n0_ := Aside0.mk (Wn.R_reok hy0 (fun k_ e_ => HO_0.out.1 k_ e_)); have n1_ := Aside0.mk (Kept.then_ (S := (fun k_ => P0_ k_)) (by repeat (first | (with_reducible first | exact HK.out | apply Kept.alloc | apply Kept.drewN | apply Kept.drew) | exact HK.out)) hkp (fun k_ hs_ => (fun e_ => (HO_0.out.1 k_ e_.symm)) hs_)); have n2_ := Aside0.mk (hb); clear HO_0; clear HK; clear HB; have HO_0 := n0_; have HK := n1_; have HB := n2_; clear n0_ n1_ n2_; (try clear hb); (try clear hkp); (try clear hy0)) | (go_at_call 80; (with_reducible refine (nat_give.callsW X_ kj10 (fun k_ => some k_ = (.slice (some ad154) l0.length co12 : Value).ownBlock) (.slice (some ad154) l0.length co12) t162 _ _ l1 t163 w0 _ ?side1 ?side2 ?side3 ?side4 A24.out).mono ?_); (case side1 => repeat (first | (with_reducible first | exact HB.out | apply below_alloc | apply pw_below_drewN | apply below_drew1) | exact HB.out)); (case side2 => exact Wn.R_tight HO_0.out); (case side3 => exact Kd.C_kept_call HR1.out (by repeat (first | (with_reducible first | exact HK.out | apply Kept.alloc | apply Kept.drewN | apply Kept.drew) | exact HK.out)) (fun k_ hs_ => (fun e_ => (HO_0.out.1 k_ e_.symm)) hs_)); (case side4 => exact HC1.out); rintro e w26 ⟨rfl, hy0, hb, hkp⟩; have n0_ := Aside0.mk (Wn.R_reok hy0 (fun k_ e_ => HO_0.out.1 k_ e_)); have n1_ := Aside0.mk (Kept.then_ (S := (fun k_ => P0_ k_)) (by repeat (first | (with_reducible first | exact HK.out | apply Kept.alloc | apply Kept.drewN | apply Kept.drew) | exact HK.out)) hkp (fun k_ hs_ => (fun e_ => (HO_0.out.1 k_ e_.symm)) hs_)); have n2_ := Aside0.mk (hb); clear HO_0; clear HK; clear HB; have HO_0 := n0_; have HK := n1_; have HB := n2_; clear n0_ n1_ n2_; (try clear hb); (try clear hkp); (try clear hy0))); try go_wp2_with (first | (go_at_call 79; (with_reducible refine (nat_take.callsW X_ kj10 (fun k_ => some k_ = (.slice (some ad154) l0.length co12 : Value).ownBlock) (.slice (some ad154) l0.length co12) l0 _ _ l1 x7_10 true t162 w0 _ ?side1 ?side2 ?side3 ?side4 A22.out).mono ?_); (case side1 => repeat (first | (with_reducible first | exact HB.out | apply below_alloc | apply pw_below_drewN | apply below_drew1) | exact HB.out)); (case side2 => exact Wn.R_tight HO_0.out); (case side3 => exact Kd.C_kept_call HR1.out (by repeat (first | (with_reducible first | exact HK.out | apply Kept.alloc | apply Kept.drewN | apply Kept.drew) | exact HK.out)) (fun k_ hs_ => (fun e_ => (HO_0.out.1 k_ e_.symm)) hs_)); (case side4 => exact HC1.out); rintro e w25 ⟨rfl, hy0, hb, hkp⟩; have n0_ := Aside0.mk (Wn.R_reok hy0 (fun k_ e_ => HO_0.out.1 k_ e_)); have n1_ := Aside0.mk (Kept.then_ (S := (fun k_ => P0_ k_)) (by repeat (first | (with_reducible first | exact HK.out | apply Kept.alloc | apply Kept.drewN | apply Kept.drew) | exact HK.out)) hkp (fun k_ hs_ => (fun e_ => (HO_0.out.1 k_ e_.symm)) hs_)); have n2_ := Aside0.mk (hb); clear HO_0; clear HK; clear HB; have HO_0 := n0_; have HK := n1_; have HB := n2_; clear n0_ n1_ n2_; (try clear hb); (try clear hkp); (try clear hy0)) | (go_at_call 80; (with_reducible refine (nat_give.callsW X_ kj10 (fun k_ => some k_ = (.slice (some ad154) l0.length co12 : Value).ownBlock) (.slice (some ad154) l0.length co12) t162 _ _ l1 t163 w0 _ ?side1 ?side2 ?side3 ?side4 A24.out).mono ?_); (case side1 => repeat (first | (with_reducible first | exact HB.out | apply below_alloc | apply pw_below_drewN | apply below_drew1) | exact HB.out)); (case side2 => exact Wn.R_tight HO_0.out); (case side3 => exact Kd.C_kept_call HR1.out (by repeat (first | (with_reducible first | exact HK.out | apply Kept.alloc | apply Kept.drewN | apply Kept.drew) | exact HK.out)) (fun k_ hs_ => (fun e_ => (HO_0.out.1 k_ e_.symm)) hs_)); (case side4 => exact HC1.out); rintro e w26 ⟨rfl, hy0, hb, hkp⟩; have n0_ := Aside0.mk (Wn.R_reok hy0 (fun k_ e_ => HO_0.out.1 k_ e_)); have n1_ := Aside0.mk (Kept.then_ (S := (fun k_ => P0_ k_)) (by repeat (first | (with_reducible first | exact HK.out | apply Kept.alloc | apply Kept.drewN | apply Kept.drew) | exact HK.out)) hkp (fun k_ hs_ => (fun e_ => (HO_0.out.1 k_ e_.symm)) hs_)); have n2_ := Aside0.mk (hb); clear HO_0; clear HK; clear HB; have HO_0 := n0_; have HK := n1_; have HB := n2_; clear n0_ n1_ n2_; (try clear hb); (try clear hkp); (try clear hy0))))
                    go_ret
                    exact ⟨by first | rfl | (simp [errW_none, errW_some] <;> rfl) | (simp only [← hji5, ← hji10]; first | rfl | (simp [errW_none, errW_some] <;> rfl)) | (refine congrArg (fun z_ => Ending.returned (Value.bool z_)) (decide_eq_decide.mpr ?_); unfold wrap64; omega) | (simp [*, errW_none, errW_some] <;> rfl), by (with_reducible repeat (first | apply Wn.R_alloc | apply Wn.R_drewN | apply Wn.R_drew)); exact HO_0.out, by repeat (first | (with_reducible first | exact HB.out | apply below_alloc | apply pw_below_drewN | apply below_drew1) | exact HB.out), by repeat (first | (with_reducible first | exact HK.out | apply Kept.alloc | apply Kept.drewN | apply Kept.drew) | exact HK.out)⟩
                  · replace c23 := Bool.eq_false_iff.mpr c23
                    subst c23
                    have H1 : (some ((x7_10) % 4294967296, t162)) = some (r1, r2) := by rw [if_neg (show ¬ (false = true) by decide)] at H; exact H
                    clear H
                    have H := H1
                    clear H1
                    simp only [Option.some.injEq, Prod.mk.injEq] at H
                    obtain ⟨rfl, rfl⟩ := H
                    go_wp2_with (first | (go_at_call 79; (with_reducible refine (nat_take.callsW X_ kj10 (fun k_ => some k_ = (.slice (some ad154) l0.length co12 : Value).ownBlock) (.slice (some ad154) l0.length co12) l0 _ _ l1 x7_10 false t162 w0 _ ?side1 ?side2 ?side3 ?side4 A22.out).mono ?_); (case side1 => repeat (first | (with_reducible first | exact HB.out | apply below_alloc | apply pw_below_drewN | apply below_drew1) | exact HB.out)); (case side2 => exact Wn.R_tight HO_0.out); (case side3 => exact Kd.C_kept_call HR1.out (by repeat (first | (with_reducible first | exact HK.out | apply Kept.alloc | apply Kept.drewN | apply Kept.drew) | exact HK.out)) (fun k_ hs_ => (fun e_ => (HO_0.out.1 k_ e_.symm)) hs_)); (case side4 => exact HC1.out); rintro e w27 ⟨rfl, hy0, hb, hkp⟩; have n0_ := Aside0.mk (Wn.R_reok hy0 (fun k_ e_ => HO_0.out.1 k_ e_)); have n1_ := Aside0.mk (Kept.then_ (S := (fun k_ => P0_ k_)) (by repeat (first | (with_reducible first | exact HK.out | apply Kept.alloc | apply Kept.drewN | apply Kept.drew) | exact HK.out)) hkp (fun k_ hs_ => (fun e_ => (HO_0.out.1 k_ e_.symm)) hs_)); have n2_ := Aside0.mk (hb); clear HO_0; clear HK; clear HB; have HO_0 := n0_; have HK := n1_; have HB := n2_; clear n0_ n1_ n2_; (try clear hb); (try clear hkp); (try clear hy0)))
                    repeat (go_quiet (first | (go_at_call 79; (with_reducible refine (nat_take.callsW X_ kj10 (fun k_ => some k_ = (.slice (some ad154) l0.length co12 : Value).ownBlock) (.slice (some ad154) l0.length co12) l0 _ _ l1 x7_10 false t162 w0 _ ?side1 ?side2 ?side3 ?side4 A22.out).mono ?_); (case side1 => repeat (first | (with_reducible first | exact HB.out | apply below_alloc | apply pw_below_drewN | apply below_drew1) | exact HB.out)); (case side2 => exact Wn.R_tight HO_0.out); (case side3 => exact Kd.C_kept_call HR1.out (by repeat (first | (with_reducible first | exact HK.out | apply Kept.alloc | apply Kept.drewN | apply Kept.drew) | exact HK.out)) (fun k_ hs_ => (fun e_ => (HO_0.out.1 k_ e_.symm)) hs_)); (case side4 => exact HC1.out); rintro e w27 ⟨rfl, hy0, hb, hkp⟩; have n0_ := Aside0.mk (Wn.R_reok hy0 (fun k_ e_ => HO_0.out.1 k_ e_)); have n1_ := Aside0.mk (Kept.then_ (S := (fun k_ => P0_ k_)) (by repeat (first | (with_reducible first | exact HK.out | apply Kept.alloc | apply Kept.drewN | apply Kept.drew) | exact HK.out)) hkp (fun k_ hs_ => (fun e_ => (HO_0.out.1 k_ e_.symm)) hs_)); have n2_ := Aside0.mk (hb); clear HO_0; clear HK; clear HB; have HO_0 := n0_; have HK := n1_; have HB := n2_; clear n0_ n1_ n2_; (try clear hb); (try clear hkp); (try clear hy0))); try go_wp2_with (first | (go_at_call 79; (with_reducible refine (nat_take.callsW X_ kj10 (fun k_ => some k_ = (.slice (some ad154) l0.length co12 : Value).ownBlock) (.slice (some ad154) l0.length co12) l0 _ _ l1 x7_10 false t162 w0 _ ?side1 ?side2 ?side3 ?side4 A22.out).mono ?_); (case side1 => repeat (first | (with_reducible first | exact HB.out | apply below_alloc | apply pw_below_drewN | apply below_drew1) | exact HB.out)); (case side2 => exact Wn.R_tight HO_0.out); (case side3 => exact Kd.C_kept_call HR1.out (by repeat (first | (with_reducible first | exact HK.out | apply Kept.alloc | apply Kept.drewN | apply Kept.drew) | exact HK.out)) (fun k_ hs_ => (fun e_ => (HO_0.out.1 k_ e_.symm)) hs_)); (case side4 => exact HC1.out); rintro e w27 ⟨rfl, hy0, hb, hkp⟩; have n0_ := Aside0.mk (Wn.R_reok hy0 (fun k_ e_ => HO_0.out.1 k_ e_)); have n1_ := Aside0.mk (Kept.then_ (S := (fun k_ => P0_ k_)) (by repeat (first | (with_reducible first | exact HK.out | apply Kept.alloc | apply Kept.drewN | apply Kept.drew) | exact HK.out)) hkp (fun k_ hs_ => (fun e_ => (HO_0.out.1 k_ e_.symm)) hs_)); have n2_ := Aside0.mk (hb); clear HO_0; clear HK; clear HB; have HO_0 := n0_; have HK := n1_; have HB := n2_; clear n0_ n1_ n2_; (try clear hb); (try clear hkp); (try clear hy0))))
                    go_ret
                    exact ⟨by first | rfl | (simp [errW_none, errW_some] <;> rfl) | (simp only [← hji5, ← hji10]; first | rfl | (simp [errW_none, errW_some] <;> rfl)) | (refine congrArg (fun z_ => Ending.returned (Value.bool z_)) (decide_eq_decide.mpr ?_); unfold wrap64; omega) | (simp [*, errW_none, errW_some] <;> rfl), by (with_reducible repeat (first | apply Wn.R_alloc | apply Wn.R_drewN | apply Wn.R_drew)); exact HO_0.out, by repeat (first | (with_reducible first | exact HB.out | apply below_alloc | apply pw_below_drewN | apply below_drew1) | exact HB.out), by repeat (first | (with_reducible first | exact HK.out | apply Kept.alloc | apply Kept.drewN | apply Kept.drew) | exact HK.out)⟩
          · rw [if_neg c8] at H
            exact absurd H (by simp)
        · rw [if_neg c7] at H
          exact absurd H (by simp)
      · rw [if_neg c6] at H
        exact absurd H (by simp)
    · rw [if_neg c4] at H
      exact absurd H (by simp)
  · rw [if_neg c3] at H
    exact absurd H (by simp)
end Go.Proofs.YthnfmmaolkenkaaDoor.H
/- nat.digit over a window of an own row, in the printed shape of a call that is handed the row and the window's two places. -/
namespace Go.Proofs.YthnfmmaolkenkaaDoor.H
open Go.RowKit Go.Proofs.YthnfmmaolkenkaaDoorW.PrintWords Go.Proofs.YthnfmmaolkenkaaDoorW.PrintLast Go.Proofs.YthnfmmaolkenkaaDoor.PA
/-- One limb of the quotient, and the row behind it. -/
def nat_digitW.f (k : Nat) (l0 : List Int) (lo hi : Int) (l1 : List Int) : Option (Int × List Int) :=
  if 0 ≤ lo ∧ lo < hi ∧ hi ≤ l0.length then (nat_digit.f k ((l0.take hi.toNat).drop lo.toNat) l1).map fun p => (p.1, l0.take lo.toNat ++ p.2 ++ l0.drop hi.toNat) else none
theorem nat_digitW.calls (k : Nat) (P0_ : Nat → Prop) (u9000_ : Value) (l0 : List Int) (a1 a2 : Int) (A2 : Option Addr) (c2 : Nat) (l2 : List Int) (r1 : Int) (r2 : List Int) (w0 w : World) (hB : Below w0.heap.size w0 w) (ho0 : Kd.R (Kd.int .u32) 51 w w0.heap.size P0_ u9000_ l0) (hr1 : ∀ W_, Kept w W_ (fun k_ => P0_ k_) → Kd.C (Kd.int .u32) W_ A2 l2.length l2) (hc1 : l2.length ≤ c2) (h : nat_digitW.f k l0 a1 a2 l2 = some (r1, r2))
    {Ao A : Option Addr} {co c : Nat} {y : List Int} (hv : u9000_ = .slice Ao l0.length co) (hA : A = (if co = a1.toNat then Ao else Ao.map (·.add (a1.toNat * 1)))) (hy : y = (l0.take a2.toNat).drop a1.toNat) (hyc : y.length ≤ c) :
    Calls Tryd.prog 64 #[.slice A y.length c, .slice A2 l2.length c2] w fun e w' => e = .returned (.int .u32 r1) ∧ Kd.R (Kd.int .u32) 51 w' w0.heap.size (fun k_ => (P0_ k_ ∨ w.heap.size ≤ k_)) u9000_ r2 ∧ Below w0.heap.size w0 w' ∧ Kept w w' (fun k_ => P0_ k_) := by
  unfold nat_digitW.f at h
  split at h
  · rename_i hp
    obtain ⟨h0, hlt, hhi⟩ := hp
    obtain ⟨⟨q, y2⟩, hd, he⟩ := Option.map_eq_some_iff.1 h
    obtain ⟨rfl, rfl⟩ := Prod.mk.inj he
    have hlen : 0 < l0.length := by omega
    obtain ⟨g, cap, he, hb, hl, hcells⟩ := Kd.R_form ho0 hlen
    rw [hv] at he ho0
    injection he with e1 e2 e3
    subst e1 e3
    have hco : co ≠ a1.toNat := by have := (Kd.R_reads' ho0).2.1; omega
    have hAd : A = some ⟨g, a1.toNat, none⟩ := by
      rw [hA, if_neg hco]
      simp only [Option.map_some, Nat.mul_one]
      rw [win_add, Nat.zero_add]
    have hpre : (l0.take a1.toNat).length = a1.toNat := by rw [List.length_take]; omega
    have hsp : l0.take a1.toNat ++ y ++ l0.drop a2.toNat = l0 := by
      rw [hy]
      have e1 : l0.take a1.toNat = (l0.take a2.toNat).take a1.toNat := by rw [List.take_take, Nat.min_eq_left (by omega)]
      rw [e1, List.take_append_drop, List.take_append_drop]
    have hR : (Wn.mk g l0.length co c (l0.take a1.toNat) (l0.drop a2.toNat)).R w w0.heap.size P0_ (.slice A y.length c) y := by
      refine ⟨fun k hk => ho0.1 k ?_, ?_, hyc, ?_⟩
      · rw [hAd] at hk; exact hk
      · rw [hAd]; simp only [hpre]
      · simp only [hsp]; exact ho0
    rw [← hy] at hd
    refine (nat_digit.callsW _ k P0_ _ y A2 c2 l2 q y2 w0 w hB hR hr1 hc1 hd).mono ?_
    rintro e w' ⟨rfl, hR2, hB2, hK2⟩
    refine ⟨rfl, ?_, hB2, hK2⟩
    have hl2 : (l0.take a1.toNat ++ y2 ++ l0.drop a2.toNat).length = l0.length := by
      have := (Kd.R_reads' hR2.2.2.2).1
      exact this.symm
    rw [hv]
    exact hR2.2.2.2
  · cases h
end Go.Proofs.YthnfmmaolkenkaaDoor.H
/-
  DERIVED: THE SHELF's CONTRACTS AT THIS DUMP, IN PLAIN WORDS (tools/lay-plain.mjs out of 'TrydShelf.lean', which tools/lay-shelf.mjs wrote): THE SAME DECLARATIONS UNDER THE SAME NAMES: 'import', 'namespace', 'open', 'def', 'theorem' AND NOTHING ELSE: no command of the shelf's: FOR A HAND-IN. Each laying: the table of numbers ('.._ren') and one theorem, a field a fact of the dump's own or the kernel's comparison; each contract: ONE APPLICATION.
-/
namespace Go.Proofs
open Go.Shelf
def Tryd.lays231_ren : Go.Shelf.Ren := ⟨fun | 231 => 84 | n => n, fun | 9 => 9 | 5 => 5 | 3 => 3 | 4 => 4 | n => n, fun | n => n⟩
theorem Tryd.lays231 : Go.Proofs.Lays.n231 Tryd.prog Tryd.lays231_ren := {
  mixed := by kernel_rfl
  f231 := Tryd.func84.trans (congrArg some (by kernel_rfl))
  t3 := Tryd.underlying3
  a3 := Tryd.isAgg3
  z3 := Tryd.sizeOf3
  v3 := Tryd.zeroValue3
  t4 := Tryd.underlying4
  a4 := Tryd.isAgg4
  z4 := Tryd.sizeOf4
  v4 := Tryd.zeroValue4
  t5 := Tryd.underlying5
  a5 := Tryd.isAgg5
  z5 := Tryd.sizeOf5
  v5 := Tryd.zeroValue5
  t9 := Tryd.underlying9
  a9 := Tryd.isAgg9
  z9 := Tryd.sizeOf9
  v9 := Tryd.zeroValue9 }
open Go.RowKit in
/-- strings.trimLeftByte (no doc; what TrimLeft and Trim call at a cutset of one ASCII byte): the leading bytes that are c are cut off. The world is as it was. (LAID: no walk: one application.) -/
theorem Tryd.strings_trimLeftByte (s : ByteArray) (c : UInt8) (w : World) :
    Calls Tryd.prog 84 #[.string s, .int .u8 c.toNat] w fun e w' => e = .returned (.string ⟨(Lib.trimLeftB s.data.toList c).toArray⟩) ∧ w' = w := Any.strings_trimLeftByte Tryd.lays231 s c w
def Tryd.lays133_ren : Go.Shelf.Ren := ⟨fun | 133 => 62 | 128 => 78 | n => n, fun | 51 => 51 | 3 => 3 | 4 => 4 | 46 => 68 | 5 => 5 | 9 => 9 | n => n, fun | n => n⟩
theorem Tryd.lays133 : Go.Proofs.Lays.n133 Tryd.prog Tryd.lays133_ren := {
  mixed := by kernel_rfl
  f128 := Tryd.func78.trans (congrArg some (by kernel_rfl))
  f133 := Tryd.func62.trans (congrArg some (by kernel_rfl))
  t3 := Tryd.underlying3
  a3 := Tryd.isAgg3
  z3 := Tryd.sizeOf3
  v3 := Tryd.zeroValue3
  t4 := Tryd.underlying4
  a4 := Tryd.isAgg4
  z4 := Tryd.sizeOf4
  v4 := Tryd.zeroValue4
  t5 := Tryd.underlying5
  a5 := Tryd.isAgg5
  z5 := Tryd.sizeOf5
  v5 := Tryd.zeroValue5
  t9 := Tryd.underlying9
  a9 := Tryd.isAgg9
  z9 := Tryd.sizeOf9
  v9 := Tryd.zeroValue9
  t46 := Tryd.underlying68
  a46 := Tryd.isAgg68
  z46 := Tryd.sizeOf68
  v46 := Tryd.zeroValue68
  t51 := Tryd.underlying51
  a51 := Tryd.isAgg51
  z51 := Tryd.sizeOf51
  v51 := Tryd.zeroValue51 }
/-- bits.LeadingZeros32: "LeadingZeros32 returns the number of leading zero bits in x; the result is 32 for x == 0.": IT RETURNS '32 - Lib.bitLen x'; the world is as it was. ITS CALLEE bits.Len32 IS MET BY ITS OWN CONTRACT OFF THE SHELF (lay that first): entered in place it sends the kernel out of memory. (LAID: no walk: one application.) -/
theorem Tryd.bits_LeadingZeros32 (x : Int) (w : World) (h0 : 0 ≤ x) (h1 : x ≤ 4294967295) :
    Calls Tryd.prog 62 #[.int .u32 x] w fun e w' => e = .returned (.int .i64 (32 - (Lib.bitLen x.toNat : Int))) ∧ w' = w := Any.bits_LeadingZeros32 Tryd.lays133 x w h0 h1
end Go.Proofs
/- bits.LeadingZeros32, in the printed shape: by the shelf. -/
namespace Go.Proofs.YthnfmmaolkenkaaDoor.H
open Go.RowKit Go.Proofs.YthnfmmaolkenkaaDoorW.PrintWords Go.Proofs.YthnfmmaolkenkaaDoorW.PrintLast
def bits_LeadingZeros32.f (a0 : Int) : Option Int := if 0 ≤ a0 ∧ a0 ≤ 4294967295 then some (32 - (Lib.bitLen a0.toNat : Int)) else none
theorem bits_LeadingZeros32.calls (a0 : Int) (r : Int) (w : World) (h : bits_LeadingZeros32.f a0 = some r) :
    Calls Tryd.prog 62 #[.int .u32 a0] w fun e w' => e = .returned (.int .i64 r) ∧ Drawn0 w w' := by
  unfold bits_LeadingZeros32.f at h
  split at h
  · rename_i hp
    obtain rfl := Option.some.inj h
    refine (Tryd.bits_LeadingZeros32 a0 w hp.1 hp.2).mono ?_
    rintro e w' ⟨rfl, rfl⟩
    exact ⟨rfl, Drawn0.refl _⟩
  · cases h
end Go.Proofs.YthnfmmaolkenkaaDoor.H
/- Written by a program of this session, wip/tools/patch_print.py, over the kit's print of the loaded functions. -/
namespace Go.Proofs.YthnfmmaolkenkaaDoor.H
end Go.Proofs.YthnfmmaolkenkaaDoor.H
namespace Go.Proofs.YthnfmmaolkenkaaDoor.PA
open Go.RowKit Go.Proofs.YthnfmmaolkenkaaDoorW.PrintWords Go.Proofs.YthnfmmaolkenkaaDoorW.PrintLast Go.Proofs.YthnfmmaolkenkaaDoorW.PrintMore Go.Proofs.YthnfmmaolkenkaaDoor.H
attribute [local go_sem] max2_int min2_int max_two min_two max_three min_three max_four min_four   -- for this text's walks alone
set_option linter.unusedVariables false
set_option linter.unusedSimpArgs false

/-! ### nat_DivMod: function 38 -/
def nat_DivMod.l0 : Nat → List Int → Int → List Int → List Int → List Int → Int → Option (List Int × List Int × Int)
 | 0, _, _, _, _, _, _ => none
 | k + 1, x1, x9, x10, x11, x12, x13 => if x13 ≥ 0 then (if 0 ≤ x13 then (if x13 ≤ (wrap64 ((wrap64 (x13 + (x11.length : Int))) + 1)) then (if (wrap64 ((wrap64 (x13 + (x11.length : Int))) + 1)) ≤ (x10.length : Int) then ((nat_digitW.f k x10 x13 (wrap64 ((wrap64 (x13 + (x11.length : Int))) + 1)) x11).bind fun bt210 => (if x13 < (x12.length : Int) then (nat_DivMod.l0 k x1 x9 bt210.2 x11 (x12.set (x13 : Int).toNat bt210.1) (wrap64 (x13 - 1))) else (none))) else (none)) else (none)) else (none)) else ((nat_Norm.f x12).bind fun t213 => (if 0 ≤ (x1.length : Int) then (if (x1.length : Int) ≤ (x10.length : Int) then ((nat_right.f k (x10.take ((x1.length : Int) : Int).toNat) x9).bind fun t220 => (some (t213, t220, 0))) else (none)) else (none)))
def nat_DivMod.f (k : Nat) (l0 : List Int) (l1 : List Int) : Option (List Int × List Int × Int) := (nat_Norm.f l0).bind fun t174 => ((nat_Norm.f l1).bind fun t177 => (if (t177.length : Int) = 0 then (some (([] : List Int), ([] : List Int), 7)) else ((nat_Cmp.f k t174 t177).bind fun t180 => (if t180 < 0 then (some ((([] : List Int)), t174, 0)) else (if (t177.length : Int) = 1 then (if 0 < (t177.length : Int) then ((nat_small.f k t174 (IntKind.u64.wrap (rd t177 0))).bind fun bt185 => ((nat_Of.f bt185.2).bind fun t189 => (some (bt185.1, t189, 0)))) else (none)) else (if 0 ≤ (wrap64 ((t177.length : Int) - 1)) then (if (wrap64 ((t177.length : Int) - 1)) < (t177.length : Int) then ((bits_LeadingZeros32.f (rd t177 (wrap64 ((t177.length : Int) - 1)))).bind fun t193 => ((nat_left.f k t174 t193).bind fun t194 => ((nat_left.f k t177 t193).bind fun t197 => (if 0 ≤ (t177.length : Int) then (if (t177.length : Int) ≤ (t197.length : Int) then (if 0 ≤ (wrap64 ((wrap64 ((t174.length : Int) - (t177.length : Int))) + 1)) then (if (wrap64 ((wrap64 ((t174.length : Int) - (t177.length : Int))) + 1) : Int).toNat ≤ 70368744177664 then ((some (List.replicate (wrap64 ((wrap64 ((t174.length : Int) - (t177.length : Int))) + 1) : Int).toNat 0 : List Int)).bind fun y203 => (nat_DivMod.l0 k t177 t193 t194 (t197.take ((t177.length : Int) : Int).toNat) y203 (wrap64 ((y203.length : Int) - 1)))) else (none)) else (none)) else (none)) else (none))))) else (none)) else (none)))))))
def nat_DivMod.T10 : Bool × List (List Nat × List Nat) := (true, [([], []), ([], []), ([0, 1], [0, 1]), ([], []), ([], []), ([3, 4, 2], [3, 4]), ([], []), ([6], [6]), ([5, 7], [5, 7]), ([2, 5, 0, 1, 2], [2]), ([8, 9, 0, 1, 2, 3, 4, 5, 6, 7, 8, 9], [8])])
def nat_DivMod.B10 : List Nat := [0, 0, 3, 0, 0, 31, 0, 64, 255, 63, 1023]
theorem nat_DivMod.tab10 : rtab .any (opsOf Tryd.f38 10) = nat_DivMod.T10 := by kernel_rfl
theorem nat_DivMod.bits10 : waitsOk nat_DivMod.T10.2 nat_DivMod.B10 = true := by kernel_rfl
def nat_DivMod.T16 : Bool × List (List Nat × List Nat) := (true, [([], []), ([0], [0]), ([], []), ([], []), ([3], [3]), ([2, 4], [2, 4]), ([], []), ([5, 6, 1], [5, 6]), ([1, 7, 0, 1], [1]), ([7, 8, 0, 1, 2, 3, 4, 5, 6, 7, 8], [7]), ([9, 0, 1, 2, 3, 4, 5, 6, 7, 8, 9], [])])
def nat_DivMod.B16 : List Nat := [0, 1, 0, 0, 8, 28, 0, 127, 255, 511, 1023]
theorem nat_DivMod.tab16 : rtab .any (opsOf Tryd.f38 16) = nat_DivMod.T16 := by kernel_rfl
theorem nat_DivMod.bits16 : waitsOk nat_DivMod.T16.2 nat_DivMod.B16 = true := by kernel_rfl
set_option maxHeartbeats 8000000 in
set_option maxRecDepth 100000 in
theorem nat_DivMod.calls (k : Nat) (A0 : Option Addr) (c0 : Nat) (l0 : List Int) (A1 : Option Addr) (c1 : Nat) (l1 : List Int) (r1 : List Int) (r2 : List Int) (r3 : Int) (w : World) (hr0 : Kd.C (Kd.int .u32) w A0 l0.length l0) (hc0 : l0.length ≤ c0) (hr1 : Kd.C (Kd.int .u32) w A1 l1.length l1) (hc1 : l1.length ≤ c1) (h : nat_DivMod.f k l0 l1 = some (r1, r2, r3)) :
  Calls Tryd.prog 38 #[.slice A0 l0.length c0, .slice A1 l1.length c1] w fun e w' => ∃ v0_ v1_ : Value, e = .returned (.tuple #[v0_, v1_, .int .i64 r3]) ∧ Kd.R (Kd.int .u32) 51 w' w.heap.size (fun k_ => some k_ ≠ (v1_ : Value).ownBlock) v0_ r1 ∧ Kd.R (Kd.int .u32) 51 w' w.heap.size (fun k_ => some k_ ≠ (v0_ : Value).ownBlock) v1_ r2 ∧ Below w.heap.size w w' := by
 have HR0 := Aside0.mk hr0
 have HC0 := Aside0.mk hc0
 clear hr0 hc0
 have HR1 := Aside0.mk hr1
 have HC1 := Aside0.mk hc1
 clear hr1 hc1
 have HB := Aside0.mk (Below.refl w.heap.size w)
 have H : ((nat_Norm.f l0).bind fun t174 => ((nat_Norm.f l1).bind fun t177 => (if (t177.length : Int) = 0 then (some (([] : List Int), ([] : List Int), 7)) else ((nat_Cmp.f k t174 t177).bind fun t180 => (if t180 < 0 then (some ((([] : List Int)), t174, 0)) else (if (t177.length : Int) = 1 then (if 0 < (t177.length : Int) then ((nat_small.f k t174 (IntKind.u64.wrap (rd t177 0))).bind fun bt185 => ((nat_Of.f bt185.2).bind fun t189 => (some (bt185.1, t189, 0)))) else (none)) else (if 0 ≤ (wrap64 ((t177.length : Int) - 1)) then (if (wrap64 ((t177.length : Int) - 1)) < (t177.length : Int) then ((bits_LeadingZeros32.f (rd t177 (wrap64 ((t177.length : Int) - 1)))).bind fun t193 => ((nat_left.f k t174 t193).bind fun t194 => ((nat_left.f k t177 t193).bind fun t197 => (if 0 ≤ (t177.length : Int) then (if (t177.length : Int) ≤ (t197.length : Int) then (if 0 ≤ (wrap64 ((wrap64 ((t174.length : Int) - (t177.length : Int))) + 1)) then (if (wrap64 ((wrap64 ((t174.length : Int) - (t177.length : Int))) + 1) : Int).toNat ≤ 70368744177664 then ((some (List.replicate (wrap64 ((wrap64 ((t174.length : Int) - (t177.length : Int))) + 1) : Int).toNat 0 : List Int)).bind fun y203 => (nat_DivMod.l0 k t177 t193 t194 (t197.take ((t177.length : Int) : Int).toNat) y203 (wrap64 ((y203.length : Int) - 1)))) else (none)) else (none)) else (none)) else (none))))) else (none)) else (none)))))))) = some (r1, r2, r3) := h
 clear h
 obtain ⟨t174, A30, H⟩ := Option.bind_eq_some_iff.mp H
 try dsimp only at H
 have A3 := Aside0.mk A30
 clear A30
 obtain ⟨t177, A40, H⟩ := Option.bind_eq_some_iff.mp H
 try dsimp only at H
 have A4 := Aside0.mk A40
 clear A40
 by_cases c5 : (t177.length : Int) = 0
 ·rw [if_pos c5] at H
  have c5b0 : ((t177.length : Int) == 0) = true := beq_iff_eq.mpr c5
  have c5b1 : ((t177.length : Int) != 0) = false := bne_eq_false_iff_eq.mpr c5
  clear c5
  simp only [Option.some.injEq, Prod.mk.injEq] at H
  obtain ⟨rfl, rfl, rfl⟩ := H
  go_enter Tryd.func38, Tryd.ntmps38
  go_wp2_with (first | ((with_reducible refine gate_callee (f := 60) rfl ?_); refine goL (some 15) Tryd.func60 [.slice A0 l0.length c0] ?_; (with_reducible refine (nat_Norm.calls _ _ l0 t174 _ ?side1 ?side2 A3.out).mono ?_); (case side1 => exact HR0.out); (case side2 => exact HC0.out); rintro e w6 ⟨v175, rfl, ho0, hb⟩; refine ⟨_, rfl, ?_⟩; have HO176 := Aside0.mk (Kd.R_lower ho0 (below_size HB.out)); replace HB := Aside0.mk (below_step HB.out hb)) | ((with_reducible refine gate_callee (f := 60) rfl ?_); refine goL (some 17) Tryd.func60 [.slice A1 l1.length c1] ?_; (with_reducible refine (nat_Norm.calls _ _ l1 t177 _ ?side1 ?side2 A4.out).mono ?_); (case side1 => exact (Kd.C_below HR1.out HB.out)); (case side2 => exact HC1.out); rintro e w7 ⟨v178, rfl, ho0, hb⟩; refine ⟨_, rfl, ?_⟩; have HO179 := Aside0.mk (Kd.R_lower (Kd.R_new' ho0 (Kd.R_lt HO176.out)) (below_size HB.out)); replace HB := Aside0.mk (below_step HB.out hb); obtain ⟨Ao8, co8, eo8⟩ := Kd.R_slice HO179.out; subst eo8))
  go_ret3
  exact ⟨_, _, rfl, by first | exact Kd.R_nil _ _ _ _ _ | exact Kd.N_nil _ _ _ _ _ | exact Kd.V_nil _ _ _ _ _ | exact Kd.Q_nil _ _ _ _ _ | exact Kd.S_nil _ _ _ _ _, by first | exact Kd.R_nil _ _ _ _ _ | exact Kd.N_nil _ _ _ _ _ | exact Kd.V_nil _ _ _ _ _ | exact Kd.Q_nil _ _ _ _ _ | exact Kd.S_nil _ _ _ _ _, HB.out⟩
 ·rw [if_neg c5] at H
  have c5b0 : ((t177.length : Int) == 0) = false := beq_eq_false_iff_ne.mpr c5
  have c5b1 : ((t177.length : Int) != 0) = true := bne_iff_ne.mpr c5
  have c5b2 : ¬ (t177 = []) := fun h_ => c5 (by rw [h_]; rfl)
  obtain ⟨t180, A90, H⟩ := Option.bind_eq_some_iff.mp H
  try dsimp only at H
  have A9 := Aside0.mk A90
  clear A90
  by_cases c10 : t180 < 0
  ·rw [if_pos c10] at H
   have c10b0 : decide (t180 < 0) = true := decide_eq_true c10
   clear c10
   obtain ⟨y181, hy181⟩ : ∃ y_ : List Int, y_ = (([] : List Int)) := ⟨_, rfl⟩
   replace H : (some (y181, t174, 0)) = some (r1, r2, r3) := by first | (rw [hy181]; with_reducible exact H) | (have H2_ := (Option.bind_some _ _).symm.trans H; rw [hy181]; with_reducible exact H2_) | (have H2_ := (Option.bind_some _ _).symm.trans H; with_reducible exact H2_) | with_reducible exact H | (rw [hy181]; exact H) | exact H
   have Ny181 := Aside0.mk hy181
   clear hy181
   simp only [Option.some.injEq, Prod.mk.injEq] at H
   obtain ⟨rfl, rfl, rfl⟩ := H
   go_enter Tryd.func38, Tryd.ntmps38
   go_wp2_with (first | ((with_reducible refine gate_callee (f := 60) rfl ?_); refine goL (some 15) Tryd.func60 [.slice A0 l0.length c0] ?_; (with_reducible refine (nat_Norm.calls _ _ l0 t174 _ ?side1 ?side2 A3.out).mono ?_); (case side1 => exact HR0.out); (case side2 => exact HC0.out); rintro e w11 ⟨v175, rfl, ho0, hb⟩; refine ⟨_, rfl, ?_⟩; have HO176 := Aside0.mk (Kd.R_lower ho0 (below_size HB.out)); replace HB := Aside0.mk (below_step HB.out hb)) | ((with_reducible refine gate_callee (f := 60) rfl ?_); refine goL (some 17) Tryd.func60 [.slice A1 l1.length c1] ?_; (with_reducible refine (nat_Norm.calls _ _ l1 t177 _ ?side1 ?side2 A4.out).mono ?_); (case side1 => exact (Kd.C_below HR1.out HB.out)); (case side2 => exact HC1.out); rintro e w12 ⟨v178, rfl, ho0, hb⟩; refine ⟨_, rfl, ?_⟩; have HO179 := Aside0.mk (Kd.R_lower (Kd.R_new' ho0 (Kd.R_lt HO176.out)) (below_size HB.out)); replace HO176 := Aside0.mk (Kd.R_elder' HO176.out (Kd.R_base ho0) hb); replace HB := Aside0.mk (below_step HB.out hb); obtain ⟨Ao13, co13, eo13⟩ := Kd.R_slice HO179.out; subst eo13; obtain ⟨Ao14, co14, eo14⟩ := Kd.R_slice HO176.out; subst eo14) | ((with_reducible refine gate_callee (f := 47) rfl ?_); refine goL (some 25) Tryd.func47 [.slice Ao14 t174.length co14, .slice Ao13 t177.length co13] ?_; (with_reducible refine (nat_Cmp.calls k _ _ t174 _ _ t177 t180 _ ?side1 ?side2 ?side3 ?side4 A9.out).mono ?_); (case side1 => exact (Kd.R_reads' HO176.out).2.2); (case side2 => exact (Kd.R_reads' HO176.out).2.1); (case side3 => exact (Kd.R_reads' HO179.out).2.2); (case side4 => exact (Kd.R_reads' HO179.out).2.1); rintro e w15 ⟨rfl, hb⟩; refine ⟨_, rfl, ?_⟩; replace HO176 := Aside0.mk (Kd.R_below HO176.out hb); replace HO179 := Aside0.mk (Kd.R_below HO179.out hb); replace HB := Aside0.mk (below_step HB.out hb); (try clear hb); (try clear hb2); (try clear hk); (try clear hi)) | ((with_reducible refine gate_dst (N := 27) rfl ?_); refine Kd.R_lit (Kd.int .u32) _ 51 ?hg (N := 27) ?hd (xs := ([] : List Int)) (inner := []) (ok := fun _ => True) (okp := fun _ => True) ?hr ?hp (fun _ hk => hk) trivial (Below.refl _ _) (Nat.le_refl _) (by simp) ?_; (case hd => rfl); (case hg => rfl); (case hr => first | (go_simp; done) | (go_simp; rfl)); (case hp => exact (Reps.none _ _)); intro v182 w16 ho17 hb hg_ hnew_; clear hg_ hnew_; (first | rw [← Ny181.out] at ho17 | (simp only [Int.reduceToNat] at ho17; rw [← Ny181.out] at ho17)); have HO183 := Aside0.mk (Kd.R_lower (Kd.R_new' (Kd.R_new' ho17 (Kd.R_lt HO176.out)) (Kd.R_lt HO179.out)) (below_size HB.out)); replace HO176 := Aside0.mk (Kd.R_elder' HO176.out (Kd.R_base ho17) hb); replace HB := Aside0.mk (below_step HB.out hb); clear hb ho17))
   go_ret3
   exact ⟨_, _, rfl, Kd.R_mono HO183.out (fun _ hk => hk.1.2), Kd.R_mono HO176.out (fun _ hk => hk.2), HB.out⟩
  ·rw [if_neg c10] at H
   have c10b0 : decide (t180 < 0) = false := decide_eq_false c10
   clear c10
   by_cases c18 : (t177.length : Int) = 1
   ·rw [if_pos c18] at H
    have c18b0 : ((t177.length : Int) == 1) = true := beq_iff_eq.mpr c18
    have c18b1 : ((t177.length : Int) != 1) = false := bne_eq_false_iff_eq.mpr c18
    clear c18
    by_cases c19 : 0 < (t177.length : Int)
    ·rw [if_pos c19] at H
     have c19b0 : decide (0 < (t177.length : Int)) = true := decide_eq_true c19
     have c19b1 : decide (0 < t177.length) = true := decide_eq_true (by omega)
     clear c19
     obtain ⟨⟨t185, t186⟩, A200, H⟩ := Option.bind_eq_some_iff.mp H
     try dsimp only at H
     have A20 := Aside0.mk A200
     clear A200
     obtain ⟨t189, A210, H⟩ := Option.bind_eq_some_iff.mp H
     try dsimp only at H
     have A21 := Aside0.mk A210
     clear A210
     simp only [Option.some.injEq, Prod.mk.injEq] at H
     obtain ⟨rfl, rfl, rfl⟩ := H
     go_enter Tryd.func38, Tryd.ntmps38
     go_wp2_with (first | ((with_reducible refine gate_callee (f := 60) rfl ?_); refine goL (some 15) Tryd.func60 [.slice A0 l0.length c0] ?_; (with_reducible refine (nat_Norm.calls _ _ l0 t174 _ ?side1 ?side2 A3.out).mono ?_); (case side1 => exact HR0.out); (case side2 => exact HC0.out); rintro e w22 ⟨v175, rfl, ho0, hb⟩; refine ⟨_, rfl, ?_⟩; have HO176 := Aside0.mk (Kd.R_lower ho0 (below_size HB.out)); replace HB := Aside0.mk (below_step HB.out hb)) | ((with_reducible refine gate_callee (f := 60) rfl ?_); refine goL (some 17) Tryd.func60 [.slice A1 l1.length c1] ?_; (with_reducible refine (nat_Norm.calls _ _ l1 t177 _ ?side1 ?side2 A4.out).mono ?_); (case side1 => exact (Kd.C_below HR1.out HB.out)); (case side2 => exact HC1.out); rintro e w23 ⟨v178, rfl, ho0, hb⟩; refine ⟨_, rfl, ?_⟩; have HO179 := Aside0.mk (Kd.R_lower (Kd.R_new' ho0 (Kd.R_lt HO176.out)) (below_size HB.out)); replace HO176 := Aside0.mk (Kd.R_elder' HO176.out (Kd.R_base ho0) hb); replace HB := Aside0.mk (below_step HB.out hb); obtain ⟨Ao24, co24, eo24⟩ := Kd.R_slice HO179.out; subst eo24; obtain ⟨Ao25, co25, eo25⟩ := Kd.R_slice HO176.out; subst eo25) | ((with_reducible refine gate_callee (f := 47) rfl ?_); refine goL (some 25) Tryd.func47 [.slice Ao25 t174.length co25, .slice Ao24 t177.length co24] ?_; (with_reducible refine (nat_Cmp.calls k _ _ t174 _ _ t177 t180 _ ?side1 ?side2 ?side3 ?side4 A9.out).mono ?_); (case side1 => exact (Kd.R_reads' HO176.out).2.2); (case side2 => exact (Kd.R_reads' HO176.out).2.1); (case side3 => exact (Kd.R_reads' HO179.out).2.2); (case side4 => exact (Kd.R_reads' HO179.out).2.1); rintro e w26 ⟨rfl, hb⟩; refine ⟨_, rfl, ?_⟩; replace HO176 := Aside0.mk (Kd.R_below HO176.out hb); replace HO179 := Aside0.mk (Kd.R_below HO179.out hb); replace HB := Aside0.mk (below_step HB.out hb); (try clear hb); (try clear hb2); (try clear hk); (try clear hi); have p184 : 0 ≤ (0 : Int) := (by omega); have q184 : 0 < (t177.length : Int) := of_decide_eq_true (by first | (with_reducible assumption) | assumption); obtain ⟨ad184, e184, hx184_0⟩ := Kd.at_int (Kd.R_reads' HO179.out).2.2 0 p184 q184; cases e184; have qi184 : (0 < t177.length) = True := eq_true (by omega); (try rw [show ((0 : Int)).toNat = 0 from rfl] at hx184_0); (try rw [Addr.add_zero'] at hx184_0); replace p184 := eq_true p184; replace q184 := eq_true q184) | ((with_reducible refine gate_callee (f := 61) rfl ?_); refine goL (some 39) Tryd.func61 [.slice Ao25 t174.length co25, .int .u64 (IntKind.u64.wrap (rd t177 0))] ?_; (with_reducible refine (nat_small.calls k _ _ t174 (IntKind.u64.wrap (rd t177 0)) t185 t186 _ ?side1 ?side2 A20.out).mono ?_); (case side1 => exact (Kd.R_reads' HO176.out).2.2); (case side2 => exact (Kd.R_reads' HO176.out).2.1); rintro e w27 ⟨v187, rfl, ho0, hb⟩; refine ⟨_, rfl, ?_⟩; have HO188 := Aside0.mk (Kd.R_lower (Kd.R_new' (Kd.R_new' ho0 (Kd.R_lt HO176.out)) (Kd.R_lt HO179.out)) (below_size HB.out)); replace HO176 := Aside0.mk (Kd.R_elder' HO176.out (Kd.R_base ho0) hb); replace HO179 := Aside0.mk (Kd.R_elder' HO179.out (Kd.R_base ho0) hb); replace HB := Aside0.mk (below_step HB.out hb)) | ((with_reducible refine gate_callee (f := 54) rfl ?_); refine goL (some 44) Tryd.func54 [.int .u64 t186] ?_; (with_reducible refine (nat_Of.calls t186 t189 _ A21.out).mono ?_); rintro e w28 ⟨v190, rfl, ho0, hb⟩; refine ⟨_, rfl, ?_⟩; have HO191 := Aside0.mk (Kd.R_lower (Kd.R_new' (Kd.R_new' (Kd.R_new' ho0 (Kd.R_lt HO176.out)) (Kd.R_lt HO179.out)) (Kd.R_lt HO188.out)) (below_size HB.out)); replace HO188 := Aside0.mk (Kd.R_elder' HO188.out (Kd.R_base ho0) hb); replace HB := Aside0.mk (below_step HB.out hb)))
     go_ret3
     exact ⟨_, _, rfl, Kd.R_mono HO188.out (fun _ hk => hk.2), Kd.R_mono HO191.out (fun _ hk => hk.2), HB.out⟩
    ·rw [if_neg c19] at H
     exact absurd H (by simp)
   ·rw [if_neg c18] at H
    have c18b0 : ((t177.length : Int) == 1) = false := beq_eq_false_iff_ne.mpr c18
    have c18b1 : ((t177.length : Int) != 1) = true := bne_iff_ne.mpr c18
    obtain ⟨ji29, hji29⟩ : ∃ j_ : Int, (wrap64 ((t177.length : Int) - 1)) = j_ := ⟨_, rfl⟩
    replace H : (if 0 ≤ (ji29) then (if (ji29) < (t177.length : Int) then ((bits_LeadingZeros32.f (rd t177 (ji29))).bind fun t193 => ((nat_left.f k t174 t193).bind fun t194 => ((nat_left.f k t177 t193).bind fun t197 => (if 0 ≤ (t177.length : Int) then (if (t177.length : Int) ≤ (t197.length : Int) then (if 0 ≤ (wrap64 ((wrap64 ((t174.length : Int) - (t177.length : Int))) + 1)) then (if (wrap64 ((wrap64 ((t174.length : Int) - (t177.length : Int))) + 1) : Int).toNat ≤ 70368744177664 then ((some (List.replicate (wrap64 ((wrap64 ((t174.length : Int) - (t177.length : Int))) + 1) : Int).toNat 0 : List Int)).bind fun y203 => (nat_DivMod.l0 k t177 t193 t194 (t197.take ((t177.length : Int) : Int).toNat) y203 (wrap64 ((y203.length : Int) - 1)))) else (none)) else (none)) else (none)) else (none))))) else (none)) else (none)) = some (r1, r2, r3) := by first | (rw [hji29] at H; exact H) | (simp only [hji29] at H ⊢; exact H)
    (try rw [hji29] at A3)
    (try rw [hji29] at A4)
    (try rw [hji29] at A9)
    have hji29w : (IntKind.i64.wrap ((t177.length : Int) - 1)) = ji29 := (i64_w _).trans hji29
    by_cases c30 : 0 ≤ (ji29)
    ·rw [if_pos c30] at H
     have c30b0 : decide (0 ≤ (ji29)) = true := decide_eq_true c30
     clear c30
     by_cases c31 : (ji29) < (t177.length : Int)
     ·rw [if_pos c31] at H
      have c31b0 : decide ((ji29) < (t177.length : Int)) = true := decide_eq_true c31
      clear c31
      obtain ⟨t193, A320, H⟩ := Option.bind_eq_some_iff.mp H
      try dsimp only at H
      have A32 := Aside0.mk A320
      clear A320
      obtain ⟨t194, A330, H⟩ := Option.bind_eq_some_iff.mp H
      try dsimp only at H
      have A33 := Aside0.mk A330
      clear A330
      obtain ⟨t197, A340, H⟩ := Option.bind_eq_some_iff.mp H
      try dsimp only at H
      have A34 := Aside0.mk A340
      clear A340
      by_cases c35 : 0 ≤ (t177.length : Int)
      ·rw [if_pos c35] at H
       have c35b0 := eq_true c35
       have c35b1 : decide (0 ≤ (t177.length : Int)) = true := decide_eq_true c35
       clear c35
       by_cases c36 : (t177.length : Int) ≤ (t197.length : Int)
       ·rw [if_pos c36] at H
        have c36b0 := eq_true c36
        have c36b1 : decide ((t177.length : Int) ≤ (t197.length : Int)) = true := decide_eq_true c36
        clear c36
        obtain ⟨y200, hy200⟩ : ∃ y_ : List Int, y_ = (t197.take ((t177.length : Int) : Int).toNat) := ⟨_, rfl⟩
        replace H : (if 0 ≤ (wrap64 ((wrap64 ((t174.length : Int) - (t177.length : Int))) + 1)) then (if (wrap64 ((wrap64 ((t174.length : Int) - (t177.length : Int))) + 1) : Int).toNat ≤ 70368744177664 then ((some (List.replicate (wrap64 ((wrap64 ((t174.length : Int) - (t177.length : Int))) + 1) : Int).toNat 0 : List Int)).bind fun y203 => (nat_DivMod.l0 k t177 t193 t194 y200 y203 (wrap64 ((y203.length : Int) - 1)))) else (none)) else (none)) = some (r1, r2, r3) := by first | (rw [hy200]; with_reducible exact H) | (have H2_ := (Option.bind_some _ _).symm.trans H; rw [hy200]; with_reducible exact H2_) | (have H2_ := (Option.bind_some _ _).symm.trans H; with_reducible exact H2_) | with_reducible exact H | (rw [hy200]; exact H) | exact H
        have Ny200 := Aside0.mk hy200
        clear hy200
        obtain ⟨ji37, hji37⟩ : ∃ j_ : Int, (wrap64 ((wrap64 ((t174.length : Int) - (t177.length : Int))) + 1)) = j_ := ⟨_, rfl⟩
        replace H : (if 0 ≤ (ji37) then (if (ji37 : Int).toNat ≤ 70368744177664 then ((some (List.replicate (ji37 : Int).toNat 0 : List Int)).bind fun y203 => (nat_DivMod.l0 k t177 t193 t194 y200 y203 (wrap64 ((y203.length : Int) - 1)))) else (none)) else (none)) = some (r1, r2, r3) := by first | (rw [hji37] at H; exact H) | (simp only [hji37] at H ⊢; exact H)
        (try rw [hji37] at A3)
        (try rw [hji37] at A4)
        (try rw [hji37] at A9)
        (try rw [hji37] at A32)
        (try rw [hji37] at A33)
        (try rw [hji37] at A34)
        have hji37w : (IntKind.i64.wrap ((wrap64 ((t174.length : Int) - (t177.length : Int))) + 1)) = ji37 := (i64_w _).trans hji37
        by_cases c38 : 0 ≤ (ji37)
        ·rw [if_pos c38] at H
         have c38b0 := eq_true c38
         have c38b1 : decide (0 ≤ (ji37)) = true := decide_eq_true c38
         clear c38
         by_cases c39 : (ji37 : Int).toNat ≤ 70368744177664
         ·rw [if_pos c39] at H
          have c39b0 := eq_true c39
          have c39b1 : decide ((ji37 : Int).toNat ≤ 70368744177664) = true := decide_eq_true c39
          clear c39
          obtain ⟨y203, hy203⟩ : ∃ y_ : List Int, y_ = (List.replicate (ji37 : Int).toNat 0) := ⟨_, rfl⟩
          replace H : (nat_DivMod.l0 k t177 t193 t194 y200 y203 (wrap64 ((y203.length : Int) - 1))) = some (r1, r2, r3) := by first | (rw [hy203]; with_reducible exact H) | (have H2_ := (Option.bind_some _ _).symm.trans H; rw [hy203]; with_reducible exact H2_) | (have H2_ := (Option.bind_some _ _).symm.trans H; with_reducible exact H2_) | with_reducible exact H | (rw [hy203]; exact H) | exact H
          have Ny203 := Aside0.mk hy203
          clear hy203
          have H' := Aside0.mk H
          clear H
          go_enter Tryd.func38, Tryd.ntmps38
          try go_wp2_with (first | ((with_reducible refine gate_callee (f := 60) rfl ?_); refine goL (some 15) Tryd.func60 [.slice A0 l0.length c0] ?_; (with_reducible refine (nat_Norm.calls _ _ l0 t174 _ ?side1 ?side2 A3.out).mono ?_); (case side1 => exact HR0.out); (case side2 => exact HC0.out); rintro e w40 ⟨v175, rfl, ho0, hb⟩; refine ⟨_, rfl, ?_⟩; have HO176 := Aside0.mk (Kd.R_lower ho0 (below_size HB.out)); replace HB := Aside0.mk (below_step HB.out hb)) | ((with_reducible refine gate_callee (f := 60) rfl ?_); refine goL (some 17) Tryd.func60 [.slice A1 l1.length c1] ?_; (with_reducible refine (nat_Norm.calls _ _ l1 t177 _ ?side1 ?side2 A4.out).mono ?_); (case side1 => exact (Kd.C_below HR1.out HB.out)); (case side2 => exact HC1.out); rintro e w41 ⟨v178, rfl, ho0, hb⟩; refine ⟨_, rfl, ?_⟩; have HO179 := Aside0.mk (Kd.R_lower (Kd.R_new' ho0 (Kd.R_lt HO176.out)) (below_size HB.out)); replace HO176 := Aside0.mk (Kd.R_elder' HO176.out (Kd.R_base ho0) hb); replace HB := Aside0.mk (below_step HB.out hb); obtain ⟨Ao42, co42, eo42⟩ := Kd.R_slice HO179.out; subst eo42; obtain ⟨Ao43, co43, eo43⟩ := Kd.R_slice HO176.out; subst eo43) | ((with_reducible refine gate_callee (f := 47) rfl ?_); refine goL (some 25) Tryd.func47 [.slice Ao43 t174.length co43, .slice Ao42 t177.length co42] ?_; (with_reducible refine (nat_Cmp.calls k _ _ t174 _ _ t177 t180 _ ?side1 ?side2 ?side3 ?side4 A9.out).mono ?_); (case side1 => exact (Kd.R_reads' HO176.out).2.2); (case side2 => exact (Kd.R_reads' HO176.out).2.1); (case side3 => exact (Kd.R_reads' HO179.out).2.2); (case side4 => exact (Kd.R_reads' HO179.out).2.1); rintro e w44 ⟨rfl, hb⟩; refine ⟨_, rfl, ?_⟩; replace HO176 := Aside0.mk (Kd.R_below HO176.out hb); replace HO179 := Aside0.mk (Kd.R_below HO179.out hb); replace HB := Aside0.mk (below_step HB.out hb); (try clear hb); (try clear hb2); (try clear hk); (try clear hi); have p192 : 0 ≤ ((ji29) : Int) := of_decide_eq_true (by first | (with_reducible assumption) | assumption); have q192 : (ji29) < (t177.length : Int) := of_decide_eq_true (by first | (with_reducible assumption) | assumption); obtain ⟨ad192, e192, hx192_0⟩ := Kd.at_int (Kd.R_reads' HO179.out).2.2 (ji29) p192 q192; cases e192; replace p192 := eq_true p192; replace q192 := eq_true q192) | ((with_reducible refine gate_callee (f := 62) rfl ?_); refine goesL_ (some 51) rfl rfl Tryd.func62 (by kernel_rfl) rfl #[.int .u32 (rd t177 (ji29))] rfl (by (try simp only [List.map_toArray, List.map_cons, List.map_nil]); first | done | (simp only [hji29]; rfl) | rfl | (simp only [List.length_drop, List.length_take]; rfl)) ?_; (with_reducible refine (bits_LeadingZeros32.calls (rd t177 (ji29)) t193 _ A32.out).mono ?_); rintro e w' ⟨rfl, ⟨nd, rfl⟩⟩; refine ⟨_, rfl, ?_⟩))
          (try (rw [drewN_self w44]; generalize hq_ : World.drewN w44 _ = w44; have n0_ : Aside0 (Kd.R (Kd.int .u32) 51 w44 w.heap.size (fun k_ => some k_ ≠ (.slice (some ad192) t177.length co42 : Value).ownBlock) (.slice Ao43 t174.length co43) t174) := ⟨by rw [← hq_]; exact (by (with_reducible repeat (first | apply Kd.R_alloc | apply Kd.R_drewN | apply Kd.R_drew)); exact Kd.R_mono HO176.out (fun _ hk => hk.2))⟩; have n1_ : Aside0 (Kd.R (Kd.int .u32) 51 w44 w.heap.size (fun k_ => some k_ ≠ (.slice Ao43 t174.length co43 : Value).ownBlock) (.slice (some ad192) t177.length co42) t177) := ⟨by rw [← hq_]; exact (by (with_reducible repeat (first | apply Kd.R_alloc | apply Kd.R_drewN | apply Kd.R_drew)); exact Kd.R_mono HO179.out (fun _ hk => hk.2))⟩; have n2_ : Aside0 (Below w.heap.size w w44) := ⟨by rw [← hq_]; exact (by repeat first | exact HB.out | refine bxSet ?_ (by assumption) | apply below_alloc | apply pw_below_drewN)⟩; clear HO176 HO179 HB hq_; have HO176 := n0_; have HO179 := n1_; have HB := n2_; clear n0_ n1_ n2_))
          replace HO176 := Aside0.mk (Kd.R_drew HO176.out)
          replace HO179 := Aside0.mk (Kd.R_drew HO179.out)
          replace HB := Aside0.mk (below_drew1 HB.out)
          refine start_ (n := 11) (S := fun w' => True) (ds := []) #[false, false, false, false, false, false, false, false, false, false, false] (by kernel_rfl) rfl rfl trivial (fun hHeld => ?_); refine with_tabW nat_DivMod.tab10 nat_DivMod.bits10 (fun HT_ HW_ => ?_)
          generalize w44.drew = w45 at HO176 HO179 HB hHeld ⊢
          refine pure_ (i := 0) (N := some 52) (v := ?_) (a' := ?_) #[true, false, false, false, false, false, false, false, false, false, false] rfl rfl (any_of HT_.out (by kernel_rfl)) (fun _ _ _ h => h) (Or.inl ⟨by rfl, ?_⟩) ?_ ?_
          rotate_left
          ·intro w'
           go_simp
           with_reducible rfl
          rotate_left
          ·simp only [Act.put, List.setIfInBounds_toArray, List.set_cons_zero, List.set_cons_succ, i64_w, i32_w]
           rfl
          refine pure_ (i := 1) (N := some 53) (v := ?_) (a' := ?_) #[true, true, false, false, false, false, false, false, false, false, false] rfl rfl (any_of HT_.out (by kernel_rfl)) (fun _ _ _ h => h) (Or.inl ⟨by rfl, ?_⟩) ?_ ?_
          rotate_left
          ·intro w'
           go_simp
           with_reducible rfl
          rotate_left
          ·simp only [Act.put, List.setIfInBounds_toArray, List.set_cons_zero, List.set_cons_succ, i64_w, i32_w]
           rfl
          refine pure_ (i := 3) (N := some 55) (v := ?_) (a' := ?_) #[true, true, false, true, false, false, false, false, false, false, false] rfl rfl (any_of HT_.out (by kernel_rfl)) (fun _ _ _ h => h) (Or.inl ⟨by rfl, ?_⟩) ?_ ?_
          rotate_left
          ·intro w'
           go_simp
           with_reducible rfl
          rotate_left
          ·simp only [Act.put, List.setIfInBounds_toArray, List.set_cons_zero, List.set_cons_succ, i64_w, i32_w]
           rfl
          refine pure_ (i := 4) (N := some 56) (v := ?_) (a' := ?_) #[true, true, false, true, true, false, false, false, false, false, false] rfl rfl (any_of HT_.out (by kernel_rfl)) (fun _ _ _ h => h) (Or.inl ⟨by rfl, ?_⟩) ?_ ?_
          rotate_left
          ·intro w'
           go_simp
           with_reducible rfl
          rotate_left
          ·simp only [Act.put, List.setIfInBounds_toArray, List.set_cons_zero, List.set_cons_succ, i64_w, i32_w]
           rfl
          refine pure_ (i := 6) (N := some 58) (v := ?_) (a' := ?_) #[true, true, false, true, true, false, true, false, false, false, false] rfl rfl (any_of HT_.out (by kernel_rfl)) (fun _ _ _ h => h) (Or.inl ⟨by rfl, ?_⟩) ?_ ?_
          rotate_left
          ·intro w'
           go_simp
           with_reducible rfl
          rotate_left
          ·simp only [Act.put, List.setIfInBounds_toArray, List.set_cons_zero, List.set_cons_succ, i64_w, i32_w]
           rfl
          refine pure_ (i := 7) (N := some 59) (v := ?_) (a' := ?_) #[true, true, false, true, true, false, true, true, false, false, false] rfl rfl (any_of HT_.out (by kernel_rfl)) (fun _ _ _ h => h) (Or.inl ⟨by rfl, ?_⟩) ?_ ?_
          rotate_left
          ·intro w'
           go_simp
           with_reducible rfl
          rotate_left
          ·simp only [Act.put, List.setIfInBounds_toArray, List.set_cons_zero, List.set_cons_succ, i64_w, i32_w]
           rfl
          refine one_ (i := 2) (N := some 54) #[true, true, true, true, true, false, true, true, false, false, false] rfl rfl (one_of HT_.out (by kernel_rfl)) (by decide) (fun K hK => ?_)
          refine goes_ Tryd.func63 (by kernel_rfl) rfl #[.slice Ao43 t174.length co43, .int .i64 t193] (by rfl) rfl rfl (by (try simp only [List.map_toArray, List.map_cons, List.map_nil]); first | done | rfl | (simp only [List.length_drop, List.length_take]; rfl)) ?_
          with_reducible refine (nat_left.calls k _ _ t174 t193 t194 _ ?side1 ?side2 A33.out).mono ?_
          (case side1 => repeat (first | exact (Kd.R_reads' HO176.out).2.2 | (with_reducible refine Kd.C_alloc ?_ _) | (with_reducible refine Kd.C_drewN ?_ _) | (with_reducible refine Kd.C_drew ?_)))
          (case side2 => exact (Kd.R_reads' HO176.out).2.1)
          rintro e w46 ⟨v195, rfl, ho0, hb⟩
          refine ⟨_, rfl, ?_⟩
          have n0_ := Aside0.mk (Kd.R_elder' (by (with_reducible repeat (first | apply Kd.R_alloc | apply Kd.R_drewN | apply Kd.R_drew)); exact HO176.out) (Kd.R_base ho0) hb)
          have n1_ := Aside0.mk (Kd.R_elder' (by (with_reducible repeat (first | apply Kd.R_alloc | apply Kd.R_drewN | apply Kd.R_drew)); exact HO179.out) (Kd.R_base ho0) hb)
          have n2_ := Aside0.mk (Kd.R_lower (Kd.R_new' (Kd.R_new' ho0 (Kd.R_lt (by (with_reducible repeat (first | apply Kd.R_alloc | apply Kd.R_drewN | apply Kd.R_drew)); exact HO176.out))) (Kd.R_lt (by (with_reducible repeat (first | apply Kd.R_alloc | apply Kd.R_drewN | apply Kd.R_drew)); exact HO179.out))) (below_size (by repeat (first | (with_reducible first | exact HB.out | apply below_alloc | apply pw_below_drewN | apply below_drew1) | exact HB.out))))
          have n3_ := Aside0.mk (below_step (by repeat (first | (with_reducible first | exact HB.out | apply below_alloc | apply pw_below_drewN | apply below_drew1) | exact HB.out)) hb)
          clear HO176
          clear HO179
          clear HB
          have HO176 := n0_
          have HO179 := n1_
          have HO196 := n2_
          have HB := n3_
          clear n0_ n1_ n2_ n3_
          (try clear hb)
          (try clear hb2)
          (try clear hk)
          (try clear hi)
          (try clear ho0)
          refine hK.out _ _ trivial (fun hHeld => ?_)
          clear hK K
          refine norm_ (a' := ?_) ?_ ?_
          rotate_left
          ·show Act.put _ (some 54) _ = _
           simp only [Act.put, List.setIfInBounds_toArray, List.set_cons_zero, List.set_cons_succ, i64_w, i32_w]
           rfl
          refine one_ (i := 5) (N := some 57) #[true, true, true, true, true, true, true, true, false, false, false] rfl rfl (one_of HT_.out (by kernel_rfl)) (by decide) (fun K hK => ?_)
          refine goR Tryd.func63 [.slice (some ad192) t177.length co42, .int .i64 t193] ?_
          with_reducible refine (nat_left.calls k _ _ t177 t193 t197 _ ?side1 ?side2 A34.out).mono ?_
          (case side1 => exact (Kd.R_reads' HO179.out).2.2)
          (case side2 => exact (Kd.R_reads' HO179.out).2.1)
          rintro e w47 ⟨v198, rfl, ho0, hb⟩
          refine ⟨_, rfl, ?_⟩
          have HO199 := Aside0.mk (Kd.R_lower (Kd.R_new' (Kd.R_new' (Kd.R_new' ho0 (Kd.R_lt HO176.out)) (Kd.R_lt HO179.out)) (Kd.R_lt HO196.out)) (below_size HB.out))
          replace HO176 := Aside0.mk (Kd.R_elder' HO176.out (Kd.R_base ho0) hb)
          replace HO179 := Aside0.mk (Kd.R_elder' HO179.out (Kd.R_base ho0) hb)
          replace HO196 := Aside0.mk (Kd.R_elder' HO196.out (Kd.R_base ho0) hb)
          replace HB := Aside0.mk (below_step HB.out hb)
          (try clear hb)
          (try clear hb2)
          (try clear hk)
          (try clear hi)
          (try clear ho0)
          obtain ⟨Ao48, co48, eo48⟩ := Kd.R_slice HO199.out
          subst eo48
          have q49 : ((t177.length : Int) : Int) ≤ ((t197.length : Int) : Int) := of_decide_eq_true (by first | (with_reducible assumption) | assumption)
          obtain ⟨i049, hi049, _, hsz49, _⟩ := info_parts info51
          have hcut49 := cut_to (P := Tryd.prog) 22 51 .i64 Tryd.underlying22 hi049 Ao48 t197.length co48 (t177.length : Int) (of_decide_eq_true (by first | (with_reducible assumption) | assumption)) q49 (Kd.R_reads' HO199.out).2.1
          have hr49 := Kd.R_take (m := ((t177.length : Int) : Int).toNat) HO199.out (by omega)
          have hy49 : y200.length = ((t177.length : Int) : Int).toNat := (by rw [Ny200.out, List.length_take]; omega)
          rw [← Ny200.out] at hr49
          rw [← hy49] at hr49 hcut49
          clear hy49 hi049 hsz49 HO199
          have HO202 := Aside0.mk hr49
          clear hr49
          replace q49 := eq_true q49
          refine hK.out _ _ trivial (fun hHeld => ?_)
          clear hK K
          refine norm_ (a' := ?_) ?_ ?_
          rotate_left
          ·show Act.put _ (some 57) _ = _
           simp only [Act.put, List.setIfInBounds_toArray, List.set_cons_zero, List.set_cons_succ, i64_w, i32_w]
           rfl
          refine pure_ (i := 8) (N := some 60) (v := ?_) (a' := ?_) #[true, true, true, true, true, true, true, true, true, false, false] rfl rfl (any_of HT_.out (by kernel_rfl)) (fun _ _ _ h => h) (Or.inl ⟨by rfl, ?_⟩) ?_ ?_
          rotate_left
          ·intro w'
           go_simp
           with_reducible rfl
          rotate_left
          ·simp only [Act.put, List.setIfInBounds_toArray, List.set_cons_zero, List.set_cons_succ, i64_w, i32_w]
           rfl
          refine pure_ (i := 9) (N := some 10) (v := ?_) (a' := ?_) #[true, true, true, true, true, true, true, true, true, true, false] rfl rfl (any_of HT_.out (by kernel_rfl)) (fun _ _ _ h => h) (Or.inl ⟨by rfl, ?_⟩) ?_ ?_
          rotate_left
          ·intro w'
           go_simp
           with_reducible rfl
          rotate_left
          ·simp only [Act.put, List.setIfInBounds_toArray, List.set_cons_zero, List.set_cons_succ, i64_w, i32_w]
           rfl
          refine pure_ (i := 10) (N := some 11) (v := ?_) (a' := ?_) #[true, true, true, true, true, true, true, true, true, true, true] rfl rfl (any_of HT_.out (by kernel_rfl)) (fun _ _ _ h => h) (Or.inl ⟨by rfl, ?_⟩) ?_ ?_
          rotate_left
          ·intro w'
           go_simp
           with_reducible rfl
          rotate_left
          ·simp only [Act.put, List.setIfInBounds_toArray, List.set_cons_zero, List.set_cons_succ, i64_w, i32_w]
           rfl
          refine done_ (done_of HT_.out (by kernel_rfl)) ?_
          try go_wp2_with (first | ((with_reducible refine gate_dst (N := 67) rfl ?_); refine Kd.R_make (Kd.int .u32) _ 51 rfl (N := 67) rfl 22 _ _ rfl ji37 rfl rfl Tryd.underlying22 (.int .u32 0) 4 info51 rfl (by decide) (by omega) 0 (ok := fun _ => True) (okp := fun _ => True) rfl (fun _ hk => hk) trivial (of_decide_eq_true (by first | (with_reducible assumption) | assumption)) (Nat.le_trans (Nat.mul_le_mul_right _ (of_decide_eq_true (by first | (with_reducible assumption) | assumption) : ji37.toNat ≤ 70368744177664)) (by omega)) (Below.refl _ _) (Nat.le_refl _) ?_; intro v204 w50 ho51 hb hg_ hnew_; clear hg_ hnew_; (first | rw [← Ny203.out] at ho51 | (simp only [Int.reduceToNat] at ho51; rw [← Ny203.out] at ho51)); have HO205 := Aside0.mk (Kd.R_lower (Kd.R_new' (Kd.R_new' (Kd.R_new' (Kd.R_new' ho51 (Kd.R_lt HO176.out)) (Kd.R_lt HO179.out)) (Kd.R_lt HO196.out)) (Kd.R_lt HO202.out)) (below_size HB.out)); replace HO179 := Aside0.mk (Kd.R_elder' HO179.out (Kd.R_base ho51) hb); replace HO196 := Aside0.mk (Kd.R_elder' HO196.out (Kd.R_base ho51) hb); replace HO202 := Aside0.mk (Kd.R_elder' HO202.out (Kd.R_base ho51) hb); replace HB := Aside0.mk (below_step HB.out hb); clear hb ho51; obtain ⟨Ao52, co52, eo52⟩ := Kd.R_slice HO205.out; subst eo52))
          go_loopg [13] k (fun kq v13 w' => ∃ (x1_1 : List Int) (x10_1 : List Int) (x11_1 : List Int) (x12_1 : List Int) (x13_1 : Int), v13 = .int .i64 x13_1 ∧ Aside0 (nat_DivMod.l0 kq x1_1 t193 x10_1 x11_1 x12_1 x13_1 = some (r1, r2, r3)) ∧ Aside0 (kq ≤ k) ∧ Aside0 (Kd.R (Kd.int .u32) 51 w' w.heap.size (fun k_ => some k_ ≠ (v195 : Value).ownBlock ∧ some k_ ≠ ((.slice Ao48 y200.length co48) : Value).ownBlock ∧ some k_ ≠ ((.slice Ao52 y203.length co52) : Value).ownBlock) (.slice (some ad192) t177.length co42) x1_1) ∧ Aside0 (Kd.R (Kd.int .u32) 51 w' w.heap.size (fun k_ => some k_ ≠ ((.slice (some ad192) t177.length co42) : Value).ownBlock ∧ some k_ ≠ ((.slice Ao48 y200.length co48) : Value).ownBlock ∧ some k_ ≠ ((.slice Ao52 y203.length co52) : Value).ownBlock) v195 x10_1) ∧ Aside0 (Kd.R (Kd.int .u32) 51 w' w.heap.size (fun k_ => some k_ ≠ ((.slice (some ad192) t177.length co42) : Value).ownBlock ∧ some k_ ≠ (v195 : Value).ownBlock ∧ some k_ ≠ ((.slice Ao52 y203.length co52) : Value).ownBlock) (.slice Ao48 y200.length co48) x11_1) ∧ Aside0 (Kd.R (Kd.int .u32) 51 w' w.heap.size (fun k_ => some k_ ≠ ((.slice (some ad192) t177.length co42) : Value).ownBlock ∧ some k_ ≠ (v195 : Value).ownBlock ∧ some k_ ≠ ((.slice Ao48 y200.length co48) : Value).ownBlock) (.slice Ao52 y203.length co52) x12_1) ∧ Aside0 (Below w.heap.size w w'))
          case atStart => exact ⟨(t177), (t194), (y200), (y203), (wrap64 ((y203.length : Int) - 1)), (by first | rfl | (simp; done)), H', ⟨Nat.le_refl _⟩, ⟨Kd.R_mono HO179.out (fun _ hk => ⟨(by first | exact hk.1.1.2 | exact own_any hk.1.1.2), ⟨(by first | exact hk.1.2 | exact own_any hk.1.2), (by first | exact hk.2 | exact own_any hk.2)⟩⟩)⟩, ⟨Kd.R_mono HO196.out (fun _ hk => ⟨(by first | exact hk.1.1.2 | exact own_any hk.1.1.2), ⟨(by first | exact hk.1.2 | exact own_any hk.1.2), (by first | exact hk.2 | exact own_any hk.2)⟩⟩)⟩, ⟨Kd.R_mono HO202.out (fun _ hk => ⟨(by first | exact hk.1.1.2 | exact own_any hk.1.1.2), ⟨(by first | exact hk.1.2 | exact own_any hk.1.2), (by first | exact hk.2 | exact own_any hk.2)⟩⟩)⟩, ⟨Kd.R_mono HO205.out (fun _ hk => ⟨(by first | exact hk.1.1.2 | exact own_any hk.1.1.2), ⟨(by first | exact hk.1.2 | exact own_any hk.1.2), (by first | exact hk.2 | exact own_any hk.2)⟩⟩)⟩, ⟨HB.out⟩⟩
          case round =>
           clear H'
           try clear c1
           try clear p1
           try clear q1
           try clear hx1
           try clear qi1
           try clear p2
           try clear c3
           try clear c4
           try clear q4
           try clear c5
           try clear c5b0
           try clear c5b1
           try clear c5b2
           try clear c6
           try clear p6
           try clear c10
           try clear c10b0
           try clear c18
           try clear c18b0
           try clear c18b1
           try clear p18
           try clear q18
           try clear hx18
           try clear qi18
           try clear c19
           try clear c19b0
           try clear c19b1
           try clear p19
           try clear q19
           try clear hx19
           try clear c30
           try clear c30b0
           try clear c31
           try clear c31b0
           try clear c35
           try clear c35b0
           try clear c35b1
           try clear c36
           try clear c36b0
           try clear c36b1
           try clear c38
           try clear c38b0
           try clear c38b1
           try clear c39
           try clear c39b0
           try clear c39b1
           try clear c47
           try clear q49
           try clear hx184_0
           try clear hx192_0
           try clear p184
           try clear p192
           try clear q184
           try clear q192
           try clear q49
           obtain ⟨x1_1, x10_1, x11_1, x12_1, x13_1, rfl, HA, HK1, HO_1, HO_10, HO_11, HO_12, HB⟩ := hrel
           have hl1_1 := (Kd.R_reads' HO_1.out).1
           rw [hl1_1] at HO_1
           (try simp only [hl1_1])
           (try simp only [hl1_1] at HO_10)
           (try simp only [hl1_1] at HO_11)
           (try simp only [hl1_1] at HO_12)
           have hl11_1 := (Kd.R_reads' HO_11.out).1
           rw [hl11_1] at HO_11
           (try simp only [hl11_1])
           (try simp only [hl11_1] at HO_1)
           (try simp only [hl11_1] at HO_10)
           (try simp only [hl11_1] at HO_12)
           have hl12_1 := (Kd.R_reads' HO_12.out).1
           rw [hl12_1] at HO_12
           (try simp only [hl12_1])
           (try simp only [hl12_1] at HO_1)
           (try simp only [hl12_1] at HO_10)
           (try simp only [hl12_1] at HO_11)
           cases gk with
           | zero => exact absurd HA.out (by simp [nat_DivMod.l0])
           | succ k1 =>
            have H := HA.out
            clear HA
            simp only [nat_DivMod.l0] at H
            by_cases c53 : x13_1 ≥ 0
            ·rw [if_pos c53] at H
             have c53b0 : decide (0 ≤ x13_1) = true := decide_eq_true c53
             clear c53
             by_cases c54 : 0 ≤ x13_1
             ·rw [if_pos c54] at H
              have c54b0 := eq_true c54
              have c54b1 : decide (0 ≤ x13_1) = true := decide_eq_true c54
              clear c54
              by_cases c55 : x13_1 ≤ (wrap64 ((wrap64 (x13_1 + (x11_1.length : Int))) + 1))
              ·rw [if_pos c55] at H
               have c55b0 := eq_true c55
               have c55b1 : decide (x13_1 ≤ (wrap64 ((wrap64 (x13_1 + (x11_1.length : Int))) + 1))) = true := decide_eq_true c55
               have c55b1z := c55b1
               (try rw [hl1_1] at c55b1z); (try rw [hl11_1] at c55b1z); (try rw [hl12_1] at c55b1z)
               by_cases c56 : (wrap64 ((wrap64 (x13_1 + (x11_1.length : Int))) + 1)) ≤ (x10_1.length : Int)
               ·rw [if_pos c56] at H
                have c56b0 := eq_true c56
                have c56b1 : decide ((wrap64 ((wrap64 (x13_1 + (x11_1.length : Int))) + 1)) ≤ (x10_1.length : Int)) = true := decide_eq_true c56
                have c56b1z := c56b1
                (try rw [hl1_1] at c56b1z); (try rw [hl11_1] at c56b1z); (try rw [hl12_1] at c56b1z)
                obtain ⟨y206, hy206⟩ : ∃ y_ : List Int, y_ = ((x10_1.take ((wrap64 ((wrap64 (x13_1 + (x11_1.length : Int))) + 1)) : Int).toNat).drop (x13_1 : Int).toNat) := ⟨_, rfl⟩
                replace H : ((nat_digitW.f k1 x10_1 x13_1 (wrap64 ((wrap64 (x13_1 + (x11_1.length : Int))) + 1)) x11_1).bind fun bt210 => (if x13_1 < (x12_1.length : Int) then (nat_DivMod.l0 k1 x1_1 t193 bt210.2 x11_1 (x12_1.set (x13_1 : Int).toNat bt210.1) (wrap64 (x13_1 - 1))) else (none))) = some (r1, r2, r3) := by first | (rw [hy206]; with_reducible exact H) | (have H2_ := (Option.bind_some _ _).symm.trans H; rw [hy206]; with_reducible exact H2_) | (have H2_ := (Option.bind_some _ _).symm.trans H; with_reducible exact H2_) | with_reducible exact H | (rw [hy206]; exact H) | exact H
                have Ny206 := Aside0.mk hy206
                clear hy206
                obtain ⟨⟨t210, t211⟩, A570, H⟩ := Option.bind_eq_some_iff.mp H
                try dsimp only at H
                have A57 := Aside0.mk A570
                clear A570
                by_cases c58 : x13_1 < (x12_1.length : Int)
                ·rw [if_pos c58] at H
                 have c58b0 : decide (x13_1 < (x12_1.length : Int)) = true := decide_eq_true c58
                 have c58b0z := c58b0
                 (try rw [hl1_1] at c58b0z); (try rw [hl11_1] at c58b0z); (try rw [hl12_1] at c58b0z)
                 clear c58
                 obtain ⟨y212, hy212⟩ : ∃ y_ : List Int, y_ = (x12_1.set (x13_1 : Int).toNat t210) := ⟨_, rfl⟩
                 replace H : (nat_DivMod.l0 k1 x1_1 t193 t211 x11_1 y212 (wrap64 (x13_1 - 1))) = some (r1, r2, r3) := by first | (rw [hy212]; with_reducible exact H) | (have H2_ := (Option.bind_some _ _).symm.trans H; rw [hy212]; with_reducible exact H2_) | (have H2_ := (Option.bind_some _ _).symm.trans H; with_reducible exact H2_) | with_reducible exact H | (rw [hy212]; exact H) | exact H
                 have Ny212 := Aside0.mk hy212
                 clear hy212
                 have H' := Aside0.mk H
                 clear H
                 obtain ⟨Ao61, co61, eo61⟩ := Kd.R_slice HO_10.out
                 subst eo61
                 have q60 : ((wrap64 ((wrap64 (x13_1 + (x11_1.length : Int))) + 1)) : Int) ≤ ((x10_1.length : Int) : Int) := of_decide_eq_true (by first | (with_reducible assumption) | assumption)
                 obtain ⟨i060, hi060, _, hsz60, _⟩ := info_parts info51
                 have hroom60 : x10_1.length ≤ co61 := (Kd.R_reads' HO_10.out).2.1
                 have hC60 : Kd.C (Kd.int .u32) _ Ao61 x10_1.length x10_1 := (Kd.R_reads' HO_10.out).2.2
                 have ql60 : (x13_1 : Int) ≤ ((wrap64 ((wrap64 (x13_1 + (x11_1.length : Int))) + 1)) : Int) := of_decide_eq_true (by first | (with_reducible assumption) | assumption)
                 have q060 : (0 : Int) ≤ (x13_1 : Int) := of_decide_eq_true (by first | (with_reducible assumption) | assumption)
                 have hcut60 := cut_mid (P := Tryd.prog) 22 51 .i64 .i64 Tryd.underlying22 hi060 1 hsz60 Ao61 x10_1.length co61 x13_1 (wrap64 ((wrap64 (x13_1 + (x11_1.length : Int))) + 1)) q060 ql60 q60 hroom60
                 have hr60 := Kd.C_mid (lo := (x13_1 : Int).toNat) (hi := ((wrap64 ((wrap64 (x13_1 + (x11_1.length : Int))) + 1)) : Int).toNat) (c := co61) hC60 (by omega) (by omega) hroom60
                 obtain ⟨A60, hA60⟩ : ∃ A1, A1 = (if co61 = (x13_1 : Int).toNat then Ao61 else (Ao61 : Option Addr).map (·.add ((x13_1 : Int).toNat * 1))) := ⟨_, rfl⟩
                 obtain ⟨c60, hc60⟩ : ∃ c1, c1 = co61 - (x13_1 : Int).toNat := ⟨_, rfl⟩
                 have hy60 : y206.length = ((wrap64 ((wrap64 (x13_1 + (x11_1.length : Int))) + 1)) : Int).toNat - (x13_1 : Int).toNat := (by rw [Ny206.out, List.length_drop, List.length_take] <;> omega)
                 rw [show ((x10_1).take ((wrap64 ((wrap64 (x13_1 + (x11_1.length : Int))) + 1)) : Int).toNat).drop (x13_1 : Int).toNat = y206 from Ny206.out.symm] at hr60
                 replace hr60 : Kd.C (Kd.int .u32) _ A60 y206.length y206 := (by rw [hA60]; exact hr60)
                 rw [← hy60, ← hA60, ← hc60] at hcut60
                 have HR209 := Aside0.mk hr60
                 have HC209 := Aside0.mk (show y206.length ≤ c60 from by rw [hy60, hc60]; exact Nat.sub_le_sub_right (Nat.le_trans (by omega) hroom60) _)
                 clear hr60 hC60 hroom60 hi060 hsz60 hc60
                 have KY60 := Aside0.mk hy60
                 have KA60 := Aside0.mk hA60
                 clear hy60 hA60
                 have KL60 := Aside0.mk (show ((wrap64 ((wrap64 (x13_1 + (x11_1.length : Int))) + 1)) : Int).toNat ≤ x10_1.length from by omega)
                 have KM60 := Aside0.mk (show (x13_1 : Int).toNat ≤ ((wrap64 ((wrap64 (x13_1 + (x11_1.length : Int))) + 1)) : Int).toNat from by omega)
                 replace q60 := eq_true q60
                 go_wp2_with (first | ((with_reducible refine gate_callee (f := 64) rfl ?_); refine goL (some 86) Tryd.func64 [_, .slice Ao48 x11_1.length co48] ?_; (refine (nat_digitW.calls k1 (fun k_ => some k_ = (.slice Ao61 x10_1.length co61 : Value).ownBlock) (.slice Ao61 x10_1.length co61) x10_1 x13_1 (wrap64 ((wrap64 (x13_1 + (x11_1.length : Int))) + 1)) _ _ x11_1 t210 t211 w _ ?side1 ?side2 ?side3 ?side4 A57.out rfl KA60.out Ny206.out HC209.out).mono ?_); (case side1 => first | (with_reducible first | exact HB.out | apply below_alloc | apply pw_below_drewN | apply below_drew1) | exact HB.out); (case side2 => exact Kd.R_tight rfl HO_10.out); (case side3 => exact Kd.C_kept_own (HO_11.out) (fun k_ hk_ hs_ => (hk_.2.1) hs_)); (case side4 => exact (Kd.R_reads' HO_11.out).2.1); rintro e w62 ⟨rfl, hy0, hb, hkp⟩; refine ⟨_, rfl, ?_⟩; replace HO_1 := Aside0.mk (Kd.R_mono (ok' := fun k_ => some k_ ≠ (.slice Ao61 x10_1.length co61 : Value).ownBlock ∧ some k_ ≠ (.slice Ao48 x11_1.length co48 : Value).ownBlock ∧ some k_ ≠ (.slice Ao52 x12_1.length co52 : Value).ownBlock) (Kd.R_keptB (HO_1.out) hkp (fun k_ hk_ hs_ => (hk_.1) hs_)) (fun k_ hk_ => by first | exact ⟨hk_.1.1, hk_.1.2.1, hk_.1.2.2⟩ | ((repeat' refine ⟨?_, ?_⟩) <;> (first | exact hk_.1 | exact hk_.2 | exact hk_.1.1 | exact hk_.1.2 | exact hk_.2.1 | exact hk_.2.2 | exact hk_.1.1.1 | exact hk_.1.1.2 | exact hk_.1.2.1 | exact hk_.1.2.2 | exact hk_.2.1.1 | exact hk_.2.1.2 | exact hk_.2.2.1 | exact hk_.2.2.2 | exact hk_.1.1.1.1 | exact hk_.1.1.1.2 | exact hk_.1.1.2.1 | exact hk_.1.1.2.2 | exact hk_.1.2.1.1 | exact hk_.1.2.1.2 | exact hk_.1.2.2.1 | exact hk_.1.2.2.2 | exact hk_.2.1.1.1 | exact hk_.2.1.1.2 | exact hk_.2.1.2.1 | exact hk_.2.1.2.2 | exact hk_.2.2.1.1 | exact hk_.2.2.1.2 | exact hk_.2.2.2.1 | exact hk_.2.2.2.2)))); replace HO_10 := Aside0.mk (Kd.R_reok rfl hy0 (fun k_ e_ => HO_10.out.1 k_ e_)); replace HO_11 := Aside0.mk (Kd.R_mono (ok' := fun k_ => some k_ ≠ (.slice (some ad192) x1_1.length co42 : Value).ownBlock ∧ some k_ ≠ (.slice Ao61 x10_1.length co61 : Value).ownBlock ∧ some k_ ≠ (.slice Ao52 x12_1.length co52 : Value).ownBlock) (Kd.R_keptB (HO_11.out) hkp (fun k_ hk_ hs_ => (hk_.2.1) hs_)) (fun k_ hk_ => by first | exact ⟨hk_.1.1, hk_.1.2.1, hk_.1.2.2⟩ | ((repeat' refine ⟨?_, ?_⟩) <;> (first | exact hk_.1 | exact hk_.2 | exact hk_.1.1 | exact hk_.1.2 | exact hk_.2.1 | exact hk_.2.2 | exact hk_.1.1.1 | exact hk_.1.1.2 | exact hk_.1.2.1 | exact hk_.1.2.2 | exact hk_.2.1.1 | exact hk_.2.1.2 | exact hk_.2.2.1 | exact hk_.2.2.2 | exact hk_.1.1.1.1 | exact hk_.1.1.1.2 | exact hk_.1.1.2.1 | exact hk_.1.1.2.2 | exact hk_.1.2.1.1 | exact hk_.1.2.1.2 | exact hk_.1.2.2.1 | exact hk_.1.2.2.2 | exact hk_.2.1.1.1 | exact hk_.2.1.1.2 | exact hk_.2.1.2.1 | exact hk_.2.1.2.2 | exact hk_.2.2.1.1 | exact hk_.2.2.1.2 | exact hk_.2.2.2.1 | exact hk_.2.2.2.2)))); replace HO_12 := Aside0.mk (Kd.R_mono (ok' := fun k_ => some k_ ≠ (.slice (some ad192) x1_1.length co42 : Value).ownBlock ∧ some k_ ≠ (.slice Ao61 x10_1.length co61 : Value).ownBlock ∧ some k_ ≠ (.slice Ao48 x11_1.length co48 : Value).ownBlock) (Kd.R_keptB (HO_12.out) hkp (fun k_ hk_ hs_ => (hk_.2.1) hs_)) (fun k_ hk_ => by first | exact ⟨hk_.1.1, hk_.1.2.1, hk_.1.2.2⟩ | ((repeat' refine ⟨?_, ?_⟩) <;> (first | exact hk_.1 | exact hk_.2 | exact hk_.1.1 | exact hk_.1.2 | exact hk_.2.1 | exact hk_.2.2 | exact hk_.1.1.1 | exact hk_.1.1.2 | exact hk_.1.2.1 | exact hk_.1.2.2 | exact hk_.2.1.1 | exact hk_.2.1.2 | exact hk_.2.2.1 | exact hk_.2.2.2 | exact hk_.1.1.1.1 | exact hk_.1.1.1.2 | exact hk_.1.1.2.1 | exact hk_.1.1.2.2 | exact hk_.1.2.1.1 | exact hk_.1.2.1.2 | exact hk_.1.2.2.1 | exact hk_.1.2.2.2 | exact hk_.2.1.1.1 | exact hk_.2.1.1.2 | exact hk_.2.1.2.1 | exact hk_.2.1.2.2 | exact hk_.2.2.1.1 | exact hk_.2.2.1.2 | exact hk_.2.2.2.1 | exact hk_.2.2.2.2)))); replace HB := Aside0.mk (hb); (try clear hb); (try clear hkp); (try clear hy0); have p59 : 0 ≤ (x13_1 : Int) := of_decide_eq_true (by first | (with_reducible assumption) | assumption); have q59 : (x13_1 : Int) < ((x12_1.length : Int) : Int) := of_decide_eq_true (by first | (with_reducible assumption) | assumption); obtain ⟨go59, co59, eo59, gb59, gl59, cl59, HG59⟩ := Kd.R_form HO_12.out (by omega); (first | cases eo59 | (injection eo59 with ea_ en_ ec_; (first | subst ea_ | (injection ea_ with ea_; subst ea_)); subst ec_; clear en_)); have GB59 := Aside0.mk gb59; have GG59 := Aside0.mk HG59; clear gb59 gl59 HG59; obtain ⟨hx59_0, hf59_0⟩ := Kd.R_celln 0 HO_12.out (x13_1 : Int) p59 q59; replace p59 := eq_true p59; replace q59 := eq_true q59; obtain ⟨hy63_, hz63_⟩ := Kd.R_celln 0 HO_12.out (x13_1 : Int) (of_decide_eq_true (by first | (with_reducible assumption) | assumption)) (of_decide_eq_true (by first | (with_reducible assumption) | assumption)); have HP63 := Kd.R_putg HO_12.out (x13_1 : Int) t210) | ((with_reducible refine gate_store (t := 51) (p := 87) rfl ?_); refine store_event (t := 51) (p := 87) (v := ?vo_w64) (w1 := (w62.setCell ⟨go59, (x13_1 : Int).toNat, none⟩ (.int .u32 t210))) ?hg ?ho ?hn ?hr ?_; (case ho => rfl); (case hg => rfl); (case hn => rfl); (case hr => first | (go_simp; done) | (go_simp; rfl)); intro w64 hw; have hg : w62.grownBy w64 (some go59) := (by rw [hw]; exact HP63.2); have hp_ : Kd.R (Kd.int .u32) 51 w64 w.heap.size (fun k_ => some k_ ≠ (.slice (some ad192) x1_1.length co42 : Value).ownBlock ∧ some k_ ≠ (.slice Ao61 x10_1.length co61 : Value).ownBlock ∧ some k_ ≠ (.slice Ao48 x11_1.length co48 : Value).ownBlock) (.slice (some ⟨go59, 0, none⟩) x12_1.length co52) y212 := (by rw [hw, Ny212.out]; exact HP63.1); clear HP63; replace HO_1 := Aside0.mk (Kd.R_after (v := (.slice (some ⟨go59, 0, none⟩) x12_1.length co52)) (v1 := (.slice (some ⟨go59, 0, none⟩) x12_1.length co52)) (ok := (fun k_ => some k_ ≠ (.slice Ao61 x10_1.length co61 : Value).ownBlock ∧ some k_ ≠ (.slice Ao48 x11_1.length co48 : Value).ownBlock)) (Kd.R_mono HO_1.out (fun _ hk => ⟨⟨hk.1, hk.2.1⟩, hk.2.2⟩)) hg (.inl rfl)); replace HO_10 := Aside0.mk (Kd.R_after (v := (.slice (some ⟨go59, 0, none⟩) x12_1.length co52)) (v1 := (.slice (some ⟨go59, 0, none⟩) x12_1.length co52)) (ok := (fun k_ => some k_ ≠ (.slice (some ad192) x1_1.length co42 : Value).ownBlock ∧ some k_ ≠ (.slice Ao48 x11_1.length co48 : Value).ownBlock)) (Kd.R_mono HO_10.out (fun _ hk => ⟨⟨hk.1, hk.2.1⟩, hk.2.2⟩)) hg (.inl rfl)); replace HO_11 := Aside0.mk (Kd.R_after (v := (.slice (some ⟨go59, 0, none⟩) x12_1.length co52)) (v1 := (.slice (some ⟨go59, 0, none⟩) x12_1.length co52)) (ok := (fun k_ => some k_ ≠ (.slice (some ad192) x1_1.length co42 : Value).ownBlock ∧ some k_ ≠ (.slice Ao61 x10_1.length co61 : Value).ownBlock)) (Kd.R_mono HO_11.out (fun _ hk => ⟨⟨hk.1, hk.2.1⟩, hk.2.2⟩)) hg (.inl rfl)); replace HO_12 := Aside0.mk (hp_); replace HB := Aside0.mk ((by rw [hw]; exact below_set (HB.out) GB59.out : Below w.heap.size w w64)); clear hg hw hp_))
                 (try simp only [← hl1_1, ← hl11_1, ← hl12_1])
                 go_roundg k1
                 case measure => have := HK1.out; omega
                 case rel => exact ⟨(x1_1), (t211), (x11_1), (y212), (wrap64 (x13_1 - 1)), (by first | rfl | (simp; done)), H', ⟨by have := HK1.out; omega⟩, ⟨by (try simp only [hl1_1]); (try simp only [hl11_1]); (try simp only [hl12_1]); (with_reducible repeat (first | apply Kd.R_alloc | apply Kd.R_drewN | apply Kd.R_drew)); exact Kd.R_mono HO_1.out (fun _ hk => ⟨hk.1.1, ⟨hk.1.2, hk.2⟩⟩)⟩, ⟨by (try simp only [hl1_1]); (try simp only [hl11_1]); (try simp only [hl12_1]); (with_reducible repeat (first | apply Kd.R_alloc | apply Kd.R_drewN | apply Kd.R_drew)); exact Kd.R_mono HO_10.out (fun _ hk => ⟨hk.1.1, ⟨hk.1.2, hk.2⟩⟩)⟩, ⟨by (try simp only [hl1_1]); (try simp only [hl11_1]); (try simp only [hl12_1]); (with_reducible repeat (first | apply Kd.R_alloc | apply Kd.R_drewN | apply Kd.R_drew)); exact Kd.R_mono HO_11.out (fun _ hk => ⟨hk.1.1, ⟨hk.1.2, hk.2⟩⟩)⟩, ⟨by (try simp only [hl1_1]); (try simp only [hl11_1]); (try simp only [hl12_1]); (with_reducible repeat (first | apply Kd.R_alloc | apply Kd.R_drewN | apply Kd.R_drew)); exact HO_12.out⟩, ⟨HB.out⟩⟩
                ·rw [if_neg c58] at H
                 exact absurd H (by simp)
               ·rw [if_neg c56] at H
                exact absurd H (by simp)
              ·rw [if_neg c55] at H
               exact absurd H (by simp)
             ·rw [if_neg c54] at H
              exact absurd H (by simp)
            ·rw [if_neg c53] at H
             have c53b0 : decide (0 ≤ x13_1) = false := decide_eq_false c53
             clear c53
             obtain ⟨t213, A650, H⟩ := Option.bind_eq_some_iff.mp H
             try dsimp only at H
             have A65 := Aside0.mk A650
             clear A650
             by_cases c66 : 0 ≤ (x1_1.length : Int)
             ·rw [if_pos c66] at H
              have c66b0 := eq_true c66
              have c66b1 : decide (0 ≤ (x1_1.length : Int)) = true := decide_eq_true c66
              have c66b1z := c66b1
              (try rw [hl1_1] at c66b1z); (try rw [hl11_1] at c66b1z); (try rw [hl12_1] at c66b1z)
              clear c66
              by_cases c67 : (x1_1.length : Int) ≤ (x10_1.length : Int)
              ·rw [if_pos c67] at H
               have c67b0 := eq_true c67
               have c67b1 : decide ((x1_1.length : Int) ≤ (x10_1.length : Int)) = true := decide_eq_true c67
               have c67b1z := c67b1
               (try rw [hl1_1] at c67b1z); (try rw [hl11_1] at c67b1z); (try rw [hl12_1] at c67b1z)
               clear c67
               obtain ⟨y216, hy216⟩ : ∃ y_ : List Int, y_ = (x10_1.take ((x1_1.length : Int) : Int).toNat) := ⟨_, rfl⟩
               replace H : ((nat_right.f k1 y216 t193).bind fun t220 => (some (t213, t220, 0))) = some (r1, r2, r3) := by first | (rw [hy216]; with_reducible exact H) | (have H2_ := (Option.bind_some _ _).symm.trans H; rw [hy216]; with_reducible exact H2_) | (have H2_ := (Option.bind_some _ _).symm.trans H; with_reducible exact H2_) | with_reducible exact H | (rw [hy216]; exact H) | exact H
               have Ny216 := Aside0.mk hy216
               clear hy216
               obtain ⟨t220, A680, H⟩ := Option.bind_eq_some_iff.mp H
               try dsimp only at H
               have A68 := Aside0.mk A680
               clear A680
               simp only [Option.some.injEq, Prod.mk.injEq] at H
               obtain ⟨rfl, rfl, rfl⟩ := H
               try go_wp2
               replace HO_1 := Aside0.mk (Kd.R_drew HO_1.out)
               replace HO_10 := Aside0.mk (Kd.R_drew HO_10.out)
               replace HO_11 := Aside0.mk (Kd.R_drew HO_11.out)
               replace HO_12 := Aside0.mk (Kd.R_drew HO_12.out)
               replace HB := Aside0.mk (below_drew1 HB.out)
               obtain ⟨Ao71, co71, eo71⟩ := Kd.R_slice HO_10.out
               subst eo71
               have q70 : ((x1_1.length : Int) : Int) ≤ ((x10_1.length : Int) : Int) := of_decide_eq_true (by first | (with_reducible assumption) | assumption)
               obtain ⟨i070, hi070, _, hsz70, _⟩ := info_parts info51
               have hroom70 : x10_1.length ≤ co71 := (Kd.R_reads' HO_10.out).2.1
               have hC70 : Kd.C (Kd.int .u32) _ Ao71 x10_1.length x10_1 := (Kd.R_reads' HO_10.out).2.2
               have hcut70 := cut_to (P := Tryd.prog) 22 51 .i64 Tryd.underlying22 hi070 Ao71 x10_1.length co71 (x1_1.length : Int) (of_decide_eq_true (by first | (with_reducible assumption) | assumption)) q70 hroom70
               have hr70 := Kd.C_take (m := ((x1_1.length : Int) : Int).toNat) hC70 (by omega)
               have hy70 : y216.length = ((x1_1.length : Int) : Int).toNat := (by rw [Ny216.out, List.length_take]; omega)
               rw [← Ny216.out] at hr70
               rw [← hy70] at hcut70
               have HR219 := Aside0.mk hr70
               have HC219 := Aside0.mk (show y216.length ≤ co71 from by omega)
               clear hr70 hC70 hroom70 hi070 hsz70
               have KY70 := Aside0.mk hy70
               clear hy70
               have KL70 := Aside0.mk (show ((x1_1.length : Int) : Int).toNat ≤ x10_1.length from by omega)
               replace q70 := eq_true q70
               refine start_ (n := 11) (S := fun w' => True) (ds := []) #[false, false, false, false, false, false, false, false, false, false, false] (by kernel_rfl) rfl rfl trivial (fun hHeld => ?_); refine with_tabW nat_DivMod.tab16 nat_DivMod.bits16 (fun HT_ HW_ => ?_)
               generalize wr.drew = w69 at HO_1 HO_10 HO_11 HO_12 HB HR219 hHeld ⊢
               refine pure_ (i := 0) (N := some 88) (v := ?_) (a' := ?_) #[true, false, false, false, false, false, false, false, false, false, false] rfl rfl (any_of HT_.out (by kernel_rfl)) (fun _ _ _ h => h) (Or.inl ⟨by rfl, ?_⟩) ?_ ?_
               rotate_left
               ·intro w'
                go_simp
                with_reducible rfl
               rotate_left
               ·simp only [Act.put, List.setIfInBounds_toArray, List.set_cons_zero, List.set_cons_succ, i64_w, i32_w]
                rfl
               refine pure_ (i := 2) (N := some 90) (v := ?_) (a' := ?_) #[true, false, true, false, false, false, false, false, false, false, false] rfl rfl (any_of HT_.out (by kernel_rfl)) (fun _ _ _ h => h) (Or.inl ⟨by rfl, ?_⟩) ?_ ?_
               rotate_left
               ·intro w'
                go_simp
                with_reducible rfl
               rotate_left
               ·simp only [Act.put, List.setIfInBounds_toArray, List.set_cons_zero, List.set_cons_succ, i64_w, i32_w]
                rfl
               refine pure_ (i := 3) (N := some 91) (v := ?_) (a' := ?_) #[true, false, true, true, false, false, false, false, false, false, false] rfl rfl (any_of HT_.out (by kernel_rfl)) (fun _ _ _ h => h) (Or.inl ⟨by rfl, ?_⟩) ?_ ?_
               rotate_left
               ·intro w'
                go_simp
                with_reducible rfl
               rotate_left
               ·simp only [Act.put, List.setIfInBounds_toArray, List.set_cons_zero, List.set_cons_succ, i64_w, i32_w]
                rfl
               refine pure_ (i := 4) (N := some 92) (v := ?_) (a' := ?_) #[true, false, true, true, true, false, false, false, false, false, false] rfl rfl (any_of HT_.out (by kernel_rfl)) (fun _ _ _ h => h) (Or.inl ⟨by rfl, ?_⟩) ?_ ?_
               rotate_left
               ·intro w'
                go_simp
                with_reducible rfl
               rotate_left
               ·simp only [Act.put, List.setIfInBounds_toArray, List.set_cons_zero, List.set_cons_succ, i64_w, i32_w]
                rfl
               refine pure_ (i := 5) (N := some 93) (v := ?_) (a' := ?_) #[true, false, true, true, true, true, false, false, false, false, false] rfl rfl (any_of HT_.out (by kernel_rfl)) (fun _ _ _ h => h) (Or.inl ⟨by rfl, ?_⟩) ?_ ?_
               rotate_left
               ·intro w'
                go_simp
                with_reducible rfl
               rotate_left
               ·simp only [Act.put, List.setIfInBounds_toArray, List.set_cons_zero, List.set_cons_succ, i64_w, i32_w]
                rfl
               refine pure_ (i := 6) (N := some 94) (v := ?_) (a' := ?_) #[true, false, true, true, true, true, true, false, false, false, false] rfl rfl (any_of HT_.out (by kernel_rfl)) (fun _ _ _ h => h) (Or.inl ⟨by rfl, ?_⟩) ?_ ?_
               rotate_left
               ·intro w'
                go_simp
                with_reducible rfl
               rotate_left
               ·simp only [Act.put, List.setIfInBounds_toArray, List.set_cons_zero, List.set_cons_succ, i64_w, i32_w]
                rfl
               refine one_ (i := 1) (N := some 89) #[true, true, true, true, true, true, true, false, false, false, false] rfl rfl (one_of HT_.out (by kernel_rfl)) (by decide) (fun K hK => ?_)
               refine goR Tryd.func60 [.slice Ao52 x12_1.length co52] ?_
               with_reducible refine (nat_Norm.calls _ _ x12_1 t213 _ ?side1 ?side2 A65.out).mono ?_
               (case side1 => exact (Kd.R_reads' HO_12.out).2.2)
               (case side2 => exact (Kd.R_reads' HO_12.out).2.1)
               rintro e w72 ⟨v214, rfl, ho0, hb⟩
               refine ⟨_, rfl, ?_⟩
               have HO215 := Aside0.mk (Kd.R_lower (Kd.R_new' (Kd.R_new' (Kd.R_new' (Kd.R_new' ho0 (Kd.R_lt HO_1.out)) (Kd.R_lt HO_10.out)) (Kd.R_lt HO_11.out)) (Kd.R_lt HO_12.out)) (below_size HB.out))
               replace HO_1 := Aside0.mk (Kd.R_elder' HO_1.out (Kd.R_base ho0) hb)
               replace HO_10 := Aside0.mk (Kd.R_elder' HO_10.out (Kd.R_base ho0) hb)
               replace HO_11 := Aside0.mk (Kd.R_elder' HO_11.out (Kd.R_base ho0) hb)
               replace HO_12 := Aside0.mk (Kd.R_elder' HO_12.out (Kd.R_base ho0) hb)
               replace HR219 := Aside0.mk (Kd.C_below (by repeat (first | (with_reducible exact HR219.out) | (with_reducible refine Kd.C_alloc ?_ _) | (with_reducible refine Kd.C_drewN ?_ _) | (with_reducible refine Kd.C_drew ?_) | exact HR219.out)) hb)
               replace HB := Aside0.mk (below_step HB.out hb)
               (try clear hb)
               (try clear hb2)
               (try clear hk)
               (try clear hi)
               (try clear ho0)
               refine hK.out _ _ trivial (fun hHeld => ?_)
               clear hK K
               refine norm_ (a' := ?_) ?_ ?_
               rotate_left
               ·show Act.put _ (some 89) _ = _
                simp only [Act.put, List.setIfInBounds_toArray, List.set_cons_zero, List.set_cons_succ, i64_w, i32_w]
                rfl
               refine one_ (i := 7) (N := some 95) #[true, true, true, true, true, true, true, true, false, false, false] rfl rfl (one_of HT_.out (by kernel_rfl)) (by decide) (fun K hK => ?_)
               refine goR Tryd.func65 [.slice Ao71 y216.length co71, .int .i64 t193] ?_
               with_reducible refine (nat_right.calls k1 _ _ y216 t193 t220 _ ?side1 ?side2 A68.out).mono ?_
               (case side1 => exact (by repeat (first | (with_reducible exact HR219.out) | (with_reducible refine Kd.C_alloc ?_ _) | (with_reducible refine Kd.C_drewN ?_ _) | (with_reducible refine Kd.C_drew ?_) | exact HR219.out)))
               (case side2 => exact HC219.out)
               rintro e w73 ⟨v221, rfl, ho0, hb⟩
               refine ⟨_, rfl, ?_⟩
               have HO222 := Aside0.mk (Kd.R_lower (Kd.R_new' (Kd.R_new' (Kd.R_new' (Kd.R_new' (Kd.R_new' ho0 (Kd.R_lt HO_1.out)) (Kd.R_lt HO_10.out)) (Kd.R_lt HO_11.out)) (Kd.R_lt HO_12.out)) (Kd.R_lt HO215.out)) (below_size HB.out))
               replace HO215 := Aside0.mk (Kd.R_elder' HO215.out (Kd.R_base ho0) hb)
               replace HR219 := Aside0.mk (Kd.C_below (by repeat (first | (with_reducible exact HR219.out) | (with_reducible refine Kd.C_alloc ?_ _) | (with_reducible refine Kd.C_drewN ?_ _) | (with_reducible refine Kd.C_drew ?_) | exact HR219.out)) hb)
               replace HB := Aside0.mk (below_step HB.out hb)
               (try clear hb)
               (try clear hb2)
               (try clear hk)
               (try clear hi)
               (try clear ho0)
               refine hK.out _ _ trivial (fun hHeld => ?_)
               clear hK K
               refine norm_ (a' := ?_) ?_ ?_
               rotate_left
               ·show Act.put _ (some 95) _ = _
                simp only [Act.put, List.setIfInBounds_toArray, List.set_cons_zero, List.set_cons_succ, i64_w, i32_w]
                rfl
               refine pure_ (i := 8) (N := some 4) (v := ?_) (a' := ?_) #[true, true, true, true, true, true, true, true, true, false, false] rfl rfl (any_of HT_.out (by kernel_rfl)) (fun _ _ _ h => h) (Or.inl ⟨by rfl, ?_⟩) ?_ ?_
               rotate_left
               ·intro w'
                go_simp
                with_reducible rfl
               rotate_left
               ·simp only [Act.put, List.setIfInBounds_toArray, List.set_cons_zero, List.set_cons_succ, i64_w, i32_w]
                rfl
               refine pure_ (i := 9) (N := some 5) (v := ?_) (a' := ?_) #[true, true, true, true, true, true, true, true, true, true, false] rfl rfl (any_of HT_.out (by kernel_rfl)) (fun _ _ _ h => h) (Or.inl ⟨by rfl, ?_⟩) ?_ ?_
               rotate_left
               ·intro w'
                go_simp
                with_reducible rfl
               rotate_left
               ·simp only [Act.put, List.setIfInBounds_toArray, List.set_cons_zero, List.set_cons_succ, i64_w, i32_w]
                rfl
               refine pure_ (i := 10) (N := some 6) (v := ?_) (a' := ?_) #[true, true, true, true, true, true, true, true, true, true, true] rfl rfl (any_of HT_.out (by kernel_rfl)) (fun _ _ _ h => h) (Or.inl ⟨by rfl, ?_⟩) ?_ ?_
               rotate_left
               ·intro w'
                go_simp
                with_reducible rfl
               rotate_left
               ·simp only [Act.put, List.setIfInBounds_toArray, List.set_cons_zero, List.set_cons_succ, i64_w, i32_w]
                rfl
               refine done_ (done_of HT_.out (by kernel_rfl)) ?_
               try go_wp2
               go_ret3
               exact ⟨_, _, by first | rfl | (simp [errW_none, errW_some] <;> rfl) | (simp only [← hji29, ← hji37]; first | rfl | (simp [errW_none, errW_some] <;> rfl)) | (simp [*, errW_none, errW_some] <;> rfl), Kd.R_mono HO215.out (fun _ hk => hk.2), Kd.R_mono HO222.out (fun _ hk => hk.2), HB.out⟩
              ·rw [if_neg c67] at H
               exact absurd H (by simp)
             ·rw [if_neg c66] at H
              exact absurd H (by simp)
         ·rw [if_neg c39] at H
          exact absurd H (by simp)
        ·rw [if_neg c38] at H
         exact absurd H (by simp)
       ·rw [if_neg c36] at H
        exact absurd H (by simp)
      ·rw [if_neg c35] at H
       exact absurd H (by simp)
     ·rw [if_neg c31] at H
      exact absurd H (by simp)
    ·rw [if_neg c30] at H
     exact absurd H (by simp)

end Go.Proofs.YthnfmmaolkenkaaDoor.PA
