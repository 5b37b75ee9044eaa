import Derived.Test.YtlfpnohpcemkgaaDoorWWords
import Derived.Test.YtlfpnohpcemkgaaDoorWLast
import Derived.Test.YtlfpnohpcemkgaaDoorWMore
import Derived.Test.YtlfpnohpcemkgaaDoorProg
import Derived.WalkKit
import Derived.KernelRfl
/- nat.Norm, in the printed shape: a copy without the noughts behind. -/
namespace Go.Proofs.YtlfpnohpcemkgaaDoor.H
open Go.RowKit Go.Proofs.YtlfpnohpcemkgaaDoorW.PrintWords Go.Proofs.YtlfpnohpcemkgaaDoorW.PrintLast

/-- Without the noughts behind. -/
def normL (l : List Int) : List Int := (l.reverse.dropWhile (fun x => x == 0)).reverse
def nat_Norm.f (l0 : List Int) : Option (List Int) := if l0.length ≤ 1000000000000 then some (normL l0) else none
theorem normL_nil : normL [] = [] := rfl
theorem normL_zero (l : List Int) (k : Nat) (h : k < l.length) (h0 : l[k] = 0) : normL (l.take (k + 1)) = normL (l.take k) := by
  unfold normL
  rw [List.take_succ_eq_append_getElem h, List.reverse_append, h0]
  rfl
theorem normL_stop (l : List Int) (k : Nat) (h : k < l.length) (h0 : l[k] ≠ 0) : normL (l.take (k + 1)) = l.take (k + 1) := by
  unfold normL
  rw [List.take_succ_eq_append_getElem h, List.reverse_append]
  have : ([l[k]] : List Int).reverse ++ (l.take k).reverse = l[k] :: (l.take k).reverse := rfl
  rw [this, List.dropWhile_cons_of_neg (by simpa using h0), List.reverse_cons, List.reverse_reverse]
theorem infoU32 : (Tryd.prog.info? 43).map (fun i => (i.zero, i.size, i.bytes)) = some (some (.int .u32 0), 1, 4) := by kernel_rfl
theorem sizeU32 : (Tryd.prog.info? 43).map (·.size) = some 1 := by kernel_rfl
set_option maxHeartbeats 1000000 in
set_option maxRecDepth 100000 in
theorem nat_Norm.calls (A0 : Option Addr) (c0 : Nat) (l0 : List Int) (r : List Int) (w : World) (hr0 : Kd.C (Kd.int .u32) w A0 l0.length l0) (_hc0 : l0.length ≤ c0) (h : nat_Norm.f l0 = some r) :
    Calls Tryd.prog 22 #[.slice A0 l0.length c0] w fun e w' => ∃ v0_ : Value, e = .returned (v0_) ∧ Kd.R (Kd.int .u32) 43 w' w.heap.size (fun _ => True) v0_ r ∧ Below w.heap.size w w' := by
  unfold nat_Norm.f at h
  split at h
  case isFalse => cases h
  case isTrue hlen =>
  have HR0 := Aside0.mk hr0
  have HRES := Aside0.mk (Option.some.inj h)
  have HLEN := Aside0.mk hlen
  clear hr0 h hlen
  go_enter Tryd.func22, Tryd.ntmps22
  go_wp2
  go_loopw [3] (fun v3 wr => ∃ k : Nat, v3 = .int .i64 (k : Int) ∧ wr = w ∧ Aside0 (k ≤ l0.length ∧ normL l0 = normL (l0.take k))) (fun v3 _ => (intOf v3).toNat)
  case atStart => exact ⟨l0.length, rfl, rfl, ⟨Nat.le_refl _, by rw [List.take_length]⟩⟩
  case round =>
    obtain ⟨k, rfl, rfl, HA⟩ := hrel
    have hk := HA.out.1
    have hl := HLEN.out
    cases k with
    | zero =>
      go_wp2_with (first | ((with_reducible refine gate_dst (N := 20) rfl ?_); refine Kd.R_make (Kd.int .u32) _ 43 rfl (N := 20) rfl 22 _ _ rfl (((0 : Nat) : Int)) rfl rfl Tryd.underlying22 (.int .u32 0) 4 infoU32 rfl (by decide) (by omega) 0 (ok := fun _ => True) (okp := fun _ => True) rfl (fun _ hk => hk) trivial (by omega) (by omega) (Below.refl _ _) (Nat.le_refl _) ?_; intro v20 w20 ho hb hg hnew) | ((with_reducible refine gate_builtin (b := .copy) (xs := #[.tmp 21, .tmp 22]) rfl ?_); refine Kd.R_copy (0 : Int) wr.heap.size rfl (.tmp 21) (.tmp 22) 22 22 43 rfl Tryd.underlying22 sizeU32 v20 _ l0 _ l0.length c0 (fun _ => True) rfl rfl ho (Kd.C_below HR0.out hb) hb hb.size ?_; intro w23 ho2 hb2 hg2))
      go_ret
      refine ⟨v20, rfl, ?_, hb2⟩
      have e : l0.take (min l0.length (List.replicate (((0 : Nat) : Int)).toNat (0 : Int)).length) ++ (List.replicate (((0 : Nat) : Int)).toNat (0 : Int)).drop (min l0.length (List.replicate (((0 : Nat) : Int)).toNat (0 : Int)).length) = r := by
        rw [← HRES.out, HA.out.2]
        simp [normL]
      rw [e] at ho2
      exact ho2
    | succ k =>
      have hlt : k < l0.length := hk
      obtain ⟨ad, rfl, hcell⟩ := Kd.at_int HR0.out (k : Int) (by omega) (by omega)
      have hrd : rd l0 (k : Int) = l0[k] := by unfold rd; simp [hlt]
      rw [hrd, Int.toNat_natCast] at hcell
      have hw : IntKind.i64.wrap (((k + 1 : Nat) : Int) - 1) = (k : Int) := by rw [i64_w]; unfold wrap64; omega
      have hkl : (k : Int) < (l0.length : Int) := by omega
      have hk0 : (0 : Int) ≤ (k : Int) := by omega
      have HRD := Aside0.mk hrd
      clear hrd
      have e1 : decide ((0 : Int) < ((k + 1 : Nat) : Int)) = true := decide_eq_true (by omega)
      by_cases hz : l0[k] = 0
      · have e2 : (l0[k] == 0) = true := by simpa using hz
        go_wp2
        go_roundw
        case rel => exact ⟨k, by go_num, trivial, ⟨by omega, by rw [HA.out.2, normL_zero l0 k hlt hz]⟩⟩
        case measure => simp [intOf]
      · have e2 : (l0[k] == 0) = false := by simpa using hz
        go_wp2_with (first | ((with_reducible refine gate_dst (N := 20) rfl ?_); refine Kd.R_make (Kd.int .u32) _ 43 rfl (N := 20) rfl 22 _ _ rfl ((k + 1 : Nat) : Int) rfl rfl Tryd.underlying22 (.int .u32 0) 4 infoU32 rfl (by decide) (by omega) 0 (ok := fun _ => True) (okp := fun _ => True) rfl (fun _ hk => hk) trivial (by omega) (by omega) (Below.refl _ _) (Nat.le_refl _) ?_; intro v20 w20 ho hb hg hnew) | ((with_reducible refine gate_builtin (b := .copy) (xs := #[.tmp 21, .tmp 22]) rfl ?_); refine Kd.R_copy (0 : Int) wr.heap.size rfl (.tmp 21) (.tmp 22) 22 22 43 rfl Tryd.underlying22 sizeU32 v20 _ l0 _ l0.length c0 (fun _ => True) rfl rfl ho (Kd.C_below HR0.out hb) hb hb.size ?_; intro w23 ho2 hb2 hg2))
        go_ret
        refine ⟨v20, rfl, ?_, hb2⟩
        have e : l0.take (min l0.length (List.replicate (((k + 1 : Nat) : Int)).toNat (0 : Int)).length) ++ (List.replicate (((k + 1 : Nat) : Int)).toNat (0 : Int)).drop (min l0.length (List.replicate (((k + 1 : Nat) : Int)).toNat (0 : Int)).length) = r := by
          rw [← HRES.out, HA.out.2, normL_stop l0 k hlt hz, Int.toNat_natCast, List.length_replicate, Nat.min_eq_right hlt, List.drop_eq_nil_of_le (by simp), List.append_nil]
        rw [e] at ho2
        exact ho2
end Go.Proofs.YtlfpnohpcemkgaaDoor.H
