/- Joined by wip/tools/bundle.py for the claim of NatSmall: HTrim, PAx7, HParse, HAwake, PAx16, NatV, NatB, NatY, PAx8, NatL, NatC, PAx17, PAx20, NatR. -/
import Derived.Test.YtlfpnohpcemkgaaDoorJNatSmall2
import Derived.Test.YtlfpnohpcemkgaaDoorJNatSmall1
import Derived.Laws.BitsLemmas
import Derived.Laws.Bits64
import Derived.OpenShut
import Derived.KernelRfl
import Derived.Lib.BitFns
/- strings.TrimLeft of noughts, in the printed shape: the other ways of TrimLeft are not gone. -/
namespace Go.Proofs.YtlfpnohpcemkgaaDoor.H
open Go.RowKit Go.Proofs.YtlfpnohpcemkgaaDoorW.PrintWords Go.Proofs.YtlfpnohpcemkgaaDoorW.PrintLast Go.Proofs.YtlfpnohpcemkgaaDoor.PA

def strings_TrimLeft.f (k : Nat) (a0 a1 : ByteArray) : Option ByteArray := if a1 = ⟨#[48]⟩ then (if a0.toList = ([] : List UInt8) then some a0 else strings_trimLeftByte.f k a0 48) else none
theorem strings_TrimLeft.mono (a0 a1 : ByteArray) (k : Nat) : LeO (strings_TrimLeft.f k a0 a1) (strings_TrimLeft.f (k + 1) a0 a1) := by
  intro r h
  unfold strings_TrimLeft.f at h ⊢
  split at h
  · rename_i h1
    rw [if_pos h1]
    split at h
    · rename_i h2; rw [if_pos h2]; exact h
    · rename_i h2; rw [if_neg h2]; exact strings_trimLeftByte.mono a0 48 k r h
  · cases h
set_option maxHeartbeats 1000000 in
set_option maxRecDepth 100000 in
theorem strings_TrimLeft.calls (k : Nat) (a0 : ByteArray) (a1 : ByteArray) (r : ByteArray) (w : World) (h : strings_TrimLeft.f k a0 a1 = some r) :
    Calls Tryd.prog 47 #[.string a0, .string a1] w fun e w' => e = .returned (.string r) ∧ Drawn0 w w' := by
  unfold strings_TrimLeft.f at h
  by_cases h1 : a1 = ⟨#[48]⟩
  · rw [if_pos h1] at h
    subst h1
    by_cases h2 : a0.toList = ([] : List UInt8)
    · rw [if_pos h2] at h
      obtain rfl := Option.some.inj h
      have e1 : (a0.toList == ([] : List UInt8)) = true := by rw [h2]; rfl
      go_enter Tryd.func47, Tryd.ntmps47
      go_wp2
      go_ret
      exact ⟨rfl, Drawn0.refl _⟩
    · rw [if_neg h2] at h
      have e1 : (a0.toList == ([] : List UInt8)) = false := by simpa using h2
      go_enter Tryd.func47, Tryd.ntmps47
      go_wp2_with (go_at_call 57; refine (strings_trimLeftByte.calls k a0 48 r _ h).mono ?_; rintro e w' ⟨rfl, hd⟩)
      go_ret
      exact ⟨rfl, hd⟩
  · rw [if_neg h1] at h; cases h
end Go.Proofs.YtlfpnohpcemkgaaDoor.H
/- Written by a program of this session, wip/tools/patch_print.py, over the kit's print of the loaded functions. -/
namespace Go.Proofs.YtlfpnohpcemkgaaDoor.H
end Go.Proofs.YtlfpnohpcemkgaaDoor.H
namespace Go.Proofs.YtlfpnohpcemkgaaDoor.PA
open Go.RowKit Go.Proofs.YtlfpnohpcemkgaaDoorW.PrintWords Go.Proofs.YtlfpnohpcemkgaaDoorW.PrintLast Go.Proofs.YtlfpnohpcemkgaaDoorW.PrintMore Go.Proofs.YtlfpnohpcemkgaaDoor.H
attribute [local go_sem] max2_int min2_int max_two min_two max_three min_three max_four min_four   -- for this text's walks alone
set_option linter.unusedVariables false
set_option linter.unusedSimpArgs false

/-! ### nat_Text: function 20 -/
def nat_Text.l0 : Nat → List Int → ByteArray → Option (ByteArray)
  | 0, _, _ => none
  | k + 1, x0, x3 => if (x0.length : Int) > 0 then ((nat_small.f k x0 1000000000).bind fun bt251 => ((nat_nine.f bt251.2).bind fun t255 => (if t255.size + x3.size ≤ 9223372036854775807 then (nat_Text.l0 k bt251.1 (t255 ++ x3)) else (none)))) else ((strings_TrimLeft.f k x3 (⟨#[48]⟩ : ByteArray)).bind fun t256 => (if t256.toList = ([] : List UInt8) then (some (⟨#[48]⟩ : ByteArray)) else (some t256)))
def nat_Text.f (k : Nat) (l0 : List Int) : Option (ByteArray) := (nat_Norm.f l0).bind fun t248 => (nat_Text.l0 k t248 (⟨#[]⟩ : ByteArray))
theorem nat_Text.mono_l : ∀ k, (∀ y0 y1, LeO (nat_Text.l0 k y0 y1) (nat_Text.l0 (k + 1) y0 y1))
  | 0 => fun _ _ r h => by simp [nat_Text.l0] at h
  | k + 1 => by
    have ih0 := nat_Text.mono_l k
    · intro y0 y1
      unfold nat_Text.l0
      repeat' first
      | (with_reducible exact ih0 _ _)
      | (with_reducible exact nat_small.mono _ _ _)
      | (with_reducible exact strings_TrimLeft.mono _ _ _)
      | (with_reducible exact LeO.refl _)
      | (with_reducible exact LeO.none _)
      | (with_reducible refine LeO.ite ?_ ?_)
      | (with_reducible refine LeO.bind ?_ (fun _ => ?_))
      | exact ih0 _ _
      | exact nat_small.mono _ _ _
      | exact strings_TrimLeft.mono _ _ _
      | exact LeO.none _
      | refine LeO.ite ?_ ?_
      | refine LeO.bind ?_ (fun _ => ?_)
theorem nat_Text.mono : ∀ a0 k, LeO (nat_Text.f k a0) (nat_Text.f (k + 1) a0) := by
  intro a0 k
  have ih0 := nat_Text.mono_l k
  unfold nat_Text.f
  repeat' first
      | (with_reducible exact ih0 _ _)
      | (with_reducible exact nat_small.mono _ _ _)
      | (with_reducible exact strings_TrimLeft.mono _ _ _)
      | (with_reducible exact LeO.refl _)
      | (with_reducible exact LeO.none _)
      | (with_reducible refine LeO.ite ?_ ?_)
      | (with_reducible refine LeO.bind ?_ (fun _ => ?_))
      | exact ih0 _ _
      | exact nat_small.mono _ _ _
      | exact strings_TrimLeft.mono _ _ _
      | exact LeO.none _
      | refine LeO.ite ?_ ?_
      | refine LeO.bind ?_ (fun _ => ?_)
set_option maxHeartbeats 8000000 in
set_option maxRecDepth 100000 in
theorem nat_Text.calls (k : Nat) (A0 : Option Addr) (c0 : Nat) (l0 : List Int) (r : ByteArray) (w : World) (hr0 : Kd.C (Kd.int .u32) w A0 l0.length l0) (hc0 : l0.length ≤ c0) (h : nat_Text.f k l0 = some r) :
    Calls Tryd.prog 20 #[.slice A0 l0.length c0] w fun e w' => e = .returned (.string r) ∧ Below w.heap.size w w' := by
  have HR0 := Aside0.mk hr0
  have HC0 := Aside0.mk hc0
  clear hr0 hc0
  have HB := Aside0.mk (Below.refl w.heap.size w)
  have H : ((nat_Norm.f l0).bind fun t248 => (nat_Text.l0 k t248 (⟨#[]⟩ : ByteArray))) = some r := h
  clear h
  replace H := Option.bind_eq_some_iff.mp H
  obtain ⟨t248, A20, H⟩ := H
  replace H : (nat_Text.l0 k t248 (⟨#[]⟩ : ByteArray)) = some r := H
  have A2 := Aside0.mk A20
  clear A20
  have H' := Aside0.mk H
  clear H
  go_enter Tryd.func20, Tryd.ntmps20
  go_wp2_with (first | ((with_reducible refine gate_callee (f := 22) rfl ?_); refine goesL_ (some 7) rfl rfl Tryd.func22 (by kernel_rfl) rfl #[.slice A0 l0.length c0] rfl (by (try simp only [List.map_toArray, List.map_cons, List.map_nil]); first | done | rfl | (simp only [List.length_drop, List.length_take]; rfl)) ?_; (with_reducible refine (nat_Norm.calls _ _ l0 t248 _ ?side1 ?side2 A2.out).mono ?_); (case side1 => repeat (first | exact HR0.out | (with_reducible refine Kd.C_alloc ?_ _) | (with_reducible refine Kd.C_drewN ?_ _) | (with_reducible refine Kd.C_drew ?_))); (case side2 => exact HC0.out); rintro e w3 ⟨v249, rfl, ho0, hb⟩; refine ⟨_, rfl, ?_⟩; have n0_ := Aside0.mk (Kd.R_lower ho0 (below_size (by repeat first | exact HB.out | apply below_alloc | apply pw_below_drewN | apply below_drew1))); have n1_ := Aside0.mk (below_step (by repeat first | exact HB.out | apply below_alloc | apply pw_below_drewN | apply below_drew1) hb); clear HB; have HO250 := n0_; have HB := n1_; clear n0_ n1_))
  go_loopg [0, 3] k (fun kq v0 v3 w' => ∃ (x0_1 : List Int) (x3_1 : ByteArray), v3 = .string x3_1 ∧ Aside0 (nat_Text.l0 kq x0_1 x3_1 = some r) ∧ Aside0 (kq ≤ k) ∧ Aside0 (Kd.R (Kd.int .u32) 43 w' w.heap.size (fun _ => True) v0 x0_1) ∧ Aside0 (Below w.heap.size w w'))
  case atStart => exact ⟨(t248), ((⟨#[]⟩ : ByteArray)), (by first | rfl | (simp; done) | (simp [*]; done) | (refine congrArg (Value.int _) ?_; omega) | (refine congrArg Value.bool ?_; generalize ByteArray.toList _ = z_; cases z_ <;> rfl)), H', ⟨Nat.le_refl _⟩, ⟨by (with_reducible repeat (first | apply Kd.R_alloc | apply Kd.R_drewN | apply Kd.R_drew)); exact HO250.out⟩, ⟨by repeat first | exact HB.out | apply below_alloc | apply pw_below_drewN | apply below_drew1⟩⟩
  case round =>
    clear H'
    try clear c2
    try clear p2
    obtain ⟨x0_1, x3_1, rfl, HA, HK1, HO_0, HB⟩ := hrel
    cases gk with
    | zero => exact absurd HA.out (by simp [nat_Text.l0])
    | succ k1 =>
      have H := HA.out
      clear HA
      simp only [nat_Text.l0] at H
      by_cases c4 : (x0_1.length : Int) > 0
      · rw [if_pos c4] at H
        have c4b0 : decide (0 < (x0_1.length : Int)) = true := decide_eq_true c4
        have c4b1 : decide (0 < x0_1.length) = true := decide_eq_true (by omega)
        clear c4
        replace H := Option.bind_eq_some_iff.mp H
        obtain ⟨⟨t251, t252⟩, A50, H⟩ := H
        replace H : ((nat_nine.f t252).bind fun t255 => (if t255.size + x3_1.size ≤ 9223372036854775807 then (nat_Text.l0 k1 t251 (t255 ++ x3_1)) else (none))) = some r := H
        have A5 := Aside0.mk A50
        clear A50
        replace H := Option.bind_eq_some_iff.mp H
        obtain ⟨t255, A60, H⟩ := H
        replace H : (if t255.size + x3_1.size ≤ 9223372036854775807 then (nat_Text.l0 k1 t251 (t255 ++ x3_1)) else (none)) = some r := H
        have A6 := Aside0.mk A60
        clear A60
        by_cases c7 : t255.size + x3_1.size ≤ 9223372036854775807
        · rw [if_pos c7] at H
          have c7b0 := eq_true c7
          have c7b1 : decide (t255.size + x3_1.size ≤ 9223372036854775807) = true := decide_eq_true c7
          try have c7b2 : (9223372036854775807 < t255.size + x3_1.size) = False := eq_false (Nat.not_lt.2 c7)
          have H' := Aside0.mk H
          clear H
          obtain ⟨Ao8, co8, eo8⟩ := Kd.R_slice HO_0.out
          subst eo8
          go_wp2_with (first | ((with_reducible refine gate_callee (f := 36) rfl ?_); refine goesL_ (some 13) rfl rfl Tryd.func36 (by kernel_rfl) rfl #[.slice Ao8 x0_1.length co8, .int .u64 1000000000] rfl (by (try simp only [List.map_toArray, List.map_cons, List.map_nil]); first | done | rfl | (simp only [List.length_drop, List.length_take]; rfl)) ?_; (with_reducible refine (nat_small.calls k1 _ _ x0_1 1000000000 t251 t252 _ ?side1 ?side2 A5.out).mono ?_); (case side1 => repeat (first | exact (Kd.R_reads' HO_0.out).2.2 | (with_reducible refine Kd.C_alloc ?_ _) | (with_reducible refine Kd.C_drewN ?_ _) | (with_reducible refine Kd.C_drew ?_))); (case side2 => exact (Kd.R_reads' HO_0.out).2.1); rintro e w9 ⟨v253, rfl, ho0, hb⟩; refine ⟨_, rfl, ?_⟩; have n0_ := Aside0.mk (Kd.R_elder' HO_0.out (Kd.R_base ho0) hb); have n1_ := Aside0.mk (Kd.R_lower (Kd.R_new' ho0 (Kd.R_lt HO_0.out)) (below_size (by repeat first | exact HB.out | apply below_alloc | apply pw_below_drewN | apply below_drew1))); have n2_ := Aside0.mk (below_step (by repeat first | exact HB.out | apply below_alloc | apply pw_below_drewN | apply below_drew1) hb); clear HO_0; clear HB; have HO_0 := n0_; have HO254 := n1_; have HB := n2_; clear n0_ n1_ n2_) | ((with_reducible refine gate_callee (f := 46) rfl ?_); refine goesL_ (some 17) rfl rfl Tryd.func46 (by kernel_rfl) rfl #[.int .u64 t252] rfl (by (try simp only [List.map_toArray, List.map_cons, List.map_nil]); first | done | rfl | (simp only [List.length_drop, List.length_take]; rfl)) ?_; (with_reducible refine (nat_nine.calls t252 t255 _ A6.out).mono ?_); rintro e w10 ⟨rfl, hb⟩; refine ⟨_, rfl, ?_⟩; have n0_ := Aside0.mk (Kd.R_below HO_0.out hb); have n1_ := Aside0.mk (Kd.R_below HO254.out hb); have n2_ := Aside0.mk (below_step (by repeat first | exact HB.out | apply below_alloc | apply pw_below_drewN | apply below_drew1) hb); clear HO_0; clear HO254; clear HB; have HO_0 := n0_; have HO254 := n1_; have HB := n2_; clear n0_ n1_ n2_; (try clear hb); (try clear hb2); (try clear hk); (try clear hi)))
          go_roundg k1
          case measure => have := HK1.out; omega
          case rel => exact ⟨(t251), (t255 ++ x3_1), (by first | rfl | (simp; done) | (simp [*]; done) | (refine congrArg (Value.int _) ?_; omega) | (refine congrArg Value.bool ?_; generalize ByteArray.toList _ = z_; cases z_ <;> rfl)), H', ⟨by have := HK1.out; omega⟩, ⟨by (with_reducible repeat (first | apply Kd.R_alloc | apply Kd.R_drewN | apply Kd.R_drew)); exact Kd.R_mono HO254.out (fun _ hk => trivial)⟩, ⟨by repeat first | exact HB.out | apply below_alloc | apply pw_below_drewN | apply below_drew1⟩⟩
        · rw [if_neg c7] at H
          exact absurd H (by simp)
      · rw [if_neg c4] at H
        have c4b0 : decide (0 < (x0_1.length : Int)) = false := decide_eq_false c4
        have c4b1 : decide (0 < x0_1.length) = false := decide_eq_false (by omega)
        clear c4
        replace H := Option.bind_eq_some_iff.mp H
        obtain ⟨t256, A110, H⟩ := H
        replace H : (if t256.toList = ([] : List UInt8) then (some (⟨#[48]⟩ : ByteArray)) else (some t256)) = some r := H
        have A11 := Aside0.mk A110
        clear A110
        by_cases c12 : t256.toList = ([] : List UInt8)
        · rw [if_pos c12] at H
          have c12b0 : (t256.toList == ([] : List UInt8)) = true := beq_iff_eq.mpr c12
          have c12b1 : (t256.toList != ([] : List UInt8)) = false := bne_eq_false_iff_eq.mpr c12
          clear c12
          obtain rfl := Option.some.inj H
          obtain ⟨Ao13, co13, eo13⟩ := Kd.R_slice HO_0.out
          subst eo13
          go_wp2_with (first | ((with_reducible refine gate_callee (f := 47) rfl ?_); refine goesL_ (some 22) rfl rfl Tryd.func47 (by kernel_rfl) rfl #[.string x3_1, .string (⟨#[48]⟩ : ByteArray)] rfl (by (try simp only [List.map_toArray, List.map_cons, List.map_nil]); first | done | rfl | (simp only [List.length_drop, List.length_take]; rfl)) ?_; (with_reducible refine (strings_TrimLeft.calls k1 x3_1 (⟨#[48]⟩ : ByteArray) t256 _ A11.out).mono ?_); rintro e w' ⟨rfl, ⟨nd, rfl⟩⟩; refine ⟨_, rfl, ?_⟩))
          go_ret
          exact ⟨by first | rfl | (simp [errW_none, errW_some] <;> rfl) | (simp [*, errW_none, errW_some] <;> rfl), by repeat first | exact HB.out | apply below_alloc | apply pw_below_drewN | apply below_drew1⟩
        · rw [if_neg c12] at H
          have c12b0 : (t256.toList == ([] : List UInt8)) = false := beq_eq_false_iff_ne.mpr c12
          have c12b1 : (t256.toList != ([] : List UInt8)) = true := bne_iff_ne.mpr c12
          obtain rfl := Option.some.inj H
          obtain ⟨Ao14, co14, eo14⟩ := Kd.R_slice HO_0.out
          subst eo14
          go_wp2_with (first | ((with_reducible refine gate_callee (f := 47) rfl ?_); refine goesL_ (some 22) rfl rfl Tryd.func47 (by kernel_rfl) rfl #[.string x3_1, .string (⟨#[48]⟩ : ByteArray)] rfl (by (try simp only [List.map_toArray, List.map_cons, List.map_nil]); first | done | rfl | (simp only [List.length_drop, List.length_take]; rfl)) ?_; (with_reducible refine (strings_TrimLeft.calls k1 x3_1 (⟨#[48]⟩ : ByteArray) t256 _ A11.out).mono ?_); rintro e w' ⟨rfl, ⟨nd, rfl⟩⟩; refine ⟨_, rfl, ?_⟩))
          go_ret
          exact ⟨by first | rfl | (simp [errW_none, errW_some] <;> rfl) | (simp [*, errW_none, errW_some] <;> rfl), by repeat first | exact HB.out | apply below_alloc | apply pw_below_drewN | apply below_drew1⟩

end Go.Proofs.YtlfpnohpcemkgaaDoor.PA
/- nat.Parse, in the printed shape: the number of a text's digits. -/
namespace Go.Proofs.YtlfpnohpcemkgaaDoor.H
open Go.RowKit Go.Proofs.YtlfpnohpcemkgaaDoorW.PrintWords Go.Proofs.YtlfpnohpcemkgaaDoorW.PrintLast Go.Proofs.YtlfpnohpcemkgaaDoor.PA

/-- The loop over the text's bytes. -/
def nat_Parse.l0 : Nat → ByteArray → List Int → Int → Option (List Int × Int)
  | 0, _, _, _ => none
  | k + 1, s, a, i => if i < (s.size : Int) then (if bt s i < 48 then some ([], 8) else if bt s i > 57 then some ([], 8) else (nat_Mul.f k a [10]).bind fun m => (nat_Add.f k m [bt s i - 48]).bind fun t => nat_Parse.l0 k s t (i + 1)) else (nat_Norm.f a).bind fun t => some (t, 0)
def nat_Parse.f (k : Nat) (s : ByteArray) : Option (List Int × Int) := if s.toList = ([] : List UInt8) then some ([], 8) else if (s.size : Int) > 2000 then some ([], 8) else if bt s 0 = 48 ∧ ¬ s.toList = ([48] : List UInt8) then some ([], 8) else nat_Parse.l0 k s [] 0
theorem nat_Parse.mono_l (s : ByteArray) : ∀ k a i, LeO (nat_Parse.l0 k s a i) (nat_Parse.l0 (k + 1) s a i)
  | 0, _, _, r, h => by simp [nat_Parse.l0] at h
  | k + 1, a, i, r, h => by
    unfold nat_Parse.l0 at h ⊢
    split at h
    · rename_i h1
      rw [if_pos h1]
      split at h
      · rename_i h2; rw [if_pos h2]; exact h
      · rename_i h2
        rw [if_neg h2]
        split at h
        · rename_i h3; rw [if_pos h3]; exact h
        · rename_i h3
          rw [if_neg h3]
          obtain ⟨m, hm, h⟩ := Option.bind_eq_some_iff.1 h
          obtain ⟨t, ht, h⟩ := Option.bind_eq_some_iff.1 h
          rw [nat_Mul.mono _ _ k m hm, Option.bind_some, nat_Add.mono _ _ k t ht, Option.bind_some]
          exact nat_Parse.mono_l s k t (i + 1) r h
    · rename_i h1; rw [if_neg h1]; exact h
theorem nat_Parse.mono (s : ByteArray) (k : Nat) : LeO (nat_Parse.f k s) (nat_Parse.f (k + 1) s) := by
  intro r h
  unfold nat_Parse.f at h ⊢
  split at h
  · rename_i h1; rw [if_pos h1]; exact h
  · rename_i h1
    rw [if_neg h1]
    split at h
    · rename_i h2; rw [if_pos h2]; exact h
    · rename_i h2
      rw [if_neg h2]
      split at h
      · rename_i h3; rw [if_pos h3]; exact h
      · rename_i h3; rw [if_neg h3]; exact nat_Parse.mono_l s k [] 0 r h
theorem below_frozen {b : Nat} {W0 W : World} (h : Below b W0 W) {p : Addr} (hp : b ≤ p.block) (n : Nat) : Below b W0 (W.freeze p n) := by
  by_cases hn : n = 0
  · simp only [World.freeze, hn, if_true]; exact h
  · refine ⟨?_, ?_, ?_, ?_, fun i hi => ?_⟩
    · simp only [World.freeze, hn, if_false]; exact h.os
    · simp only [World.freeze, hn, if_false]; exact h.tape
    · simp only [World.freeze, hn, if_false]; exact h.output
    · have := h.size
      simp only [World.freeze, hn, if_false, Array.size_modify]
      exact this
    · have := h.block i hi
      simp only [World.freeze, hn, if_false]
      rw [Array.getElem?_modify, if_neg (by omega)]
      exact this
theorem conv_run (W : World) (s : ByteArray) : (convert 9 54 (.string s)).run Tryd.prog W = .ok (.slice (some ⟨W.heap.size, 0, none⟩) s.size (grownCap W s.size 0 5)) (Lib.bytesWorld W 5 s) :=
  Lib.run_convert_string_bytes W 9 54 5 s Tryd.underlying9 Tryd.underlying54 Tryd.underlying5
theorem bytesWorld_below {W0 W : World} {b : Nat} (h : Below b W0 W) (hb : b ≤ W.heap.size) (e : TypeId) (s : ByteArray) : Below b W0 (Lib.bytesWorld W e s) := by
  unfold Lib.bytesWorld
  exact below_frozen ((below_drew1 h).alloc (by simpa using hb) _) (by simpa using hb) _
theorem bytesWorld_C (W : World) (s : ByteArray) (h : s.size ≤ 2000) : Kd.C (Kd.int .u8) (Lib.bytesWorld W 5 s) (some ⟨W.heap.size, 0, none⟩) (bytesOf s).length (bytesOf s) := by
  refine ⟨rfl, by rw [bytesOf_length]; omega, fun _ => ⟨_, rfl, fun j p hp => ⟨[.int .u8 p], rfl, rfl, fun i u hu => ?_⟩⟩⟩
  have hi0 : i = 0 := by
    rcases i with _ | i
    · rfl
    · simp at hu
  subst hi0
  have hu' : Value.int .u8 p = u := by simpa using hu
  subst hu'
  obtain ⟨hj, rfl⟩ := List.getElem?_eq_some_iff.1 hp
  have hjs : j < s.size := by rw [← bytesOf_length]; exact hj
  have e : (⟨W.heap.size, 0, none⟩ : Addr).add (j * (Kd.int .u8).sz + 0) = ⟨W.heap.size, j, none⟩ := by
    rw [add_plain]; simp [Kd.int, Kd.scalar]
  rw [e, Lib.bytesWorld_cell W _ s j hjs]
  simp [bytesOf, List.getD_eq_getElem?_getD, hjs]
set_option maxHeartbeats 4000000 in
set_option maxRecDepth 100000 in
theorem nat_Parse.calls (k : Nat) (a0 : ByteArray) (r1 : List Int) (r2 : Int) (w : World) (h : nat_Parse.f k a0 = some (r1, r2)) :
    Calls Tryd.prog 18 #[.string a0] w fun e w' => ∃ v0_ : Value, e = .returned (.tuple #[v0_, .int .i64 r2]) ∧ Kd.R (Kd.int .u32) 43 w' w.heap.size (fun _ => True) v0_ r1 ∧ Below w.heap.size w w' := by
  have HB := Aside0.mk (Below.refl w.heap.size w)
  unfold nat_Parse.f at h
  by_cases c3 : a0.toList = ([] : List UInt8)
  · rw [if_pos c3] at h
    obtain ⟨rfl, rfl⟩ := Prod.mk.inj (Option.some.inj h)
    have c3b0 : (a0.toList == ([] : List UInt8)) = true := beq_iff_eq.mpr c3
    clear c3
    go_enter Tryd.func18, Tryd.ntmps18
    go_wp2
    go_ret2
    exact ⟨_, rfl, Kd.R_nil _ _ _ _ _, HB.out⟩
  · rw [if_neg c3] at h
    have hs0 : a0.size ≠ 0 := by
      intro e
      apply c3
      rw [Lib.toList_data]
      exact List.eq_nil_of_length_eq_zero (by rw [data_length]; exact e)
    have c3b0 : (a0.toList == ([] : List UInt8)) = false := beq_eq_false_iff_ne.mpr c3
    clear c3
    by_cases c4 : (a0.size : Int) > 2000
    · rw [if_pos c4] at h
      obtain ⟨rfl, rfl⟩ := Prod.mk.inj (Option.some.inj h)
      have c4b0 : decide (2000 < (a0.size : Int)) = true := decide_eq_true c4
      have c4b1 : decide (2000 < a0.size) = true := decide_eq_true (by omega)
      clear c4 hs0
      go_enter Tryd.func18, Tryd.ntmps18
      go_wp2
      go_ret2
      exact ⟨_, rfl, Kd.R_nil _ _ _ _ _, HB.out⟩
    · rw [if_neg c4] at h
      have hsz : a0.size ≤ 2000 := by omega
      have c4b0 : decide (2000 < (a0.size : Int)) = false := decide_eq_false c4
      have c4b1 : decide (2000 < a0.size) = false := decide_eq_false (by omega)
      clear c4
      have q6 : (0 < a0.size) = True := eq_true (by omega)
      have qi6 : (0 < (a0.size : Int)) = True := eq_true (by omega)
      have hx6 : ∀ h : 0 < a0.size, ((a0[0]'h).toNat : Int) = bt a0 0 := bt_at a0 0
      clear hs0
      by_cases c5 : bt a0 0 = 48 ∧ ¬ a0.toList = ([48] : List UInt8)
      · rw [if_pos c5] at h
        obtain ⟨rfl, rfl⟩ := Prod.mk.inj (Option.some.inj h)
        have c5b0 : ((bt a0 0) == 48) = true := beq_iff_eq.mpr c5.1
        have c5b1 : (a0.toList != ([48] : List UInt8)) = true := bne_iff_ne.mpr c5.2
        have c5b2 : (a0.toList == ([48] : List UInt8)) = false := beq_eq_false_iff_ne.mpr c5.2
        clear c5 hsz
        go_enter Tryd.func18, Tryd.ntmps18
        go_wp2
        go_ret2
        exact ⟨_, rfl, Kd.R_nil _ _ _ _ _, HB.out⟩
      · rw [if_neg c5] at h
        have H' := Aside0.mk h
        have HSZ := Aside0.mk hsz
        clear h hsz
        have c5c : (bt a0 0 == 48) = false ∨ ((bt a0 0 == 48) = true ∧ (a0.toList == ([48] : List UInt8)) = true ∧ (a0.toList != ([48] : List UInt8)) = false) := by
          by_cases z : bt a0 0 = 48
          · right
            have z2 : a0.toList = ([48] : List UInt8) := by
              by_cases z2 : a0.toList = ([48] : List UInt8)
              · exact z2
              · exact absurd ⟨z, z2⟩ c5
            exact ⟨beq_iff_eq.mpr z, beq_iff_eq.mpr z2, bne_eq_false_iff_eq.mpr z2⟩
          · left; exact beq_eq_false_iff_ne.mpr z
        clear c5
        have hcv := conv_run w a0
        rcases c5c with c5b | ⟨c5b, c5d, c5e⟩
        all_goals
          go_enter Tryd.func18, Tryd.ntmps18
          go_wp2
          clear hcv
          have HC := Aside0.mk (bytesWorld_C w a0 HSZ.out)
          have HB1 := Aside0.mk (bytesWorld_below HB.out (Nat.le_refl _) 5 a0)
          generalize Lib.bytesWorld w 5 a0 = wB at HC HB1 ⊢
          generalize grownCap w a0.size 0 5 = cB
          generalize w.heap.size = gB at HC
          clear HB q6 qi6 hx6
          go_loopg [4, 26] k (fun kq v4 v26 w' => ∃ (a : List Int) (i : Nat), v26 = .int .i64 (i : Int) ∧ Aside0 (nat_Parse.l0 kq a0 a (i : Int) = some (r1, r2)) ∧ Aside0 (kq ≤ k) ∧ Aside0 (i ≤ a0.size) ∧ Aside0 (Kd.R (Kd.int .u32) 43 w' w.heap.size (fun _ => True) v4 a) ∧ Aside0 (Kd.C (Kd.int .u8) w' (some ⟨gB, 0, none⟩) (bytesOf a0).length (bytesOf a0)) ∧ Aside0 (Below w.heap.size w w'))
          case atStart => exact ⟨[], 0, rfl, H', ⟨Nat.le_refl _⟩, ⟨Nat.zero_le _⟩, ⟨Kd.R_nil _ _ _ _ _⟩, HC, HB1⟩
          case round =>
            clear H'
            obtain ⟨a, i, rfl, HA, HK, HI, HO, HC, HB⟩ := hrel
            cases gk with
            | zero => exact absurd HA.out (by simp [nat_Parse.l0])
            | succ k1 =>
              have H := HA.out
              clear HA
              simp only [nat_Parse.l0] at H
              by_cases c1 : (i : Int) < (a0.size : Int)
              · rw [if_pos c1] at H
                have hin : i < a0.size := by omega
                obtain ⟨ad, had, hcell⟩ := Kd.at_int HC.out (i : Int) (by omega) (by rw [bytesOf_length]; omega)
                injection had with had
                subst had
                rw [rd_bytesOf, Int.toNat_natCast, add_plain] at hcell
                have c1b : decide ((i : Int) < (a0.size : Int)) = true := decide_eq_true c1
                have c1n : decide (i < a0.size) = true := decide_eq_true hin
                have hbr := bt_range a0 (i : Int)
                have hkl : (i : Int) < (a0.size : Int) := c1
                have hk0 : (0 : Int) ≤ (i : Int) := by omega
                clear c1
                by_cases c2 : bt a0 (i : Int) < 48
                · rw [if_pos c2] at H
                  obtain ⟨rfl, rfl⟩ := Prod.mk.inj (Option.some.inj H)
                  have c2b : decide (bt a0 (i : Int) < 48) = true := decide_eq_true c2
                  clear c2 H hbr hin
                  go_wp2
                  go_ret2
                  exact ⟨_, rfl, Kd.R_nil _ _ _ _ _, HB.out⟩
                · rw [if_neg c2] at H
                  have c2b : decide (bt a0 (i : Int) < 48) = false := decide_eq_false c2
                  by_cases c3 : bt a0 (i : Int) > 57
                  · rw [if_pos c3] at H
                    obtain ⟨rfl, rfl⟩ := Prod.mk.inj (Option.some.inj H)
                    have c3b : decide (57 < bt a0 (i : Int)) = true := decide_eq_true c3
                    clear c2 c3 H hbr hin
                    go_wp2
                    go_ret2
                    exact ⟨_, rfl, Kd.R_nil _ _ _ _ _, HB.out⟩
                  · rw [if_neg c3] at H
                    have c3b : decide (57 < bt a0 (i : Int)) = false := decide_eq_false c3
                    obtain ⟨y1, hy1⟩ : ∃ y_ : List Int, y_ = [10] := ⟨_, rfl⟩
                    obtain ⟨y2, hy2⟩ : ∃ y_ : List Int, y_ = [bt a0 (i : Int) - 48] := ⟨_, rfl⟩
                    rw [← hy1, ← hy2] at H
                    obtain ⟨m, HM, H⟩ := Option.bind_eq_some_iff.1 H
                    obtain ⟨t, HT, H⟩ := Option.bind_eq_some_iff.1 H
                    have NY1 := Aside0.mk hy1
                    have NY2 := Aside0.mk hy2
                    have HM1 := Aside0.mk HM
                    have HT1 := Aside0.mk HT
                    have H1 := Aside0.mk H
                    have hlo : 48 ≤ bt a0 (i : Int) := by omega
                    have hhi : bt a0 (i : Int) ≤ 57 := by omega
                    have hi2 : (i : Int) < 2000 := by have := HSZ.out; omega
                    have HIN := Aside0.mk hin
                    clear hy1 hy2 HM HT H c2 c3 hbr hin
                    obtain ⟨A4, c4, rfl⟩ := Kd.R_slice HO.out
                    go_wp2_with (first | ((with_reducible refine gate_dst (N := 37) rfl ?_); refine Kd.R_lit (Kd.int .u32) _ 43 ?hg (N := 37) ?hd (xs := ([10] : List Int)) (inner := [.int .u32 (10)]) (ok := fun _ => True) (okp := fun _ => True) ?hr ?hp (fun _ hk => hk) trivial (Below.refl _ _) (Nat.le_refl _) (by simp) ?_; (case hd => rfl); (case hg => rfl); (case hr => first | (go_simp; done) | (go_simp; rfl)); (case hp => exact (Reps.one (show Kd.M (Kd.int .u32) _ _ _ (10) [.int .u32 (10)] from rfl) (Reps.none _ _))); intro v1 w1 ho1 hb1 hg_ hnew_; clear hg_ hnew_; rw [← NY1.out] at ho1; have n0 := Aside0.mk (Kd.R_mono (ok' := fun _ => True) (Kd.R_elder' HO.out (Kd.R_base ho1) hb1) (fun _ _ => trivial)); have n1 := Aside0.mk ho1; have n2 := Aside0.mk (Kd.C_below HC.out hb1); have n3 := Aside0.mk (below_step HB.out hb1); clear HO HC HB hb1 ho1; obtain ⟨A1, d1, rfl⟩ := Kd.R_slice n1.out) | ((with_reducible refine gate_callee (f := 25) rfl ?_); refine goesL_ (some 38) rfl rfl Tryd.func25 (by kernel_rfl) rfl #[.slice A4 a.length c4, .slice A1 y1.length d1] rfl (by (try simp only [List.map_toArray, List.map_cons, List.map_nil]); first | done | rfl) ?_; (with_reducible refine (nat_Mul.calls k1 _ _ a _ _ y1 m _ ?s1 ?s2 ?s3 ?s4 HM1.out).mono ?_); (case s1 => exact (Kd.R_reads' n0.out).2.2); (case s2 => exact (Kd.R_reads' n0.out).2.1); (case s3 => exact (Kd.R_reads' n1.out).2.2); (case s4 => exact (Kd.R_reads' n1.out).2.1); rintro e w2 ⟨v2, rfl, ho2, hb2⟩; refine ⟨_, rfl, ?_⟩; have m1 := Aside0.mk ho2; have m2 := Aside0.mk (Kd.C_below n2.out hb2); have m3 := Aside0.mk (below_step n3.out hb2); clear n0 n1 n2 n3 hb2 ho2; obtain ⟨A2, d2, rfl⟩ := Kd.R_slice m1.out) | ((with_reducible refine gate_dst (N := 42) rfl ?_); refine Kd.R_lit (Kd.int .u32) _ 43 ?hg (N := 42) ?hd (xs := ([bt a0 (i : Int) - 48] : List Int)) (inner := [.int .u32 (bt a0 (i : Int) - 48)]) (ok := fun _ => True) (okp := fun _ => True) ?hr ?hp (fun _ hk => hk) trivial (Below.refl _ _) (Nat.le_refl _) (by simp) ?_; (case hd => rfl); (case hg => rfl); (case hr => first | (go_simp; done) | (go_simp; rfl)); (case hp => exact (Reps.one (show Kd.M (Kd.int .u32) _ _ _ (bt a0 (i : Int) - 48) [.int .u32 (bt a0 (i : Int) - 48)] from rfl) (Reps.none _ _))); intro v3 w3 ho3 hb3 hg_ hnew_; clear hg_ hnew_; rw [← NY2.out] at ho3; have p0 := Aside0.mk (Kd.R_mono (ok' := fun _ => True) (Kd.R_elder' m1.out (Kd.R_base ho3) hb3) (fun _ _ => trivial)); have p1 := Aside0.mk ho3; have p2 := Aside0.mk (Kd.C_below m2.out hb3); have p3 := Aside0.mk (below_step m3.out hb3); clear m1 m2 m3 hb3 ho3; obtain ⟨A3, d3, rfl⟩ := Kd.R_slice p1.out) | ((with_reducible refine gate_callee (f := 24) rfl ?_); refine goesL_ (some 43) rfl rfl Tryd.func24 (by kernel_rfl) rfl #[.slice A2 m.length d2, .slice A3 y2.length d3] rfl (by (try simp only [List.map_toArray, List.map_cons, List.map_nil]); first | done | rfl) ?_; (with_reducible refine (nat_Add.calls k1 _ _ m _ _ y2 t _ ?s1 ?s2 ?s3 ?s4 HT1.out).mono ?_); (case s1 => exact (Kd.R_reads' p0.out).2.2); (case s2 => exact (Kd.R_reads' p0.out).2.1); (case s3 => exact (Kd.R_reads' p1.out).2.2); (case s4 => exact (Kd.R_reads' p1.out).2.1); rintro e w4 ⟨v4, rfl, ho4, hb4⟩; refine ⟨_, rfl, ?_⟩; have q1 := Aside0.mk (Kd.R_lower ho4 (below_size p3.out)); have q2 := Aside0.mk (Kd.C_below p2.out hb4); have q3 := Aside0.mk (below_step p3.out hb4); clear p0 p1 p2 p3 hb4 ho4))
                    go_roundg k1
                    case measure => have := HK.out; omega
                    case rel => exact ⟨t, i + 1, by go_num, H1, ⟨by have := HK.out; omega⟩, ⟨HIN.out⟩, q1, q2, q3⟩
              · rw [if_neg c1] at H
                obtain ⟨t, HT, H⟩ := Option.bind_eq_some_iff.1 H
                obtain ⟨rfl, rfl⟩ := Prod.mk.inj (Option.some.inj H)
                have HT1 := Aside0.mk HT
                have c1b : decide ((i : Int) < (a0.size : Int)) = false := decide_eq_false c1
                have c1n : decide (i < a0.size) = false := decide_eq_false (by omega)
                clear c1 H HT
                obtain ⟨A4, c4, rfl⟩ := Kd.R_slice HO.out
                go_wp2_with (first | ((with_reducible refine gate_callee (f := 22) rfl ?_); refine goesL_ (some 46) rfl rfl Tryd.func22 (by kernel_rfl) rfl #[.slice A4 a.length c4] rfl (by (try simp only [List.map_toArray, List.map_cons, List.map_nil]); first | done | rfl) ?_; (with_reducible refine (nat_Norm.calls _ _ a t _ ?s1 ?s2 HT1.out).mono ?_); (case s1 => exact (Kd.R_reads' HO.out).2.2); (case s2 => exact (Kd.R_reads' HO.out).2.1); rintro e w2 ⟨v2, rfl, ho2, hb2⟩; refine ⟨_, rfl, ?_⟩; have q1 := Aside0.mk (Kd.R_lower ho2 (below_size HB.out)); have q3 := Aside0.mk (below_step HB.out hb2); clear hb2 ho2))
                go_ret2
                exact ⟨_, rfl, q1.out, q3.out⟩
end Go.Proofs.YtlfpnohpcemkgaaDoor.H
/- gudgeonlaw01.awake, in the printed shape: the chapter's examples hold (written by wip/tools/straight.py). -/
namespace Go.Proofs.YtlfpnohpcemkgaaDoor.H
open Go.RowKit Go.Proofs.YtlfpnohpcemkgaaDoorW.PrintWords Go.Proofs.YtlfpnohpcemkgaaDoorW.PrintLast Go.Proofs.YtlfpnohpcemkgaaDoor.PA
def gudgeonlaw01_awake.f : Option Bool := some true
theorem row_of {v : Value} {w : World} {b : Nat} {ok : Nat → Prop} {l : List Int} (h : Kd.R (Kd.int .u32) 43 w b ok v l) : ∃ A c, v = .slice A l.length c ∧ Kd.C (Kd.int .u32) w A l.length l ∧ l.length ≤ c := by
  obtain ⟨A, c, rfl⟩ := Kd.R_slice h
  exact ⟨A, c, rfl, (Kd.R_reads' h).2.2, (Kd.R_reads' h).2.1⟩
set_option maxHeartbeats 4000000 in
set_option maxRecDepth 100000 in
theorem gudgeonlaw01_awake.calls (r : Bool) (w : World) (h : gudgeonlaw01_awake.f = some r) :
    Calls Tryd.prog 11 #[] w fun e w' => e = .returned (.bool r) ∧ Below w.heap.size w w' := by
  obtain rfl : true = r := Option.some.inj h
  clear h
  have HB := Aside0.mk (Below.refl w.heap.size w)
  obtain ⟨a1, ha1⟩ : ∃ y_ : List Int, y_ = [4294967295] := ⟨_, rfl⟩
  obtain ⟨a2, ha2⟩ : ∃ y_ : List Int, y_ = [1] := ⟨_, rfl⟩
  obtain ⟨s, hs⟩ : ∃ y_ : List Int, y_ = [0, 1] := ⟨_, rfl⟩
  obtain ⟨b1, hb1⟩ : ∃ y_ : List Int, y_ = [100] := ⟨_, rfl⟩
  obtain ⟨b2, hb2⟩ : ∃ y_ : List Int, y_ = [7] := ⟨_, rfl⟩
  obtain ⟨q, hq⟩ : ∃ y_ : List Int, y_ = [14] := ⟨_, rfl⟩
  obtain ⟨r, hr⟩ : ∃ y_ : List Int, y_ = [2] := ⟨_, rfl⟩
  obtain ⟨z, hz⟩ : ∃ y_ : List Int, y_ = [] := ⟨_, rfl⟩
  obtain ⟨d1, hd1⟩ : ∃ y_ : List Int, y_ = [12] := ⟨_, rfl⟩
  obtain ⟨d2, hd2⟩ : ∃ y_ : List Int, y_ = [18] := ⟨_, rfl⟩
  obtain ⟨g, hg⟩ : ∃ y_ : List Int, y_ = [6] := ⟨_, rfl⟩
  obtain ⟨e1, he1⟩ : ∃ y_ : List Int, y_ = [0, 1] := ⟨_, rfl⟩
  obtain ⟨e2, he2⟩ : ∃ y_ : List Int, y_ = [14] := ⟨_, rfl⟩
  obtain ⟨e3, he3⟩ : ∃ y_ : List Int, y_ = [2] := ⟨_, rfl⟩
  obtain ⟨e4, he4⟩ : ∃ y_ : List Int, y_ = [6] := ⟨_, rfl⟩
  obtain ⟨f1, hf1⟩ : ∃ y_ : List Int, y_ = [0, 1] := ⟨_, rfl⟩
  have E1 : Aside0 (nat_Add.f 40 a1 a2 = some s) := ⟨by rw [ha1, ha2, hs]; kernel_rfl⟩
  have E2 : Aside0 (nat_DivMod.f 40 b1 b2 = some (q, r, 0)) := ⟨by rw [hb1, hb2, hq, hr]; kernel_rfl⟩
  have E3 : Aside0 (nat_Parse.f 40 (⟨#[48, 48, 55]⟩ : ByteArray) = some (z, 8)) := ⟨by rw [hz]; kernel_rfl⟩
  have E4 : Aside0 (nat_Gcd.f 40 d1 d2 = some g) := ⟨by rw [hd1, hd2, hg]; kernel_rfl⟩
  have E5 : Aside0 (gudgeonref01_Same.f 40 s e1 = some true) := ⟨by rw [hs, he1]; kernel_rfl⟩
  have E6 : Aside0 (gudgeonref01_Same.f 40 q e2 = some true) := ⟨by rw [hq, he2]; kernel_rfl⟩
  have E7 : Aside0 (gudgeonref01_Same.f 40 r e3 = some true) := ⟨by rw [hr, he3]; kernel_rfl⟩
  have E8 : Aside0 (gudgeonref01_Same.f 40 g e4 = some true) := ⟨by rw [hg, he4]; kernel_rfl⟩
  have E9 : Aside0 (nat_Text.f 40 f1 = some (⟨#[52, 50, 57, 52, 57, 54, 55, 50, 57, 54]⟩ : ByteArray)) := ⟨by rw [hf1]; kernel_rfl⟩
  have HY := Aside0.mk (show a1 = [4294967295] ∧ a2 = [1] ∧ b1 = [100] ∧ b2 = [7] ∧ d1 = [12] ∧ d2 = [18] ∧ e1 = [0, 1] ∧ e2 = [14] ∧ e3 = [2] ∧ e4 = [6] ∧ f1 = [0, 1] from ⟨ha1, ha2, hb1, hb2, hd1, hd2, he1, he2, he3, he4, hf1⟩)
  clear ha1 ha2 hs hb1 hb2 hq hr hz hd1 hd2 hg he1 he2 he3 he4 hf1
  go_enter Tryd.func11, Tryd.ntmps11
  go_wp2_with (first
    | ((with_reducible refine gate_dst (N := 12) rfl ?_); (try (refine gate_guard (by rfl) ?_; dsimp only)); refine Kd.R_lit (Kd.int .u32) _ 43 ?hg (N := 12) ?hd (xs := ([4294967295] : List Int)) (inner := [.int .u32 4294967295]) (ok := fun _ => True) (okp := fun _ => True) ?hr ?hp (fun _ hk => hk) trivial (Below.refl _ _) (Nat.le_refl _) (by simp) ?_; (case hd => rfl); (case hg => rfl); (case hr => first | (go_simp; done) | (go_simp; rfl)); (case hp => exact (Reps.one (show Kd.M (Kd.int .u32) _ _ _ 4294967295 [.int .u32 4294967295] from rfl) (Reps.none _ _))); intro v w1 ho hb hg_ hnew_; clear hg_ hnew_; rw [← HY.out.1] at ho; obtain ⟨Aa1, ca1, rfl, hc_, hl_⟩ := row_of ho; have Ca1 := Aside0.mk hc_; have La1 := Aside0.mk hl_; clear hc_ hl_ ho; have n_ := Aside0.mk (below_step HB.out hb); clear HB; have HB := n_; clear n_ hb)
    | ((with_reducible refine gate_dst (N := 13) rfl ?_); (try (refine gate_guard (by rfl) ?_; dsimp only)); refine Kd.R_lit (Kd.int .u32) _ 43 ?hg (N := 13) ?hd (xs := ([1] : List Int)) (inner := [.int .u32 1]) (ok := fun _ => True) (okp := fun _ => True) ?hr ?hp (fun _ hk => hk) trivial (Below.refl _ _) (Nat.le_refl _) (by simp) ?_; (case hd => rfl); (case hg => rfl); (case hr => first | (go_simp; done) | (go_simp; rfl)); (case hp => exact (Reps.one (show Kd.M (Kd.int .u32) _ _ _ 1 [.int .u32 1] from rfl) (Reps.none _ _))); intro v w2 ho hb hg_ hnew_; clear hg_ hnew_; rw [← HY.out.2.1] at ho; obtain ⟨Aa2, ca2, rfl, hc_, hl_⟩ := row_of ho; have Ca2 := Aside0.mk hc_; have La2 := Aside0.mk hl_; clear hc_ hl_ ho; have n_a1 := Aside0.mk (Kd.C_below Ca1.out hb); clear Ca1; have Ca1 := n_a1; clear n_a1; have n_ := Aside0.mk (below_step HB.out hb); clear HB; have HB := n_; clear n_ hb)
    | (go_at_call 24; (with_reducible refine (nat_Add.calls 40 _ _ a1 _ _ a2 s _ ?s0 ?t0 ?s1 ?t1 E1.out).mono ?_); (case s0 => exact Ca1.out); (case t0 => exact La1.out); (case s1 => exact Ca2.out); (case t1 => exact La2.out); rintro e w3 ⟨v, rfl, ho, hb⟩; obtain ⟨As, cs, rfl, hc_, hl_⟩ := row_of ho; have Cs := Aside0.mk hc_; have Ls := Aside0.mk hl_; clear hc_ hl_ ho; have n_ := Aside0.mk (below_step HB.out hb); clear HB; have HB := n_; clear n_ hb)
    | ((with_reducible refine gate_dst (N := 16) rfl ?_); (try (refine gate_guard (by rfl) ?_; dsimp only)); refine Kd.R_lit (Kd.int .u32) _ 43 ?hg (N := 16) ?hd (xs := ([100] : List Int)) (inner := [.int .u32 100]) (ok := fun _ => True) (okp := fun _ => True) ?hr ?hp (fun _ hk => hk) trivial (Below.refl _ _) (Nat.le_refl _) (by simp) ?_; (case hd => rfl); (case hg => rfl); (case hr => first | (go_simp; done) | (go_simp; rfl)); (case hp => exact (Reps.one (show Kd.M (Kd.int .u32) _ _ _ 100 [.int .u32 100] from rfl) (Reps.none _ _))); intro v w4 ho hb hg_ hnew_; clear hg_ hnew_; rw [← HY.out.2.2.1] at ho; obtain ⟨Ab1, cb1, rfl, hc_, hl_⟩ := row_of ho; have Cb1 := Aside0.mk hc_; have Lb1 := Aside0.mk hl_; clear hc_ hl_ ho; have n_s := Aside0.mk (Kd.C_below Cs.out hb); clear Cs; have Cs := n_s; clear n_s; have n_ := Aside0.mk (below_step HB.out hb); clear HB; have HB := n_; clear n_ hb)
    | ((with_reducible refine gate_dst (N := 17) rfl ?_); (try (refine gate_guard (by rfl) ?_; dsimp only)); refine Kd.R_lit (Kd.int .u32) _ 43 ?hg (N := 17) ?hd (xs := ([7] : List Int)) (inner := [.int .u32 7]) (ok := fun _ => True) (okp := fun _ => True) ?hr ?hp (fun _ hk => hk) trivial (Below.refl _ _) (Nat.le_refl _) (by simp) ?_; (case hd => rfl); (case hg => rfl); (case hr => first | (go_simp; done) | (go_simp; rfl)); (case hp => exact (Reps.one (show Kd.M (Kd.int .u32) _ _ _ 7 [.int .u32 7] from rfl) (Reps.none _ _))); intro v w5 ho hb hg_ hnew_; clear hg_ hnew_; rw [← HY.out.2.2.2.1] at ho; obtain ⟨Ab2, cb2, rfl, hc_, hl_⟩ := row_of ho; have Cb2 := Aside0.mk hc_; have Lb2 := Aside0.mk hl_; clear hc_ hl_ ho; have n_s := Aside0.mk (Kd.C_below Cs.out hb); clear Cs; have Cs := n_s; clear n_s; have n_b1 := Aside0.mk (Kd.C_below Cb1.out hb); clear Cb1; have Cb1 := n_b1; clear n_b1; have n_ := Aside0.mk (below_step HB.out hb); clear HB; have HB := n_; clear n_ hb)
    | (go_at_call 13; (with_reducible refine (nat_DivMod.calls 40 _ _ b1 _ _ b2 q r 0 _ ?s0 ?t0 ?s1 ?t1 E2.out).mono ?_); (case s0 => exact Cb1.out); (case t0 => exact Lb1.out); (case s1 => exact Cb2.out); (case t1 => exact Lb2.out); rintro e w6 ⟨v, v', rfl, ho, ho', hb⟩; obtain ⟨Aq, cq, rfl, hc_, hl_⟩ := row_of ho; have Cq := Aside0.mk hc_; have Lq := Aside0.mk hl_; clear hc_ hl_ ho; obtain ⟨Ar, cr, rfl, hc_, hl_⟩ := row_of ho'; have Cr := Aside0.mk hc_; have Lr := Aside0.mk hl_; clear hc_ hl_ ho'; have n_s := Aside0.mk (Kd.C_below Cs.out hb); clear Cs; have Cs := n_s; clear n_s; have n_ := Aside0.mk (below_step HB.out hb); clear HB; have HB := n_; clear n_ hb)
    | (go_at_call 18; (with_reducible refine (nat_Parse.calls 40 (⟨#[48, 48, 55]⟩ : ByteArray) z 8 _ E3.out).mono ?_); rintro e w7 ⟨v, rfl, ho, hb⟩; obtain ⟨Az, cz, rfl, hc_, hl_⟩ := row_of ho; have Cz := Aside0.mk hc_; have Lz := Aside0.mk hl_; clear hc_ hl_ ho; have n_s := Aside0.mk (Kd.C_below Cs.out hb); clear Cs; have Cs := n_s; clear n_s; have n_q := Aside0.mk (Kd.C_below Cq.out hb); clear Cq; have Cq := n_q; clear n_q; have n_r := Aside0.mk (Kd.C_below Cr.out hb); clear Cr; have Cr := n_r; clear n_r; have n_ := Aside0.mk (below_step HB.out hb); clear HB; have HB := n_; clear n_ hb)
    | ((with_reducible refine gate_dst (N := 26) rfl ?_); (try (refine gate_guard (by rfl) ?_; dsimp only)); refine Kd.R_lit (Kd.int .u32) _ 43 ?hg (N := 26) ?hd (xs := ([12] : List Int)) (inner := [.int .u32 12]) (ok := fun _ => True) (okp := fun _ => True) ?hr ?hp (fun _ hk => hk) trivial (Below.refl _ _) (Nat.le_refl _) (by simp) ?_; (case hd => rfl); (case hg => rfl); (case hr => first | (go_simp; done) | (go_simp; rfl)); (case hp => exact (Reps.one (show Kd.M (Kd.int .u32) _ _ _ 12 [.int .u32 12] from rfl) (Reps.none _ _))); intro v w8 ho hb hg_ hnew_; clear hg_ hnew_; rw [← HY.out.2.2.2.2.1] at ho; obtain ⟨Ad1, cd1, rfl, hc_, hl_⟩ := row_of ho; have Cd1 := Aside0.mk hc_; have Ld1 := Aside0.mk hl_; clear hc_ hl_ ho; have n_s := Aside0.mk (Kd.C_below Cs.out hb); clear Cs; have Cs := n_s; clear n_s; have n_q := Aside0.mk (Kd.C_below Cq.out hb); clear Cq; have Cq := n_q; clear n_q; have n_r := Aside0.mk (Kd.C_below Cr.out hb); clear Cr; have Cr := n_r; clear n_r; have n_z := Aside0.mk (Kd.C_below Cz.out hb); clear Cz; have Cz := n_z; clear n_z; have n_ := Aside0.mk (below_step HB.out hb); clear HB; have HB := n_; clear n_ hb)
    | ((with_reducible refine gate_dst (N := 27) rfl ?_); (try (refine gate_guard (by rfl) ?_; dsimp only)); refine Kd.R_lit (Kd.int .u32) _ 43 ?hg (N := 27) ?hd (xs := ([18] : List Int)) (inner := [.int .u32 18]) (ok := fun _ => True) (okp := fun _ => True) ?hr ?hp (fun _ hk => hk) trivial (Below.refl _ _) (Nat.le_refl _) (by simp) ?_; (case hd => rfl); (case hg => rfl); (case hr => first | (go_simp; done) | (go_simp; rfl)); (case hp => exact (Reps.one (show Kd.M (Kd.int .u32) _ _ _ 18 [.int .u32 18] from rfl) (Reps.none _ _))); intro v w9 ho hb hg_ hnew_; clear hg_ hnew_; rw [← HY.out.2.2.2.2.2.1] at ho; obtain ⟨Ad2, cd2, rfl, hc_, hl_⟩ := row_of ho; have Cd2 := Aside0.mk hc_; have Ld2 := Aside0.mk hl_; clear hc_ hl_ ho; have n_s := Aside0.mk (Kd.C_below Cs.out hb); clear Cs; have Cs := n_s; clear n_s; have n_q := Aside0.mk (Kd.C_below Cq.out hb); clear Cq; have Cq := n_q; clear n_q; have n_r := Aside0.mk (Kd.C_below Cr.out hb); clear Cr; have Cr := n_r; clear n_r; have n_z := Aside0.mk (Kd.C_below Cz.out hb); clear Cz; have Cz := n_z; clear n_z; have n_d1 := Aside0.mk (Kd.C_below Cd1.out hb); clear Cd1; have Cd1 := n_d1; clear n_d1; have n_ := Aside0.mk (below_step HB.out hb); clear HB; have HB := n_; clear n_ hb)
    | (go_at_call 16; (with_reducible refine (nat_Gcd.calls 40 _ _ d1 _ _ d2 g _ ?s0 ?t0 ?s1 ?t1 E4.out).mono ?_); (case s0 => exact Cd1.out); (case t0 => exact Ld1.out); (case s1 => exact Cd2.out); (case t1 => exact Ld2.out); rintro e w10 ⟨v, rfl, ho, hb⟩; obtain ⟨Ag, cg, rfl, hc_, hl_⟩ := row_of ho; have Cg := Aside0.mk hc_; have Lg := Aside0.mk hl_; clear hc_ hl_ ho; have n_s := Aside0.mk (Kd.C_below Cs.out hb); clear Cs; have Cs := n_s; clear n_s; have n_q := Aside0.mk (Kd.C_below Cq.out hb); clear Cq; have Cq := n_q; clear n_q; have n_r := Aside0.mk (Kd.C_below Cr.out hb); clear Cr; have Cr := n_r; clear n_r; have n_ := Aside0.mk (below_step HB.out hb); clear HB; have HB := n_; clear n_ hb)
    | ((with_reducible refine gate_dst (N := 30) rfl ?_); (try (refine gate_guard (by rfl) ?_; dsimp only)); refine Kd.R_lit (Kd.int .u32) _ 43 ?hg (N := 30) ?hd (xs := ([0, 1] : List Int)) (inner := [.int .u32 0, .int .u32 1]) (ok := fun _ => True) (okp := fun _ => True) ?hr ?hp (fun _ hk => hk) trivial (Below.refl _ _) (Nat.le_refl _) (by simp) ?_; (case hd => rfl); (case hg => rfl); (case hr => first | (go_simp; done) | (go_simp; rfl)); (case hp => exact (Reps.one (show Kd.M (Kd.int .u32) _ _ _ 0 [.int .u32 0] from rfl) (Reps.one (show Kd.M (Kd.int .u32) _ _ _ 1 [.int .u32 1] from rfl) (Reps.none _ _)))); intro v w11 ho hb hg_ hnew_; clear hg_ hnew_; rw [← HY.out.2.2.2.2.2.2.1] at ho; obtain ⟨Ae1, ce1, rfl, hc_, hl_⟩ := row_of ho; have Ce1 := Aside0.mk hc_; have Le1 := Aside0.mk hl_; clear hc_ hl_ ho; have n_s := Aside0.mk (Kd.C_below Cs.out hb); clear Cs; have Cs := n_s; clear n_s; have n_q := Aside0.mk (Kd.C_below Cq.out hb); clear Cq; have Cq := n_q; clear n_q; have n_r := Aside0.mk (Kd.C_below Cr.out hb); clear Cr; have Cr := n_r; clear n_r; have n_g := Aside0.mk (Kd.C_below Cg.out hb); clear Cg; have Cg := n_g; clear n_g; have n_ := Aside0.mk (below_step HB.out hb); clear HB; have HB := n_; clear n_ hb)
    | (go_at_call 15; (with_reducible refine (gudgeonref01_Same.calls 40 _ _ s _ _ e1 true _ ?s0 ?t0 ?s1 ?t1 E5.out).mono ?_); (case s0 => exact Cs.out); (case t0 => exact Ls.out); (case s1 => exact Ce1.out); (case t1 => exact Le1.out); rintro e w12 ⟨rfl, ⟨nd, rfl⟩⟩; have n_q := Aside0.mk (Kd.C_drewN Cq.out nd); clear Cq; have Cq := n_q; clear n_q; have n_r := Aside0.mk (Kd.C_drewN Cr.out nd); clear Cr; have Cr := n_r; clear n_r; have n_g := Aside0.mk (Kd.C_drewN Cg.out nd); clear Cg; have Cg := n_g; clear n_g; have n_ := Aside0.mk (pw_below_drewN HB.out nd); clear HB; have HB := n_; clear n_)
    | ((with_reducible refine gate_dst (N := 33) rfl ?_); (try (refine gate_guard (by rfl) ?_; dsimp only)); refine Kd.R_lit (Kd.int .u32) _ 43 ?hg (N := 33) ?hd (xs := ([14] : List Int)) (inner := [.int .u32 14]) (ok := fun _ => True) (okp := fun _ => True) ?hr ?hp (fun _ hk => hk) trivial (Below.refl _ _) (Nat.le_refl _) (by simp) ?_; (case hd => rfl); (case hg => rfl); (case hr => first | (go_simp; done) | (go_simp; rfl)); (case hp => exact (Reps.one (show Kd.M (Kd.int .u32) _ _ _ 14 [.int .u32 14] from rfl) (Reps.none _ _))); intro v w13 ho hb hg_ hnew_; clear hg_ hnew_; rw [← HY.out.2.2.2.2.2.2.2.1] at ho; obtain ⟨Ae2, ce2, rfl, hc_, hl_⟩ := row_of ho; have Ce2 := Aside0.mk hc_; have Le2 := Aside0.mk hl_; clear hc_ hl_ ho; have n_q := Aside0.mk (Kd.C_below Cq.out hb); clear Cq; have Cq := n_q; clear n_q; have n_r := Aside0.mk (Kd.C_below Cr.out hb); clear Cr; have Cr := n_r; clear n_r; have n_g := Aside0.mk (Kd.C_below Cg.out hb); clear Cg; have Cg := n_g; clear n_g; have n_ := Aside0.mk (below_step HB.out hb); clear HB; have HB := n_; clear n_ hb)
    | (go_at_call 15; (with_reducible refine (gudgeonref01_Same.calls 40 _ _ q _ _ e2 true _ ?s0 ?t0 ?s1 ?t1 E6.out).mono ?_); (case s0 => exact Cq.out); (case t0 => exact Lq.out); (case s1 => exact Ce2.out); (case t1 => exact Le2.out); rintro e w14 ⟨rfl, ⟨nd, rfl⟩⟩; have n_r := Aside0.mk (Kd.C_drewN Cr.out nd); clear Cr; have Cr := n_r; clear n_r; have n_g := Aside0.mk (Kd.C_drewN Cg.out nd); clear Cg; have Cg := n_g; clear n_g; have n_ := Aside0.mk (pw_below_drewN HB.out nd); clear HB; have HB := n_; clear n_)
    | ((with_reducible refine gate_dst (N := 36) rfl ?_); (try (refine gate_guard (by rfl) ?_; dsimp only)); refine Kd.R_lit (Kd.int .u32) _ 43 ?hg (N := 36) ?hd (xs := ([2] : List Int)) (inner := [.int .u32 2]) (ok := fun _ => True) (okp := fun _ => True) ?hr ?hp (fun _ hk => hk) trivial (Below.refl _ _) (Nat.le_refl _) (by simp) ?_; (case hd => rfl); (case hg => rfl); (case hr => first | (go_simp; done) | (go_simp; rfl)); (case hp => exact (Reps.one (show Kd.M (Kd.int .u32) _ _ _ 2 [.int .u32 2] from rfl) (Reps.none _ _))); intro v w15 ho hb hg_ hnew_; clear hg_ hnew_; rw [← HY.out.2.2.2.2.2.2.2.2.1] at ho; obtain ⟨Ae3, ce3, rfl, hc_, hl_⟩ := row_of ho; have Ce3 := Aside0.mk hc_; have Le3 := Aside0.mk hl_; clear hc_ hl_ ho; have n_r := Aside0.mk (Kd.C_below Cr.out hb); clear Cr; have Cr := n_r; clear n_r; have n_g := Aside0.mk (Kd.C_below Cg.out hb); clear Cg; have Cg := n_g; clear n_g; have n_ := Aside0.mk (below_step HB.out hb); clear HB; have HB := n_; clear n_ hb)
    | (go_at_call 15; (with_reducible refine (gudgeonref01_Same.calls 40 _ _ r _ _ e3 true _ ?s0 ?t0 ?s1 ?t1 E7.out).mono ?_); (case s0 => exact Cr.out); (case t0 => exact Lr.out); (case s1 => exact Ce3.out); (case t1 => exact Le3.out); rintro e w16 ⟨rfl, ⟨nd, rfl⟩⟩; have n_g := Aside0.mk (Kd.C_drewN Cg.out nd); clear Cg; have Cg := n_g; clear n_g; have n_ := Aside0.mk (pw_below_drewN HB.out nd); clear HB; have HB := n_; clear n_)
    | ((with_reducible refine gate_dst (N := 39) rfl ?_); (try (refine gate_guard (by rfl) ?_; dsimp only)); refine Kd.R_lit (Kd.int .u32) _ 43 ?hg (N := 39) ?hd (xs := ([6] : List Int)) (inner := [.int .u32 6]) (ok := fun _ => True) (okp := fun _ => True) ?hr ?hp (fun _ hk => hk) trivial (Below.refl _ _) (Nat.le_refl _) (by simp) ?_; (case hd => rfl); (case hg => rfl); (case hr => first | (go_simp; done) | (go_simp; rfl)); (case hp => exact (Reps.one (show Kd.M (Kd.int .u32) _ _ _ 6 [.int .u32 6] from rfl) (Reps.none _ _))); intro v w17 ho hb hg_ hnew_; clear hg_ hnew_; rw [← HY.out.2.2.2.2.2.2.2.2.2.1] at ho; obtain ⟨Ae4, ce4, rfl, hc_, hl_⟩ := row_of ho; have Ce4 := Aside0.mk hc_; have Le4 := Aside0.mk hl_; clear hc_ hl_ ho; have n_g := Aside0.mk (Kd.C_below Cg.out hb); clear Cg; have Cg := n_g; clear n_g; have n_ := Aside0.mk (below_step HB.out hb); clear HB; have HB := n_; clear n_ hb)
    | (go_at_call 15; (with_reducible refine (gudgeonref01_Same.calls 40 _ _ g _ _ e4 true _ ?s0 ?t0 ?s1 ?t1 E8.out).mono ?_); (case s0 => exact Cg.out); (case t0 => exact Lg.out); (case s1 => exact Ce4.out); (case t1 => exact Le4.out); rintro e w18 ⟨rfl, ⟨nd, rfl⟩⟩; have n_ := Aside0.mk (pw_below_drewN HB.out nd); clear HB; have HB := n_; clear n_)
    | ((with_reducible refine gate_dst (N := 60) rfl ?_); (try (refine gate_guard (by rfl) ?_; dsimp only)); refine Kd.R_lit (Kd.int .u32) _ 43 ?hg (N := 60) ?hd (xs := ([0, 1] : List Int)) (inner := [.int .u32 0, .int .u32 1]) (ok := fun _ => True) (okp := fun _ => True) ?hr ?hp (fun _ hk => hk) trivial (Below.refl _ _) (Nat.le_refl _) (by simp) ?_; (case hd => rfl); (case hg => rfl); (case hr => first | (go_simp; done) | (go_simp; rfl)); (case hp => exact (Reps.one (show Kd.M (Kd.int .u32) _ _ _ 0 [.int .u32 0] from rfl) (Reps.one (show Kd.M (Kd.int .u32) _ _ _ 1 [.int .u32 1] from rfl) (Reps.none _ _)))); intro v w19 ho hb hg_ hnew_; clear hg_ hnew_; rw [← HY.out.2.2.2.2.2.2.2.2.2.2] at ho; obtain ⟨Af1, cf1, rfl, hc_, hl_⟩ := row_of ho; have Cf1 := Aside0.mk hc_; have Lf1 := Aside0.mk hl_; clear hc_ hl_ ho; have n_ := Aside0.mk (below_step HB.out hb); clear HB; have HB := n_; clear n_ hb)
    | (go_at_call 20; (with_reducible refine (nat_Text.calls 40 _ _ f1 (⟨#[52, 50, 57, 52, 57, 54, 55, 50, 57, 54]⟩ : ByteArray) _ ?s0 ?t0 E9.out).mono ?_); (case s0 => exact Cf1.out); (case t0 => exact Lf1.out); rintro e w20 ⟨rfl, hb⟩; have n_ := Aside0.mk (below_step HB.out hb); clear HB; have HB := n_; clear n_ hb))
  go_ret
  exact ⟨rfl, HB.out⟩
end Go.Proofs.YtlfpnohpcemkgaaDoor.H
/- Written by a program of this session, wip/tools/patch_print.py, over the kit's print of the loaded functions. -/
namespace Go.Proofs.YtlfpnohpcemkgaaDoor.H
end Go.Proofs.YtlfpnohpcemkgaaDoor.H
namespace Go.Proofs.YtlfpnohpcemkgaaDoor.PA
open Go.RowKit Go.Proofs.YtlfpnohpcemkgaaDoorW.PrintWords Go.Proofs.YtlfpnohpcemkgaaDoorW.PrintLast Go.Proofs.YtlfpnohpcemkgaaDoorW.PrintMore Go.Proofs.YtlfpnohpcemkgaaDoor.H
attribute [local go_sem] max2_int min2_int max_two min_two max_three min_three max_four min_four   -- for this text's walks alone
set_option linter.unusedVariables false
set_option linter.unusedSimpArgs false

/-! ### gudgeonlaw01_NatSmall: function 10 -/
def gudgeonlaw01_NatSmall.j0 : Nat → Int → List Int → Bool → Bool → Option (Bool)
  | 0, _, _, _, _ => none
  | k + 1, x0, x1, x5, x18 => if x18 = true then (some x5) else ((nat_Of.f x0).bind fun t446 => ((gudgeonref01_Of.f k x0).bind fun t449 => ((gudgeonref01_Same.f k t446 t449).bind fun t452 => ((nat_Int.f k x1).bind fun bt453 => ((gudgeonref01_Int.f k x1).bind fun bt455 => (if t452 = true then (if bt453.1 = bt455.1 then (some (bt453.2 == bt455.2)) else (some false)) else (some false)))))))
def gudgeonlaw01_NatSmall.f (k : Nat) (a0 : Int) (l1 : List Int) : Option (Bool) := (gudgeonlaw01_awake.f).bind fun t445 => (if t445 = true then (gudgeonlaw01_NatSmall.j0 k a0 l1 t445 (decide ((l1.length : Int) > 24))) else (gudgeonlaw01_NatSmall.j0 k a0 l1 t445 true))
theorem gudgeonlaw01_NatSmall.mono_l : ∀ k, (∀ y0 y1 y2 y3, LeO (gudgeonlaw01_NatSmall.j0 k y0 y1 y2 y3) (gudgeonlaw01_NatSmall.j0 (k + 1) y0 y1 y2 y3))
  | 0 => fun _ _ _ _ r h => by simp [gudgeonlaw01_NatSmall.j0] at h
  | k + 1 => by
    have ih0 := gudgeonlaw01_NatSmall.mono_l k
    · intro y0 y1 y2 y3
      unfold gudgeonlaw01_NatSmall.j0
      repeat' first
      | (with_reducible exact ih0 _ _ _ _)
      | (with_reducible exact gudgeonref01_Int.mono _ _)
      | (with_reducible exact gudgeonref01_Of.mono _ _)
      | (with_reducible exact gudgeonref01_Same.mono _ _ _)
      | (with_reducible exact nat_Int.mono _ _)
      | (with_reducible exact LeO.refl _)
      | (with_reducible exact LeO.none _)
      | (with_reducible refine LeO.ite ?_ ?_)
      | (with_reducible refine LeO.bind ?_ (fun _ => ?_))
      | exact ih0 _ _ _ _
      | exact gudgeonref01_Int.mono _ _
      | exact gudgeonref01_Of.mono _ _
      | exact gudgeonref01_Same.mono _ _ _
      | exact nat_Int.mono _ _
      | exact LeO.none _
      | refine LeO.ite ?_ ?_
      | refine LeO.bind ?_ (fun _ => ?_)
theorem gudgeonlaw01_NatSmall.mono : ∀ a0 a1 k, LeO (gudgeonlaw01_NatSmall.f k a0 a1) (gudgeonlaw01_NatSmall.f (k + 1) a0 a1) := by
  intro a0 a1 k
  have ih0 := gudgeonlaw01_NatSmall.mono_l k
  unfold gudgeonlaw01_NatSmall.f
  repeat' first
      | (with_reducible exact ih0 _ _ _ _)
      | (with_reducible exact gudgeonref01_Int.mono _ _)
      | (with_reducible exact gudgeonref01_Of.mono _ _)
      | (with_reducible exact gudgeonref01_Same.mono _ _ _)
      | (with_reducible exact nat_Int.mono _ _)
      | (with_reducible exact LeO.refl _)
      | (with_reducible exact LeO.none _)
      | (with_reducible refine LeO.ite ?_ ?_)
      | (with_reducible refine LeO.bind ?_ (fun _ => ?_))
      | exact ih0 _ _ _ _
      | exact gudgeonref01_Int.mono _ _
      | exact gudgeonref01_Of.mono _ _
      | exact gudgeonref01_Same.mono _ _ _
      | exact nat_Int.mono _ _
      | exact LeO.none _
      | refine LeO.ite ?_ ?_
      | refine LeO.bind ?_ (fun _ => ?_)
set_option maxHeartbeats 8000000 in
set_option maxRecDepth 100000 in
theorem gudgeonlaw01_NatSmall.calls (k : Nat) (a0 : Int) (A1 : Option Addr) (c1 : Nat) (l1 : List Int) (r : Bool) (w : World) (hr1 : Kd.C (Kd.int .u32) w A1 l1.length l1) (hc1 : l1.length ≤ c1) (h : gudgeonlaw01_NatSmall.f k a0 l1 = some r) :
    Calls Tryd.prog 10 #[.int .u64 a0, .slice A1 l1.length c1] w fun e w' => e = .returned (.bool r) ∧ Below w.heap.size w w' := by
  have HR1 := Aside0.mk hr1
  have HC1 := Aside0.mk hc1
  clear hr1 hc1
  have HB := Aside0.mk (Below.refl w.heap.size w)
  have H : ((gudgeonlaw01_awake.f).bind fun t445 => (if t445 = true then (gudgeonlaw01_NatSmall.j0 k a0 l1 t445 (decide ((l1.length : Int) > 24))) else (gudgeonlaw01_NatSmall.j0 k a0 l1 t445 true))) = some r := h
  clear h
  replace H := Option.bind_eq_some_iff.mp H
  obtain ⟨t445, A30, H⟩ := H
  replace H : (if t445 = true then (gudgeonlaw01_NatSmall.j0 k a0 l1 t445 (decide ((l1.length : Int) > 24))) else (gudgeonlaw01_NatSmall.j0 k a0 l1 t445 true)) = some r := H
  have A3 := Aside0.mk A30
  clear A30
  have HC4 := Aside0.mk H
  clear H
  go_enter Tryd.func10, Tryd.ntmps10
  go_upto_region 2 with (first | ((with_reducible refine gate_callee (f := 11) rfl ?_); refine goesL_ (some 11) rfl rfl Tryd.func11 (by kernel_rfl) rfl #[] rfl (by (try simp only [List.map_toArray, List.map_cons, List.map_nil]); first | done | rfl | (simp only [List.length_drop, List.length_take]; rfl)) ?_; (with_reducible refine (gudgeonlaw01_awake.calls  t445 _ A3.out).mono ?_); rintro e w5 ⟨rfl, hb⟩; refine ⟨_, rfl, ?_⟩; have n0_ := Aside0.mk (below_step (by repeat (first | (with_reducible first | exact HB.out | apply below_alloc | apply pw_below_drewN | apply below_drew1) | exact HB.out)) hb); clear HB; have HB := n0_; clear n0_; (try clear hb); (try clear hb2); (try clear hk); (try clear hi)))
  (try simp only [Act.put, List.setIfInBounds_toArray, List.set_cons_zero, List.set_cons_succ])
  go_cut [18] (fun v18 wc => ∃ (kq : Nat) (x18_3 : Bool), v18 = .bool x18_3 ∧ Aside0 (gudgeonlaw01_NatSmall.j0 kq a0 l1 t445 x18_3 = some r) ∧ Aside0 (kq ≤ k) ∧ Aside0 (Below w.heap.size w wc))
  case first =>
    have H := HC4.out
    clear HC4
    by_cases c6 : t445 = true
    · subst c6
      have H1 : (gudgeonlaw01_NatSmall.j0 k a0 l1 true (decide ((l1.length : Int) > 24))) = some r := by rw [if_pos rfl] at H; exact H
      clear H
      have H := H1
      clear H1
      have H' := Aside0.mk H
      clear H
      go_wp2
      go_meet
      case rel => exact ⟨_, (decide ((l1.length : Int) > 24)), (by first | rfl | (simp; done) | (simp [*]; done) | (refine congrArg (Value.int _) ?_; omega) | (refine congrArg Value.bool ?_; generalize ByteArray.toList _ = z_; cases z_ <;> rfl)), H', ⟨by first | omega | exact Nat.le_refl _⟩, ⟨by repeat (first | (with_reducible first | exact HB.out | apply below_alloc | apply pw_below_drewN | apply below_drew1) | exact HB.out)⟩⟩
    · replace c6 := Bool.eq_false_iff.mpr c6
      subst c6
      have H1 : (gudgeonlaw01_NatSmall.j0 k a0 l1 false true) = some r := by rw [if_neg (show ¬ (false = true) by decide)] at H; exact H
      clear H
      have H := H1
      clear H1
      have H' := Aside0.mk H
      clear H
      go_wp2
      go_meet
      case rel => exact ⟨_, (true), (by first | rfl | (simp; done) | (simp [*]; done) | (refine congrArg (Value.int _) ?_; omega) | (refine congrArg Value.bool ?_; generalize ByteArray.toList _ = z_; cases z_ <;> rfl)), H', ⟨by first | omega | exact Nat.le_refl _⟩, ⟨by repeat (first | (with_reducible first | exact HB.out | apply below_alloc | apply pw_below_drewN | apply below_drew1) | exact HB.out)⟩⟩
  case rest =>
    clear HC4
    try clear c1
    try clear p2
    try clear c6
    obtain ⟨kq, x18_3, rfl, HA, HJ3, HB⟩ := hcut
    cases kq with
    | zero => exact absurd HA.out (by simp [gudgeonlaw01_NatSmall.j0])
    | succ kj3 =>
      have H := HA.out
      clear HA
      simp only [gudgeonlaw01_NatSmall.j0] at H
      by_cases c7 : x18_3 = true
      · subst c7
        have H1 : (some t445) = some r := by rw [if_pos rfl] at H; exact H
        clear H
        have H := H1
        clear H1
        obtain rfl := Option.some.inj H
        go_wp2
        go_ret
        exact ⟨by first | rfl | (simp [errW_none, errW_some] <;> rfl) | (simp [*, errW_none, errW_some] <;> rfl), by repeat (first | (with_reducible first | exact HB.out | apply below_alloc | apply pw_below_drewN | apply below_drew1) | exact HB.out)⟩
      · replace c7 := Bool.eq_false_iff.mpr c7
        subst c7
        have H1 : ((nat_Of.f a0).bind fun t446 => ((gudgeonref01_Of.f kj3 a0).bind fun t449 => ((gudgeonref01_Same.f kj3 t446 t449).bind fun t452 => ((nat_Int.f kj3 l1).bind fun bt453 => ((gudgeonref01_Int.f kj3 l1).bind fun bt455 => (if t452 = true then (if bt453.1 = bt455.1 then (some (bt453.2 == bt455.2)) else (some false)) else (some false))))))) = some r := by rw [if_neg (show ¬ (false = true) by decide)] at H; exact H
        clear H
        have H := H1
        clear H1
        replace H := Option.bind_eq_some_iff.mp H
        obtain ⟨t446, A80, H⟩ := H
        replace H : ((gudgeonref01_Of.f kj3 a0).bind fun t449 => ((gudgeonref01_Same.f kj3 t446 t449).bind fun t452 => ((nat_Int.f kj3 l1).bind fun bt453 => ((gudgeonref01_Int.f kj3 l1).bind fun bt455 => (if t452 = true then (if bt453.1 = bt455.1 then (some (bt453.2 == bt455.2)) else (some false)) else (some false)))))) = some r := H
        have A8 := Aside0.mk A80
        clear A80
        replace H := Option.bind_eq_some_iff.mp H
        obtain ⟨t449, A90, H⟩ := H
        replace H : ((gudgeonref01_Same.f kj3 t446 t449).bind fun t452 => ((nat_Int.f kj3 l1).bind fun bt453 => ((gudgeonref01_Int.f kj3 l1).bind fun bt455 => (if t452 = true then (if bt453.1 = bt455.1 then (some (bt453.2 == bt455.2)) else (some false)) else (some false))))) = some r := H
        have A9 := Aside0.mk A90
        clear A90
        replace H := Option.bind_eq_some_iff.mp H
        obtain ⟨t452, A100, H⟩ := H
        replace H : ((nat_Int.f kj3 l1).bind fun bt453 => ((gudgeonref01_Int.f kj3 l1).bind fun bt455 => (if t452 = true then (if bt453.1 = bt455.1 then (some (bt453.2 == bt455.2)) else (some false)) else (some false)))) = some r := H
        have A10 := Aside0.mk A100
        clear A100
        replace H := Option.bind_eq_some_iff.mp H
        obtain ⟨⟨t453, t454⟩, A110, H⟩ := H
        replace H : ((gudgeonref01_Int.f kj3 l1).bind fun bt455 => (if t452 = true then (if t453 = bt455.1 then (some (t454 == bt455.2)) else (some false)) else (some false))) = some r := H
        have A11 := Aside0.mk A110
        clear A110
        replace H := Option.bind_eq_some_iff.mp H
        obtain ⟨⟨t455, t456⟩, A120, H⟩ := H
        replace H : (if t452 = true then (if t453 = t455 then (some (t454 == t456)) else (some false)) else (some false)) = some r := H
        have A12 := Aside0.mk A120
        clear A120
        by_cases c13 : t452 = true
        · subst c13
          have H1 : (if t453 = t455 then (some (t454 == t456)) else (some false)) = some r := by rw [if_pos rfl] at H; exact H
          clear H
          have H := H1
          clear H1
          by_cases c14 : t453 = t455
          · rw [if_pos c14] at H
            have c14b0 : (t453 == t455) = true := beq_iff_eq.mpr c14
            have c14b1 : (t453 != t455) = false := bne_eq_false_iff_eq.mpr c14
            clear c14
            obtain rfl := Option.some.inj H
            go_wp2_with (first | ((with_reducible refine gate_callee (f := 32) rfl ?_); refine goesL_ (some 21) rfl rfl Tryd.func32 (by kernel_rfl) rfl #[.int .u64 a0] rfl (by (try simp only [List.map_toArray, List.map_cons, List.map_nil]); first | done | rfl | (simp only [List.length_drop, List.length_take]; rfl)) ?_; (with_reducible refine (nat_Of.calls a0 t446 _ A8.out).mono ?_); rintro e w15 ⟨v447, rfl, ho0, hb⟩; refine ⟨_, rfl, ?_⟩; have n0_ := Aside0.mk (Kd.R_lower ho0 (below_size (by repeat (first | (with_reducible first | exact HB.out | apply below_alloc | apply pw_below_drewN | apply below_drew1) | exact HB.out)))); have n1_ := Aside0.mk (below_step (by repeat (first | (with_reducible first | exact HB.out | apply below_alloc | apply pw_below_drewN | apply below_drew1) | exact HB.out)) hb); clear HB; have HO448 := n0_; have HB := n1_; clear n0_ n1_; (try clear hb); (try clear hb2); (try clear hk); (try clear hi); (try clear ho0)) | ((with_reducible refine gate_callee (f := 33) rfl ?_); refine goesL_ (some 23) rfl rfl Tryd.func33 (by kernel_rfl) rfl #[.int .u64 a0] rfl (by (try simp only [List.map_toArray, List.map_cons, List.map_nil]); first | done | rfl | (simp only [List.length_drop, List.length_take]; rfl)) ?_; (with_reducible refine (gudgeonref01_Of.calls kj3 a0 t449 _ A9.out).mono ?_); rintro e w16 ⟨v450, rfl, ho0, hb⟩; refine ⟨_, rfl, ?_⟩; have n0_ := Aside0.mk (Kd.R_elder' (by (with_reducible repeat (first | apply Kd.R_alloc | apply Kd.R_drewN | apply Kd.R_drew)); exact HO448.out) (Kd.R_base ho0) hb); have n1_ := Aside0.mk (Kd.R_lower (Kd.R_new' ho0 (Kd.R_lt (by (with_reducible repeat (first | apply Kd.R_alloc | apply Kd.R_drewN | apply Kd.R_drew)); exact HO448.out))) (below_size (by repeat (first | (with_reducible first | exact HB.out | apply below_alloc | apply pw_below_drewN | apply below_drew1) | exact HB.out)))); have n2_ := Aside0.mk (below_step (by repeat (first | (with_reducible first | exact HB.out | apply below_alloc | apply pw_below_drewN | apply below_drew1) | exact HB.out)) hb); clear HO448; clear HB; have HO448 := n0_; have HO451 := n1_; have HB := n2_; clear n0_ n1_ n2_; (try clear hb); (try clear hb2); (try clear hk); (try clear hi); (try clear ho0); obtain ⟨Ao17, co17, eo17⟩ := Kd.R_slice HO448.out; subst eo17; obtain ⟨Ao18, co18, eo18⟩ := Kd.R_slice HO451.out; subst eo18) | ((with_reducible refine gate_callee (f := 15) rfl ?_); refine goesL_ (some 24) rfl rfl Tryd.func15 (by kernel_rfl) rfl #[.slice Ao17 t446.length co17, .slice Ao18 t449.length co18] rfl (by (try simp only [List.map_toArray, List.map_cons, List.map_nil]); first | done | rfl | (simp only [List.length_drop, List.length_take]; rfl)) ?_; (with_reducible refine (gudgeonref01_Same.calls kj3 _ _ t446 _ _ t449 true _ ?side1 ?side2 ?side3 ?side4 A10.out).mono ?_); (case side1 => repeat (first | exact (Kd.R_reads' HO448.out).2.2 | (with_reducible refine Kd.C_alloc ?_ _) | (with_reducible refine Kd.C_drewN ?_ _) | (with_reducible refine Kd.C_drew ?_))); (case side2 => exact (Kd.R_reads' HO448.out).2.1); (case side3 => repeat (first | exact (Kd.R_reads' HO451.out).2.2 | (with_reducible refine Kd.C_alloc ?_ _) | (with_reducible refine Kd.C_drewN ?_ _) | (with_reducible refine Kd.C_drew ?_))); (case side4 => exact (Kd.R_reads' HO451.out).2.1); rintro e w' ⟨rfl, ⟨nd, rfl⟩⟩; refine ⟨_, rfl, ?_⟩) | ((with_reducible refine gate_callee (f := 34) rfl ?_); refine goesL_ (some 27) rfl rfl Tryd.func34 (by kernel_rfl) rfl #[.slice A1 l1.length c1] rfl (by (try simp only [List.map_toArray, List.map_cons, List.map_nil]); first | done | rfl | (simp only [List.length_drop, List.length_take]; rfl)) ?_; (with_reducible refine (nat_Int.calls kj3 _ _ l1 t453 t454 _ ?side1 ?side2 A11.out).mono ?_); (case side1 => repeat (first | exact (Kd.C_below HR1.out (by repeat (first | (with_reducible first | exact HB.out | apply below_alloc | apply pw_below_drewN | apply below_drew1) | exact HB.out))) | (with_reducible refine Kd.C_alloc ?_ _) | (with_reducible refine Kd.C_drewN ?_ _) | (with_reducible refine Kd.C_drew ?_))); (case side2 => exact HC1.out); rintro e w19 ⟨rfl, hb⟩; refine ⟨_, rfl, ?_⟩; have n0_ := Aside0.mk (Kd.R_below (by (with_reducible repeat (first | apply Kd.R_alloc | apply Kd.R_drewN | apply Kd.R_drew)); exact HO448.out) hb); have n1_ := Aside0.mk (Kd.R_below (by (with_reducible repeat (first | apply Kd.R_alloc | apply Kd.R_drewN | apply Kd.R_drew)); exact HO451.out) hb); have n2_ := Aside0.mk (below_step (by repeat (first | (with_reducible first | exact HB.out | apply below_alloc | apply pw_below_drewN | apply below_drew1) | exact HB.out)) hb); clear HO448; clear HO451; clear HB; have HO448 := n0_; have HO451 := n1_; have HB := n2_; clear n0_ n1_ n2_; (try clear hb); (try clear hb2); (try clear hk); (try clear hi)) | ((with_reducible refine gate_callee (f := 35) rfl ?_); refine goesL_ (some 32) rfl rfl Tryd.func35 (by kernel_rfl) rfl #[.slice A1 l1.length c1] rfl (by (try simp only [List.map_toArray, List.map_cons, List.map_nil]); first | done | rfl | (simp only [List.length_drop, List.length_take]; rfl)) ?_; (with_reducible refine (gudgeonref01_Int.calls kj3 _ _ l1 t455 t456 _ ?side1 ?side2 A12.out).mono ?_); (case side1 => repeat (first | exact (Kd.C_below HR1.out HB.out) | (with_reducible refine Kd.C_alloc ?_ _) | (with_reducible refine Kd.C_drewN ?_ _) | (with_reducible refine Kd.C_drew ?_))); (case side2 => exact HC1.out); rintro e w20 ⟨rfl, hb⟩; refine ⟨_, rfl, ?_⟩; have n0_ := Aside0.mk (Kd.R_below (by (with_reducible repeat (first | apply Kd.R_alloc | apply Kd.R_drewN | apply Kd.R_drew)); exact HO448.out) hb); have n1_ := Aside0.mk (Kd.R_below (by (with_reducible repeat (first | apply Kd.R_alloc | apply Kd.R_drewN | apply Kd.R_drew)); exact HO451.out) hb); have n2_ := Aside0.mk (below_step (by repeat (first | (with_reducible first | exact HB.out | apply below_alloc | apply pw_below_drewN | apply below_drew1) | exact HB.out)) hb); clear HO448; clear HO451; clear HB; have HO448 := n0_; have HO451 := n1_; have HB := n2_; clear n0_ n1_ n2_; (try clear hb); (try clear hb2); (try clear hk); (try clear hi)))
            go_ret
            exact ⟨by first | rfl | (simp [errW_none, errW_some] <;> rfl) | (simp [*, errW_none, errW_some] <;> rfl), by repeat (first | (with_reducible first | exact HB.out | apply below_alloc | apply pw_below_drewN | apply below_drew1) | exact HB.out)⟩
          · rw [if_neg c14] at H
            have c14b0 : (t453 == t455) = false := beq_eq_false_iff_ne.mpr c14
            have c14b1 : (t453 != t455) = true := bne_iff_ne.mpr c14
            obtain rfl := Option.some.inj H
            go_wp2_with (first | ((with_reducible refine gate_callee (f := 32) rfl ?_); refine goesL_ (some 21) rfl rfl Tryd.func32 (by kernel_rfl) rfl #[.int .u64 a0] rfl (by (try simp only [List.map_toArray, List.map_cons, List.map_nil]); first | done | rfl | (simp only [List.length_drop, List.length_take]; rfl)) ?_; (with_reducible refine (nat_Of.calls a0 t446 _ A8.out).mono ?_); rintro e w21 ⟨v447, rfl, ho0, hb⟩; refine ⟨_, rfl, ?_⟩; have n0_ := Aside0.mk (Kd.R_lower ho0 (below_size (by repeat (first | (with_reducible first | exact HB.out | apply below_alloc | apply pw_below_drewN | apply below_drew1) | exact HB.out)))); have n1_ := Aside0.mk (below_step (by repeat (first | (with_reducible first | exact HB.out | apply below_alloc | apply pw_below_drewN | apply below_drew1) | exact HB.out)) hb); clear HB; have HO448 := n0_; have HB := n1_; clear n0_ n1_; (try clear hb); (try clear hb2); (try clear hk); (try clear hi); (try clear ho0)) | ((with_reducible refine gate_callee (f := 33) rfl ?_); refine goesL_ (some 23) rfl rfl Tryd.func33 (by kernel_rfl) rfl #[.int .u64 a0] rfl (by (try simp only [List.map_toArray, List.map_cons, List.map_nil]); first | done | rfl | (simp only [List.length_drop, List.length_take]; rfl)) ?_; (with_reducible refine (gudgeonref01_Of.calls kj3 a0 t449 _ A9.out).mono ?_); rintro e w22 ⟨v450, rfl, ho0, hb⟩; refine ⟨_, rfl, ?_⟩; have n0_ := Aside0.mk (Kd.R_elder' (by (with_reducible repeat (first | apply Kd.R_alloc | apply Kd.R_drewN | apply Kd.R_drew)); exact HO448.out) (Kd.R_base ho0) hb); have n1_ := Aside0.mk (Kd.R_lower (Kd.R_new' ho0 (Kd.R_lt (by (with_reducible repeat (first | apply Kd.R_alloc | apply Kd.R_drewN | apply Kd.R_drew)); exact HO448.out))) (below_size (by repeat (first | (with_reducible first | exact HB.out | apply below_alloc | apply pw_below_drewN | apply below_drew1) | exact HB.out)))); have n2_ := Aside0.mk (below_step (by repeat (first | (with_reducible first | exact HB.out | apply below_alloc | apply pw_below_drewN | apply below_drew1) | exact HB.out)) hb); clear HO448; clear HB; have HO448 := n0_; have HO451 := n1_; have HB := n2_; clear n0_ n1_ n2_; (try clear hb); (try clear hb2); (try clear hk); (try clear hi); (try clear ho0); obtain ⟨Ao23, co23, eo23⟩ := Kd.R_slice HO448.out; subst eo23; obtain ⟨Ao24, co24, eo24⟩ := Kd.R_slice HO451.out; subst eo24) | ((with_reducible refine gate_callee (f := 15) rfl ?_); refine goesL_ (some 24) rfl rfl Tryd.func15 (by kernel_rfl) rfl #[.slice Ao23 t446.length co23, .slice Ao24 t449.length co24] rfl (by (try simp only [List.map_toArray, List.map_cons, List.map_nil]); first | done | rfl | (simp only [List.length_drop, List.length_take]; rfl)) ?_; (with_reducible refine (gudgeonref01_Same.calls kj3 _ _ t446 _ _ t449 true _ ?side1 ?side2 ?side3 ?side4 A10.out).mono ?_); (case side1 => repeat (first | exact (Kd.R_reads' HO448.out).2.2 | (with_reducible refine Kd.C_alloc ?_ _) | (with_reducible refine Kd.C_drewN ?_ _) | (with_reducible refine Kd.C_drew ?_))); (case side2 => exact (Kd.R_reads' HO448.out).2.1); (case side3 => repeat (first | exact (Kd.R_reads' HO451.out).2.2 | (with_reducible refine Kd.C_alloc ?_ _) | (with_reducible refine Kd.C_drewN ?_ _) | (with_reducible refine Kd.C_drew ?_))); (case side4 => exact (Kd.R_reads' HO451.out).2.1); rintro e w' ⟨rfl, ⟨nd, rfl⟩⟩; refine ⟨_, rfl, ?_⟩) | ((with_reducible refine gate_callee (f := 34) rfl ?_); refine goesL_ (some 27) rfl rfl Tryd.func34 (by kernel_rfl) rfl #[.slice A1 l1.length c1] rfl (by (try simp only [List.map_toArray, List.map_cons, List.map_nil]); first | done | rfl | (simp only [List.length_drop, List.length_take]; rfl)) ?_; (with_reducible refine (nat_Int.calls kj3 _ _ l1 t453 t454 _ ?side1 ?side2 A11.out).mono ?_); (case side1 => repeat (first | exact (Kd.C_below HR1.out (by repeat (first | (with_reducible first | exact HB.out | apply below_alloc | apply pw_below_drewN | apply below_drew1) | exact HB.out))) | (with_reducible refine Kd.C_alloc ?_ _) | (with_reducible refine Kd.C_drewN ?_ _) | (with_reducible refine Kd.C_drew ?_))); (case side2 => exact HC1.out); rintro e w25 ⟨rfl, hb⟩; refine ⟨_, rfl, ?_⟩; have n0_ := Aside0.mk (Kd.R_below (by (with_reducible repeat (first | apply Kd.R_alloc | apply Kd.R_drewN | apply Kd.R_drew)); exact HO448.out) hb); have n1_ := Aside0.mk (Kd.R_below (by (with_reducible repeat (first | apply Kd.R_alloc | apply Kd.R_drewN | apply Kd.R_drew)); exact HO451.out) hb); have n2_ := Aside0.mk (below_step (by repeat (first | (with_reducible first | exact HB.out | apply below_alloc | apply pw_below_drewN | apply below_drew1) | exact HB.out)) hb); clear HO448; clear HO451; clear HB; have HO448 := n0_; have HO451 := n1_; have HB := n2_; clear n0_ n1_ n2_; (try clear hb); (try clear hb2); (try clear hk); (try clear hi)) | ((with_reducible refine gate_callee (f := 35) rfl ?_); refine goesL_ (some 32) rfl rfl Tryd.func35 (by kernel_rfl) rfl #[.slice A1 l1.length c1] rfl (by (try simp only [List.map_toArray, List.map_cons, List.map_nil]); first | done | rfl | (simp only [List.length_drop, List.length_take]; rfl)) ?_; (with_reducible refine (gudgeonref01_Int.calls kj3 _ _ l1 t455 t456 _ ?side1 ?side2 A12.out).mono ?_); (case side1 => repeat (first | exact (Kd.C_below HR1.out HB.out) | (with_reducible refine Kd.C_alloc ?_ _) | (with_reducible refine Kd.C_drewN ?_ _) | (with_reducible refine Kd.C_drew ?_))); (case side2 => exact HC1.out); rintro e w26 ⟨rfl, hb⟩; refine ⟨_, rfl, ?_⟩; have n0_ := Aside0.mk (Kd.R_below (by (with_reducible repeat (first | apply Kd.R_alloc | apply Kd.R_drewN | apply Kd.R_drew)); exact HO448.out) hb); have n1_ := Aside0.mk (Kd.R_below (by (with_reducible repeat (first | apply Kd.R_alloc | apply Kd.R_drewN | apply Kd.R_drew)); exact HO451.out) hb); have n2_ := Aside0.mk (below_step (by repeat (first | (with_reducible first | exact HB.out | apply below_alloc | apply pw_below_drewN | apply below_drew1) | exact HB.out)) hb); clear HO448; clear HO451; clear HB; have HO448 := n0_; have HO451 := n1_; have HB := n2_; clear n0_ n1_ n2_; (try clear hb); (try clear hb2); (try clear hk); (try clear hi)))
            go_ret
            exact ⟨by first | rfl | (simp [errW_none, errW_some] <;> rfl) | (simp [*, errW_none, errW_some] <;> rfl), by repeat (first | (with_reducible first | exact HB.out | apply below_alloc | apply pw_below_drewN | apply below_drew1) | exact HB.out)⟩
        · replace c13 := Bool.eq_false_iff.mpr c13
          subst c13
          have H1 : (some false) = some r := by rw [if_neg (show ¬ (false = true) by decide)] at H; exact H
          clear H
          have H := H1
          clear H1
          obtain rfl := Option.some.inj H
          go_wp2_with (first | ((with_reducible refine gate_callee (f := 32) rfl ?_); refine goesL_ (some 21) rfl rfl Tryd.func32 (by kernel_rfl) rfl #[.int .u64 a0] rfl (by (try simp only [List.map_toArray, List.map_cons, List.map_nil]); first | done | rfl | (simp only [List.length_drop, List.length_take]; rfl)) ?_; (with_reducible refine (nat_Of.calls a0 t446 _ A8.out).mono ?_); rintro e w27 ⟨v447, rfl, ho0, hb⟩; refine ⟨_, rfl, ?_⟩; have n0_ := Aside0.mk (Kd.R_lower ho0 (below_size (by repeat (first | (with_reducible first | exact HB.out | apply below_alloc | apply pw_below_drewN | apply below_drew1) | exact HB.out)))); have n1_ := Aside0.mk (below_step (by repeat (first | (with_reducible first | exact HB.out | apply below_alloc | apply pw_below_drewN | apply below_drew1) | exact HB.out)) hb); clear HB; have HO448 := n0_; have HB := n1_; clear n0_ n1_; (try clear hb); (try clear hb2); (try clear hk); (try clear hi); (try clear ho0)) | ((with_reducible refine gate_callee (f := 33) rfl ?_); refine goesL_ (some 23) rfl rfl Tryd.func33 (by kernel_rfl) rfl #[.int .u64 a0] rfl (by (try simp only [List.map_toArray, List.map_cons, List.map_nil]); first | done | rfl | (simp only [List.length_drop, List.length_take]; rfl)) ?_; (with_reducible refine (gudgeonref01_Of.calls kj3 a0 t449 _ A9.out).mono ?_); rintro e w28 ⟨v450, rfl, ho0, hb⟩; refine ⟨_, rfl, ?_⟩; have n0_ := Aside0.mk (Kd.R_elder' (by (with_reducible repeat (first | apply Kd.R_alloc | apply Kd.R_drewN | apply Kd.R_drew)); exact HO448.out) (Kd.R_base ho0) hb); have n1_ := Aside0.mk (Kd.R_lower (Kd.R_new' ho0 (Kd.R_lt (by (with_reducible repeat (first | apply Kd.R_alloc | apply Kd.R_drewN | apply Kd.R_drew)); exact HO448.out))) (below_size (by repeat (first | (with_reducible first | exact HB.out | apply below_alloc | apply pw_below_drewN | apply below_drew1) | exact HB.out)))); have n2_ := Aside0.mk (below_step (by repeat (first | (with_reducible first | exact HB.out | apply below_alloc | apply pw_below_drewN | apply below_drew1) | exact HB.out)) hb); clear HO448; clear HB; have HO448 := n0_; have HO451 := n1_; have HB := n2_; clear n0_ n1_ n2_; (try clear hb); (try clear hb2); (try clear hk); (try clear hi); (try clear ho0); obtain ⟨Ao29, co29, eo29⟩ := Kd.R_slice HO448.out; subst eo29; obtain ⟨Ao30, co30, eo30⟩ := Kd.R_slice HO451.out; subst eo30) | ((with_reducible refine gate_callee (f := 15) rfl ?_); refine goesL_ (some 24) rfl rfl Tryd.func15 (by kernel_rfl) rfl #[.slice Ao29 t446.length co29, .slice Ao30 t449.length co30] rfl (by (try simp only [List.map_toArray, List.map_cons, List.map_nil]); first | done | rfl | (simp only [List.length_drop, List.length_take]; rfl)) ?_; (with_reducible refine (gudgeonref01_Same.calls kj3 _ _ t446 _ _ t449 false _ ?side1 ?side2 ?side3 ?side4 A10.out).mono ?_); (case side1 => repeat (first | exact (Kd.R_reads' HO448.out).2.2 | (with_reducible refine Kd.C_alloc ?_ _) | (with_reducible refine Kd.C_drewN ?_ _) | (with_reducible refine Kd.C_drew ?_))); (case side2 => exact (Kd.R_reads' HO448.out).2.1); (case side3 => repeat (first | exact (Kd.R_reads' HO451.out).2.2 | (with_reducible refine Kd.C_alloc ?_ _) | (with_reducible refine Kd.C_drewN ?_ _) | (with_reducible refine Kd.C_drew ?_))); (case side4 => exact (Kd.R_reads' HO451.out).2.1); rintro e w' ⟨rfl, ⟨nd, rfl⟩⟩; refine ⟨_, rfl, ?_⟩) | ((with_reducible refine gate_callee (f := 34) rfl ?_); refine goesL_ (some 27) rfl rfl Tryd.func34 (by kernel_rfl) rfl #[.slice A1 l1.length c1] rfl (by (try simp only [List.map_toArray, List.map_cons, List.map_nil]); first | done | rfl | (simp only [List.length_drop, List.length_take]; rfl)) ?_; (with_reducible refine (nat_Int.calls kj3 _ _ l1 t453 t454 _ ?side1 ?side2 A11.out).mono ?_); (case side1 => repeat (first | exact (Kd.C_below HR1.out (by repeat (first | (with_reducible first | exact HB.out | apply below_alloc | apply pw_below_drewN | apply below_drew1) | exact HB.out))) | (with_reducible refine Kd.C_alloc ?_ _) | (with_reducible refine Kd.C_drewN ?_ _) | (with_reducible refine Kd.C_drew ?_))); (case side2 => exact HC1.out); rintro e w31 ⟨rfl, hb⟩; refine ⟨_, rfl, ?_⟩; have n0_ := Aside0.mk (Kd.R_below (by (with_reducible repeat (first | apply Kd.R_alloc | apply Kd.R_drewN | apply Kd.R_drew)); exact HO448.out) hb); have n1_ := Aside0.mk (Kd.R_below (by (with_reducible repeat (first | apply Kd.R_alloc | apply Kd.R_drewN | apply Kd.R_drew)); exact HO451.out) hb); have n2_ := Aside0.mk (below_step (by repeat (first | (with_reducible first | exact HB.out | apply below_alloc | apply pw_below_drewN | apply below_drew1) | exact HB.out)) hb); clear HO448; clear HO451; clear HB; have HO448 := n0_; have HO451 := n1_; have HB := n2_; clear n0_ n1_ n2_; (try clear hb); (try clear hb2); (try clear hk); (try clear hi)) | ((with_reducible refine gate_callee (f := 35) rfl ?_); refine goesL_ (some 32) rfl rfl Tryd.func35 (by kernel_rfl) rfl #[.slice A1 l1.length c1] rfl (by (try simp only [List.map_toArray, List.map_cons, List.map_nil]); first | done | rfl | (simp only [List.length_drop, List.length_take]; rfl)) ?_; (with_reducible refine (gudgeonref01_Int.calls kj3 _ _ l1 t455 t456 _ ?side1 ?side2 A12.out).mono ?_); (case side1 => repeat (first | exact (Kd.C_below HR1.out HB.out) | (with_reducible refine Kd.C_alloc ?_ _) | (with_reducible refine Kd.C_drewN ?_ _) | (with_reducible refine Kd.C_drew ?_))); (case side2 => exact HC1.out); rintro e w32 ⟨rfl, hb⟩; refine ⟨_, rfl, ?_⟩; have n0_ := Aside0.mk (Kd.R_below (by (with_reducible repeat (first | apply Kd.R_alloc | apply Kd.R_drewN | apply Kd.R_drew)); exact HO448.out) hb); have n1_ := Aside0.mk (Kd.R_below (by (with_reducible repeat (first | apply Kd.R_alloc | apply Kd.R_drewN | apply Kd.R_drew)); exact HO451.out) hb); have n2_ := Aside0.mk (below_step (by repeat (first | (with_reducible first | exact HB.out | apply below_alloc | apply pw_below_drewN | apply below_drew1) | exact HB.out)) hb); clear HO448; clear HO451; clear HB; have HO448 := n0_; have HO451 := n1_; have HB := n2_; clear n0_ n1_ n2_; (try clear hb); (try clear hb2); (try clear hk); (try clear hi)))
          go_ret
          exact ⟨by first | rfl | (simp [errW_none, errW_some] <;> rfl) | (simp [*, errW_none, errW_some] <;> rfl), by repeat (first | (with_reducible first | exact HB.out | apply below_alloc | apply pw_below_drewN | apply below_drew1) | exact HB.out)⟩

/-- THE ONE PURE STATEMENT of gudgeonlaw01_NatSmall: yours. -/
def gudgeonlaw01_NatSmall.Pure : Prop := ∀ (a0 : Int) (l1 : List Int), (Lit.int .u64 a0).wf = true → l1.length ≤ maxLen → l1.length * 4 ≤ 140737488351232 → (∀ x ∈ l1, (Lit.int .u32 x).wf = true) → ∃ k, gudgeonlaw01_NatSmall.f k a0 l1 = some true
theorem gudgeonlaw01_NatSmall.walk (P : gudgeonlaw01_NatSmall.Pure) (a0 : Int) (a1 : Option Addr) (len1 cap1 : Nat) (z1 : List Int) (w : World) (w0 : (Lit.int .u64 a0).wf = true) (w1 : (a1 = none ∧ len1 = 0 ∧ cap1 = 0 ∧ z1 = []) ∨ ∃ x, a1 = some x ∧ len1 ≤ cap1 ∧ cap1 ≤ maxLen ∧ z1.length = cap1 ∧ (∀ i, i < z1.length → w.cell? (x.add i) = some (.int .u32 (z1.getD i 0))) ∧ ∀ n ∈ z1, (Lit.int .u32 n).wf = true) (y1 : len1 * 4 ≤ 140737488351232) :
    Calls Tryd.prog 10 #[.int .u64 a0, .slice a1 len1 cap1] w fun e w' => e = .returned (.bool true) ∧ Below w.heap.size w w' := by
  obtain ⟨l1, rfl, hr1, hm1, hw1, hc1⟩ := ReadsInt.ofRowC w1
  obtain ⟨k, h⟩ := P a0 l1 w0 hm1 y1 hw1
  refine (gudgeonlaw01_NatSmall.calls k a0 _ _ l1 true w (Kd.C_of_reads (d := (0 : Int)) (h1 := fun _ => rfl) hr1) hc1 h).mono ?_
  rintro e w' ⟨rfl, hd⟩
  exact ⟨rfl, hd⟩

end Go.Proofs.YtlfpnohpcemkgaaDoor.PA
/- Numbers by limbs: what a list of limbs is worth, and its own form. -/
namespace Go.Proofs.YtlfpnohpcemkgaaDoor.V
set_option linter.unusedVariables false
set_option linter.unusedSimpArgs false

def bB : Int := 4294967296
/-- What limbs are worth. -/
def val : List Int → Int
  | [] => 0
  | x :: r => x + 4294967296 * val r
/-- Limbs of 32 bits. -/
def Lim (l : List Int) : Prop := ∀ x ∈ l, 0 ≤ x ∧ x < 4294967296
theorem Lim.nil : Lim [] := fun _ h => by cases h
theorem Lim.cons {x : Int} {l : List Int} (h0 : 0 ≤ x) (h1 : x < 4294967296) (h : Lim l) : Lim (x :: l) := fun y hy => by
  rcases List.mem_cons.1 hy with rfl | hy
  · exact ⟨h0, h1⟩
  · exact h y hy
theorem Lim.head {x : Int} {l : List Int} (h : Lim (x :: l)) : 0 ≤ x ∧ x < 4294967296 := h x List.mem_cons_self
theorem Lim.tail {x : Int} {l : List Int} (h : Lim (x :: l)) : Lim l := fun y hy => h y (List.mem_cons_of_mem _ hy)
theorem Lim.append {a b : List Int} (ha : Lim a) (hb : Lim b) : Lim (a ++ b) := fun y hy => by
  rcases List.mem_append.1 hy with hy | hy
  · exact ha y hy
  · exact hb y hy
theorem Lim.left {a b : List Int} (h : Lim (a ++ b)) : Lim a := fun y hy => h y (List.mem_append_left _ hy)
theorem Lim.right {a b : List Int} (h : Lim (a ++ b)) : Lim b := fun y hy => h y (List.mem_append_right _ hy)
theorem Lim.take {a : List Int} (n : Nat) (h : Lim a) : Lim (a.take n) := fun y hy => h y (List.mem_of_mem_take hy)
theorem Lim.drop {a : List Int} (n : Nat) (h : Lim a) : Lim (a.drop n) := fun y hy => h y (List.mem_of_mem_drop hy)
theorem Lim.get {l : List Int} (h : Lim l) (i : Nat) (hi : i < l.length) : 0 ≤ l[i] ∧ l[i] < 4294967296 := h _ (List.getElem_mem hi)
theorem Lim.set {l : List Int} (h : Lim l) (i : Nat) {x : Int} (h0 : 0 ≤ x) (h1 : x < 4294967296) : Lim (l.set i x) := fun y hy => by
  rcases List.mem_or_eq_of_mem_set hy with hy | rfl
  · exact h y hy
  · exact ⟨h0, h1⟩
theorem Lim.zeros (n : Nat) : Lim (List.replicate n 0) := fun y hy => by
  obtain rfl := List.eq_of_mem_replicate hy
  omega
theorem val_nonneg {l : List Int} (h : Lim l) : 0 ≤ val l := by
  induction l with
  | nil => simp [val]
  | cons x l ih =>
    have := ih h.tail
    have := h.head
    simp only [val]; omega
/-- The weight of the limb at a place. -/
def pw (n : Nat) : Int := 4294967296 ^ n
theorem pw_zero : pw 0 = 1 := rfl
theorem pw_succ (n : Nat) : pw (n + 1) = 4294967296 * pw n := by unfold pw; rw [Int.pow_succ]; omega
theorem pw_pos (n : Nat) : 0 < pw n := by
  induction n with
  | zero => decide
  | succ n ih => rw [pw_succ]; omega
theorem pw_add (m n : Nat) : pw (m + n) = pw m * pw n := by unfold pw; exact Int.pow_add ..
theorem val_lt {l : List Int} (h : Lim l) : val l < pw l.length := by
  induction l with
  | nil => simp [val, pw_zero]
  | cons x l ih =>
    have := ih h.tail
    have := h.head
    simp only [val, List.length_cons, pw_succ]; omega
theorem val_append (a b : List Int) : val (a ++ b) = val a + pw a.length * val b := by
  induction a with
  | nil => simp [val, pw_zero]
  | cons x a ih => simp only [List.cons_append, val, ih, List.length_cons, pw_succ]; grind
theorem val_zeros (n : Nat) : val (List.replicate n 0) = 0 := by
  induction n with
  | zero => rfl
  | succ n ih => simp only [List.replicate_succ, val, ih]; omega
/-- The limbs of a number, without noughts behind. -/
def digN (n : Nat) : List Int := if h : n = 0 then [] else ((n % 4294967296 : Nat) : Int) :: digN (n / 4294967296)
termination_by n
decreasing_by omega
def dig (n : Int) : List Int := digN n.toNat
theorem digN_lim (n : Nat) : Lim (digN n) := by
  induction n using Nat.strongRecOn with
  | _ n ih =>
    rw [digN]
    split
    · exact Lim.nil
    · exact Lim.cons (by omega) (by omega) (ih _ (by omega))
theorem val_digN (n : Nat) : val (digN n) = n := by
  induction n using Nat.strongRecOn with
  | _ n ih =>
    rw [digN]
    split
    · rename_i h; simp [val, h]
    · simp only [val]; rw [ih _ (by omega)]; omega
theorem dig_lim (n : Int) : Lim (dig n) := digN_lim _
theorem val_dig {n : Int} (h : 0 ≤ n) : val (dig n) = n := by unfold dig; rw [val_digN]; omega
theorem dig_zero : dig 0 = [] := by unfold dig; rw [digN]; rfl
theorem dig_eq_nil {n : Int} (h : 0 ≤ n) : dig n = [] ↔ n = 0 := by
  constructor
  · intro e
    have := val_dig h
    rw [e] at this
    exact this.symm
  · rintro rfl; exact dig_zero
theorem dig_cons {x n : Int} (h0 : 0 ≤ x) (h1 : x < 4294967296) (hn : 0 ≤ n) (h : x + 4294967296 * n ≠ 0) : dig (x + 4294967296 * n) = x :: dig n := by
  unfold dig
  rw [digN]
  rw [dif_neg (by omega)]
  have e1 : (((x + 4294967296 * n).toNat % 4294967296 : Nat) : Int) = x := by omega
  have e2 : (x + 4294967296 * n).toNat / 4294967296 = n.toNat := by omega
  rw [e1, e2]
theorem dig_length_le {n : Int} {k : Nat} (h0 : 0 ≤ n) (h : n < pw k) : (dig n).length ≤ k := by
  induction k generalizing n with
  | zero => rw [pw_zero] at h; rw [show n = 0 by omega, dig_zero]; simp
  | succ k ih =>
    rw [pw_succ] at h
    by_cases hn : n = 0
    · rw [hn, dig_zero]; simp
    · have e : n = n % 4294967296 + 4294967296 * (n / 4294967296) := by omega
      rw [e, dig_cons (by omega) (by omega) (by omega) (by omega)]
      have := ih (n := n / 4294967296) (by omega) (by omega)
      simp; omega
theorem lt_of_dig_length {n : Int} {k : Nat} (h0 : 0 ≤ n) (h : (dig n).length ≤ k) : n < pw k := by
  have := val_lt (dig_lim n)
  rw [val_dig h0] at this
  have hp : pw (dig n).length ≤ pw k := by
    obtain ⟨d, hd⟩ := Nat.exists_eq_add_of_le h
    rw [hd, pw_add]
    have := pw_pos (dig n).length
    have := pw_pos d
    calc pw (dig n).length = pw (dig n).length * 1 := by omega
      _ ≤ _ := Int.mul_le_mul_of_nonneg_left (by omega) (by omega)
  omega
/-- Without the noughts behind: as the machine's Norm. -/
theorem dropWhile_zeros (l : List Int) (h : Lim l) : (l.reverse.dropWhile (fun x => x == 0)).reverse = dig (val l) := by
  induction l with
  | nil => simp [val, dig_zero]
  | cons x l ih =>
    have ih := ih h.tail
    have hx := h.head
    have hv := val_nonneg h.tail
    simp only [val, List.reverse_cons]
    rw [List.dropWhile_append]
    by_cases hz : val l = 0
    · rw [hz, dig_zero] at ih
      have e : (List.dropWhile (fun x => x == 0) l.reverse) = [] := by simpa using ih
      rw [e, hz]
      by_cases h0 : x = 0
      · subst h0; simp [dig_zero]
      · have : dig (x + 4294967296 * 0) = x :: dig 0 := dig_cons (by omega) (by omega) (by omega) (by omega)
        rw [this, dig_zero]
        simp [h0]
    · have hne : dig (val l) ≠ [] := by rw [Ne, dig_eq_nil hv]; exact hz
      rw [dig_cons (by omega) (by omega) hv (by omega), ← ih]
      have e : (List.dropWhile (fun x => x == 0) l.reverse).isEmpty = false := by
        rw [← ih] at hne
        cases hd : List.dropWhile (fun x => x == 0) l.reverse with
        | nil => rw [hd] at hne; simp at hne
        | cons _ _ => rfl
      rw [e]; simp
theorem dig_val_of_last {l : List Int} (h : Lim l) (hl : ∀ hne : l ≠ [], l.getLast hne ≠ 0) : dig (val l) = l := by
  rw [← dropWhile_zeros l h]
  cases hr : l.reverse with
  | nil => simp [List.reverse_eq_nil_iff.1 hr]
  | cons x r =>
    obtain rfl : l = r.reverse ++ [x] := by rw [← List.reverse_reverse l, hr]; simp
    have hx : x ≠ 0 := by
      have := hl (by simp)
      simpa using this
    rw [List.dropWhile_cons_of_neg (by simpa using hx), ← hr, List.reverse_reverse]
theorem dig_last {n : Int} (hne : dig n ≠ []) : (dig n).getLast hne ≠ 0 := by
  have key : ∀ (m : Nat) (hne : digN m ≠ []), (digN m).getLast hne ≠ 0 := by
    intro m
    induction m using Nat.strongRecOn with
    | _ m ih =>
      rw [digN]
      split
      · intro h; exact absurd rfl h
      · intro _
        by_cases hd : digN (m / 4294967296) = []
        · have : m / 4294967296 = 0 := by
            have hv := val_digN (m / 4294967296)
            rw [hd] at hv
            simp only [val] at hv
            omega
          simp only [hd, List.getLast_singleton]
          omega
        · rw [List.getLast_cons hd]
          exact ih _ (by omega) hd
  exact key _ hne
theorem dig_inj {a b : Int} (ha : 0 ≤ a) (hb : 0 ≤ b) (h : dig a = dig b) : a = b := by
  rw [← val_dig ha, ← val_dig hb, h]
theorem val_take_getD (l : List Int) (i : Nat) : val (l.take (i + 1)) = val (l.take i) + pw i * l.getD i 0 := by
  by_cases h : i < l.length
  · rw [List.take_succ_eq_append_getElem h, val_append, List.length_take, Nat.min_eq_left (Nat.le_of_lt h)]
    simp [val, h]
  · rw [List.take_of_length_le (by omega), List.take_of_length_le (by omega), List.getD_eq_getElem?_getD, List.getElem?_eq_none (by omega)]
    simp
theorem val_set_take (l : List Int) (i : Nat) (x : Int) (h : i < l.length) : val ((l.set i x).take (i + 1)) = val (l.take i) + pw i * x := by
  rw [val_take_getD, List.take_set_of_le (Nat.le_refl i)]
  simp [List.getD_eq_getElem?_getD, h]
theorem val_set (l : List Int) (i : Nat) (x : Int) (h : i < l.length) : val (l.set i x) = val l + pw i * (x - l[i]) := by
  induction l generalizing i with
  | nil => simp at h
  | cons y l ih =>
    cases i with
    | zero => simp [val, pw_zero]; omega
    | succ i =>
      have := ih i (by simpa using h)
      simp only [List.set_cons_succ, val, this, pw_succ, List.getElem_cons_succ]
      grind
theorem val_take_le {l : List Int} (h : Lim l) (i : Nat) : val (l.take i) ≤ val l := by
  by_cases hi : i ≤ l.length
  · have e : val l = val (l.take i) + pw i * val (l.drop i) := by
      have := val_append (l.take i) (l.drop i)
      rwa [List.take_append_drop, List.length_take, Nat.min_eq_left hi] at this
    have := Int.mul_nonneg (Int.le_of_lt (pw_pos i)) (val_nonneg (h.drop i))
    omega
  · rw [List.take_of_length_le (by omega)]; exact Int.le_refl _
theorem lim_one {x : Int} (h0 : 0 ≤ x) (h1 : x < 4294967296) : Lim [x] := Lim.cons h0 h1 Lim.nil
theorem val_one (x : Int) : val [x] = x := by simp [val]
theorem val_take_drop (l : List Int) (i : Nat) (h : i ≤ l.length) : val l = val (l.take i) + pw i * val (l.drop i) := by
  have := val_append (l.take i) (l.drop i)
  rwa [List.take_append_drop, List.length_take, Nat.min_eq_left h] at this
theorem val_take_succ (l : List Int) (i : Nat) (h : i < l.length) : val (l.take (i + 1)) = val (l.take i) + pw i * l[i] := by
  rw [List.take_succ_eq_append_getElem h, val_append, List.length_take, Nat.min_eq_left (Nat.le_of_lt h)]
  simp [val]
theorem val_drop_cons (l : List Int) (i : Nat) (h : i < l.length) : val (l.drop i) = l[i] + 4294967296 * val (l.drop (i + 1)) := by
  rw [List.drop_eq_getElem_cons h]; rfl
end Go.Proofs.YtlfpnohpcemkgaaDoor.V
/- What nat's functions compute, as numbers: the order, sums, differences, products, a number by a small one, moved bits. -/
namespace Go.Proofs.YtlfpnohpcemkgaaDoor.V
set_option linter.unusedVariables false
set_option linter.unusedSimpArgs false
open Go.RowKit Go.Proofs.YtlfpnohpcemkgaaDoor.PA Go.Proofs.YtlfpnohpcemkgaaDoor.H Go.Proofs.YtlfpnohpcemkgaaDoorW.PrintWords Go.Proofs.YtlfpnohpcemkgaaDoorW.PrintLast Go.Proofs.YtlfpnohpcemkgaaDoorW.PrintMore

theorem w64 {x : Int} (h0 : -9223372036854775808 ≤ x) (h1 : x ≤ 9223372036854775807) : wrap64 x = x := by unfold wrap64; omega
theorem w01 : wrap64 1 = 1 := w64 (by omega) (by omega)
theorem w11 : wrap64 2 = 2 := w64 (by omega) (by omega)
theorem w21 : wrap64 3 = 3 := w64 (by omega) (by omega)
theorem wm1 : wrap64 (-1) = -1 := w64 (by omega) (by omega)
theorem wm2 : wrap64 (-2) = -2 := w64 (by omega) (by omega)
theorem wm0 : wrap64 0 = 0 := w64 (by omega) (by omega)
theorem u64 {x : Int} (h0 : 0 ≤ x) (h1 : x < 18446744073709551616) : IntKind.u64.wrap x = x := by rw [IntKind.wrap_u64]; omega
theorem u64e (x : Int) : IntKind.u64.wrap x = x % 18446744073709551616 := IntKind.wrap_u64 x
theorem rd_get (l : List Int) (i : Nat) (h : i < l.length) : rd l (i : Int) = l[i] := by simp [rd, h]
theorem rd_D (l : List Int) (i : Nat) : rd l (i : Int) = l.getD i 0 := by simp [rd]
theorem Lim.getD {l : List Int} (h : Lim l) (i : Nat) : 0 ≤ l.getD i 0 ∧ l.getD i 0 < 4294967296 := by
  by_cases hi : i < l.length
  · have := h.get i hi
    simpa [List.getD_eq_getElem?_getD, hi] using this
  · rw [List.getD_eq_getElem?_getD, List.getElem?_eq_none (by omega)]
    simp
theorem norm_ev (l : List Int) (h : Lim l) (hn : l.length ≤ 1000000000000) : nat_Norm.f l = some (dig (val l)) := by
  unfold nat_Norm.f
  rw [if_pos hn]
  unfold normL
  rw [dropWhile_zeros l h]
theorem limb_ev (l : List Int) (i : Nat) (h : Lim l) : nat_limb.f l (i : Int) = some (l.getD i 0) := by
  have hg := h.getD i
  unfold nat_limb.f
  by_cases hi : i < l.length
  · rw [if_neg (by omega), if_pos (by omega), if_pos (by omega), rd_D, u64 hg.1 (by omega)]
  · rw [if_pos (by omega), List.getD_eq_getElem?_getD, List.getElem?_eq_none (by omega)]
    rfl
theorem sign_ev (n : Int) : nat_sign.f n = some (if n < 0 then -1 else if n > 0 then 1 else 0) := by
  unfold nat_sign.f
  split
  · rfl
  · split <;> rfl
/-- The order of two numbers. -/
def cmpI (a b : Int) : Int := if a < b then -1 else if b < a then 1 else 0
theorem val_lt_of_length {a b : List Int} (ha : Lim a) (hb : Lim b) (hl : a.length < b.length) (hne : ∀ h : b ≠ [], b.getLast h ≠ 0) : val a < val b := by
  have h1 := val_lt ha
  obtain ⟨b', x, rfl⟩ : ∃ b' x, b = b' ++ [x] := by
    have hb0 : b ≠ [] := by rintro rfl; simp at hl
    exact ⟨b.dropLast, b.getLast hb0, (List.dropLast_concat_getLast hb0).symm⟩
  have hx : x ≠ 0 := by simpa using hne (by simp)
  have hx0 := (hb x (by simp)).1
  rw [val_append]
  have h2 := val_nonneg hb.left
  have h3 : pw a.length ≤ pw b'.length := by
    simp at hl
    obtain ⟨d, hd⟩ := Nat.exists_eq_add_of_le (show a.length ≤ b'.length by omega)
    rw [hd, pw_add]
    have := pw_pos a.length
    have := pw_pos d
    calc pw a.length = pw a.length * 1 := by omega
      _ ≤ _ := Int.mul_le_mul_of_nonneg_left (by omega) (by omega)
  have h4 : pw b'.length * 1 ≤ pw b'.length * val [x] := Int.mul_le_mul_of_nonneg_left (by simp [val]; omega) (Int.le_of_lt (pw_pos _))
  omega
theorem cmp_l0 (a b : List Int) (ha : Lim a) (hb : Lim b) (hl : a.length = b.length) (hn : a.length ≤ 1000000000000) (d : Nat) (hd : d ≤ a.length) (he : a.drop d = b.drop d) :
    Ev (fun k => nat_Cmp.l0 k a b ((d : Int) - 1)) (cmpI (val a) (val b)) := by
  induction d with
  | zero =>
    simp only [List.drop_zero] at he
    refine Ev.step (f := fun _ => some _) (fun k => ?_) (Ev.now _)
    simp only [nat_Cmp.l0]
    rw [if_neg (by omega), he]
    unfold cmpI
    rw [if_neg (by omega), if_neg (by omega)]
  | succ d ih =>
    have hda : d < a.length := by omega
    have hdb : d < b.length := by omega
    have e0 : ((d + 1 : Nat) : Int) - 1 = (d : Int) := by omega
    rw [e0]
    have xa := ha.get d hda
    have xb := hb.get d hdb
    by_cases hx : a[d] = b[d]
    · refine Ev.step (fun k => ?_) (ih (by omega) (by rw [List.drop_eq_getElem_cons hda, List.drop_eq_getElem_cons hdb, he, hx]))
      simp only [nat_Cmp.l0]
      rw [if_pos (by omega), if_pos (by omega), if_pos (by omega), if_pos (by omega), rd_get _ _ hda, rd_get _ _ hdb, if_pos hx, w64 (by omega) (by omega)]
    · refine Ev.step (f := fun _ => some _) (fun k => ?_) (Ev.now _)
      simp only [nat_Cmp.l0]
      rw [if_pos (by omega), if_pos (by omega), if_pos (by omega), if_pos (by omega), rd_get _ _ hda, rd_get _ _ hdb, if_neg hx, w64 (x := a[d]) (by omega) (by omega), w64 (x := b[d]) (by omega) (by omega), w64 (by omega) (by omega), sign_ev]
      simp only [Option.bind_some]
      have e1 := val_take_drop a (d + 1) hd
      have e2 := val_take_drop b (d + 1) (by omega)
      rw [he] at e1
      rw [val_take_succ a d hda] at e1
      rw [val_take_succ b d hdb] at e2
      have b1 := val_nonneg (ha.take d)
      have b2 := val_nonneg (hb.take d)
      have b3 := val_lt (ha.take d)
      have b4 := val_lt (hb.take d)
      rw [List.length_take, Nat.min_eq_left (by omega)] at b3 b4
      unfold cmpI
      congr 1
      by_cases hlt : a[d] < b[d]
      · have h5 : pw d * (a[d] + 1) ≤ pw d * b[d] := Int.mul_le_mul_of_nonneg_left (by omega) (Int.le_of_lt (pw_pos _))
        rw [Int.mul_add, Int.mul_one] at h5
        rw [if_pos (by omega), if_pos (by omega)]
      · have h5 : pw d * (b[d] + 1) ≤ pw d * a[d] := Int.mul_le_mul_of_nonneg_left (by omega) (Int.le_of_lt (pw_pos _))
        rw [Int.mul_add, Int.mul_one] at h5
        rw [if_neg (by omega), if_pos (by omega), if_neg (by omega), if_pos (by omega)]
theorem dig_length (l : List Int) (h : Lim l) : (dig (val l)).length ≤ l.length := dig_length_le (val_nonneg h) (val_lt h)
theorem cmp_ev (a b : List Int) (ha : Lim a) (hb : Lim b) (hna : a.length ≤ 1000000000000) (hnb : b.length ≤ 1000000000000) : Ev (fun k => nat_Cmp.f k a b) (cmpI (val a) (val b)) := by
  have va := val_nonneg ha
  have vb := val_nonneg hb
  have la := dig_length a ha
  have lb := dig_length b hb
  by_cases hl : (dig (val a)).length = (dig (val b)).length
  · have := cmp_l0 (dig (val a)) (dig (val b)) (dig_lim _) (dig_lim _) hl (by omega) _ (Nat.le_refl _) (by rw [List.drop_eq_nil_of_le (by omega), List.drop_eq_nil_of_le (by omega)])
    rw [val_dig va, val_dig vb] at this
    refine Ev.congr (fun k => ?_) this
    unfold nat_Cmp.f
    rw [norm_ev a ha hna, norm_ev b hb hnb]
    simp only [Option.bind_some]
    rw [if_pos (by omega), w64 (by omega) (by omega)]
  · refine Ev.congr (f := fun _ => some _) (fun k => ?_) (Ev.now _)
    unfold nat_Cmp.f
    rw [norm_ev a ha hna, norm_ev b hb hnb]
    simp only [Option.bind_some]
    rw [if_neg (by omega), w64 (by omega) (by omega), sign_ev]
    simp only [Option.bind_some]
    congr 1
    unfold cmpI
    by_cases hlt : (dig (val a)).length < (dig (val b)).length
    · have := val_lt_of_length (dig_lim _) (dig_lim _) hlt (fun h => dig_last h)
      rw [val_dig va, val_dig vb] at this
      rw [if_pos (by omega), if_pos (by omega)]
    · have := val_lt_of_length (dig_lim _) (dig_lim _) (show (dig (val b)).length < (dig (val a)).length by omega) (fun h => dig_last h)
      rw [val_dig va, val_dig vb] at this
      rw [if_neg (by omega), if_pos (by omega), if_neg (by omega), if_pos (by omega)]
theorem of_ev (n : Int) (h0 : 0 ≤ n) (h1 : n < 18446744073709551616) : nat_Of.f n = some (dig n) := by
  unfold nat_Of.f
  rw [norm_ev _ (Lim.cons (by omega) (by omega) (Lim.cons (by omega) (by omega) Lim.nil)) (by simp)]
  simp only [Option.bind_some, val]
  congr 2
  omega
theorem pw_le_pw {a b : Nat} (h : a ≤ b) : pw a ≤ pw b := by
  obtain ⟨d, rfl⟩ := Nat.exists_eq_add_of_le h
  rw [pw_add]
  have := pw_pos a
  have := pw_pos d
  calc pw a = pw a * 1 := by omega
    _ ≤ _ := Int.mul_le_mul_of_nonneg_left (by omega) (by omega)

/-! ### sums -/
theorem step_add {P V A Bv c x y q r : Int} (h : V + P * c = A + Bv) (e : r + 4294967296 * q = c + (x + y)) : V + P * r + (4294967296 * P) * q = A + P * x + (Bv + P * y) := by grind
theorem add_l0 (a b : List Int) (ha : Lim a) (hb : Lim b) (n : Nat) (hna : a.length < n) (hnb : b.length < n) (hn : n ≤ 1000000000000) (d : Nat) : ∀ (i : Nat) (out : List Int) (c : Int), i + d = n → out.length = n → Lim out → 0 ≤ c → c ≤ 1 → val (out.take i) + pw i * c = val (a.take i) + val (b.take i) →
    Ev (fun k => nat_Add.l0 k a b out c (n : Int) (i : Int)) (dig (val a + val b)) := by
  induction d with
  | zero =>
    intro i out c hi ho hL c0 c1 hv
    obtain rfl : i = n := by omega
    refine Ev.step (f := fun _ => some _) (fun k => ?_) (Ev.now _)
    simp only [nat_Add.l0]
    rw [if_neg (by omega), norm_ev out hL (by omega)]
    simp only [Option.bind_some]
    rw [List.take_of_length_le (by omega), List.take_of_length_le (by omega), List.take_of_length_le (by omega)] at hv
    have h1 := val_lt ha
    have h2 := val_lt hb
    have h3 := val_nonneg hL
    obtain ⟨m, rfl⟩ : ∃ m, i = m + 1 := ⟨i - 1, by omega⟩
    have h4 := pw_le_pw (show a.length ≤ m by omega)
    have h5 := pw_le_pw (show b.length ≤ m by omega)
    have h6 := pw_succ m
    have h7 := pw_pos m
    have hc : c = 0 := by
      by_cases hc : c = 0
      · exact hc
      · have : c = 1 := by omega
        subst this
        omega
    subst hc
    congr 2
    omega
  | succ d ih =>
    intro i out c hi ho hL c0 c1 hv
    have ga := ha.getD i
    have gb := hb.getD i
    have hio : i < out.length := by omega
    refine Ev.step (fun k => ?_) (ih (i + 1) (out.set i ((c + (a.getD i 0 + b.getD i 0)) % 4294967296)) ((c + (a.getD i 0 + b.getD i 0)) / 4294967296) (by omega) (by simpa using ho) (hL.set i (by omega) (by omega)) (by omega) (by omega) ?_)
    · simp only [nat_Add.l0]
      rw [if_pos (by omega), limb_ev a i ha, limb_ev b i hb]
      simp only [Option.bind_some]
      rw [if_pos (by omega), if_pos (by omega), u64 (x := a.getD i 0 + b.getD i 0) (by omega) (by omega), u64 (by omega) (by omega), w64 (by omega) (by omega), Int.toNat_natCast]
      rfl
    · rw [val_set_take _ _ _ hio, val_take_getD a, val_take_getD b, pw_succ]
      exact step_add hv (by omega)
theorem mx_len (a b : List Int) : mx (a.length : Int) (b.length : Int) = ((max a.length b.length : Nat) : Int) := by unfold mx; split <;> omega
theorem add_ev (a b : List Int) (ha : Lim a) (hb : Lim b) (hna : a.length < 1000000000) (hnb : b.length < 1000000000) : Ev (fun k => nat_Add.f k a b) (dig (val a + val b)) := by
  have := add_l0 a b ha hb (max a.length b.length + 1) (by omega) (by omega) (by omega) (max a.length b.length + 1) 0 (List.replicate (max a.length b.length + 1) 0) 0 (by omega) (by simp) (Lim.zeros _) (by omega) (by omega) (by simp [val])
  refine Ev.congr (fun k => ?_) this
  unfold nat_Add.f
  rw [mx_len, w64 (by omega) (by omega), if_pos (by omega), if_pos (by omega)]
  congr 1 <;> omega

end Go.Proofs.YtlfpnohpcemkgaaDoor.V
/- Are two lists the same? -/
namespace Go.Proofs.YtlfpnohpcemkgaaDoor.V
set_option linter.unusedVariables false
set_option linter.unusedSimpArgs false
open Go.RowKit Go.Proofs.YtlfpnohpcemkgaaDoor.PA Go.Proofs.YtlfpnohpcemkgaaDoor.H Go.Proofs.YtlfpnohpcemkgaaDoorW.PrintWords Go.Proofs.YtlfpnohpcemkgaaDoorW.PrintLast Go.Proofs.YtlfpnohpcemkgaaDoorW.PrintMore

/-! ### equality -/
theorem same_l0 (a b : List Int) (hl : a.length = b.length) (hn : a.length ≤ 1000000000) (d : Nat) : ∀ i : Nat, i + d = a.length → a.take i = b.take i → Ev (fun k => gudgeonref01_Same.l0 k a b (i : Int)) (decide (a = b)) := by
  induction d with
  | zero =>
    intro i hi he
    rw [List.take_of_length_le (by omega), List.take_of_length_le (by omega)] at he
    refine Ev.step (f := fun _ => some _) (fun k => ?_) (Ev.now _)
    simp only [gudgeonref01_Same.l0]
    rw [if_neg (by omega), decide_eq_true he]
  | succ d ih =>
    intro i hi he
    have hia : i < a.length := by omega
    have hib : i < b.length := by omega
    by_cases hx : a[i] = b[i]
    · refine Ev.step (fun k => ?_) (ih (i + 1) (by omega) (by rw [List.take_succ_eq_append_getElem hia, List.take_succ_eq_append_getElem hib, he, hx]))
      simp only [gudgeonref01_Same.l0]
      rw [if_pos (by omega), if_pos (by omega), if_pos (by omega), rd_get _ _ hia, rd_get _ _ hib, if_pos hx, w64 (by omega) (by omega)]
      rfl
    · refine Ev.step (f := fun _ => some _) (fun k => ?_) (Ev.now _)
      simp only [gudgeonref01_Same.l0]
      rw [if_pos (by omega), if_pos (by omega), if_pos (by omega), rd_get _ _ hia, rd_get _ _ hib, if_neg hx, decide_eq_false]
      intro h
      subst h
      exact hx rfl
theorem same_ev (a b : List Int) (hn : a.length ≤ 1000000000) : Ev (fun k => gudgeonref01_Same.f k a b) (decide (a = b)) := by
  by_cases hl : a.length = b.length
  · refine Ev.congr (fun k => ?_) (same_l0 a b hl hn a.length 0 (by omega) rfl)
    unfold gudgeonref01_Same.f
    rw [if_pos (by omega)]
    rfl
  · refine Ev.congr (f := fun _ => some _) (fun k => ?_) (Ev.now _)
    unfold gudgeonref01_Same.f
    rw [if_neg (by omega), decide_eq_false]
    intro h
    exact hl (by rw [h])
theorem same_self (a b : List Int) (h : a = b) (hn : a.length ≤ 1000000000) : Ev (fun k => gudgeonref01_Same.f k a b) true := by
  have := same_ev a b hn
  rwa [decide_eq_true h] at this
end Go.Proofs.YtlfpnohpcemkgaaDoor.V
/- Written by a program of this session, wip/tools/patch_print.py, over the kit's print of the loaded functions. -/
namespace Go.Proofs.YtlfpnohpcemkgaaDoor.H
end Go.Proofs.YtlfpnohpcemkgaaDoor.H
namespace Go.Proofs.YtlfpnohpcemkgaaDoor.PA
open Go.RowKit Go.Proofs.YtlfpnohpcemkgaaDoorW.PrintWords Go.Proofs.YtlfpnohpcemkgaaDoorW.PrintLast Go.Proofs.YtlfpnohpcemkgaaDoorW.PrintMore Go.Proofs.YtlfpnohpcemkgaaDoor.H
attribute [local go_sem] max2_int min2_int max_two min_two max_three min_three max_four min_four   -- for this text's walks alone
set_option linter.unusedVariables false
set_option linter.unusedSimpArgs false

/-! ### gudgeonlaw01_few: function 12 -/
def gudgeonlaw01_few.f (l0 : List Int) (l1 : List Int) (a2 : Int) : Option (Bool) := if (l0.length : Int) ≤ a2 then (some (decide ((l1.length : Int) ≤ a2))) else (some false)
set_option maxHeartbeats 8000000 in
set_option maxRecDepth 100000 in
theorem gudgeonlaw01_few.calls (A0 : Option Addr) (c0 : Nat) (l0 : List Int) (A1 : Option Addr) (c1 : Nat) (l1 : List Int) (a2 : Int) (r : Bool) (w : World) (hr0 : Kd.C (Kd.int .u32) w A0 l0.length l0) (hc0 : l0.length ≤ c0) (hr1 : Kd.C (Kd.int .u32) w A1 l1.length l1) (hc1 : l1.length ≤ c1) (h : gudgeonlaw01_few.f l0 l1 a2 = some r) :
    Calls Tryd.prog 12 #[.slice A0 l0.length c0, .slice A1 l1.length c1, .int .i64 a2] w fun e w' => e = .returned (.bool r) ∧ Drawn0 w w' := by
  have HR0 := Aside0.mk hr0
  have HC0 := Aside0.mk hc0
  clear hr0 hc0
  have HR1 := Aside0.mk hr1
  have HC1 := Aside0.mk hc1
  clear hr1 hc1
  have H : (if (l0.length : Int) ≤ a2 then (some (decide ((l1.length : Int) ≤ a2))) else (some false)) = some r := h
  clear h
  by_cases c4 : (l0.length : Int) ≤ a2
  · rw [if_pos c4] at H
    have c4b0 : decide ((l0.length : Int) ≤ a2) = true := decide_eq_true c4
    clear c4
    obtain rfl := Option.some.inj H
    go_enter Tryd.func12, Tryd.ntmps12
    go_wp2
    go_ret
    exact ⟨by first | rfl | (simp; done) | (simp [*]; done) | (refine congrArg (Value.int _) ?_; omega) | (refine congrArg Value.bool ?_; generalize ByteArray.toList _ = z_; cases z_ <;> rfl), by repeat (first | exact Drawn0.refl _ | apply Drawn0.step)⟩
  · rw [if_neg c4] at H
    have c4b0 : decide ((l0.length : Int) ≤ a2) = false := decide_eq_false c4
    clear c4
    obtain rfl := Option.some.inj H
    go_enter Tryd.func12, Tryd.ntmps12
    go_wp2
    go_ret
    exact ⟨by first | rfl | (simp; done) | (simp [*]; done) | (refine congrArg (Value.int _) ?_; omega) | (refine congrArg Value.bool ?_; generalize ByteArray.toList _ = z_; cases z_ <;> rfl), by repeat (first | exact Drawn0.refl _ | apply Drawn0.step)⟩

end Go.Proofs.YtlfpnohpcemkgaaDoor.PA
/- What the laws of nat have in common. -/
namespace Go.Proofs.YtlfpnohpcemkgaaDoor.S
set_option linter.unusedVariables false
set_option linter.unusedSimpArgs false
open Go.RowKit Go.Proofs.YtlfpnohpcemkgaaDoor.V Go.Proofs.YtlfpnohpcemkgaaDoor.PA Go.Proofs.YtlfpnohpcemkgaaDoor.H Go.Proofs.YtlfpnohpcemkgaaDoorW.PrintWords Go.Proofs.YtlfpnohpcemkgaaDoorW.PrintLast Go.Proofs.YtlfpnohpcemkgaaDoorW.PrintMore

theorem evC {α β : Type} {o : Option α} {f : Nat → α → Option β} {a : α} {r : β} (h : o = some a) (k : Ev (fun n => f n a) r) : Ev (fun n => o.bind (f n)) r := by
  subst h; exact k
theorem evP {α : Type} {c : Prop} [Decidable c] {f g : Nat → Option α} {r : α} (h : c) (k : Ev f r) : Ev (fun n => if c then f n else g n) r := by
  simp only [if_pos h]; exact k
theorem evN {α : Type} {c : Prop} [Decidable c] {f g : Nat → Option α} {r : α} (h : ¬ c) (k : Ev g r) : Ev (fun n => if c then f n else g n) r := by
  simp only [if_neg h]; exact k
theorem evR {α : Type} {a r : α} (h : a = r) : Ev (fun _ => some a) r := by subst h; exact Ev.now _
theorem lim_wf {l : List Int} (h : ∀ x ∈ l, (Lit.int .u32 x).wf = true) : Lim l := fun x hx => by have := bounds_u32 (h x hx); omega
theorem len_add {x y : Int} (hx : 0 ≤ x) (hy : 0 ≤ y) : (dig (x + y)).length ≤ max (dig x).length (dig y).length + 1 := by
  have h1 := lt_of_dig_length hx (Nat.le_max_left (dig x).length (dig y).length)
  have h2 := lt_of_dig_length hy (Nat.le_max_right (dig x).length (dig y).length)
  exact dig_length_le (by omega) (by rw [pw_succ]; omega)
theorem len_mul {x y : Int} (hx : 0 ≤ x) (hy : 0 ≤ y) : (dig (x * y)).length ≤ (dig x).length + (dig y).length := by
  have h1 := lt_of_dig_length hx (Nat.le_refl _)
  have h2 := lt_of_dig_length hy (Nat.le_refl _)
  refine dig_length_le (Int.mul_nonneg hx hy) ?_
  rw [pw_add]
  have a1 : x * y ≤ x * pw (dig y).length := Int.mul_le_mul_of_nonneg_left (by omega) hx
  have a2 : x * pw (dig y).length < pw (dig x).length * pw (dig y).length := Int.mul_lt_mul_of_pos_right h1 (pw_pos _)
  omega
theorem len_le {x y : Int} (hx : 0 ≤ x) (h : x ≤ y) : (dig x).length ≤ (dig y).length := by
  have h1 := lt_of_dig_length (n := y) (by omega) (Nat.le_refl _)
  exact dig_length_le hx (by omega)
theorem digs {l : List Int} (h : Lim l) (hl : ∀ hne : l ≠ [], l.getLast hne ≠ 0) {v : Int} (hv : val l = v) : dig v = l := by rw [← hv]; exact dig_val_of_last h hl
theorem dig_one {x : Int} (h0 : 0 < x) (h1 : x < 4294967296) : dig x = [x] := digs (lim_one (by omega) h1) (by intro _; simp; omega) (val_one x)
theorem lim01 : Lim [0, 1] := Lim.cons (by omega) (by omega) (lim_one (by omega) (by omega))
theorem dig01 : dig 4294967296 = [0, 1] := digs lim01 (by intro _; simp) (by simp [val])
theorem awake_ev : Ev (fun _ => gudgeonlaw01_awake.f) true := Ev.now _
theorem few_ev (a b : List Int) (n : Nat) : gudgeonlaw01_few.f a b (n : Int) = some (decide (a.length ≤ n) && decide (b.length ≤ n)) := by
  unfold gudgeonlaw01_few.f
  by_cases h : a.length ≤ n
  · rw [if_pos (by omega), decide_eq_true h, Bool.true_and]
    congr 1
    rw [Bool.eq_iff_iff]
    simp
  · rw [if_neg (by omega), decide_eq_false h, Bool.false_and]
theorem few_no {a b : List Int} {n : Nat} (h : ¬ (a.length ≤ n ∧ b.length ≤ n)) : (decide (a.length ≤ n) && decide (b.length ≤ n)) = false := by
  rw [Bool.and_eq_false_iff]
  simp only [decide_eq_false_iff_not]
  omega
end Go.Proofs.YtlfpnohpcemkgaaDoor.S
/- What nat's products, and a number by a small one, and moved bits are, as numbers. -/
namespace Go.Proofs.YtlfpnohpcemkgaaDoor.V
set_option linter.unusedVariables false
set_option linter.unusedSimpArgs false
open Go.RowKit Go.Proofs.YtlfpnohpcemkgaaDoor.PA Go.Proofs.YtlfpnohpcemkgaaDoor.H Go.Proofs.YtlfpnohpcemkgaaDoorW.PrintWords Go.Proofs.YtlfpnohpcemkgaaDoorW.PrintLast Go.Proofs.YtlfpnohpcemkgaaDoorW.PrintMore

theorem mul_bd {x y X Y : Int} (h0 : 0 ≤ x) (h1 : x ≤ X) (g0 : 0 ≤ y) (g1 : y ≤ Y) : 0 ≤ x * y ∧ x * y ≤ X * Y :=
  ⟨Int.mul_nonneg h0 g0, Int.mul_le_mul h1 g1 g0 (by omega)⟩
theorem mul_bd32 {x y : Int} (hx : 0 ≤ x ∧ x < 4294967296) (hy : 0 ≤ y ∧ y < 4294967296) : 0 ≤ x * y ∧ x * y ≤ 18446744065119617025 :=
  mul_bd hx.1 (show x ≤ 4294967295 by omega) hy.1 (show y ≤ 4294967295 by omega)
theorem getD_get (l : List Int) (i : Nat) (h : i < l.length) : l.getD i 0 = l[i] := by simp [List.getD_eq_getElem?_getD, h]
theorem getD_set_ne (l : List Int) (i p : Nat) (x : Int) (h : i ≠ p) : (l.set i x).getD p 0 = l.getD p 0 := by
  simp [List.getD_eq_getElem?_getD, h]
/-- Noughts from a place on. -/
def Zf (l : List Int) (n : Nat) : Prop := ∀ p, n ≤ p → l.getD p 0 = 0
theorem Zf.set {l : List Int} {n i : Nat} {x : Int} (h : Zf l n) (hi : i < n) : Zf (l.set i x) n := fun p hp => by
  rw [getD_set_ne _ _ _ _ (by omega)]; exact h p hp
theorem Zf.zeros (m n : Nat) : Zf (List.replicate m 0) n := fun p _ => by
  rw [List.getD_eq_getElem?_getD]
  by_cases h : p < m <;> simp [h]
theorem step_mul {W V0 Pi pj P x y c q r vb o : Int} (h : W + P * c = V0 + Pi * x * vb) (e : r + 4294967296 * q = c + (x * y + o)) (hP : P = Pi * pj) : W + P * (r - o) + (4294967296 * P) * q = V0 + Pi * x * (vb + pj * y) := by
  subst hP
  grind
theorem mul_l1 (a b : List Int) (ha : Lim a) (hb : Lim b) (hna : a.length < 1000000000) (hnb : b.length < 1000000000) (i : Nat) (hi : i < a.length) (x V0 : Int) (hx : 0 ≤ x ∧ x < 4294967296) (r : List Int)
    (hc : ∀ out, out.length = a.length + b.length → Lim out → val out = V0 + pw i * x * val b → Zf out (i + 1 + b.length) → Ev (fun k => nat_Mul.l0 k b out a (a.length : Int) ((i + 1 : Nat) : Int)) r) (d : Nat) : ∀ (j : Nat) (out : List Int) (c : Int), j + d = b.length → out.length = a.length + b.length → Lim out → 0 ≤ c → c < 4294967296 → val out + pw (i + j) * c = V0 + pw i * x * val (b.take j) → Zf out (i + b.length) →
    Ev (fun k => nat_Mul.l1 k b out (i : Int) x c a (a.length : Int) (i : Int) (b.length : Int) (j : Int)) r := by
  induction d with
  | zero =>
    intro j out c hj ho hL c0 c1 hv hz
    obtain rfl : j = b.length := by omega
    have hp : i + b.length < out.length := by omega
    refine Ev.step (fun k => ?_) (hc (out.set (i + b.length) c) (by simpa using ho) (hL.set _ c0 c1) ?_ ?_)
    · simp only [nat_Mul.l1]
      rw [if_neg (by omega), w64 (by omega) (by omega), if_pos (by omega), if_pos (by omega), w64 (by omega) (by omega), show ((i : Int) + (b.length : Int)).toNat = i + b.length by omega, show c % 4294967296 = c by omega]
      rfl
    · have h0 := hz (i + b.length) (Nat.le_refl _)
      rw [getD_get _ _ hp] at h0
      rw [val_set _ _ _ hp, h0]
      rw [List.take_of_length_le (by omega)] at hv
      rw [Int.sub_zero]; exact hv
    · intro p hpp
      rw [getD_set_ne _ _ _ _ (by omega)]
      exact hz p (by omega)
  | succ d ih =>
    intro j out c hj ho hL c0 c1 hv hz
    have hjb : j < b.length := by omega
    have hp : i + j < out.length := by omega
    have gb := hb.get j hjb
    have go := hL.get (i + j) hp
    have hm := mul_bd32 hx gb
    refine Ev.step (fun k => ?_) (ih (j + 1) (out.set (i + j) ((c + (x * b[j] + out[i + j])) % 4294967296)) ((c + (x * b[j] + out[i + j])) / 4294967296) (by omega) (by simpa using ho) (hL.set _ (by omega) (by omega)) (by omega) (by omega) ?_ (hz.set (by omega)))
    · simp only [nat_Mul.l1]
      rw [if_pos (by omega), if_pos (by omega), if_pos (by omega), w64 (x := (i : Int) + (j : Int)) (by omega) (by omega), if_pos (by omega), if_pos (by omega), show ((i : Int) + (j : Int)) = ((i + j : Nat) : Int) by omega, rd_get _ _ hp, rd_get _ _ hjb, u64 (x := x) (by omega) (by omega), u64 (x := b[j]) (by omega) (by omega), u64 (x := x * b[j]) (by omega) (by omega), u64 (x := out[i + j]) (by omega) (by omega), u64 (x := x * b[j] + out[i + j]) (by omega) (by omega), u64 (by omega) (by omega), w64 (by omega) (by omega), Int.toNat_natCast]
      rfl
    · rw [val_set _ _ _ hp, val_take_succ _ _ hjb, ← Nat.add_assoc, pw_succ]
      exact step_mul hv (by omega) (pw_add i j)
theorem mul_l0 (a b : List Int) (ha : Lim a) (hb : Lim b) (hna : a.length < 1000000000) (hnb : b.length < 1000000000) (d : Nat) : ∀ (i : Nat) (out : List Int), i + d = a.length → out.length = a.length + b.length → Lim out → val out = val (a.take i) * val b → Zf out (i + b.length) →
    Ev (fun k => nat_Mul.l0 k b out a (a.length : Int) (i : Int)) (dig (val a * val b)) := by
  induction d with
  | zero =>
    intro i out hi ho hL hv hz
    obtain rfl : i = a.length := by omega
    refine Ev.step (f := fun _ => some _) (fun k => ?_) (Ev.now _)
    simp only [nat_Mul.l0]
    rw [if_neg (by omega), norm_ev out hL (by omega), hv, List.take_of_length_le (by omega)]
    rfl
  | succ d ih =>
    intro i out hi ho hL hv hz
    have hia : i < a.length := by omega
    have ga := ha.get i hia
    refine Ev.step (fun k => ?_) (mul_l1 a b ha hb hna hnb i hia a[i] (val (a.take i) * val b) ga _ (fun out' h1 h2 h3 h4 => ih (i + 1) out' (by omega) h1 h2 ?_ h4) b.length 0 out 0 (by omega) ho hL (by omega) (by omega) ?_ hz)
    · simp only [nat_Mul.l0]
      rw [if_pos (by omega), if_pos (by omega), if_pos (by omega), rd_get _ _ hia]
      rfl
    · rw [h3, val_take_succ _ _ hia]; grind
    · simp [hv, val]
theorem mul_ev (a b : List Int) (ha : Lim a) (hb : Lim b) (hna : a.length < 1000000000) (hnb : b.length < 1000000000) : Ev (fun k => nat_Mul.f k a b) (dig (val a * val b)) := by
  refine Ev.congr (fun k => ?_) (mul_l0 a b ha hb hna hnb a.length 0 (List.replicate (a.length + b.length) 0) (by omega) (by simp) (Lim.zeros _) (by simp [val, val_zeros]) (Zf.zeros _ _))
  unfold nat_Mul.f
  rw [w64 (by omega) (by omega), if_pos (by omega), if_pos (by omega), show ((a.length : Int) + (b.length : Int)).toNat = a.length + b.length by omega]
  rfl

/-! ### a number by a small one -/
theorem wraps_u64 (n : Int) (h0 : 0 ≤ n) (h1 : n < 2 ^ 64) : IntKind.u64.wrap n = n := u64 h0 (by omega)
theorem or_join {x y : Int} (hx : 0 ≤ x ∧ x < 4294967296) (hy : 0 ≤ y ∧ y < 4294967296) : Go.bits .or .u64 (x * 4294967296) y = x * 4294967296 + y :=
  bits_join .u64 64 (by decide) wraps_u64 32 _ _ (by omega) (by omega) (by omega) hy.1 (by omega) (by omega)
theorem div_unique {a b q r : Int} (hb : 0 < b) (h : q * b + r = a) (h0 : 0 ≤ r) (h1 : r < b) : a / b = q ∧ a % b = r :=
  (Int.ediv_emod_unique hb).2 ⟨by rw [← h, Int.mul_comm]; omega, h0, h1⟩
theorem drop_set_self (l : List Int) (i : Nat) (x : Int) (h : i < l.length) : (l.set i x).drop i = x :: l.drop (i + 1) := by
  rw [List.drop_eq_getElem_cons (by simpa using h)]
  simp [List.drop_set_of_lt]
theorem small_l0 (a : List Int) (n : Int) (ha : Lim a) (hn0 : 0 < n) (hn1 : n ≤ 4294967296) (hna : a.length < 1000000000) (d : Nat) : ∀ (out : List Int) (r : Int), d ≤ a.length → out.length = a.length → Lim out → 0 ≤ r → r < n → val (out.drop d) * n + r = val (a.drop d) →
    Ev (fun k => nat_small.l0 k a n out r ((d : Int) - 1)) (dig (val a / n), val a % n) := by
  induction d with
  | zero =>
    intro out r hd ho hL r0 r1 hv
    refine Ev.step (f := fun _ => some _) (fun k => ?_) (Ev.now _)
    simp only [nat_small.l0]
    rw [if_neg (by omega), norm_ev out hL (by omega)]
    simp only [List.drop_zero] at hv
    obtain ⟨e1, e2⟩ := div_unique hn0 hv r0 r1
    rw [e1, e2]
    rfl
  | succ d ih =>
    intro out r hd ho hL r0 r1 hv
    have hda : d < a.length := by omega
    have hdo : d < out.length := by omega
    have ga := ha.get d hda
    have ho1 : Go.bits .or .u64 (IntKind.u64.wrap (r * 4294967296)) (IntKind.u64.wrap a[d]) = r * 4294967296 + a[d] := by
      rw [u64 (by omega) (by omega), u64 (by omega) (by omega)]
      exact or_join ⟨r0, by omega⟩ ga
    have hX0 : 0 ≤ r * 4294967296 + a[d] := by omega
    have hq0 : 0 ≤ (r * 4294967296 + a[d]) / n := Int.ediv_nonneg hX0 (by omega)
    have hq1 : (r * 4294967296 + a[d]) / n < 4294967296 := by
      apply Int.ediv_lt_of_lt_mul hn0
      have : (r + 1) * 4294967296 ≤ n * 4294967296 := Int.mul_le_mul_of_nonneg_right (by omega) (by omega)
      omega
    have hm0 := Int.emod_nonneg (r * 4294967296 + a[d]) (show n ≠ 0 by omega)
    have hm1 := Int.emod_lt_of_pos (r * 4294967296 + a[d]) hn0
    have hqr := Int.mul_ediv_add_emod (r * 4294967296 + a[d]) n
    refine Ev.step (fun k => ?_) (ih (out.set d ((r * 4294967296 + a[d]) / n)) ((r * 4294967296 + a[d]) % n) (by omega) (by simpa using ho) (hL.set _ hq0 hq1) hm0 hm1 ?_)
    · simp only [nat_small.l0]
      have e : ((d + 1 : Nat) : Int) - 1 = (d : Int) := by omega
      rw [e, if_pos (by omega), if_pos (by omega), if_pos (by omega), if_neg (by omega), if_pos (by omega), rd_get _ _ hda, ho1, Int.tdiv_eq_ediv_of_nonneg hX0, Int.tmod_eq_emod_of_nonneg hX0, u64 hq0 (by omega), Int.emod_eq_of_lt hq0 hq1, w64 (by omega) (by omega), Int.toNat_natCast]
    · rw [drop_set_self _ _ _ hdo, val_drop_cons _ _ hda]
      simp only [val]
      rw [← hv]
      generalize (r * 4294967296 + a[d]) / n = q at *
      generalize (r * 4294967296 + a[d]) % n = s at *
      grind
theorem small_ev (a : List Int) (n : Int) (ha : Lim a) (hn0 : 0 < n) (hn1 : n ≤ 4294967296) (hna : a.length < 1000000000) : Ev (fun k => nat_small.f k a n) (dig (val a / n), val a % n) := by
  refine Ev.congr (fun k => ?_) (small_l0 a n ha hn0 hn1 hna a.length (List.replicate a.length 0) 0 (Nat.le_refl _) (by simp) (Lim.zeros _) (by omega) (by omega) (by rw [List.drop_eq_nil_of_le (by simp), List.drop_eq_nil_of_le (by omega)]; simp [val]))
  unfold nat_small.f
  rw [if_pos (by omega), if_pos (by omega), w64 (by omega) (by omega), Int.toNat_natCast]

/-! ### moved bits -/
theorem wraps_u32 (n : Int) (h0 : 0 ≤ n) (h1 : n < 2 ^ 32) : IntKind.u32.wrap n = n := by rw [IntKind.wrap_u32]; omega
theorem or_comm_ (k : IntKind) (x y : Int) : Go.bits .or k x y = Go.bits .or k y x := by
  simp only [Go.bits, BitVec.or_comm]
theorem p_pos (n : Nat) : (0 : Int) < 2 ^ n := Int.pow_pos (by omega)
theorem p_split {n : Nat} (hn : n ≤ 32) : (2 : Int) ^ n * 2 ^ (32 - n) = 4294967296 := by
  rw [← Int.pow_add, show n + (32 - n) = 32 by omega]; rfl
theorem p_le {n : Nat} (hn : n ≤ 31) : (2 : Int) ^ n ≤ 2147483648 := by
  have := Nat.pow_le_pow_right (n := 2) (by omega) hn
  have e : (2 : Int) ^ n = ((2 ^ n : Nat) : Int) := by simp
  omega
theorem or_low {n : Nat} (hn : n ≤ 31) {x y : Int} (hx0 : 0 ≤ x) (hx1 : x < 2 ^ n) (hy0 : 0 ≤ y) (hy1 : y < 4294967296) (hy : y % 2 ^ n = 0) : Go.bits .or .u32 x y = x + y := by
  have := p_le hn
  rw [or_comm_, bits_join .u32 32 (by decide) wraps_u32 n y x hy0 hy (by omega) hx0 hx1 (by omega)]
  omega
theorem shl_u64 (x : Int) (n : Nat) (hn : n ≤ 31) (hx : 0 ≤ x ∧ x < 4294967296) : shl .u64 x (n : Int) = x * 2 ^ n ∧ 0 ≤ x * 2 ^ n ∧ x * 2 ^ n < 9223372036854775808 := by
  have h1 := p_pos n
  have h2 := p_le hn
  have h3 := mul_bd hx.1 (show x ≤ 4294967295 by omega) (Int.le_of_lt h1) h2
  refine ⟨?_, h3.1, by omega⟩
  unfold shl
  rw [Int.toNat_natCast, Nat.min_eq_left (by simp [IntKind.bits]; omega), u64 h3.1 (by omega)]
theorem mulmod_p {n : Nat} (hn : n ≤ 31) (x : Int) : (x * 2 ^ n) % 4294967296 % 2 ^ n = 0 := by
  rw [Int.emod_emod_of_dvd _ ⟨2 ^ (32 - n), (p_split (by omega)).symm⟩, Int.mul_emod_left]
theorem left_l0 (a : List Int) (n : Nat) (ha : Lim a) (hn : n ≤ 31) (hna : a.length < 1000000000) (d : Nat) : ∀ (i : Nat) (out : List Int), i + d = a.length → out.length = a.length + 1 → Lim out → out.getD i 0 < 2 ^ n → val (out.take (i + 1)) = val (a.take i) * 2 ^ n →
    ∃ o, Ev (fun k => nat_left.l0 k (n : Int) out a (a.length : Int) (i : Int)) o ∧ o.length = a.length + 1 ∧ Lim o ∧ val o = val a * 2 ^ n := by
  have hp := p_pos n
  have hp1 := p_le hn
  induction d with
  | zero =>
    intro i out hi ho hL h1 hv
    obtain rfl : i = a.length := by omega
    rw [List.take_of_length_le (by omega), List.take_of_length_le (by omega)] at hv
    refine ⟨out, Ev.step (f := fun _ => some _) (fun k => ?_) (Ev.now _), ho, hL, hv⟩
    simp only [nat_left.l0]
    rw [if_neg (by omega)]
  | succ d ih =>
    intro i out hi ho hL h1 hv
    have hia : i < a.length := by omega
    have hio : i < out.length := by omega
    have hio' : i + 1 < out.length := by omega
    have ga := ha.get i hia
    have go := hL.get i hio
    rw [getD_get _ _ hio] at h1
    obtain ⟨s1, s2, s3⟩ := shl_u64 a[i] n hn ga
    have hlow := mulmod_p hn a[i]
    have hor := or_low hn go.1 h1 (show 0 ≤ (a[i] * 2 ^ n) % 4294967296 by omega) (by omega) hlow
    have hq : (a[i] * 2 ^ n) / 4294967296 < 2 ^ n := by
      apply Int.ediv_lt_of_lt_mul (by omega)
      rw [Int.mul_comm (a[i])]
      exact Int.mul_lt_mul_of_pos_left ga.2 hp
    have hsum : out[i] + (a[i] * 2 ^ n) % 4294967296 < 4294967296 := by
      -- the low part is a multiple of 2^n below 2^32
      have e := Int.mul_ediv_add_emod ((a[i] * 2 ^ n) % 4294967296) (2 ^ n)
      rw [hlow] at e
      have hs := p_split (n := n) (by omega)
      have hs0 := p_pos (32 - n)
      have : (a[i] * 2 ^ n) % 4294967296 / 2 ^ n < 2 ^ (32 - n) := by
        apply Int.ediv_lt_of_lt_mul hp
        rw [Int.mul_comm (2 ^ (32 - n)), hs]; omega
      have h5 : 2 ^ n * ((a[i] * 2 ^ n) % 4294967296 / 2 ^ n + 1) ≤ 2 ^ n * 2 ^ (32 - n) := Int.mul_le_mul_of_nonneg_left (by omega) (Int.le_of_lt hp)
      rw [Int.mul_add, Int.mul_one] at h5
      omega
    have hstep := fun o' h2 h3 h4 h5 => ih (i + 1) o' (by omega) h2 h3 h4 h5
    obtain ⟨o, ho1, ho2, ho3, ho4⟩ := hstep ((out.set i (out[i] + (a[i] * 2 ^ n) % 4294967296)).set (i + 1) ((a[i] * 2 ^ n) / 4294967296)) (by simpa using ho) ((hL.set i (by omega) hsum).set (i + 1) (by omega) (by omega)) (by rw [getD_get _ _ (by simpa using hio')]; simpa using hq) (by
      rw [val_set_take _ _ _ (by simpa using hio'), val_set_take _ _ _ hio]
      rw [val_take_succ _ _ hio] at hv
      rw [val_take_succ _ _ hia, pw_succ]
      have e := Int.mul_ediv_add_emod (a[i] * 2 ^ n) 4294967296
      generalize a[i] * 2 ^ n / 4294967296 = q at *
      generalize a[i] * 2 ^ n % 4294967296 = r at *
      grind)
    refine ⟨o, Ev.step (fun k => ?_) ho1, ho2, ho3, ho4⟩
    simp only [nat_left.l0]
    rw [if_pos (by omega), if_pos (by omega), if_pos (by omega), if_pos (by omega), if_pos (by omega), w64 (by omega) (by omega), if_pos (by omega), if_pos (by omega), rd_get _ _ hio, rd_get _ _ hia, u64 (x := a[i]) ga.1 (by omega), s1, hor, Int.toNat_natCast, show ((i : Int) + 1).toNat = i + 1 by omega, Int.emod_eq_of_lt (a := a[i] * 2 ^ n / 4294967296) (by omega) (by omega)]
    rfl
theorem left_ev (a : List Int) (n : Nat) (ha : Lim a) (hn : n ≤ 31) (hna : a.length < 1000000000) : ∃ o, Ev (fun k => nat_left.f k a (n : Int)) o ∧ o.length = a.length + 1 ∧ Lim o ∧ val o = val a * 2 ^ n := by
  obtain ⟨o, h1, h2⟩ := left_l0 a n ha hn hna a.length 0 (List.replicate (a.length + 1) 0) (by omega) (by simp) (Lim.zeros _) (by have := p_pos n; simp; exact this) (by simp [val, List.replicate_succ])
  refine ⟨o, Ev.congr (fun k => ?_) h1, h2⟩
  unfold nat_left.f
  rw [w64 (by omega) (by omega), if_pos (by omega), if_pos (by omega), show ((a.length : Int) + 1).toNat = a.length + 1 by omega]
  rfl
theorem shr_u64 (x : Int) (n : Nat) (hn : n ≤ 31) : shr .u64 x (n : Int) = x / 2 ^ n := by
  unfold shr
  rw [Int.toNat_natCast, Nat.min_eq_left (by simp [IntKind.bits]; omega)]
/-- One limb of a number moved down. -/
theorem right_limb {p s X a : Int} (hp : 0 < p) (hs : 0 < s) (hps : p * s = 4294967296) (hX : 0 ≤ X ∧ X < 4294967296) (ha : 0 ≤ a ∧ a < 4294967296) : ((X * 4294967296 + a) / p % 4294967296) * p = (X % p) * 4294967296 + (a - a % p) ∧ 0 ≤ (X * 4294967296 + a) / p % 4294967296 ∧ (X * 4294967296 + a) / p % 4294967296 < 4294967296 := by
  have e1 : X * 4294967296 + a = a + p * (X * s) := by rw [← hps]; grind
  have e2 : (X * 4294967296 + a) / p = a / p + X * s := by rw [e1, Int.add_mul_ediv_left _ _ (by omega)]
  have e3 := Int.mul_ediv_add_emod X p
  have e4 := Int.mul_ediv_add_emod a p
  have m0 := Int.emod_nonneg X (show p ≠ 0 by omega)
  have m1 := Int.emod_lt_of_pos X hp
  have h0 : 0 ≤ a / p := Int.ediv_nonneg ha.1 (by omega)
  have h1 : a / p < s := Int.ediv_lt_of_lt_mul hp (by rw [Int.mul_comm s, hps]; exact ha.2)
  have e5 : (X * 4294967296 + a) / p = (X / p) * 4294967296 + ((X % p) * s + a / p) := by
    rw [e2, ← hps]
    generalize X / p = u at *
    generalize X % p = v at *
    generalize a / p = t at *
    subst e3
    grind
  have hb0 : 0 ≤ (X % p) * s := Int.mul_nonneg m0 (by omega)
  have hb1 : (X % p + 1) * s ≤ p * s := Int.mul_le_mul_of_nonneg_right (by omega) (by omega)
  rw [Int.add_mul, Int.one_mul, hps] at hb1
  have e6 : (X * 4294967296 + a) / p % 4294967296 = (X % p) * s + a / p := by
    rw [e5]
    generalize X % p * s = z at *
    omega
  refine ⟨?_, by omega, by omega⟩
  rw [e6]
  have : (X % p * s + a / p) * p = (X % p) * (p * s) + p * (a / p) := by grind
  rw [this, hps]
  omega
theorem right_l0 (a : List Int) (n : Nat) (ha : Lim a) (hn : n ≤ 31) (hna : a.length < 1000000000) (d : Nat) : ∀ (i : Nat) (out : List Int), i + d = a.length → out.length = a.length → Lim out → val (out.take i) * 2 ^ n + a.getD 0 0 % 2 ^ n = val (a.take i) + pw i * (a.getD i 0 % 2 ^ n) →
    Ev (fun k => nat_right.l0 k a (n : Int) out (a.length : Int) (i : Int)) (dig (val a / 2 ^ n)) := by
  have hp := p_pos n
  induction d with
  | zero =>
    intro i out hi ho hL hv
    obtain rfl : i = a.length := by omega
    refine Ev.step (f := fun _ => some _) (fun k => ?_) (Ev.now _)
    simp only [nat_right.l0]
    rw [if_neg (by omega), norm_ev out hL (by omega)]
    simp only [Option.bind_some]
    rw [List.take_of_length_le (by omega), List.take_of_length_le (by omega), List.getD_eq_getElem?_getD (i := a.length), List.getElem?_eq_none (by omega)] at hv
    simp only [Option.getD_none, Int.zero_emod, Int.mul_zero, Int.add_zero] at hv
    have h0 := Int.emod_nonneg (a.getD 0 0) (show (2 : Int) ^ n ≠ 0 by omega)
    have h1 := Int.emod_lt_of_pos (a.getD 0 0) hp
    rw [(div_unique hp hv h0 h1).1]
  | succ d ih =>
    intro i out hi ho hL hv
    have hia : i < a.length := by omega
    have hio : i < out.length := by omega
    have ga := ha.get i hia
    have gx := ha.getD (i + 1)
    obtain ⟨e1, e2, e3⟩ := right_limb hp (p_pos (32 - n)) (p_split (by omega)) gx ga
    refine Ev.step (fun k => ?_) (ih (i + 1) (out.set i ((a.getD (i + 1) 0 * 4294967296 + a[i]) / 2 ^ n % 4294967296)) (by omega) (by simpa using ho) (hL.set _ e2 e3) ?_)
    · simp only [nat_right.l0]
      rw [if_pos (by omega), w64 (x := (i : Int) + 1) (by omega) (by omega), show (i : Int) + 1 = ((i + 1 : Nat) : Int) by omega, limb_ev _ _ ha]
      simp only [Option.bind_some]
      rw [if_pos (by omega), if_pos (by omega), if_pos (by omega), if_pos (by omega), rd_get _ _ hia, u64 (x := a[i]) ga.1 (by omega), u64 (x := a.getD (i + 1) 0 * 4294967296) (by omega) (by omega), or_join gx ga, shr_u64 _ _ hn, Int.toNat_natCast]
    · rw [val_set_take _ _ _ hio, val_take_succ _ _ hia, pw_succ]
      rw [getD_get _ _ hia] at hv
      generalize (a.getD (i + 1) 0 * 4294967296 + a[i]) / 2 ^ n % 4294967296 = z at *
      generalize a.getD (i + 1) 0 % 2 ^ n = y at *
      generalize a[i] % 2 ^ n = w at *
      generalize (2 : Int) ^ n = p at *
      grind
theorem right_ev (a : List Int) (n : Nat) (ha : Lim a) (hn : n ≤ 31) (hna : a.length < 1000000000) : Ev (fun k => nat_right.f k a (n : Int)) (dig (val a / 2 ^ n)) := by
  refine Ev.congr (fun k => ?_) (right_l0 a n ha hn hna a.length 0 (List.replicate a.length 0) (by omega) (by simp) (Lim.zeros _) (by simp [val, pw_zero]))
  unfold nat_right.f
  rw [if_pos (by omega), if_pos (by omega)]
  simp only [Int.toNat_natCast]
  rfl
end Go.Proofs.YtlfpnohpcemkgaaDoor.V
/- Written by a program of this session, wip/tools/patch_print.py, over the kit's print of the loaded functions. -/
namespace Go.Proofs.YtlfpnohpcemkgaaDoor.H
end Go.Proofs.YtlfpnohpcemkgaaDoor.H
namespace Go.Proofs.YtlfpnohpcemkgaaDoor.PA
open Go.RowKit Go.Proofs.YtlfpnohpcemkgaaDoorW.PrintWords Go.Proofs.YtlfpnohpcemkgaaDoorW.PrintLast Go.Proofs.YtlfpnohpcemkgaaDoorW.PrintMore Go.Proofs.YtlfpnohpcemkgaaDoor.H
attribute [local go_sem] max2_int min2_int max_two min_two max_three min_three max_four min_four   -- for this text's walks alone
set_option linter.unusedVariables false
set_option linter.unusedSimpArgs false

/-! ### gudgeonref01_at: function 56 -/
def gudgeonref01_at.f (l0 : List Bool) (a1 : Int) : Option (Bool) := if a1 < (l0.length : Int) then (if 0 ≤ a1 then (some (rdOf false l0 a1)) else (none)) else (some false)
set_option maxHeartbeats 8000000 in
set_option maxRecDepth 100000 in
theorem gudgeonref01_at.calls (A0 : Option Addr) (c0 : Nat) (l0 : List Bool) (a1 : Int) (r : Bool) (w : World) (hr0 : Kd.C Kd.bool w A0 l0.length l0) (hc0 : l0.length ≤ c0) (h : gudgeonref01_at.f l0 a1 = some r) :
    Calls Tryd.prog 56 #[.slice A0 l0.length c0, .int .i64 a1] w fun e w' => e = .returned (.bool r) ∧ Drawn0 w w' := by
  have HR0 := Aside0.mk hr0
  have HC0 := Aside0.mk hc0
  clear hr0 hc0
  have H : (if a1 < (l0.length : Int) then (if 0 ≤ a1 then (some (rdOf false l0 a1)) else (none)) else (some false)) = some r := h
  clear h
  by_cases c3 : a1 < (l0.length : Int)
  · rw [if_pos c3] at H
    have c3b0 : decide (a1 < (l0.length : Int)) = true := decide_eq_true c3
    clear c3
    by_cases c4 : 0 ≤ a1
    · rw [if_pos c4] at H
      have c4b0 : decide (0 ≤ a1) = true := decide_eq_true c4
      clear c4
      obtain rfl := Option.some.inj H
      have p457 : 0 ≤ (a1 : Int) := of_decide_eq_true (by first | (with_reducible assumption) | assumption)
      have q457 : a1 < (l0.length : Int) := of_decide_eq_true (by first | (with_reducible assumption) | assumption)
      obtain ⟨ad457, e457, hx457_0⟩ := Kd.at_bool HR0.out a1 p457 q457
      cases e457
      replace p457 := eq_true p457
      replace q457 := eq_true q457
      go_enter Tryd.func56, Tryd.ntmps56
      go_wp2
      go_ret
      exact ⟨by first | rfl | (simp; done) | (simp [*]; done) | (refine congrArg (Value.int _) ?_; omega) | (refine congrArg Value.bool ?_; generalize ByteArray.toList _ = z_; cases z_ <;> rfl), by repeat (first | exact Drawn0.refl _ | apply Drawn0.step)⟩
    · rw [if_neg c4] at H
      exact absurd H (by simp)
  · rw [if_neg c3] at H
    have c3b0 : decide (a1 < (l0.length : Int)) = false := decide_eq_false c3
    clear c3
    obtain rfl := Option.some.inj H
    go_enter Tryd.func56, Tryd.ntmps56
    go_wp2
    go_ret
    exact ⟨by first | rfl | (simp; done) | (simp [*]; done) | (refine congrArg (Value.int _) ?_; omega) | (refine congrArg Value.bool ?_; generalize ByteArray.toList _ = z_; cases z_ <;> rfl), by repeat (first | exact Drawn0.refl _ | apply Drawn0.step)⟩

/-! ### gudgeonref01_cmp: function 50 -/
mutual
def gudgeonref01_cmp.j0 : Nat → List Bool → List Bool → Int → Option (Int)
  | 0, _, _, _ => none
  | k + 1, x0, x1, x5 => gudgeonref01_cmp.l0 k x0 x1 (wrap64 (x5 - 1))
def gudgeonref01_cmp.l0 : Nat → List Bool → List Bool → Int → Option (Int)
  | 0, _, _, _ => none
  | k + 1, x0, x1, x6 => if x6 ≥ 0 then ((gudgeonref01_at.f x0 x6).bind fun t458 => ((gudgeonref01_at.f x1 x6).bind fun t459 => (if (t458 != t459) = true then (gudgeonref01_cmp.j2 k x0 x1 x6 t458 t459 t458) else (gudgeonref01_cmp.j2 k x0 x1 x6 t458 t459 false)))) else (some 0)
def gudgeonref01_cmp.j2 : Nat → List Bool → List Bool → Int → Bool → Bool → Bool → Option (Int)
  | 0, _, _, _, _, _, _ => none
  | k + 1, x0, x1, x6, x7, x8, x34 => if x34 = true then (some 1) else (if (x7 != x8) = true then (some (-1)) else (gudgeonref01_cmp.l0 k x0 x1 (wrap64 (x6 - 1))))
end
def gudgeonref01_cmp.f (k : Nat) (l0 : List Bool) (l1 : List Bool) : Option (Int) := if (l1.length : Int) > (l0.length : Int) then (gudgeonref01_cmp.j0 k l0 l1 (l1.length : Int)) else (gudgeonref01_cmp.j0 k l0 l1 (l0.length : Int))
theorem gudgeonref01_cmp.mono_l : ∀ k, (∀ y0 y1 y2, LeO (gudgeonref01_cmp.j0 k y0 y1 y2) (gudgeonref01_cmp.j0 (k + 1) y0 y1 y2)) ∧ (∀ y0 y1 y2, LeO (gudgeonref01_cmp.l0 k y0 y1 y2) (gudgeonref01_cmp.l0 (k + 1) y0 y1 y2)) ∧ (∀ y0 y1 y2 y3 y4 y5, LeO (gudgeonref01_cmp.j2 k y0 y1 y2 y3 y4 y5) (gudgeonref01_cmp.j2 (k + 1) y0 y1 y2 y3 y4 y5))
  | 0 => ⟨fun _ _ _ r h => by simp [gudgeonref01_cmp.j0] at h, fun _ _ _ r h => by simp [gudgeonref01_cmp.l0] at h, fun _ _ _ _ _ _ r h => by simp [gudgeonref01_cmp.j2] at h⟩
  | k + 1 => by
    obtain ⟨ih0, ih1, ih2⟩ := gudgeonref01_cmp.mono_l k
    refine ⟨?_, ?_, ?_⟩
    · intro y0 y1 y2
      unfold gudgeonref01_cmp.j0
      repeat' first
      | (with_reducible exact ih0 _ _ _)
      | (with_reducible exact ih1 _ _ _)
      | (with_reducible exact ih2 _ _ _ _ _ _)
      | (with_reducible exact LeO.refl _)
      | (with_reducible exact LeO.none _)
      | (with_reducible refine LeO.ite ?_ ?_)
      | (with_reducible refine LeO.bind ?_ (fun _ => ?_))
      | exact ih0 _ _ _
      | exact ih1 _ _ _
      | exact ih2 _ _ _ _ _ _
      | exact LeO.none _
      | refine LeO.ite ?_ ?_
      | refine LeO.bind ?_ (fun _ => ?_)
    · intro y0 y1 y2
      unfold gudgeonref01_cmp.l0
      repeat' first
      | (with_reducible exact ih0 _ _ _)
      | (with_reducible exact ih1 _ _ _)
      | (with_reducible exact ih2 _ _ _ _ _ _)
      | (with_reducible exact LeO.refl _)
      | (with_reducible exact LeO.none _)
      | (with_reducible refine LeO.ite ?_ ?_)
      | (with_reducible refine LeO.bind ?_ (fun _ => ?_))
      | exact ih0 _ _ _
      | exact ih1 _ _ _
      | exact ih2 _ _ _ _ _ _
      | exact LeO.none _
      | refine LeO.ite ?_ ?_
      | refine LeO.bind ?_ (fun _ => ?_)
    · intro y0 y1 y2 y3 y4 y5
      unfold gudgeonref01_cmp.j2
      repeat' first
      | (with_reducible exact ih0 _ _ _)
      | (with_reducible exact ih1 _ _ _)
      | (with_reducible exact ih2 _ _ _ _ _ _)
      | (with_reducible exact LeO.refl _)
      | (with_reducible exact LeO.none _)
      | (with_reducible refine LeO.ite ?_ ?_)
      | (with_reducible refine LeO.bind ?_ (fun _ => ?_))
      | exact ih0 _ _ _
      | exact ih1 _ _ _
      | exact ih2 _ _ _ _ _ _
      | exact LeO.none _
      | refine LeO.ite ?_ ?_
      | refine LeO.bind ?_ (fun _ => ?_)
theorem gudgeonref01_cmp.mono : ∀ a0 a1 k, LeO (gudgeonref01_cmp.f k a0 a1) (gudgeonref01_cmp.f (k + 1) a0 a1) := by
  intro a0 a1 k
  obtain ⟨ih0, ih1, ih2⟩ := gudgeonref01_cmp.mono_l k
  unfold gudgeonref01_cmp.f
  repeat' first
      | (with_reducible exact ih0 _ _ _)
      | (with_reducible exact ih1 _ _ _)
      | (with_reducible exact ih2 _ _ _ _ _ _)
      | (with_reducible exact LeO.refl _)
      | (with_reducible exact LeO.none _)
      | (with_reducible refine LeO.ite ?_ ?_)
      | (with_reducible refine LeO.bind ?_ (fun _ => ?_))
      | exact ih0 _ _ _
      | exact ih1 _ _ _
      | exact ih2 _ _ _ _ _ _
      | exact LeO.none _
      | refine LeO.ite ?_ ?_
      | refine LeO.bind ?_ (fun _ => ?_)
set_option maxHeartbeats 8000000 in
set_option maxRecDepth 100000 in
theorem gudgeonref01_cmp.calls (k : Nat) (A0 : Option Addr) (c0 : Nat) (l0 : List Bool) (A1 : Option Addr) (c1 : Nat) (l1 : List Bool) (r : Int) (w : World) (hr0 : Kd.C Kd.bool w A0 l0.length l0) (hc0 : l0.length ≤ c0) (hr1 : Kd.C Kd.bool w A1 l1.length l1) (hc1 : l1.length ≤ c1) (h : gudgeonref01_cmp.f k l0 l1 = some r) :
    Calls Tryd.prog 50 #[.slice A0 l0.length c0, .slice A1 l1.length c1] w fun e w' => e = .returned (.int .i64 r) ∧ Drawn0 w w' := by
  have HR0 := Aside0.mk hr0
  have HC0 := Aside0.mk hc0
  clear hr0 hc0
  have HR1 := Aside0.mk hr1
  have HC1 := Aside0.mk hc1
  clear hr1 hc1
  have H : (if (l1.length : Int) > (l0.length : Int) then (gudgeonref01_cmp.j0 k l0 l1 (l1.length : Int)) else (gudgeonref01_cmp.j0 k l0 l1 (l0.length : Int))) = some r := h
  clear h
  have HC3 := Aside0.mk H
  clear H
  go_enter Tryd.func50, Tryd.ntmps50
  go_upto_if 14 with (fail)
  go_cut [5] (fun v5 wc => ∃ (kq : Nat) (x5_2 : Int), v5 = .int .i64 x5_2 ∧ Aside0 (gudgeonref01_cmp.j0 kq l0 l1 x5_2 = some r) ∧ Aside0 (kq ≤ k) ∧ Drawn0 w wc)
  case first =>
    have H := HC3.out
    clear HC3
    by_cases c4 : (l1.length : Int) > (l0.length : Int)
    · rw [if_pos c4] at H
      have c4b0 : decide ((l0.length : Int) < (l1.length : Int)) = true := decide_eq_true c4
      have c4b1 : decide (l0.length < l1.length) = true := decide_eq_true (Int.ofNat_lt.mp c4)
      clear c4
      (first | rw [c4b0] | rw [c4b1] | (simp only [i64_w, i32_w]; rw [c4b0]) | skip)
      have H' := Aside0.mk H
      clear H
      go_wp2
      go_meet
      case rel => exact ⟨_, ((l1.length : Int)), (by first | rfl | (simp; done) | (simp [*]; done) | (refine congrArg (Value.int _) ?_; omega) | (refine congrArg Value.bool ?_; generalize ByteArray.toList _ = z_; cases z_ <;> rfl)), H', ⟨by first | omega | exact Nat.le_refl _⟩, by repeat (first | exact Drawn0.refl _ | apply Drawn0.step)⟩
    · rw [if_neg c4] at H
      have c4b0 : decide ((l0.length : Int) < (l1.length : Int)) = false := decide_eq_false c4
      have c4b1 : decide (l0.length < l1.length) = false := decide_eq_false (fun h => c4 (Int.ofNat_lt.mpr h))
      clear c4
      (first | rw [c4b0] | rw [c4b1] | (simp only [i64_w, i32_w]; rw [c4b0]) | skip)
      have H' := Aside0.mk H
      clear H
      go_wp2
      go_meet
      case rel => exact ⟨_, ((l0.length : Int)), (by first | rfl | (simp; done) | (simp [*]; done) | (refine congrArg (Value.int _) ?_; omega) | (refine congrArg Value.bool ?_; generalize ByteArray.toList _ = z_; cases z_ <;> rfl)), H', ⟨by first | omega | exact Nat.le_refl _⟩, by repeat (first | exact Drawn0.refl _ | apply Drawn0.step)⟩
  case rest =>
    clear HC3
    try clear c1
    try clear p2
    try clear c4
    try clear c4b0
    try clear c4b1
    obtain ⟨kq, x5_2, rfl, HA, HJ2, ⟨mc2, rfl⟩⟩ := hcut
    cases kq with
    | zero => exact absurd HA.out (by simp [gudgeonref01_cmp.j0])
    | succ kj2 =>
      have H := HA.out
      clear HA
      simp only [gudgeonref01_cmp.j0] at H
      have H' := Aside0.mk H
      clear H
      go_wp2
      go_loopg [6] kj2 (fun kq v6 w' => ∃ (x6_2 : Int), v6 = .int .i64 x6_2 ∧ Aside0 (gudgeonref01_cmp.l0 kq l0 l1 x6_2 = some r) ∧ Aside0 (kq ≤ kj2) ∧ Drawn0 w w')
      case atStart => exact ⟨(wrap64 (x5_2 - 1)), (by first | rfl | (simp; done) | (simp [*]; done) | (refine congrArg (Value.int _) ?_; omega) | (refine congrArg Value.bool ?_; generalize ByteArray.toList _ = z_; cases z_ <;> rfl)), H', ⟨Nat.le_refl _⟩, by repeat (first | exact Drawn0.refl _ | apply Drawn0.step)⟩
      case round =>
        clear H'
        try clear c1
        try clear c2
        try clear p2
        try clear c4
        try clear c4b0
        try clear c4b1
        try clear p2
        obtain ⟨x6_2, rfl, HA, HK2, ⟨m2, rfl⟩⟩ := hrel
        cases gk with
        | zero => exact absurd HA.out (by simp [gudgeonref01_cmp.l0])
        | succ k2 =>
          have H := HA.out
          clear HA
          simp only [gudgeonref01_cmp.l0] at H
          by_cases c5 : x6_2 ≥ 0
          · rw [if_pos c5] at H
            have c5b0 : decide (0 ≤ x6_2) = true := decide_eq_true c5
            clear c5
            replace H := Option.bind_eq_some_iff.mp H
            obtain ⟨t458, A60, H⟩ := H
            replace H : ((gudgeonref01_at.f l1 x6_2).bind fun t459 => (if (t458 != t459) = true then (gudgeonref01_cmp.j2 k2 l0 l1 x6_2 t458 t459 t458) else (gudgeonref01_cmp.j2 k2 l0 l1 x6_2 t458 t459 false))) = some r := H
            have A6 := Aside0.mk A60
            clear A60
            replace H := Option.bind_eq_some_iff.mp H
            obtain ⟨t459, A70, H⟩ := H
            replace H : (if (t458 != t459) = true then (gudgeonref01_cmp.j2 k2 l0 l1 x6_2 t458 t459 t458) else (gudgeonref01_cmp.j2 k2 l0 l1 x6_2 t458 t459 false)) = some r := H
            have A7 := Aside0.mk A70
            clear A70
            have HC8 := Aside0.mk H
            clear H
            go_upto_region 9 with (first | ((with_reducible refine gate_callee (f := 56) rfl ?_); refine goesL_ (some 25) rfl rfl Tryd.func56 (by kernel_rfl) rfl #[.slice A0 l0.length c0, .int .i64 x6_2] rfl (by (try simp only [List.map_toArray, List.map_cons, List.map_nil]); first | done | rfl | (simp only [List.length_drop, List.length_take]; rfl)) ?_; (with_reducible refine (gudgeonref01_at.calls _ _ l0 x6_2 t458 _ ?side1 ?side2 A6.out).mono ?_); (case side1 => repeat (first | exact HR0.out | (with_reducible refine Kd.C_alloc ?_ _) | (with_reducible refine Kd.C_drewN ?_ _) | (with_reducible refine Kd.C_drew ?_))); (case side2 => exact HC0.out); rintro e w' ⟨rfl, ⟨nd, rfl⟩⟩; refine ⟨_, rfl, ?_⟩) | ((with_reducible refine gate_callee (f := 56) rfl ?_); refine goesL_ (some 28) rfl rfl Tryd.func56 (by kernel_rfl) rfl #[.slice A1 l1.length c1, .int .i64 x6_2] rfl (by (try simp only [List.map_toArray, List.map_cons, List.map_nil]); first | done | rfl | (simp only [List.length_drop, List.length_take]; rfl)) ?_; (with_reducible refine (gudgeonref01_at.calls _ _ l1 x6_2 t459 _ ?side1 ?side2 A7.out).mono ?_); (case side1 => repeat (first | exact HR1.out | (with_reducible refine Kd.C_alloc ?_ _) | (with_reducible refine Kd.C_drewN ?_ _) | (with_reducible refine Kd.C_drew ?_))); (case side2 => exact HC1.out); rintro e w' ⟨rfl, ⟨nd, rfl⟩⟩; refine ⟨_, rfl, ?_⟩))
            (try simp only [Act.put, List.setIfInBounds_toArray, List.set_cons_zero, List.set_cons_succ])
            go_cut [34] (fun v34 wc => ∃ (kq : Nat) (x34_7 : Bool), v34 = .bool x34_7 ∧ Aside0 (gudgeonref01_cmp.j2 kq l0 l1 x6_2 t458 t459 x34_7 = some r) ∧ Aside0 (kq ≤ k2) ∧ Drawn0 w wc)
            case first =>
              have H := HC8.out
              clear HC8
              by_cases c9 : (t458 != t459) = true
              · rw [if_pos c9] at H
                have c9b0 : (t458 != t459) = true := c9
                (try (have c9b1 : decide (t458 = t459) = false := by simpa using c9))
                (try (have c9b2 : (t458 == t459) = false := by simpa using c9))
                (try (have c9b3 : ¬ (t458 = t459) := by simpa using c9))
                clear c9
                (first | rw [c9b0] | rw [c9b1] | (simp only [i64_w, i32_w]; rw [c9b0]) | skip)
                have H' := Aside0.mk H
                clear H
                go_wp2
                go_meet
                case rel => exact ⟨_, (t458), (by first | rfl | (simp; done) | (simp [*]; done) | (refine congrArg (Value.int _) ?_; omega) | (refine congrArg Value.bool ?_; generalize ByteArray.toList _ = z_; cases z_ <;> rfl)), H', ⟨by have := HJ2.out; have := HK2.out; first | omega | exact Nat.le_refl _⟩, by repeat (first | exact Drawn0.refl _ | apply Drawn0.step)⟩
              · rw [if_neg c9] at H
                have c9b0 : (t458 != t459) = false := by simpa using c9
                (try (have c9b1 : decide (t458 = t459) = true := by simpa using c9))
                (try (have c9b2 : (t458 == t459) = true := by simpa using c9))
                clear c9
                (first | rw [c9b0] | rw [c9b1] | (simp only [i64_w, i32_w]; rw [c9b0]) | skip)
                have H' := Aside0.mk H
                clear H
                go_wp2
                go_meet
                case rel => exact ⟨_, (false), (by first | rfl | (simp; done) | (simp [*]; done) | (refine congrArg (Value.int _) ?_; omega) | (refine congrArg Value.bool ?_; generalize ByteArray.toList _ = z_; cases z_ <;> rfl)), H', ⟨by have := HJ2.out; have := HK2.out; first | omega | exact Nat.le_refl _⟩, by repeat (first | exact Drawn0.refl _ | apply Drawn0.step)⟩
            case rest =>
              clear HC8
              try clear c1
              try clear c2
              try clear p2
              try clear c4
              try clear c4b0
              try clear c4b1
              try clear c5
              try clear c5b0
              try clear p6
              try clear c9
              try clear c9b0
              try clear c9b1
              try clear c9b2
              try clear p2
              obtain ⟨kq, x34_7, rfl, HA, HJ7, ⟨mc7, rfl⟩⟩ := hcut
              cases kq with
              | zero => exact absurd HA.out (by simp [gudgeonref01_cmp.j2])
              | succ kj7 =>
                have H := HA.out
                clear HA
                simp only [gudgeonref01_cmp.j2] at H
                by_cases c10 : x34_7 = true
                · subst c10
                  have H1 : (some 1) = some r := by rw [if_pos rfl] at H; exact H
                  clear H
                  have H := H1
                  clear H1
                  obtain rfl := Option.some.inj H
                  go_wp2
                  go_ret
                  exact ⟨by first | rfl | (simp; done) | (simp [*]; done) | (refine congrArg (Value.int _) ?_; omega) | (refine congrArg Value.bool ?_; generalize ByteArray.toList _ = z_; cases z_ <;> rfl), by repeat (first | exact Drawn0.refl _ | apply Drawn0.step)⟩
                · replace c10 := Bool.eq_false_iff.mpr c10
                  subst c10
                  have H1 : (if (t458 != t459) = true then (some (-1)) else (gudgeonref01_cmp.l0 kj7 l0 l1 (wrap64 (x6_2 - 1)))) = some r := by rw [if_neg (show ¬ (false = true) by decide)] at H; exact H
                  clear H
                  have H := H1
                  clear H1
                  by_cases c11 : (t458 != t459) = true
                  · rw [if_pos c11] at H
                    have c11b0 : (t458 != t459) = true := c11
                    (try (have c11b1 : decide (t458 = t459) = false := by simpa using c11))
                    (try (have c11b2 : (t458 == t459) = false := by simpa using c11))
                    (try (have c11b3 : ¬ (t458 = t459) := by simpa using c11))
                    clear c11
                    obtain rfl := Option.some.inj H
                    go_wp2
                    go_ret
                    exact ⟨by first | rfl | (simp; done) | (simp [*]; done) | (refine congrArg (Value.int _) ?_; omega) | (refine congrArg Value.bool ?_; generalize ByteArray.toList _ = z_; cases z_ <;> rfl), by repeat (first | exact Drawn0.refl _ | apply Drawn0.step)⟩
                  · rw [if_neg c11] at H
                    have c11b0 : (t458 != t459) = false := by simpa using c11
                    (try (have c11b1 : decide (t458 = t459) = true := by simpa using c11))
                    (try (have c11b2 : (t458 == t459) = true := by simpa using c11))
                    clear c11
                    have H' := Aside0.mk H
                    clear H
                    go_wp2
                    go_roundg kj7
                    case measure => have := HJ2.out; have := HK2.out; have := HJ7.out; omega
                    case rel => exact ⟨(wrap64 (x6_2 - 1)), (by first | rfl | (simp; done) | (simp [*]; done) | (refine congrArg (Value.int _) ?_; omega) | (refine congrArg Value.bool ?_; generalize ByteArray.toList _ = z_; cases z_ <;> rfl)), H', ⟨by have := HJ2.out; have := HK2.out; have := HJ7.out; omega⟩, by repeat (first | exact Drawn0.refl _ | apply Drawn0.step)⟩
          · rw [if_neg c5] at H
            have c5b0 : decide (0 ≤ x6_2) = false := decide_eq_false c5
            clear c5
            obtain rfl := Option.some.inj H
            go_wp2
            go_ret
            exact ⟨by first | rfl | (simp; done) | (simp [*]; done) | (refine congrArg (Value.int _) ?_; omega) | (refine congrArg Value.bool ?_; generalize ByteArray.toList _ = z_; cases z_ <;> rfl), by repeat (first | exact Drawn0.refl _ | apply Drawn0.step)⟩

/-! ### gudgeonref01_sub: function 51 -/
mutual
def gudgeonref01_sub.l0 : Nat → List Bool → List Bool → List Bool → Bool → Int → Option (List Bool)
  | 0, _, _, _, _, _ => none
  | k + 1, x0, x1, x5, x6, x7 => if x7 < (x0.length : Int) then (if 0 ≤ x7 then (if rdOf false x0 x7 = true then (gudgeonref01_sub.j1 k x0 x1 x5 x6 x7 (0 + 1)) else (gudgeonref01_sub.j1 k x0 x1 x5 x6 x7 0)) else (none)) else ((gudgeonref01_trim.f k x5).bind fun t460 => (some t460))
def gudgeonref01_sub.j1 : Nat → List Bool → List Bool → List Bool → Bool → Int → Int → Option (List Bool)
  | 0, _, _, _, _, _, _ => none
  | k + 1, x0, x1, x5, x6, x7, x8 => (gudgeonref01_at.f x1 x7).bind fun t464 => (if t464 = true then (if x6 = true then (if (wrap64 ((wrap64 (x8 - 1)) - 1)) = 1 then (if x5.length < 140737488355328 then (gudgeonref01_sub.l0 k x0 x1 (x5 ++ [true]) (decide ((wrap64 ((wrap64 (x8 - 1)) - 1)) < 0)) (wrap64 (x7 + 1))) else (none)) else (if x5.length < 140737488355328 then (gudgeonref01_sub.l0 k x0 x1 (x5 ++ [((wrap64 ((wrap64 (x8 - 1)) - 1)) == (-1))]) (decide ((wrap64 ((wrap64 (x8 - 1)) - 1)) < 0)) (wrap64 (x7 + 1))) else (none))) else (if (wrap64 (x8 - 1)) = 1 then (if x5.length < 140737488355328 then (gudgeonref01_sub.l0 k x0 x1 (x5 ++ [true]) (decide ((wrap64 (x8 - 1)) < 0)) (wrap64 (x7 + 1))) else (none)) else (if x5.length < 140737488355328 then (gudgeonref01_sub.l0 k x0 x1 (x5 ++ [((wrap64 (x8 - 1)) == (-1))]) (decide ((wrap64 (x8 - 1)) < 0)) (wrap64 (x7 + 1))) else (none)))) else (if x6 = true then (if (wrap64 (x8 - 1)) = 1 then (if x5.length < 140737488355328 then (gudgeonref01_sub.l0 k x0 x1 (x5 ++ [true]) (decide ((wrap64 (x8 - 1)) < 0)) (wrap64 (x7 + 1))) else (none)) else (if x5.length < 140737488355328 then (gudgeonref01_sub.l0 k x0 x1 (x5 ++ [((wrap64 (x8 - 1)) == (-1))]) (decide ((wrap64 (x8 - 1)) < 0)) (wrap64 (x7 + 1))) else (none))) else (if x8 = 1 then (if x5.length < 140737488355328 then (gudgeonref01_sub.l0 k x0 x1 (x5 ++ [true]) (decide (x8 < 0)) (wrap64 (x7 + 1))) else (none)) else (if x5.length < 140737488355328 then (gudgeonref01_sub.l0 k x0 x1 (x5 ++ [(x8 == (-1))]) (decide (x8 < 0)) (wrap64 (x7 + 1))) else (none)))))
end
def gudgeonref01_sub.f (k : Nat) (l0 : List Bool) (l1 : List Bool) : Option (List Bool) := gudgeonref01_sub.l0 k l0 l1 ([] : List Bool) false 0
theorem gudgeonref01_sub.mono_l : ∀ k, (∀ y0 y1 y2 y3 y4, LeO (gudgeonref01_sub.l0 k y0 y1 y2 y3 y4) (gudgeonref01_sub.l0 (k + 1) y0 y1 y2 y3 y4)) ∧ (∀ y0 y1 y2 y3 y4 y5, LeO (gudgeonref01_sub.j1 k y0 y1 y2 y3 y4 y5) (gudgeonref01_sub.j1 (k + 1) y0 y1 y2 y3 y4 y5))
  | 0 => ⟨fun _ _ _ _ _ r h => by simp [gudgeonref01_sub.l0] at h, fun _ _ _ _ _ _ r h => by simp [gudgeonref01_sub.j1] at h⟩
  | k + 1 => by
    obtain ⟨ih0, ih1⟩ := gudgeonref01_sub.mono_l k
    refine ⟨?_, ?_⟩
    · intro y0 y1 y2 y3 y4
      unfold gudgeonref01_sub.l0
      repeat' first
      | (with_reducible exact ih0 _ _ _ _ _)
      | (with_reducible exact ih1 _ _ _ _ _ _)
      | (with_reducible exact gudgeonref01_trim.mono _ _)
      | (with_reducible exact LeO.refl _)
      | (with_reducible exact LeO.none _)
      | (with_reducible refine LeO.ite ?_ ?_)
      | (with_reducible refine LeO.bind ?_ (fun _ => ?_))
      | exact ih0 _ _ _ _ _
      | exact ih1 _ _ _ _ _ _
      | exact gudgeonref01_trim.mono _ _
      | exact LeO.none _
      | refine LeO.ite ?_ ?_
      | refine LeO.bind ?_ (fun _ => ?_)
    · intro y0 y1 y2 y3 y4 y5
      unfold gudgeonref01_sub.j1
      repeat' first
      | (with_reducible exact ih0 _ _ _ _ _)
      | (with_reducible exact ih1 _ _ _ _ _ _)
      | (with_reducible exact gudgeonref01_trim.mono _ _)
      | (with_reducible exact LeO.refl _)
      | (with_reducible exact LeO.none _)
      | (with_reducible refine LeO.ite ?_ ?_)
      | (with_reducible refine LeO.bind ?_ (fun _ => ?_))
      | exact ih0 _ _ _ _ _
      | exact ih1 _ _ _ _ _ _
      | exact gudgeonref01_trim.mono _ _
      | exact LeO.none _
      | refine LeO.ite ?_ ?_
      | refine LeO.bind ?_ (fun _ => ?_)
theorem gudgeonref01_sub.mono : ∀ a0 a1 k, LeO (gudgeonref01_sub.f k a0 a1) (gudgeonref01_sub.f (k + 1) a0 a1) := by
  intro a0 a1 k
  obtain ⟨ih0, ih1⟩ := gudgeonref01_sub.mono_l k
  unfold gudgeonref01_sub.f
  repeat' first
      | (with_reducible exact ih0 _ _ _ _ _)
      | (with_reducible exact ih1 _ _ _ _ _ _)
      | (with_reducible exact gudgeonref01_trim.mono _ _)
      | (with_reducible exact LeO.refl _)
      | (with_reducible exact LeO.none _)
      | (with_reducible refine LeO.ite ?_ ?_)
      | (with_reducible refine LeO.bind ?_ (fun _ => ?_))
      | exact ih0 _ _ _ _ _
      | exact ih1 _ _ _ _ _ _
      | exact gudgeonref01_trim.mono _ _
      | exact LeO.none _
      | refine LeO.ite ?_ ?_
      | refine LeO.bind ?_ (fun _ => ?_)
set_option maxHeartbeats 8000000 in
set_option maxRecDepth 100000 in
theorem gudgeonref01_sub.calls (k : Nat) (A0 : Option Addr) (c0 : Nat) (l0 : List Bool) (A1 : Option Addr) (c1 : Nat) (l1 : List Bool) (r : List Bool) (w : World) (hr0 : Kd.C Kd.bool w A0 l0.length l0) (hc0 : l0.length ≤ c0) (hr1 : Kd.C Kd.bool w A1 l1.length l1) (hc1 : l1.length ≤ c1) (h : gudgeonref01_sub.f k l0 l1 = some r) :
    Calls Tryd.prog 51 #[.slice A0 l0.length c0, .slice A1 l1.length c1] w fun e w' => ∃ v0_ : Value, e = .returned (v0_) ∧ Kd.R Kd.bool 4 w' w.heap.size (fun _ => True) v0_ r ∧ Below w.heap.size w w' := by
  have HR0 := Aside0.mk hr0
  have HC0 := Aside0.mk hc0
  clear hr0 hc0
  have HR1 := Aside0.mk hr1
  have HC1 := Aside0.mk hc1
  clear hr1 hc1
  have HB := Aside0.mk (Below.refl w.heap.size w)
  have H : (gudgeonref01_sub.l0 k l0 l1 ([] : List Bool) false 0) = some r := h
  clear h
  have H' := Aside0.mk H
  clear H
  go_enter Tryd.func51, Tryd.ntmps51
  go_wp2
  go_loopg [5, 6, 7] k (fun kq v5 v6 v7 w' => ∃ (x5_1 : List Bool) (x6_1 : Bool) (x7_1 : Int), v6 = .bool x6_1 ∧ v7 = .int .i64 x7_1 ∧ Aside0 (gudgeonref01_sub.l0 kq l0 l1 x5_1 x6_1 x7_1 = some r) ∧ Aside0 (kq ≤ k) ∧ Aside0 (Kd.R Kd.bool 4 w' w.heap.size (fun _ => True) v5 x5_1) ∧ Aside0 (Below w.heap.size w w'))
  case atStart => exact ⟨(([] : List Bool)), (false), (0), (by first | rfl | (simp; done) | (simp [*]; done) | (refine congrArg (Value.int _) ?_; omega) | (refine congrArg Value.bool ?_; generalize ByteArray.toList _ = z_; cases z_ <;> rfl)), (by first | rfl | (simp; done) | (simp [*]; done) | (refine congrArg (Value.int _) ?_; omega) | (refine congrArg Value.bool ?_; generalize ByteArray.toList _ = z_; cases z_ <;> rfl)), H', ⟨Nat.le_refl _⟩, ⟨by first | exact Kd.R_nil _ _ _ _ _ | exact Kd.N_nil _ _ _ _ _ | exact Kd.V_nil _ _ _ _ _ | exact Kd.Q_nil _ _ _ _ _ | exact Kd.S_nil _ _ _ _ _⟩, ⟨by repeat first | exact HB.out | apply below_alloc | apply pw_below_drewN | apply below_drew1⟩⟩
  case round =>
    clear H'
    try clear c1
    try clear p2
    obtain ⟨x5_1, x6_1, x7_1, rfl, rfl, HA, HK1, HO_5, HB⟩ := hrel
    cases gk with
    | zero => exact absurd HA.out (by simp [gudgeonref01_sub.l0])
    | succ k1 =>
      have H := HA.out
      clear HA
      simp only [gudgeonref01_sub.l0] at H
      by_cases c3 : x7_1 < (l0.length : Int)
      · rw [if_pos c3] at H
        have c3b0 : decide (x7_1 < (l0.length : Int)) = true := decide_eq_true c3
        clear c3
        by_cases c4 : 0 ≤ x7_1
        · rw [if_pos c4] at H
          have c4b0 : decide (0 ≤ x7_1) = true := decide_eq_true c4
          clear c4
          have HC5 := Aside0.mk H
          clear H
          have p463 : 0 ≤ (x7_1 : Int) := of_decide_eq_true (by first | (with_reducible assumption) | assumption)
          have q463 : x7_1 < (l0.length : Int) := of_decide_eq_true (by first | (with_reducible assumption) | assumption)
          obtain ⟨ad463, e463, hx463_0⟩ := Kd.at_bool HR0.out x7_1 p463 q463
          cases e463
          replace hx463_0 := (HB.out.cell (World.block_lt_of_cell? w _ hx463_0)).trans hx463_0
          replace p463 := eq_true p463
          replace q463 := eq_true q463
          go_upto_if 18 with (fail)
          go_cut [8] (fun v8 wc => ∃ (kq : Nat) (x8_4 : Int), v8 = .int .i64 x8_4 ∧ Aside0 (gudgeonref01_sub.j1 kq l0 l1 x5_1 x6_1 x7_1 x8_4 = some r) ∧ Aside0 (kq ≤ k1) ∧ Aside0 (Kd.R Kd.bool 4 wc w.heap.size (fun _ => True) u5 x5_1) ∧ Aside0 (Below w.heap.size w wc))
          case first =>
            have H := HC5.out
            clear HC5
            obtain ⟨bq6, hbq6⟩ : ∃ b_ : Bool, b_ = (rdOf false l0 x7_1) := ⟨_, rfl⟩
            replace H : (if bq6 = true then (gudgeonref01_sub.j1 k1 l0 l1 x5_1 x6_1 x7_1 (0 + 1)) else (gudgeonref01_sub.j1 k1 l0 l1 x5_1 x6_1 x7_1 0)) = some r := by rw [← hbq6] at H; exact H
            have Nbq6 := Aside0.mk hbq6
            clear hbq6
            (try rw [← Nbq6.out])
            by_cases c7 : bq6 = true
            · subst c7
              have H1 : (gudgeonref01_sub.j1 k1 l0 l1 x5_1 x6_1 x7_1 (0 + 1)) = some r := by rw [if_pos rfl] at H; exact H
              clear H
              have H := H1
              clear H1
              have H' := Aside0.mk H
              clear H
              go_wp2
              go_meet
              case rel => exact ⟨_, (0 + 1), (by first | rfl | (simp; done) | (simp [*]; done) | (refine congrArg (Value.int _) ?_; omega) | (refine congrArg Value.bool ?_; generalize ByteArray.toList _ = z_; cases z_ <;> rfl)), H', ⟨by have := HK1.out; first | omega | exact Nat.le_refl _⟩, ⟨by (with_reducible repeat (first | apply Kd.R_alloc | apply Kd.R_drewN | apply Kd.R_drew)); exact HO_5.out⟩, ⟨by repeat first | exact HB.out | apply below_alloc | apply pw_below_drewN | apply below_drew1⟩⟩
            · replace c7 := Bool.eq_false_iff.mpr c7
              subst c7
              have H1 : (gudgeonref01_sub.j1 k1 l0 l1 x5_1 x6_1 x7_1 0) = some r := by rw [if_neg (show ¬ (false = true) by decide)] at H; exact H
              clear H
              have H := H1
              clear H1
              have H' := Aside0.mk H
              clear H
              go_wp2
              go_meet
              case rel => exact ⟨_, (0), (by first | rfl | (simp; done) | (simp [*]; done) | (refine congrArg (Value.int _) ?_; omega) | (refine congrArg Value.bool ?_; generalize ByteArray.toList _ = z_; cases z_ <;> rfl)), H', ⟨by have := HK1.out; first | omega | exact Nat.le_refl _⟩, ⟨by (with_reducible repeat (first | apply Kd.R_alloc | apply Kd.R_drewN | apply Kd.R_drew)); exact HO_5.out⟩, ⟨by repeat first | exact HB.out | apply below_alloc | apply pw_below_drewN | apply below_drew1⟩⟩
          case rest =>
            clear HC5
            try clear c1
            try clear p2
            try clear c3
            try clear c3b0
            try clear c4
            try clear c4b0
            try clear p4
            try clear q4
            try clear hx4
            try clear c5
            try clear q6
            try clear c7
            try clear hx463_0
            try clear p2
            try clear p463
            try clear q463
            obtain ⟨kq, x8_4, rfl, HA, HJ4, HO_5, HB⟩ := hcut
            cases kq with
            | zero => exact absurd HA.out (by simp [gudgeonref01_sub.j1])
            | succ kj4 =>
              have H := HA.out
              clear HA
              simp only [gudgeonref01_sub.j1] at H
              replace H := Option.bind_eq_some_iff.mp H
              obtain ⟨t464, A80, H⟩ := H
              replace H : (if t464 = true then (if x6_1 = true then (if (wrap64 ((wrap64 (x8_4 - 1)) - 1)) = 1 then (if x5_1.length < 140737488355328 then (gudgeonref01_sub.l0 kj4 l0 l1 (x5_1 ++ [true]) (decide ((wrap64 ((wrap64 (x8_4 - 1)) - 1)) < 0)) (wrap64 (x7_1 + 1))) else (none)) else (if x5_1.length < 140737488355328 then (gudgeonref01_sub.l0 kj4 l0 l1 (x5_1 ++ [((wrap64 ((wrap64 (x8_4 - 1)) - 1)) == (-1))]) (decide ((wrap64 ((wrap64 (x8_4 - 1)) - 1)) < 0)) (wrap64 (x7_1 + 1))) else (none))) else (if (wrap64 (x8_4 - 1)) = 1 then (if x5_1.length < 140737488355328 then (gudgeonref01_sub.l0 kj4 l0 l1 (x5_1 ++ [true]) (decide ((wrap64 (x8_4 - 1)) < 0)) (wrap64 (x7_1 + 1))) else (none)) else (if x5_1.length < 140737488355328 then (gudgeonref01_sub.l0 kj4 l0 l1 (x5_1 ++ [((wrap64 (x8_4 - 1)) == (-1))]) (decide ((wrap64 (x8_4 - 1)) < 0)) (wrap64 (x7_1 + 1))) else (none)))) else (if x6_1 = true then (if (wrap64 (x8_4 - 1)) = 1 then (if x5_1.length < 140737488355328 then (gudgeonref01_sub.l0 kj4 l0 l1 (x5_1 ++ [true]) (decide ((wrap64 (x8_4 - 1)) < 0)) (wrap64 (x7_1 + 1))) else (none)) else (if x5_1.length < 140737488355328 then (gudgeonref01_sub.l0 kj4 l0 l1 (x5_1 ++ [((wrap64 (x8_4 - 1)) == (-1))]) (decide ((wrap64 (x8_4 - 1)) < 0)) (wrap64 (x7_1 + 1))) else (none))) else (if x8_4 = 1 then (if x5_1.length < 140737488355328 then (gudgeonref01_sub.l0 kj4 l0 l1 (x5_1 ++ [true]) (decide (x8_4 < 0)) (wrap64 (x7_1 + 1))) else (none)) else (if x5_1.length < 140737488355328 then (gudgeonref01_sub.l0 kj4 l0 l1 (x5_1 ++ [(x8_4 == (-1))]) (decide (x8_4 < 0)) (wrap64 (x7_1 + 1))) else (none))))) = some r := H
              have A8 := Aside0.mk A80
              clear A80
              by_cases c9 : t464 = true
              · subst c9
                have H1 : (if x6_1 = true then (if (wrap64 ((wrap64 (x8_4 - 1)) - 1)) = 1 then (if x5_1.length < 140737488355328 then (gudgeonref01_sub.l0 kj4 l0 l1 (x5_1 ++ [true]) (decide ((wrap64 ((wrap64 (x8_4 - 1)) - 1)) < 0)) (wrap64 (x7_1 + 1))) else (none)) else (if x5_1.length < 140737488355328 then (gudgeonref01_sub.l0 kj4 l0 l1 (x5_1 ++ [((wrap64 ((wrap64 (x8_4 - 1)) - 1)) == (-1))]) (decide ((wrap64 ((wrap64 (x8_4 - 1)) - 1)) < 0)) (wrap64 (x7_1 + 1))) else (none))) else (if (wrap64 (x8_4 - 1)) = 1 then (if x5_1.length < 140737488355328 then (gudgeonref01_sub.l0 kj4 l0 l1 (x5_1 ++ [true]) (decide ((wrap64 (x8_4 - 1)) < 0)) (wrap64 (x7_1 + 1))) else (none)) else (if x5_1.length < 140737488355328 then (gudgeonref01_sub.l0 kj4 l0 l1 (x5_1 ++ [((wrap64 (x8_4 - 1)) == (-1))]) (decide ((wrap64 (x8_4 - 1)) < 0)) (wrap64 (x7_1 + 1))) else (none)))) = some r := by rw [if_pos rfl] at H; exact H
                clear H
                have H := H1
                clear H1
                by_cases c10 : x6_1 = true
                · subst c10
                  have H1 : (if (wrap64 ((wrap64 (x8_4 - 1)) - 1)) = 1 then (if x5_1.length < 140737488355328 then (gudgeonref01_sub.l0 kj4 l0 l1 (x5_1 ++ [true]) (decide ((wrap64 ((wrap64 (x8_4 - 1)) - 1)) < 0)) (wrap64 (x7_1 + 1))) else (none)) else (if x5_1.length < 140737488355328 then (gudgeonref01_sub.l0 kj4 l0 l1 (x5_1 ++ [((wrap64 ((wrap64 (x8_4 - 1)) - 1)) == (-1))]) (decide ((wrap64 ((wrap64 (x8_4 - 1)) - 1)) < 0)) (wrap64 (x7_1 + 1))) else (none))) = some r := by rw [if_pos rfl] at H; exact H
                  clear H
                  have H := H1
                  clear H1
                  by_cases c11 : (wrap64 ((wrap64 (x8_4 - 1)) - 1)) = 1
                  · rw [if_pos c11] at H
                    have c11b0 : ((wrap64 ((wrap64 (x8_4 - 1)) - 1)) == 1) = true := beq_iff_eq.mpr c11
                    have c11b1 : ((wrap64 ((wrap64 (x8_4 - 1)) - 1)) != 1) = false := bne_eq_false_iff_eq.mpr c11
                    clear c11
                    by_cases c12 : x5_1.length < 140737488355328
                    · rw [if_pos c12] at H
                      have LMc12 := Aside0.mk c12
                      clear c12
                      obtain ⟨y465, hy465⟩ : ∃ y_ : List Bool, y_ = (x5_1 ++ [true]) := ⟨_, rfl⟩
                      replace H : (gudgeonref01_sub.l0 kj4 l0 l1 y465 (decide ((wrap64 ((wrap64 (x8_4 - 1)) - 1)) < 0)) (wrap64 (x7_1 + 1))) = some r := by first | (rw [hy465]; with_reducible exact H) | (have H2_ := (Option.bind_some _ _).symm.trans H; rw [hy465]; with_reducible exact H2_) | (have H2_ := (Option.bind_some _ _).symm.trans H; with_reducible exact H2_) | with_reducible exact H | (rw [hy465]; exact H) | exact H
                      have Ny465 := Aside0.mk hy465
                      clear hy465
                      have H' := Aside0.mk H
                      clear H
                      go_wp2_with (first | ((with_reducible refine gate_callee (f := 56) rfl ?_); refine goesL_ (some 23) rfl rfl Tryd.func56 (by kernel_rfl) rfl #[.slice A1 l1.length c1, .int .i64 x7_1] rfl (by (try simp only [List.map_toArray, List.map_cons, List.map_nil]); first | done | rfl | (simp only [List.length_drop, List.length_take]; rfl)) ?_; (with_reducible refine (gudgeonref01_at.calls _ _ l1 x7_1 true _ ?side1 ?side2 A8.out).mono ?_); (case side1 => repeat (first | exact (Kd.C_below HR1.out HB.out) | (with_reducible refine Kd.C_alloc ?_ _) | (with_reducible refine Kd.C_drewN ?_ _) | (with_reducible refine Kd.C_drew ?_))); (case side2 => exact HC1.out); rintro e w' ⟨rfl, ⟨nd, rfl⟩⟩; refine ⟨_, rfl, ?_⟩) | ((with_reducible refine gate_builtin (b := .append) (xs := #[.tmp 29, .tmp 36]) rfl ?_); at_builtin; refine Kd.R_append Kd.bool (w0 := w) w.heap.size rfl (.tmp 29) (.tmp 36) 49 4 (.bool false) 1 rfl Tryd.underlying49 info4 rfl (by decide) (by omega) u5 x5_1 true [.bool true] (fun _ => True) (fun _ => False) rfl rfl ?aP (fun _ hk => hk.elim) ?aF ?aO ?aB ?aS ?aL ?_; (case aP => exact rfl); (case aB => exact (by repeat first | exact HB.out | apply below_alloc | apply pw_below_drewN | apply below_drew1)); (case aF => exact (fun _ _ => trivial)); (case aO => exact HO_5.out); (case aS => exact (below_size (by repeat first | exact HB.out | apply below_alloc | apply pw_below_drewN | apply below_drew1))); (case aL => have := LMc12.out; omega); intro v466 w13 ho hb hg hat; rw [← Ny465.out] at ho; have n0_ := Aside0.mk (hb); have n1_ := Aside0.mk (ho); clear HB; clear HO_5; have HB := n0_; have HO467 := n1_; clear n0_ n1_; clear ho hb hg hat))
                      go_roundg kj4
                      case measure => have := HK1.out; have := HJ4.out; omega
                      case rel => exact ⟨(y465), (decide ((wrap64 ((wrap64 (x8_4 - 1)) - 1)) < 0)), (wrap64 (x7_1 + 1)), (by first | rfl | (simp; done) | (simp [*]; done) | (refine congrArg (Value.int _) ?_; omega) | (refine congrArg Value.bool ?_; generalize ByteArray.toList _ = z_; cases z_ <;> rfl)), (by first | rfl | (simp; done) | (simp [*]; done) | (refine congrArg (Value.int _) ?_; omega) | (refine congrArg Value.bool ?_; generalize ByteArray.toList _ = z_; cases z_ <;> rfl)), H', ⟨by have := HK1.out; have := HJ4.out; omega⟩, ⟨by (with_reducible repeat (first | apply Kd.R_alloc | apply Kd.R_drewN | apply Kd.R_drew)); exact HO467.out⟩, ⟨by repeat first | exact HB.out | apply below_alloc | apply pw_below_drewN | apply below_drew1⟩⟩
                    · rw [if_neg c12] at H
                      exact absurd H (by simp)
                  · rw [if_neg c11] at H
                    have c11b0 : ((wrap64 ((wrap64 (x8_4 - 1)) - 1)) == 1) = false := beq_eq_false_iff_ne.mpr c11
                    have c11b1 : ((wrap64 ((wrap64 (x8_4 - 1)) - 1)) != 1) = true := bne_iff_ne.mpr c11
                    by_cases c14 : x5_1.length < 140737488355328
                    · rw [if_pos c14] at H
                      have LMc14 := Aside0.mk c14
                      clear c14
                      obtain ⟨y468, hy468⟩ : ∃ y_ : List Bool, y_ = (x5_1 ++ [((wrap64 ((wrap64 (x8_4 - 1)) - 1)) == (-1))]) := ⟨_, rfl⟩
                      replace H : (gudgeonref01_sub.l0 kj4 l0 l1 y468 (decide ((wrap64 ((wrap64 (x8_4 - 1)) - 1)) < 0)) (wrap64 (x7_1 + 1))) = some r := by first | (rw [hy468]; with_reducible exact H) | (have H2_ := (Option.bind_some _ _).symm.trans H; rw [hy468]; with_reducible exact H2_) | (have H2_ := (Option.bind_some _ _).symm.trans H; with_reducible exact H2_) | with_reducible exact H | (rw [hy468]; exact H) | exact H
                      have Ny468 := Aside0.mk hy468
                      clear hy468
                      have H' := Aside0.mk H
                      clear H
                      go_wp2_with (first | ((with_reducible refine gate_callee (f := 56) rfl ?_); refine goesL_ (some 23) rfl rfl Tryd.func56 (by kernel_rfl) rfl #[.slice A1 l1.length c1, .int .i64 x7_1] rfl (by (try simp only [List.map_toArray, List.map_cons, List.map_nil]); first | done | rfl | (simp only [List.length_drop, List.length_take]; rfl)) ?_; (with_reducible refine (gudgeonref01_at.calls _ _ l1 x7_1 true _ ?side1 ?side2 A8.out).mono ?_); (case side1 => repeat (first | exact (Kd.C_below HR1.out HB.out) | (with_reducible refine Kd.C_alloc ?_ _) | (with_reducible refine Kd.C_drewN ?_ _) | (with_reducible refine Kd.C_drew ?_))); (case side2 => exact HC1.out); rintro e w' ⟨rfl, ⟨nd, rfl⟩⟩; refine ⟨_, rfl, ?_⟩) | ((with_reducible refine gate_builtin (b := .append) (xs := #[.tmp 29, .tmp 36]) rfl ?_); at_builtin; refine Kd.R_append Kd.bool (w0 := w) w.heap.size rfl (.tmp 29) (.tmp 36) 49 4 (.bool false) 1 rfl Tryd.underlying49 info4 rfl (by decide) (by omega) u5 x5_1 ((wrap64 ((wrap64 (x8_4 - 1)) - 1)) == (-1)) [.bool ((wrap64 ((wrap64 (x8_4 - 1)) - 1)) == (-1))] (fun _ => True) (fun _ => False) rfl rfl ?aP (fun _ hk => hk.elim) ?aF ?aO ?aB ?aS ?aL ?_; (case aP => exact rfl); (case aB => exact (by repeat first | exact HB.out | apply below_alloc | apply pw_below_drewN | apply below_drew1)); (case aF => exact (fun _ _ => trivial)); (case aO => exact HO_5.out); (case aS => exact (below_size (by repeat first | exact HB.out | apply below_alloc | apply pw_below_drewN | apply below_drew1))); (case aL => have := LMc14.out; omega); intro v469 w15 ho hb hg hat; rw [← Ny468.out] at ho; have n0_ := Aside0.mk (hb); have n1_ := Aside0.mk (ho); clear HB; clear HO_5; have HB := n0_; have HO470 := n1_; clear n0_ n1_; clear ho hb hg hat))
                      go_roundg kj4
                      case measure => have := HK1.out; have := HJ4.out; omega
                      case rel => exact ⟨(y468), (decide ((wrap64 ((wrap64 (x8_4 - 1)) - 1)) < 0)), (wrap64 (x7_1 + 1)), (by first | rfl | (simp; done) | (simp [*]; done) | (refine congrArg (Value.int _) ?_; omega) | (refine congrArg Value.bool ?_; generalize ByteArray.toList _ = z_; cases z_ <;> rfl)), (by first | rfl | (simp; done) | (simp [*]; done) | (refine congrArg (Value.int _) ?_; omega) | (refine congrArg Value.bool ?_; generalize ByteArray.toList _ = z_; cases z_ <;> rfl)), H', ⟨by have := HK1.out; have := HJ4.out; omega⟩, ⟨by (with_reducible repeat (first | apply Kd.R_alloc | apply Kd.R_drewN | apply Kd.R_drew)); exact HO470.out⟩, ⟨by repeat first | exact HB.out | apply below_alloc | apply pw_below_drewN | apply below_drew1⟩⟩
                    · rw [if_neg c14] at H
                      exact absurd H (by simp)
                · replace c10 := Bool.eq_false_iff.mpr c10
                  subst c10
                  have H1 : (if (wrap64 (x8_4 - 1)) = 1 then (if x5_1.length < 140737488355328 then (gudgeonref01_sub.l0 kj4 l0 l1 (x5_1 ++ [true]) (decide ((wrap64 (x8_4 - 1)) < 0)) (wrap64 (x7_1 + 1))) else (none)) else (if x5_1.length < 140737488355328 then (gudgeonref01_sub.l0 kj4 l0 l1 (x5_1 ++ [((wrap64 (x8_4 - 1)) == (-1))]) (decide ((wrap64 (x8_4 - 1)) < 0)) (wrap64 (x7_1 + 1))) else (none))) = some r := by rw [if_neg (show ¬ (false = true) by decide)] at H; exact H
                  clear H
                  have H := H1
                  clear H1
                  by_cases c16 : (wrap64 (x8_4 - 1)) = 1
                  · rw [if_pos c16] at H
                    have c16b0 : ((wrap64 (x8_4 - 1)) == 1) = true := beq_iff_eq.mpr c16
                    have c16b1 : ((wrap64 (x8_4 - 1)) != 1) = false := bne_eq_false_iff_eq.mpr c16
                    clear c16
                    by_cases c17 : x5_1.length < 140737488355328
                    · rw [if_pos c17] at H
                      have LMc17 := Aside0.mk c17
                      clear c17
                      obtain ⟨y471, hy471⟩ : ∃ y_ : List Bool, y_ = (x5_1 ++ [true]) := ⟨_, rfl⟩
                      replace H : (gudgeonref01_sub.l0 kj4 l0 l1 y471 (decide ((wrap64 (x8_4 - 1)) < 0)) (wrap64 (x7_1 + 1))) = some r := by first | (rw [hy471]; with_reducible exact H) | (have H2_ := (Option.bind_some _ _).symm.trans H; rw [hy471]; with_reducible exact H2_) | (have H2_ := (Option.bind_some _ _).symm.trans H; with_reducible exact H2_) | with_reducible exact H | (rw [hy471]; exact H) | exact H
                      have Ny471 := Aside0.mk hy471
                      clear hy471
                      have H' := Aside0.mk H
                      clear H
                      go_wp2_with (first | ((with_reducible refine gate_callee (f := 56) rfl ?_); refine goesL_ (some 23) rfl rfl Tryd.func56 (by kernel_rfl) rfl #[.slice A1 l1.length c1, .int .i64 x7_1] rfl (by (try simp only [List.map_toArray, List.map_cons, List.map_nil]); first | done | rfl | (simp only [List.length_drop, List.length_take]; rfl)) ?_; (with_reducible refine (gudgeonref01_at.calls _ _ l1 x7_1 true _ ?side1 ?side2 A8.out).mono ?_); (case side1 => repeat (first | exact (Kd.C_below HR1.out HB.out) | (with_reducible refine Kd.C_alloc ?_ _) | (with_reducible refine Kd.C_drewN ?_ _) | (with_reducible refine Kd.C_drew ?_))); (case side2 => exact HC1.out); rintro e w' ⟨rfl, ⟨nd, rfl⟩⟩; refine ⟨_, rfl, ?_⟩) | ((with_reducible refine gate_builtin (b := .append) (xs := #[.tmp 29, .tmp 36]) rfl ?_); at_builtin; refine Kd.R_append Kd.bool (w0 := w) w.heap.size rfl (.tmp 29) (.tmp 36) 49 4 (.bool false) 1 rfl Tryd.underlying49 info4 rfl (by decide) (by omega) u5 x5_1 true [.bool true] (fun _ => True) (fun _ => False) rfl rfl ?aP (fun _ hk => hk.elim) ?aF ?aO ?aB ?aS ?aL ?_; (case aP => exact rfl); (case aB => exact (by repeat first | exact HB.out | apply below_alloc | apply pw_below_drewN | apply below_drew1)); (case aF => exact (fun _ _ => trivial)); (case aO => exact HO_5.out); (case aS => exact (below_size (by repeat first | exact HB.out | apply below_alloc | apply pw_below_drewN | apply below_drew1))); (case aL => have := LMc17.out; omega); intro v472 w18 ho hb hg hat; rw [← Ny471.out] at ho; have n0_ := Aside0.mk (hb); have n1_ := Aside0.mk (ho); clear HB; clear HO_5; have HB := n0_; have HO473 := n1_; clear n0_ n1_; clear ho hb hg hat))
                      go_roundg kj4
                      case measure => have := HK1.out; have := HJ4.out; omega
                      case rel => exact ⟨(y471), (decide ((wrap64 (x8_4 - 1)) < 0)), (wrap64 (x7_1 + 1)), (by first | rfl | (simp; done) | (simp [*]; done) | (refine congrArg (Value.int _) ?_; omega) | (refine congrArg Value.bool ?_; generalize ByteArray.toList _ = z_; cases z_ <;> rfl)), (by first | rfl | (simp; done) | (simp [*]; done) | (refine congrArg (Value.int _) ?_; omega) | (refine congrArg Value.bool ?_; generalize ByteArray.toList _ = z_; cases z_ <;> rfl)), H', ⟨by have := HK1.out; have := HJ4.out; omega⟩, ⟨by (with_reducible repeat (first | apply Kd.R_alloc | apply Kd.R_drewN | apply Kd.R_drew)); exact HO473.out⟩, ⟨by repeat first | exact HB.out | apply below_alloc | apply pw_below_drewN | apply below_drew1⟩⟩
                    · rw [if_neg c17] at H
                      exact absurd H (by simp)
                  · rw [if_neg c16] at H
                    have c16b0 : ((wrap64 (x8_4 - 1)) == 1) = false := beq_eq_false_iff_ne.mpr c16
                    have c16b1 : ((wrap64 (x8_4 - 1)) != 1) = true := bne_iff_ne.mpr c16
                    by_cases c19 : x5_1.length < 140737488355328
                    · rw [if_pos c19] at H
                      have LMc19 := Aside0.mk c19
                      clear c19
                      obtain ⟨y474, hy474⟩ : ∃ y_ : List Bool, y_ = (x5_1 ++ [((wrap64 (x8_4 - 1)) == (-1))]) := ⟨_, rfl⟩
                      replace H : (gudgeonref01_sub.l0 kj4 l0 l1 y474 (decide ((wrap64 (x8_4 - 1)) < 0)) (wrap64 (x7_1 + 1))) = some r := by first | (rw [hy474]; with_reducible exact H) | (have H2_ := (Option.bind_some _ _).symm.trans H; rw [hy474]; with_reducible exact H2_) | (have H2_ := (Option.bind_some _ _).symm.trans H; with_reducible exact H2_) | with_reducible exact H | (rw [hy474]; exact H) | exact H
                      have Ny474 := Aside0.mk hy474
                      clear hy474
                      have H' := Aside0.mk H
                      clear H
                      go_wp2_with (first | ((with_reducible refine gate_callee (f := 56) rfl ?_); refine goesL_ (some 23) rfl rfl Tryd.func56 (by kernel_rfl) rfl #[.slice A1 l1.length c1, .int .i64 x7_1] rfl (by (try simp only [List.map_toArray, List.map_cons, List.map_nil]); first | done | rfl | (simp only [List.length_drop, List.length_take]; rfl)) ?_; (with_reducible refine (gudgeonref01_at.calls _ _ l1 x7_1 true _ ?side1 ?side2 A8.out).mono ?_); (case side1 => repeat (first | exact (Kd.C_below HR1.out HB.out) | (with_reducible refine Kd.C_alloc ?_ _) | (with_reducible refine Kd.C_drewN ?_ _) | (with_reducible refine Kd.C_drew ?_))); (case side2 => exact HC1.out); rintro e w' ⟨rfl, ⟨nd, rfl⟩⟩; refine ⟨_, rfl, ?_⟩) | ((with_reducible refine gate_builtin (b := .append) (xs := #[.tmp 29, .tmp 36]) rfl ?_); at_builtin; refine Kd.R_append Kd.bool (w0 := w) w.heap.size rfl (.tmp 29) (.tmp 36) 49 4 (.bool false) 1 rfl Tryd.underlying49 info4 rfl (by decide) (by omega) u5 x5_1 ((wrap64 (x8_4 - 1)) == (-1)) [.bool ((wrap64 (x8_4 - 1)) == (-1))] (fun _ => True) (fun _ => False) rfl rfl ?aP (fun _ hk => hk.elim) ?aF ?aO ?aB ?aS ?aL ?_; (case aP => exact rfl); (case aB => exact (by repeat first | exact HB.out | apply below_alloc | apply pw_below_drewN | apply below_drew1)); (case aF => exact (fun _ _ => trivial)); (case aO => exact HO_5.out); (case aS => exact (below_size (by repeat first | exact HB.out | apply below_alloc | apply pw_below_drewN | apply below_drew1))); (case aL => have := LMc19.out; omega); intro v475 w20 ho hb hg hat; rw [← Ny474.out] at ho; have n0_ := Aside0.mk (hb); have n1_ := Aside0.mk (ho); clear HB; clear HO_5; have HB := n0_; have HO476 := n1_; clear n0_ n1_; clear ho hb hg hat))
                      go_roundg kj4
                      case measure => have := HK1.out; have := HJ4.out; omega
                      case rel => exact ⟨(y474), (decide ((wrap64 (x8_4 - 1)) < 0)), (wrap64 (x7_1 + 1)), (by first | rfl | (simp; done) | (simp [*]; done) | (refine congrArg (Value.int _) ?_; omega) | (refine congrArg Value.bool ?_; generalize ByteArray.toList _ = z_; cases z_ <;> rfl)), (by first | rfl | (simp; done) | (simp [*]; done) | (refine congrArg (Value.int _) ?_; omega) | (refine congrArg Value.bool ?_; generalize ByteArray.toList _ = z_; cases z_ <;> rfl)), H', ⟨by have := HK1.out; have := HJ4.out; omega⟩, ⟨by (with_reducible repeat (first | apply Kd.R_alloc | apply Kd.R_drewN | apply Kd.R_drew)); exact HO476.out⟩, ⟨by repeat first | exact HB.out | apply below_alloc | apply pw_below_drewN | apply below_drew1⟩⟩
                    · rw [if_neg c19] at H
                      exact absurd H (by simp)
              · replace c9 := Bool.eq_false_iff.mpr c9
                subst c9
                have H1 : (if x6_1 = true then (if (wrap64 (x8_4 - 1)) = 1 then (if x5_1.length < 140737488355328 then (gudgeonref01_sub.l0 kj4 l0 l1 (x5_1 ++ [true]) (decide ((wrap64 (x8_4 - 1)) < 0)) (wrap64 (x7_1 + 1))) else (none)) else (if x5_1.length < 140737488355328 then (gudgeonref01_sub.l0 kj4 l0 l1 (x5_1 ++ [((wrap64 (x8_4 - 1)) == (-1))]) (decide ((wrap64 (x8_4 - 1)) < 0)) (wrap64 (x7_1 + 1))) else (none))) else (if x8_4 = 1 then (if x5_1.length < 140737488355328 then (gudgeonref01_sub.l0 kj4 l0 l1 (x5_1 ++ [true]) (decide (x8_4 < 0)) (wrap64 (x7_1 + 1))) else (none)) else (if x5_1.length < 140737488355328 then (gudgeonref01_sub.l0 kj4 l0 l1 (x5_1 ++ [(x8_4 == (-1))]) (decide (x8_4 < 0)) (wrap64 (x7_1 + 1))) else (none)))) = some r := by rw [if_neg (show ¬ (false = true) by decide)] at H; exact H
                clear H
                have H := H1
                clear H1
                by_cases c21 : x6_1 = true
                · subst c21
                  have H1 : (if (wrap64 (x8_4 - 1)) = 1 then (if x5_1.length < 140737488355328 then (gudgeonref01_sub.l0 kj4 l0 l1 (x5_1 ++ [true]) (decide ((wrap64 (x8_4 - 1)) < 0)) (wrap64 (x7_1 + 1))) else (none)) else (if x5_1.length < 140737488355328 then (gudgeonref01_sub.l0 kj4 l0 l1 (x5_1 ++ [((wrap64 (x8_4 - 1)) == (-1))]) (decide ((wrap64 (x8_4 - 1)) < 0)) (wrap64 (x7_1 + 1))) else (none))) = some r := by rw [if_pos rfl] at H; exact H
                  clear H
                  have H := H1
                  clear H1
                  by_cases c22 : (wrap64 (x8_4 - 1)) = 1
                  · rw [if_pos c22] at H
                    have c22b0 : ((wrap64 (x8_4 - 1)) == 1) = true := beq_iff_eq.mpr c22
                    have c22b1 : ((wrap64 (x8_4 - 1)) != 1) = false := bne_eq_false_iff_eq.mpr c22
                    clear c22
                    by_cases c23 : x5_1.length < 140737488355328
                    · rw [if_pos c23] at H
                      have LMc23 := Aside0.mk c23
                      clear c23
                      obtain ⟨y477, hy477⟩ : ∃ y_ : List Bool, y_ = (x5_1 ++ [true]) := ⟨_, rfl⟩
                      replace H : (gudgeonref01_sub.l0 kj4 l0 l1 y477 (decide ((wrap64 (x8_4 - 1)) < 0)) (wrap64 (x7_1 + 1))) = some r := by first | (rw [hy477]; with_reducible exact H) | (have H2_ := (Option.bind_some _ _).symm.trans H; rw [hy477]; with_reducible exact H2_) | (have H2_ := (Option.bind_some _ _).symm.trans H; with_reducible exact H2_) | with_reducible exact H | (rw [hy477]; exact H) | exact H
                      have Ny477 := Aside0.mk hy477
                      clear hy477
                      have H' := Aside0.mk H
                      clear H
                      go_wp2_with (first | ((with_reducible refine gate_callee (f := 56) rfl ?_); refine goesL_ (some 23) rfl rfl Tryd.func56 (by kernel_rfl) rfl #[.slice A1 l1.length c1, .int .i64 x7_1] rfl (by (try simp only [List.map_toArray, List.map_cons, List.map_nil]); first | done | rfl | (simp only [List.length_drop, List.length_take]; rfl)) ?_; (with_reducible refine (gudgeonref01_at.calls _ _ l1 x7_1 false _ ?side1 ?side2 A8.out).mono ?_); (case side1 => repeat (first | exact (Kd.C_below HR1.out HB.out) | (with_reducible refine Kd.C_alloc ?_ _) | (with_reducible refine Kd.C_drewN ?_ _) | (with_reducible refine Kd.C_drew ?_))); (case side2 => exact HC1.out); rintro e w' ⟨rfl, ⟨nd, rfl⟩⟩; refine ⟨_, rfl, ?_⟩) | ((with_reducible refine gate_builtin (b := .append) (xs := #[.tmp 29, .tmp 36]) rfl ?_); at_builtin; refine Kd.R_append Kd.bool (w0 := w) w.heap.size rfl (.tmp 29) (.tmp 36) 49 4 (.bool false) 1 rfl Tryd.underlying49 info4 rfl (by decide) (by omega) u5 x5_1 true [.bool true] (fun _ => True) (fun _ => False) rfl rfl ?aP (fun _ hk => hk.elim) ?aF ?aO ?aB ?aS ?aL ?_; (case aP => exact rfl); (case aB => exact (by repeat first | exact HB.out | apply below_alloc | apply pw_below_drewN | apply below_drew1)); (case aF => exact (fun _ _ => trivial)); (case aO => exact HO_5.out); (case aS => exact (below_size (by repeat first | exact HB.out | apply below_alloc | apply pw_below_drewN | apply below_drew1))); (case aL => have := LMc23.out; omega); intro v478 w24 ho hb hg hat; rw [← Ny477.out] at ho; have n0_ := Aside0.mk (hb); have n1_ := Aside0.mk (ho); clear HB; clear HO_5; have HB := n0_; have HO479 := n1_; clear n0_ n1_; clear ho hb hg hat))
                      go_roundg kj4
                      case measure => have := HK1.out; have := HJ4.out; omega
                      case rel => exact ⟨(y477), (decide ((wrap64 (x8_4 - 1)) < 0)), (wrap64 (x7_1 + 1)), (by first | rfl | (simp; done) | (simp [*]; done) | (refine congrArg (Value.int _) ?_; omega) | (refine congrArg Value.bool ?_; generalize ByteArray.toList _ = z_; cases z_ <;> rfl)), (by first | rfl | (simp; done) | (simp [*]; done) | (refine congrArg (Value.int _) ?_; omega) | (refine congrArg Value.bool ?_; generalize ByteArray.toList _ = z_; cases z_ <;> rfl)), H', ⟨by have := HK1.out; have := HJ4.out; omega⟩, ⟨by (with_reducible repeat (first | apply Kd.R_alloc | apply Kd.R_drewN | apply Kd.R_drew)); exact HO479.out⟩, ⟨by repeat first | exact HB.out | apply below_alloc | apply pw_below_drewN | apply below_drew1⟩⟩
                    · rw [if_neg c23] at H
                      exact absurd H (by simp)
                  · rw [if_neg c22] at H
                    have c22b0 : ((wrap64 (x8_4 - 1)) == 1) = false := beq_eq_false_iff_ne.mpr c22
                    have c22b1 : ((wrap64 (x8_4 - 1)) != 1) = true := bne_iff_ne.mpr c22
                    by_cases c25 : x5_1.length < 140737488355328
                    · rw [if_pos c25] at H
                      have LMc25 := Aside0.mk c25
                      clear c25
                      obtain ⟨y480, hy480⟩ : ∃ y_ : List Bool, y_ = (x5_1 ++ [((wrap64 (x8_4 - 1)) == (-1))]) := ⟨_, rfl⟩
                      replace H : (gudgeonref01_sub.l0 kj4 l0 l1 y480 (decide ((wrap64 (x8_4 - 1)) < 0)) (wrap64 (x7_1 + 1))) = some r := by first | (rw [hy480]; with_reducible exact H) | (have H2_ := (Option.bind_some _ _).symm.trans H; rw [hy480]; with_reducible exact H2_) | (have H2_ := (Option.bind_some _ _).symm.trans H; with_reducible exact H2_) | with_reducible exact H | (rw [hy480]; exact H) | exact H
                      have Ny480 := Aside0.mk hy480
                      clear hy480
                      have H' := Aside0.mk H
                      clear H
                      go_wp2_with (first | ((with_reducible refine gate_callee (f := 56) rfl ?_); refine goesL_ (some 23) rfl rfl Tryd.func56 (by kernel_rfl) rfl #[.slice A1 l1.length c1, .int .i64 x7_1] rfl (by (try simp only [List.map_toArray, List.map_cons, List.map_nil]); first | done | rfl | (simp only [List.length_drop, List.length_take]; rfl)) ?_; (with_reducible refine (gudgeonref01_at.calls _ _ l1 x7_1 false _ ?side1 ?side2 A8.out).mono ?_); (case side1 => repeat (first | exact (Kd.C_below HR1.out HB.out) | (with_reducible refine Kd.C_alloc ?_ _) | (with_reducible refine Kd.C_drewN ?_ _) | (with_reducible refine Kd.C_drew ?_))); (case side2 => exact HC1.out); rintro e w' ⟨rfl, ⟨nd, rfl⟩⟩; refine ⟨_, rfl, ?_⟩) | ((with_reducible refine gate_builtin (b := .append) (xs := #[.tmp 29, .tmp 36]) rfl ?_); at_builtin; refine Kd.R_append Kd.bool (w0 := w) w.heap.size rfl (.tmp 29) (.tmp 36) 49 4 (.bool false) 1 rfl Tryd.underlying49 info4 rfl (by decide) (by omega) u5 x5_1 ((wrap64 (x8_4 - 1)) == (-1)) [.bool ((wrap64 (x8_4 - 1)) == (-1))] (fun _ => True) (fun _ => False) rfl rfl ?aP (fun _ hk => hk.elim) ?aF ?aO ?aB ?aS ?aL ?_; (case aP => exact rfl); (case aB => exact (by repeat first | exact HB.out | apply below_alloc | apply pw_below_drewN | apply below_drew1)); (case aF => exact (fun _ _ => trivial)); (case aO => exact HO_5.out); (case aS => exact (below_size (by repeat first | exact HB.out | apply below_alloc | apply pw_below_drewN | apply below_drew1))); (case aL => have := LMc25.out; omega); intro v481 w26 ho hb hg hat; rw [← Ny480.out] at ho; have n0_ := Aside0.mk (hb); have n1_ := Aside0.mk (ho); clear HB; clear HO_5; have HB := n0_; have HO482 := n1_; clear n0_ n1_; clear ho hb hg hat))
                      go_roundg kj4
                      case measure => have := HK1.out; have := HJ4.out; omega
                      case rel => exact ⟨(y480), (decide ((wrap64 (x8_4 - 1)) < 0)), (wrap64 (x7_1 + 1)), (by first | rfl | (simp; done) | (simp [*]; done) | (refine congrArg (Value.int _) ?_; omega) | (refine congrArg Value.bool ?_; generalize ByteArray.toList _ = z_; cases z_ <;> rfl)), (by first | rfl | (simp; done) | (simp [*]; done) | (refine congrArg (Value.int _) ?_; omega) | (refine congrArg Value.bool ?_; generalize ByteArray.toList _ = z_; cases z_ <;> rfl)), H', ⟨by have := HK1.out; have := HJ4.out; omega⟩, ⟨by (with_reducible repeat (first | apply Kd.R_alloc | apply Kd.R_drewN | apply Kd.R_drew)); exact HO482.out⟩, ⟨by repeat first | exact HB.out | apply below_alloc | apply pw_below_drewN | apply below_drew1⟩⟩
                    · rw [if_neg c25] at H
                      exact absurd H (by simp)
                · replace c21 := Bool.eq_false_iff.mpr c21
                  subst c21
                  have H1 : (if x8_4 = 1 then (if x5_1.length < 140737488355328 then (gudgeonref01_sub.l0 kj4 l0 l1 (x5_1 ++ [true]) (decide (x8_4 < 0)) (wrap64 (x7_1 + 1))) else (none)) else (if x5_1.length < 140737488355328 then (gudgeonref01_sub.l0 kj4 l0 l1 (x5_1 ++ [(x8_4 == (-1))]) (decide (x8_4 < 0)) (wrap64 (x7_1 + 1))) else (none))) = some r := by rw [if_neg (show ¬ (false = true) by decide)] at H; exact H
                  clear H
                  have H := H1
                  clear H1
                  by_cases c27 : x8_4 = 1
                  · rw [if_pos c27] at H
                    have c27b0 : (x8_4 == 1) = true := beq_iff_eq.mpr c27
                    have c27b1 : (x8_4 != 1) = false := bne_eq_false_iff_eq.mpr c27
                    clear c27
                    by_cases c28 : x5_1.length < 140737488355328
                    · rw [if_pos c28] at H
                      have LMc28 := Aside0.mk c28
                      clear c28
                      obtain ⟨y483, hy483⟩ : ∃ y_ : List Bool, y_ = (x5_1 ++ [true]) := ⟨_, rfl⟩
                      replace H : (gudgeonref01_sub.l0 kj4 l0 l1 y483 (decide (x8_4 < 0)) (wrap64 (x7_1 + 1))) = some r := by first | (rw [hy483]; with_reducible exact H) | (have H2_ := (Option.bind_some _ _).symm.trans H; rw [hy483]; with_reducible exact H2_) | (have H2_ := (Option.bind_some _ _).symm.trans H; with_reducible exact H2_) | with_reducible exact H | (rw [hy483]; exact H) | exact H
                      have Ny483 := Aside0.mk hy483
                      clear hy483
                      have H' := Aside0.mk H
                      clear H
                      go_wp2_with (first | ((with_reducible refine gate_callee (f := 56) rfl ?_); refine goesL_ (some 23) rfl rfl Tryd.func56 (by kernel_rfl) rfl #[.slice A1 l1.length c1, .int .i64 x7_1] rfl (by (try simp only [List.map_toArray, List.map_cons, List.map_nil]); first | done | rfl | (simp only [List.length_drop, List.length_take]; rfl)) ?_; (with_reducible refine (gudgeonref01_at.calls _ _ l1 x7_1 false _ ?side1 ?side2 A8.out).mono ?_); (case side1 => repeat (first | exact (Kd.C_below HR1.out HB.out) | (with_reducible refine Kd.C_alloc ?_ _) | (with_reducible refine Kd.C_drewN ?_ _) | (with_reducible refine Kd.C_drew ?_))); (case side2 => exact HC1.out); rintro e w' ⟨rfl, ⟨nd, rfl⟩⟩; refine ⟨_, rfl, ?_⟩) | ((with_reducible refine gate_builtin (b := .append) (xs := #[.tmp 29, .tmp 36]) rfl ?_); at_builtin; refine Kd.R_append Kd.bool (w0 := w) w.heap.size rfl (.tmp 29) (.tmp 36) 49 4 (.bool false) 1 rfl Tryd.underlying49 info4 rfl (by decide) (by omega) u5 x5_1 true [.bool true] (fun _ => True) (fun _ => False) rfl rfl ?aP (fun _ hk => hk.elim) ?aF ?aO ?aB ?aS ?aL ?_; (case aP => exact rfl); (case aB => exact (by repeat first | exact HB.out | apply below_alloc | apply pw_below_drewN | apply below_drew1)); (case aF => exact (fun _ _ => trivial)); (case aO => exact HO_5.out); (case aS => exact (below_size (by repeat first | exact HB.out | apply below_alloc | apply pw_below_drewN | apply below_drew1))); (case aL => have := LMc28.out; omega); intro v484 w29 ho hb hg hat; rw [← Ny483.out] at ho; have n0_ := Aside0.mk (hb); have n1_ := Aside0.mk (ho); clear HB; clear HO_5; have HB := n0_; have HO485 := n1_; clear n0_ n1_; clear ho hb hg hat))
                      go_roundg kj4
                      case measure => have := HK1.out; have := HJ4.out; omega
                      case rel => exact ⟨(y483), (decide (x8_4 < 0)), (wrap64 (x7_1 + 1)), (by first | rfl | (simp; done) | (simp [*]; done) | (refine congrArg (Value.int _) ?_; omega) | (refine congrArg Value.bool ?_; generalize ByteArray.toList _ = z_; cases z_ <;> rfl)), (by first | rfl | (simp; done) | (simp [*]; done) | (refine congrArg (Value.int _) ?_; omega) | (refine congrArg Value.bool ?_; generalize ByteArray.toList _ = z_; cases z_ <;> rfl)), H', ⟨by have := HK1.out; have := HJ4.out; omega⟩, ⟨by (with_reducible repeat (first | apply Kd.R_alloc | apply Kd.R_drewN | apply Kd.R_drew)); exact HO485.out⟩, ⟨by repeat first | exact HB.out | apply below_alloc | apply pw_below_drewN | apply below_drew1⟩⟩
                    · rw [if_neg c28] at H
                      exact absurd H (by simp)
                  · rw [if_neg c27] at H
                    have c27b0 : (x8_4 == 1) = false := beq_eq_false_iff_ne.mpr c27
                    have c27b1 : (x8_4 != 1) = true := bne_iff_ne.mpr c27
                    by_cases c30 : x5_1.length < 140737488355328
                    · rw [if_pos c30] at H
                      have LMc30 := Aside0.mk c30
                      clear c30
                      obtain ⟨y486, hy486⟩ : ∃ y_ : List Bool, y_ = (x5_1 ++ [(x8_4 == (-1))]) := ⟨_, rfl⟩
                      replace H : (gudgeonref01_sub.l0 kj4 l0 l1 y486 (decide (x8_4 < 0)) (wrap64 (x7_1 + 1))) = some r := by first | (rw [hy486]; with_reducible exact H) | (have H2_ := (Option.bind_some _ _).symm.trans H; rw [hy486]; with_reducible exact H2_) | (have H2_ := (Option.bind_some _ _).symm.trans H; with_reducible exact H2_) | with_reducible exact H | (rw [hy486]; exact H) | exact H
                      have Ny486 := Aside0.mk hy486
                      clear hy486
                      have H' := Aside0.mk H
                      clear H
                      go_wp2_with (first | ((with_reducible refine gate_callee (f := 56) rfl ?_); refine goesL_ (some 23) rfl rfl Tryd.func56 (by kernel_rfl) rfl #[.slice A1 l1.length c1, .int .i64 x7_1] rfl (by (try simp only [List.map_toArray, List.map_cons, List.map_nil]); first | done | rfl | (simp only [List.length_drop, List.length_take]; rfl)) ?_; (with_reducible refine (gudgeonref01_at.calls _ _ l1 x7_1 false _ ?side1 ?side2 A8.out).mono ?_); (case side1 => repeat (first | exact (Kd.C_below HR1.out HB.out) | (with_reducible refine Kd.C_alloc ?_ _) | (with_reducible refine Kd.C_drewN ?_ _) | (with_reducible refine Kd.C_drew ?_))); (case side2 => exact HC1.out); rintro e w' ⟨rfl, ⟨nd, rfl⟩⟩; refine ⟨_, rfl, ?_⟩) | ((with_reducible refine gate_builtin (b := .append) (xs := #[.tmp 29, .tmp 36]) rfl ?_); at_builtin; refine Kd.R_append Kd.bool (w0 := w) w.heap.size rfl (.tmp 29) (.tmp 36) 49 4 (.bool false) 1 rfl Tryd.underlying49 info4 rfl (by decide) (by omega) u5 x5_1 (x8_4 == (-1)) [.bool (x8_4 == (-1))] (fun _ => True) (fun _ => False) rfl rfl ?aP (fun _ hk => hk.elim) ?aF ?aO ?aB ?aS ?aL ?_; (case aP => exact rfl); (case aB => exact (by repeat first | exact HB.out | apply below_alloc | apply pw_below_drewN | apply below_drew1)); (case aF => exact (fun _ _ => trivial)); (case aO => exact HO_5.out); (case aS => exact (below_size (by repeat first | exact HB.out | apply below_alloc | apply pw_below_drewN | apply below_drew1))); (case aL => have := LMc30.out; omega); intro v487 w31 ho hb hg hat; rw [← Ny486.out] at ho; have n0_ := Aside0.mk (hb); have n1_ := Aside0.mk (ho); clear HB; clear HO_5; have HB := n0_; have HO488 := n1_; clear n0_ n1_; clear ho hb hg hat))
                      go_roundg kj4
                      case measure => have := HK1.out; have := HJ4.out; omega
                      case rel => exact ⟨(y486), (decide (x8_4 < 0)), (wrap64 (x7_1 + 1)), (by first | rfl | (simp; done) | (simp [*]; done) | (refine congrArg (Value.int _) ?_; omega) | (refine congrArg Value.bool ?_; generalize ByteArray.toList _ = z_; cases z_ <;> rfl)), (by first | rfl | (simp; done) | (simp [*]; done) | (refine congrArg (Value.int _) ?_; omega) | (refine congrArg Value.bool ?_; generalize ByteArray.toList _ = z_; cases z_ <;> rfl)), H', ⟨by have := HK1.out; have := HJ4.out; omega⟩, ⟨by (with_reducible repeat (first | apply Kd.R_alloc | apply Kd.R_drewN | apply Kd.R_drew)); exact HO488.out⟩, ⟨by repeat first | exact HB.out | apply below_alloc | apply pw_below_drewN | apply below_drew1⟩⟩
                    · rw [if_neg c30] at H
                      exact absurd H (by simp)
        · rw [if_neg c4] at H
          exact absurd H (by simp)
      · rw [if_neg c3] at H
        have c3b0 : decide (x7_1 < (l0.length : Int)) = false := decide_eq_false c3
        clear c3
        replace H := Option.bind_eq_some_iff.mp H
        obtain ⟨t460, A320, H⟩ := H
        replace H : (some t460) = some r := H
        have A32 := Aside0.mk A320
        clear A320
        obtain rfl := Option.some.inj H
        obtain ⟨Ao33, co33, eo33⟩ := Kd.R_slice HO_5.out
        subst eo33
        go_wp2_with (first | ((with_reducible refine gate_callee (f := 55) rfl ?_); refine goesL_ (some 41) rfl rfl Tryd.func55 (by kernel_rfl) rfl #[.slice Ao33 x5_1.length co33] rfl (by (try simp only [List.map_toArray, List.map_cons, List.map_nil]); first | done | rfl | (simp only [List.length_drop, List.length_take]; rfl)) ?_; (with_reducible refine (gudgeonref01_trim.calls k1 _ _ x5_1 t460 _ ?side1 ?side2 A32.out).mono ?_); (case side1 => repeat (first | exact (Kd.R_reads' HO_5.out).2.2 | (with_reducible refine Kd.C_alloc ?_ _) | (with_reducible refine Kd.C_drewN ?_ _) | (with_reducible refine Kd.C_drew ?_))); (case side2 => exact (Kd.R_reads' HO_5.out).2.1); rintro e w34 ⟨v461, rfl, ho0, hb⟩; refine ⟨_, rfl, ?_⟩; have n0_ := Aside0.mk (Kd.R_elder' HO_5.out (Kd.R_base ho0) hb); have n1_ := Aside0.mk (Kd.R_lower (Kd.R_new' ho0 (Kd.R_lt HO_5.out)) (below_size (by repeat first | exact HB.out | apply below_alloc | apply pw_below_drewN | apply below_drew1))); have n2_ := Aside0.mk (below_step (by repeat first | exact HB.out | apply below_alloc | apply pw_below_drewN | apply below_drew1) hb); clear HO_5; clear HB; have HO_5 := n0_; have HO462 := n1_; have HB := n2_; clear n0_ n1_ n2_))
        go_ret
        exact ⟨_, by first | rfl | (simp [errW_none, errW_some] <;> rfl) | (simp [*, errW_none, errW_some] <;> rfl), by (with_reducible repeat (first | apply Kd.R_alloc | apply Kd.R_drewN | apply Kd.R_drew)); exact Kd.R_mono HO462.out (fun _ hk => trivial), by repeat first | exact HB.out | apply below_alloc | apply pw_below_drewN | apply below_drew1⟩

end Go.Proofs.YtlfpnohpcemkgaaDoor.PA
/- Written by a program of this session, wip/tools/patch_print.py, over the kit's print of the loaded functions. -/
namespace Go.Proofs.YtlfpnohpcemkgaaDoor.H
end Go.Proofs.YtlfpnohpcemkgaaDoor.H
namespace Go.Proofs.YtlfpnohpcemkgaaDoor.PA
open Go.RowKit Go.Proofs.YtlfpnohpcemkgaaDoorW.PrintWords Go.Proofs.YtlfpnohpcemkgaaDoorW.PrintLast Go.Proofs.YtlfpnohpcemkgaaDoorW.PrintMore Go.Proofs.YtlfpnohpcemkgaaDoor.H
attribute [local go_sem] max2_int min2_int max_two min_two max_three min_three max_four min_four   -- for this text's walks alone
set_option linter.unusedVariables false
set_option linter.unusedSimpArgs false

/-! ### gudgeonref01_add: function 44 -/
mutual
def gudgeonref01_add.l0 : Nat → List Bool → List Bool → List Bool → Bool → Int → Option (List Bool)
  | 0, _, _, _, _, _ => none
  | k + 1, x0, x1, x5, x6, x7 => if x7 < (x0.length : Int) then (gudgeonref01_add.j1 k x0 x1 x5 x6 x7 true) else (if x7 < (x1.length : Int) then (gudgeonref01_add.j1 k x0 x1 x5 x6 x7 true) else (gudgeonref01_add.j1 k x0 x1 x5 x6 x7 x6))
def gudgeonref01_add.j1 : Nat → List Bool → List Bool → List Bool → Bool → Int → Bool → Option (List Bool)
  | 0, _, _, _, _, _, _ => none
  | k + 1, x0, x1, x5, x6, x7, x23 => if x23 = true then ((gudgeonref01_at.f x0 x7).bind fun t579 => ((gudgeonref01_at.f x1 x7).bind fun t580 => (if t579 = true then (gudgeonref01_add.j2 k x0 x1 x5 x6 x7 t580 (0 + 1)) else (gudgeonref01_add.j2 k x0 x1 x5 x6 x7 t580 0)))) else ((gudgeonref01_trim.f k x5).bind fun t576 => (some t576))
def gudgeonref01_add.j2 : Nat → List Bool → List Bool → List Bool → Bool → Int → Bool → Int → Option (List Bool)
  | 0, _, _, _, _, _, _, _ => none
  | k + 1, x0, x1, x5, x6, x7, x9, x10 => if x9 = true then (if x6 = true then (if x5.length < 140737488355328 then (gudgeonref01_add.l0 k x0 x1 (x5 ++ [((Int.tmod (wrap64 ((wrap64 (x10 + 1)) + 1)) 2) == 1)]) (decide ((wrap64 ((wrap64 (x10 + 1)) + 1)) > 1)) (wrap64 (x7 + 1))) else (none)) else (if x5.length < 140737488355328 then (gudgeonref01_add.l0 k x0 x1 (x5 ++ [((Int.tmod (wrap64 (x10 + 1)) 2) == 1)]) (decide ((wrap64 (x10 + 1)) > 1)) (wrap64 (x7 + 1))) else (none))) else (if x6 = true then (if x5.length < 140737488355328 then (gudgeonref01_add.l0 k x0 x1 (x5 ++ [((Int.tmod (wrap64 (x10 + 1)) 2) == 1)]) (decide ((wrap64 (x10 + 1)) > 1)) (wrap64 (x7 + 1))) else (none)) else (if x5.length < 140737488355328 then (gudgeonref01_add.l0 k x0 x1 (x5 ++ [((Int.tmod x10 2) == 1)]) (decide (x10 > 1)) (wrap64 (x7 + 1))) else (none)))
end
def gudgeonref01_add.f (k : Nat) (l0 : List Bool) (l1 : List Bool) : Option (List Bool) := gudgeonref01_add.l0 k l0 l1 ([] : List Bool) false 0
theorem gudgeonref01_add.mono_l : ∀ k, (∀ y0 y1 y2 y3 y4, LeO (gudgeonref01_add.l0 k y0 y1 y2 y3 y4) (gudgeonref01_add.l0 (k + 1) y0 y1 y2 y3 y4)) ∧ (∀ y0 y1 y2 y3 y4 y5, LeO (gudgeonref01_add.j1 k y0 y1 y2 y3 y4 y5) (gudgeonref01_add.j1 (k + 1) y0 y1 y2 y3 y4 y5)) ∧ (∀ y0 y1 y2 y3 y4 y5 y6, LeO (gudgeonref01_add.j2 k y0 y1 y2 y3 y4 y5 y6) (gudgeonref01_add.j2 (k + 1) y0 y1 y2 y3 y4 y5 y6))
  | 0 => ⟨fun _ _ _ _ _ r h => by simp [gudgeonref01_add.l0] at h, fun _ _ _ _ _ _ r h => by simp [gudgeonref01_add.j1] at h, fun _ _ _ _ _ _ _ r h => by simp [gudgeonref01_add.j2] at h⟩
  | k + 1 => by
    obtain ⟨ih0, ih1, ih2⟩ := gudgeonref01_add.mono_l k
    refine ⟨?_, ?_, ?_⟩
    · intro y0 y1 y2 y3 y4
      unfold gudgeonref01_add.l0
      repeat' first
      | (with_reducible exact ih0 _ _ _ _ _)
      | (with_reducible exact ih1 _ _ _ _ _ _)
      | (with_reducible exact ih2 _ _ _ _ _ _ _)
      | (with_reducible exact gudgeonref01_trim.mono _ _)
      | (with_reducible exact LeO.refl _)
      | (with_reducible exact LeO.none _)
      | (with_reducible refine LeO.ite ?_ ?_)
      | (with_reducible refine LeO.bind ?_ (fun _ => ?_))
      | exact ih0 _ _ _ _ _
      | exact ih1 _ _ _ _ _ _
      | exact ih2 _ _ _ _ _ _ _
      | exact gudgeonref01_trim.mono _ _
      | exact LeO.none _
      | refine LeO.ite ?_ ?_
      | refine LeO.bind ?_ (fun _ => ?_)
    · intro y0 y1 y2 y3 y4 y5
      unfold gudgeonref01_add.j1
      repeat' first
      | (with_reducible exact ih0 _ _ _ _ _)
      | (with_reducible exact ih1 _ _ _ _ _ _)
      | (with_reducible exact ih2 _ _ _ _ _ _ _)
      | (with_reducible exact gudgeonref01_trim.mono _ _)
      | (with_reducible exact LeO.refl _)
      | (with_reducible exact LeO.none _)
      | (with_reducible refine LeO.ite ?_ ?_)
      | (with_reducible refine LeO.bind ?_ (fun _ => ?_))
      | exact ih0 _ _ _ _ _
      | exact ih1 _ _ _ _ _ _
      | exact ih2 _ _ _ _ _ _ _
      | exact gudgeonref01_trim.mono _ _
      | exact LeO.none _
      | refine LeO.ite ?_ ?_
      | refine LeO.bind ?_ (fun _ => ?_)
    · intro y0 y1 y2 y3 y4 y5 y6
      unfold gudgeonref01_add.j2
      repeat' first
      | (with_reducible exact ih0 _ _ _ _ _)
      | (with_reducible exact ih1 _ _ _ _ _ _)
      | (with_reducible exact ih2 _ _ _ _ _ _ _)
      | (with_reducible exact gudgeonref01_trim.mono _ _)
      | (with_reducible exact LeO.refl _)
      | (with_reducible exact LeO.none _)
      | (with_reducible refine LeO.ite ?_ ?_)
      | (with_reducible refine LeO.bind ?_ (fun _ => ?_))
      | exact ih0 _ _ _ _ _
      | exact ih1 _ _ _ _ _ _
      | exact ih2 _ _ _ _ _ _ _
      | exact gudgeonref01_trim.mono _ _
      | exact LeO.none _
      | refine LeO.ite ?_ ?_
      | refine LeO.bind ?_ (fun _ => ?_)
theorem gudgeonref01_add.mono : ∀ a0 a1 k, LeO (gudgeonref01_add.f k a0 a1) (gudgeonref01_add.f (k + 1) a0 a1) := by
  intro a0 a1 k
  obtain ⟨ih0, ih1, ih2⟩ := gudgeonref01_add.mono_l k
  unfold gudgeonref01_add.f
  repeat' first
      | (with_reducible exact ih0 _ _ _ _ _)
      | (with_reducible exact ih1 _ _ _ _ _ _)
      | (with_reducible exact ih2 _ _ _ _ _ _ _)
      | (with_reducible exact gudgeonref01_trim.mono _ _)
      | (with_reducible exact LeO.refl _)
      | (with_reducible exact LeO.none _)
      | (with_reducible refine LeO.ite ?_ ?_)
      | (with_reducible refine LeO.bind ?_ (fun _ => ?_))
      | exact ih0 _ _ _ _ _
      | exact ih1 _ _ _ _ _ _
      | exact ih2 _ _ _ _ _ _ _
      | exact gudgeonref01_trim.mono _ _
      | exact LeO.none _
      | refine LeO.ite ?_ ?_
      | refine LeO.bind ?_ (fun _ => ?_)
set_option maxHeartbeats 8000000 in
set_option maxRecDepth 100000 in
theorem gudgeonref01_add.calls (k : Nat) (A0 : Option Addr) (c0 : Nat) (l0 : List Bool) (A1 : Option Addr) (c1 : Nat) (l1 : List Bool) (r : List Bool) (w : World) (hr0 : Kd.C Kd.bool w A0 l0.length l0) (hc0 : l0.length ≤ c0) (hr1 : Kd.C Kd.bool w A1 l1.length l1) (hc1 : l1.length ≤ c1) (h : gudgeonref01_add.f k l0 l1 = some r) :
    Calls Tryd.prog 44 #[.slice A0 l0.length c0, .slice A1 l1.length c1] w fun e w' => ∃ v0_ : Value, e = .returned (v0_) ∧ Kd.R Kd.bool 4 w' w.heap.size (fun _ => True) v0_ r ∧ Below w.heap.size w w' := by
  have HR0 := Aside0.mk hr0
  have HC0 := Aside0.mk hc0
  clear hr0 hc0
  have HR1 := Aside0.mk hr1
  have HC1 := Aside0.mk hc1
  clear hr1 hc1
  have HB := Aside0.mk (Below.refl w.heap.size w)
  have H : (gudgeonref01_add.l0 k l0 l1 ([] : List Bool) false 0) = some r := h
  clear h
  have H' := Aside0.mk H
  clear H
  go_enter Tryd.func44, Tryd.ntmps44
  go_wp2
  go_loopg [5, 6, 7] k (fun kq v5 v6 v7 w' => ∃ (x5_1 : List Bool) (x6_1 : Bool) (x7_1 : Int), v6 = .bool x6_1 ∧ v7 = .int .i64 x7_1 ∧ Aside0 (gudgeonref01_add.l0 kq l0 l1 x5_1 x6_1 x7_1 = some r) ∧ Aside0 (kq ≤ k) ∧ Aside0 (Kd.R Kd.bool 4 w' w.heap.size (fun _ => True) v5 x5_1) ∧ Aside0 (Below w.heap.size w w'))
  case atStart => exact ⟨(([] : List Bool)), (false), (0), (by first | rfl | (simp; done) | (simp [*]; done) | (refine congrArg (Value.int _) ?_; omega) | (refine congrArg Value.bool ?_; generalize ByteArray.toList _ = z_; cases z_ <;> rfl)), (by first | rfl | (simp; done) | (simp [*]; done) | (refine congrArg (Value.int _) ?_; omega) | (refine congrArg Value.bool ?_; generalize ByteArray.toList _ = z_; cases z_ <;> rfl)), H', ⟨Nat.le_refl _⟩, ⟨by first | exact Kd.R_nil _ _ _ _ _ | exact Kd.N_nil _ _ _ _ _ | exact Kd.V_nil _ _ _ _ _ | exact Kd.Q_nil _ _ _ _ _ | exact Kd.S_nil _ _ _ _ _⟩, ⟨by repeat first | exact HB.out | apply below_alloc | apply pw_below_drewN | apply below_drew1⟩⟩
  case round =>
    clear H'
    try clear c1
    try clear p2
    obtain ⟨x5_1, x6_1, x7_1, rfl, rfl, HA, HK1, HO_5, HB⟩ := hrel
    cases gk with
    | zero => exact absurd HA.out (by simp [gudgeonref01_add.l0])
    | succ k1 =>
      have H := HA.out
      clear HA
      simp only [gudgeonref01_add.l0] at H
      have HC3 := Aside0.mk H
      clear H
      go_upto_region 4 with (fail)
      go_cut [23] (fun v23 wc => ∃ (kq : Nat) (x23_2 : Bool), v23 = .bool x23_2 ∧ Aside0 (gudgeonref01_add.j1 kq l0 l1 x5_1 x6_1 x7_1 x23_2 = some r) ∧ Aside0 (kq ≤ k1) ∧ Aside0 (Kd.R Kd.bool 4 wc w.heap.size (fun _ => True) u5 x5_1) ∧ Aside0 (Below w.heap.size w wc))
      case first =>
        have H := HC3.out
        clear HC3
        by_cases c4 : x7_1 < (l0.length : Int)
        · rw [if_pos c4] at H
          have c4b0 : decide (x7_1 < (l0.length : Int)) = true := decide_eq_true c4
          clear c4
          (first | rw [c4b0] | rw [c4b1] | (simp only [i64_w, i32_w]; rw [c4b0]) | skip)
          have H' := Aside0.mk H
          clear H
          go_wp2
          go_meet
          case rel => exact ⟨_, (true), (by first | rfl | (simp; done) | (simp [*]; done) | (refine congrArg (Value.int _) ?_; omega) | (refine congrArg Value.bool ?_; generalize ByteArray.toList _ = z_; cases z_ <;> rfl)), H', ⟨by have := HK1.out; first | omega | exact Nat.le_refl _⟩, ⟨by (with_reducible repeat (first | apply Kd.R_alloc | apply Kd.R_drewN | apply Kd.R_drew)); exact HO_5.out⟩, ⟨by repeat first | exact HB.out | apply below_alloc | apply pw_below_drewN | apply below_drew1⟩⟩
        · rw [if_neg c4] at H
          have c4b0 : decide (x7_1 < (l0.length : Int)) = false := decide_eq_false c4
          clear c4
          (first | rw [c4b0] | rw [c4b1] | (simp only [i64_w, i32_w]; rw [c4b0]) | skip)
          by_cases c5 : x7_1 < (l1.length : Int)
          · rw [if_pos c5] at H
            have c5b0 : decide (x7_1 < (l1.length : Int)) = true := decide_eq_true c5
            clear c5
            have H' := Aside0.mk H
            clear H
            go_wp2
            go_meet
            case rel => exact ⟨_, (true), (by first | rfl | (simp; done) | (simp [*]; done) | (refine congrArg (Value.int _) ?_; omega) | (refine congrArg Value.bool ?_; generalize ByteArray.toList _ = z_; cases z_ <;> rfl)), H', ⟨by have := HK1.out; first | omega | exact Nat.le_refl _⟩, ⟨by (with_reducible repeat (first | apply Kd.R_alloc | apply Kd.R_drewN | apply Kd.R_drew)); exact HO_5.out⟩, ⟨by repeat first | exact HB.out | apply below_alloc | apply pw_below_drewN | apply below_drew1⟩⟩
          · rw [if_neg c5] at H
            have c5b0 : decide (x7_1 < (l1.length : Int)) = false := decide_eq_false c5
            clear c5
            have H' := Aside0.mk H
            clear H
            go_wp2
            go_meet
            case rel => exact ⟨_, (x6_1), (by first | rfl | (simp; done) | (simp [*]; done) | (refine congrArg (Value.int _) ?_; omega) | (refine congrArg Value.bool ?_; generalize ByteArray.toList _ = z_; cases z_ <;> rfl)), H', ⟨by have := HK1.out; first | omega | exact Nat.le_refl _⟩, ⟨by (with_reducible repeat (first | apply Kd.R_alloc | apply Kd.R_drewN | apply Kd.R_drew)); exact HO_5.out⟩, ⟨by repeat first | exact HB.out | apply below_alloc | apply pw_below_drewN | apply below_drew1⟩⟩
      case rest =>
        clear HC3
        try clear c1
        try clear p2
        try clear c4
        try clear c4b0
        try clear c5
        try clear c5b0
        try clear p2
        obtain ⟨kq, x23_2, rfl, HA, HJ2, HO_5, HB⟩ := hcut
        cases kq with
        | zero => exact absurd HA.out (by simp [gudgeonref01_add.j1])
        | succ kj2 =>
          have H := HA.out
          clear HA
          simp only [gudgeonref01_add.j1] at H
          by_cases c6 : x23_2 = true
          · subst c6
            have H1 : ((gudgeonref01_at.f l0 x7_1).bind fun t579 => ((gudgeonref01_at.f l1 x7_1).bind fun t580 => (if t579 = true then (gudgeonref01_add.j2 kj2 l0 l1 x5_1 x6_1 x7_1 t580 (0 + 1)) else (gudgeonref01_add.j2 kj2 l0 l1 x5_1 x6_1 x7_1 t580 0)))) = some r := by rw [if_pos rfl] at H; exact H
            clear H
            have H := H1
            clear H1
            replace H := Option.bind_eq_some_iff.mp H
            obtain ⟨t579, A70, H⟩ := H
            replace H : ((gudgeonref01_at.f l1 x7_1).bind fun t580 => (if t579 = true then (gudgeonref01_add.j2 kj2 l0 l1 x5_1 x6_1 x7_1 t580 (0 + 1)) else (gudgeonref01_add.j2 kj2 l0 l1 x5_1 x6_1 x7_1 t580 0))) = some r := H
            have A7 := Aside0.mk A70
            clear A70
            replace H := Option.bind_eq_some_iff.mp H
            obtain ⟨t580, A80, H⟩ := H
            replace H : (if t579 = true then (gudgeonref01_add.j2 kj2 l0 l1 x5_1 x6_1 x7_1 t580 (0 + 1)) else (gudgeonref01_add.j2 kj2 l0 l1 x5_1 x6_1 x7_1 t580 0)) = some r := H
            have A8 := Aside0.mk A80
            clear A80
            have HC9 := Aside0.mk H
            clear H
            go_upto_if 32 with (first | ((with_reducible refine gate_callee (f := 56) rfl ?_); refine goesL_ (some 28) rfl rfl Tryd.func56 (by kernel_rfl) rfl #[.slice A0 l0.length c0, .int .i64 x7_1] rfl (by (try simp only [List.map_toArray, List.map_cons, List.map_nil]); first | done | rfl | (simp only [List.length_drop, List.length_take]; rfl)) ?_; (with_reducible refine (gudgeonref01_at.calls _ _ l0 x7_1 t579 _ ?side1 ?side2 A7.out).mono ?_); (case side1 => repeat (first | exact (Kd.C_below HR0.out HB.out) | (with_reducible refine Kd.C_alloc ?_ _) | (with_reducible refine Kd.C_drewN ?_ _) | (with_reducible refine Kd.C_drew ?_))); (case side2 => exact HC0.out); rintro e w' ⟨rfl, ⟨nd, rfl⟩⟩; refine ⟨_, rfl, ?_⟩) | ((with_reducible refine gate_callee (f := 56) rfl ?_); refine goesL_ (some 31) rfl rfl Tryd.func56 (by kernel_rfl) rfl #[.slice A1 l1.length c1, .int .i64 x7_1] rfl (by (try simp only [List.map_toArray, List.map_cons, List.map_nil]); first | done | rfl | (simp only [List.length_drop, List.length_take]; rfl)) ?_; (with_reducible refine (gudgeonref01_at.calls _ _ l1 x7_1 t580 _ ?side1 ?side2 A8.out).mono ?_); (case side1 => repeat (first | exact (Kd.C_below HR1.out (by repeat first | exact HB.out | apply below_alloc | apply pw_below_drewN | apply below_drew1)) | (with_reducible refine Kd.C_alloc ?_ _) | (with_reducible refine Kd.C_drewN ?_ _) | (with_reducible refine Kd.C_drew ?_))); (case side2 => exact HC1.out); rintro e w' ⟨rfl, ⟨nd, rfl⟩⟩; refine ⟨_, rfl, ?_⟩))
            (try simp only [Act.put, List.setIfInBounds_toArray, List.set_cons_zero, List.set_cons_succ])
            go_cut [10] (fun v10 wc => ∃ (kq : Nat) (x10_8 : Int), v10 = .int .i64 x10_8 ∧ Aside0 (gudgeonref01_add.j2 kq l0 l1 x5_1 x6_1 x7_1 t580 x10_8 = some r) ∧ Aside0 (kq ≤ kj2) ∧ Aside0 (Kd.R Kd.bool 4 wc w.heap.size (fun _ => True) u5 x5_1) ∧ Aside0 (Below w.heap.size w wc))
            case first =>
              have H := HC9.out
              clear HC9
              by_cases c10 : t579 = true
              · subst c10
                have H1 : (gudgeonref01_add.j2 kj2 l0 l1 x5_1 x6_1 x7_1 t580 (0 + 1)) = some r := by rw [if_pos rfl] at H; exact H
                clear H
                have H := H1
                clear H1
                have H' := Aside0.mk H
                clear H
                go_wp2
                go_meet
                case rel => exact ⟨_, (0 + 1), (by first | rfl | (simp; done) | (simp [*]; done) | (refine congrArg (Value.int _) ?_; omega) | (refine congrArg Value.bool ?_; generalize ByteArray.toList _ = z_; cases z_ <;> rfl)), H', ⟨by have := HK1.out; have := HJ2.out; first | omega | exact Nat.le_refl _⟩, ⟨by (with_reducible repeat (first | apply Kd.R_alloc | apply Kd.R_drewN | apply Kd.R_drew)); exact HO_5.out⟩, ⟨by repeat first | exact HB.out | apply below_alloc | apply pw_below_drewN | apply below_drew1⟩⟩
              · replace c10 := Bool.eq_false_iff.mpr c10
                subst c10
                have H1 : (gudgeonref01_add.j2 kj2 l0 l1 x5_1 x6_1 x7_1 t580 0) = some r := by rw [if_neg (show ¬ (false = true) by decide)] at H; exact H
                clear H
                have H := H1
                clear H1
                have H' := Aside0.mk H
                clear H
                go_wp2
                go_meet
                case rel => exact ⟨_, (0), (by first | rfl | (simp; done) | (simp [*]; done) | (refine congrArg (Value.int _) ?_; omega) | (refine congrArg Value.bool ?_; generalize ByteArray.toList _ = z_; cases z_ <;> rfl)), H', ⟨by have := HK1.out; have := HJ2.out; first | omega | exact Nat.le_refl _⟩, ⟨by (with_reducible repeat (first | apply Kd.R_alloc | apply Kd.R_drewN | apply Kd.R_drew)); exact HO_5.out⟩, ⟨by repeat first | exact HB.out | apply below_alloc | apply pw_below_drewN | apply below_drew1⟩⟩
            case rest =>
              clear HC9
              try clear c1
              try clear p2
              try clear c4
              try clear c4b0
              try clear c5
              try clear c5b0
              try clear c6
              try clear c10
              try clear p2
              obtain ⟨kq, x10_8, rfl, HA, HJ8, HO_5, HB⟩ := hcut
              cases kq with
              | zero => exact absurd HA.out (by simp [gudgeonref01_add.j2])
              | succ kj8 =>
                have H := HA.out
                clear HA
                simp only [gudgeonref01_add.j2] at H
                by_cases c11 : t580 = true
                · subst c11
                  have H1 : (if x6_1 = true then (if x5_1.length < 140737488355328 then (gudgeonref01_add.l0 kj8 l0 l1 (x5_1 ++ [((Int.tmod (wrap64 ((wrap64 (x10_8 + 1)) + 1)) 2) == 1)]) (decide ((wrap64 ((wrap64 (x10_8 + 1)) + 1)) > 1)) (wrap64 (x7_1 + 1))) else (none)) else (if x5_1.length < 140737488355328 then (gudgeonref01_add.l0 kj8 l0 l1 (x5_1 ++ [((Int.tmod (wrap64 (x10_8 + 1)) 2) == 1)]) (decide ((wrap64 (x10_8 + 1)) > 1)) (wrap64 (x7_1 + 1))) else (none))) = some r := by rw [if_pos rfl] at H; exact H
                  clear H
                  have H := H1
                  clear H1
                  by_cases c12 : x6_1 = true
                  · subst c12
                    have H1 : (if x5_1.length < 140737488355328 then (gudgeonref01_add.l0 kj8 l0 l1 (x5_1 ++ [((Int.tmod (wrap64 ((wrap64 (x10_8 + 1)) + 1)) 2) == 1)]) (decide ((wrap64 ((wrap64 (x10_8 + 1)) + 1)) > 1)) (wrap64 (x7_1 + 1))) else (none)) = some r := by rw [if_pos rfl] at H; exact H
                    clear H
                    have H := H1
                    clear H1
                    by_cases c13 : x5_1.length < 140737488355328
                    · rw [if_pos c13] at H
                      have LMc13 := Aside0.mk c13
                      clear c13
                      obtain ⟨y581, hy581⟩ : ∃ y_ : List Bool, y_ = (x5_1 ++ [((Int.tmod (wrap64 ((wrap64 (x10_8 + 1)) + 1)) 2) == 1)]) := ⟨_, rfl⟩
                      replace H : (gudgeonref01_add.l0 kj8 l0 l1 y581 (decide ((wrap64 ((wrap64 (x10_8 + 1)) + 1)) > 1)) (wrap64 (x7_1 + 1))) = some r := by first | (rw [hy581]; with_reducible exact H) | (have H2_ := (Option.bind_some _ _).symm.trans H; rw [hy581]; with_reducible exact H2_) | (have H2_ := (Option.bind_some _ _).symm.trans H; with_reducible exact H2_) | with_reducible exact H | (rw [hy581]; exact H) | exact H
                      have Ny581 := Aside0.mk hy581
                      clear hy581
                      have H' := Aside0.mk H
                      clear H
                      go_wp2_with (first | ((with_reducible refine gate_builtin (b := .append) (xs := #[.tmp 41, .tmp 45]) rfl ?_); (try (refine gate_guard (by rfl) ?_; dsimp only)); at_builtin; refine Kd.R_append Kd.bool (w0 := w) w.heap.size rfl (.tmp 41) (.tmp 45) 49 4 (.bool false) 1 rfl Tryd.underlying49 info4 rfl (by decide) (by omega) u5 x5_1 ((Int.tmod (wrap64 ((wrap64 (x10_8 + 1)) + 1)) 2) == 1) [.bool ((Int.tmod (wrap64 ((wrap64 (x10_8 + 1)) + 1)) 2) == 1)] (fun _ => True) (fun _ => False) rfl rfl ?aP (fun _ hk => hk.elim) ?aF ?aO ?aB ?aS ?aL ?_; (case aP => exact rfl); (case aB => exact (by repeat first | exact HB.out | apply below_alloc | apply pw_below_drewN | apply below_drew1)); (case aF => exact (fun _ _ => trivial)); (case aO => exact HO_5.out); (case aS => exact (below_size (by repeat first | exact HB.out | apply below_alloc | apply pw_below_drewN | apply below_drew1))); (case aL => have := LMc13.out; omega); intro v582 w14 ho hb hg hat; rw [← Ny581.out] at ho; have n0_ := Aside0.mk (hb); have n1_ := Aside0.mk (ho); clear HB; clear HO_5; have HB := n0_; have HO583 := n1_; clear n0_ n1_; clear ho hb hg hat))
                      go_roundg kj8
                      case measure => have := HK1.out; have := HJ2.out; have := HJ8.out; omega
                      case rel => exact ⟨(y581), (decide ((wrap64 ((wrap64 (x10_8 + 1)) + 1)) > 1)), (wrap64 (x7_1 + 1)), (by first | rfl | (simp; done) | (simp [*]; done) | (refine congrArg (Value.int _) ?_; omega) | (refine congrArg Value.bool ?_; generalize ByteArray.toList _ = z_; cases z_ <;> rfl)), (by first | rfl | (simp; done) | (simp [*]; done) | (refine congrArg (Value.int _) ?_; omega) | (refine congrArg Value.bool ?_; generalize ByteArray.toList _ = z_; cases z_ <;> rfl)), H', ⟨by have := HK1.out; have := HJ2.out; have := HJ8.out; omega⟩, ⟨by (with_reducible repeat (first | apply Kd.R_alloc | apply Kd.R_drewN | apply Kd.R_drew)); exact HO583.out⟩, ⟨by repeat first | exact HB.out | apply below_alloc | apply pw_below_drewN | apply below_drew1⟩⟩
                    · rw [if_neg c13] at H
                      exact absurd H (by simp)
                  · replace c12 := Bool.eq_false_iff.mpr c12
                    subst c12
                    have H1 : (if x5_1.length < 140737488355328 then (gudgeonref01_add.l0 kj8 l0 l1 (x5_1 ++ [((Int.tmod (wrap64 (x10_8 + 1)) 2) == 1)]) (decide ((wrap64 (x10_8 + 1)) > 1)) (wrap64 (x7_1 + 1))) else (none)) = some r := by rw [if_neg (show ¬ (false = true) by decide)] at H; exact H
                    clear H
                    have H := H1
                    clear H1
                    by_cases c15 : x5_1.length < 140737488355328
                    · rw [if_pos c15] at H
                      have LMc15 := Aside0.mk c15
                      clear c15
                      obtain ⟨y584, hy584⟩ : ∃ y_ : List Bool, y_ = (x5_1 ++ [((Int.tmod (wrap64 (x10_8 + 1)) 2) == 1)]) := ⟨_, rfl⟩
                      replace H : (gudgeonref01_add.l0 kj8 l0 l1 y584 (decide ((wrap64 (x10_8 + 1)) > 1)) (wrap64 (x7_1 + 1))) = some r := by first | (rw [hy584]; with_reducible exact H) | (have H2_ := (Option.bind_some _ _).symm.trans H; rw [hy584]; with_reducible exact H2_) | (have H2_ := (Option.bind_some _ _).symm.trans H; with_reducible exact H2_) | with_reducible exact H | (rw [hy584]; exact H) | exact H
                      have Ny584 := Aside0.mk hy584
                      clear hy584
                      have H' := Aside0.mk H
                      clear H
                      go_wp2_with (first | ((with_reducible refine gate_builtin (b := .append) (xs := #[.tmp 41, .tmp 45]) rfl ?_); (try (refine gate_guard (by rfl) ?_; dsimp only)); at_builtin; refine Kd.R_append Kd.bool (w0 := w) w.heap.size rfl (.tmp 41) (.tmp 45) 49 4 (.bool false) 1 rfl Tryd.underlying49 info4 rfl (by decide) (by omega) u5 x5_1 ((Int.tmod (wrap64 (x10_8 + 1)) 2) == 1) [.bool ((Int.tmod (wrap64 (x10_8 + 1)) 2) == 1)] (fun _ => True) (fun _ => False) rfl rfl ?aP (fun _ hk => hk.elim) ?aF ?aO ?aB ?aS ?aL ?_; (case aP => exact rfl); (case aB => exact (by repeat first | exact HB.out | apply below_alloc | apply pw_below_drewN | apply below_drew1)); (case aF => exact (fun _ _ => trivial)); (case aO => exact HO_5.out); (case aS => exact (below_size (by repeat first | exact HB.out | apply below_alloc | apply pw_below_drewN | apply below_drew1))); (case aL => have := LMc15.out; omega); intro v585 w16 ho hb hg hat; rw [← Ny584.out] at ho; have n0_ := Aside0.mk (hb); have n1_ := Aside0.mk (ho); clear HB; clear HO_5; have HB := n0_; have HO586 := n1_; clear n0_ n1_; clear ho hb hg hat))
                      go_roundg kj8
                      case measure => have := HK1.out; have := HJ2.out; have := HJ8.out; omega
                      case rel => exact ⟨(y584), (decide ((wrap64 (x10_8 + 1)) > 1)), (wrap64 (x7_1 + 1)), (by first | rfl | (simp; done) | (simp [*]; done) | (refine congrArg (Value.int _) ?_; omega) | (refine congrArg Value.bool ?_; generalize ByteArray.toList _ = z_; cases z_ <;> rfl)), (by first | rfl | (simp; done) | (simp [*]; done) | (refine congrArg (Value.int _) ?_; omega) | (refine congrArg Value.bool ?_; generalize ByteArray.toList _ = z_; cases z_ <;> rfl)), H', ⟨by have := HK1.out; have := HJ2.out; have := HJ8.out; omega⟩, ⟨by (with_reducible repeat (first | apply Kd.R_alloc | apply Kd.R_drewN | apply Kd.R_drew)); exact HO586.out⟩, ⟨by repeat first | exact HB.out | apply below_alloc | apply pw_below_drewN | apply below_drew1⟩⟩
                    · rw [if_neg c15] at H
                      exact absurd H (by simp)
                · replace c11 := Bool.eq_false_iff.mpr c11
                  subst c11
                  have H1 : (if x6_1 = true then (if x5_1.length < 140737488355328 then (gudgeonref01_add.l0 kj8 l0 l1 (x5_1 ++ [((Int.tmod (wrap64 (x10_8 + 1)) 2) == 1)]) (decide ((wrap64 (x10_8 + 1)) > 1)) (wrap64 (x7_1 + 1))) else (none)) else (if x5_1.length < 140737488355328 then (gudgeonref01_add.l0 kj8 l0 l1 (x5_1 ++ [((Int.tmod x10_8 2) == 1)]) (decide (x10_8 > 1)) (wrap64 (x7_1 + 1))) else (none))) = some r := by rw [if_neg (show ¬ (false = true) by decide)] at H; exact H
                  clear H
                  have H := H1
                  clear H1
                  by_cases c17 : x6_1 = true
                  · subst c17
                    have H1 : (if x5_1.length < 140737488355328 then (gudgeonref01_add.l0 kj8 l0 l1 (x5_1 ++ [((Int.tmod (wrap64 (x10_8 + 1)) 2) == 1)]) (decide ((wrap64 (x10_8 + 1)) > 1)) (wrap64 (x7_1 + 1))) else (none)) = some r := by rw [if_pos rfl] at H; exact H
                    clear H
                    have H := H1
                    clear H1
                    by_cases c18 : x5_1.length < 140737488355328
                    · rw [if_pos c18] at H
                      have LMc18 := Aside0.mk c18
                      clear c18
                      obtain ⟨y587, hy587⟩ : ∃ y_ : List Bool, y_ = (x5_1 ++ [((Int.tmod (wrap64 (x10_8 + 1)) 2) == 1)]) := ⟨_, rfl⟩
                      replace H : (gudgeonref01_add.l0 kj8 l0 l1 y587 (decide ((wrap64 (x10_8 + 1)) > 1)) (wrap64 (x7_1 + 1))) = some r := by first | (rw [hy587]; with_reducible exact H) | (have H2_ := (Option.bind_some _ _).symm.trans H; rw [hy587]; with_reducible exact H2_) | (have H2_ := (Option.bind_some _ _).symm.trans H; with_reducible exact H2_) | with_reducible exact H | (rw [hy587]; exact H) | exact H
                      have Ny587 := Aside0.mk hy587
                      clear hy587
                      have H' := Aside0.mk H
                      clear H
                      go_wp2_with (first | ((with_reducible refine gate_builtin (b := .append) (xs := #[.tmp 41, .tmp 45]) rfl ?_); (try (refine gate_guard (by rfl) ?_; dsimp only)); at_builtin; refine Kd.R_append Kd.bool (w0 := w) w.heap.size rfl (.tmp 41) (.tmp 45) 49 4 (.bool false) 1 rfl Tryd.underlying49 info4 rfl (by decide) (by omega) u5 x5_1 ((Int.tmod (wrap64 (x10_8 + 1)) 2) == 1) [.bool ((Int.tmod (wrap64 (x10_8 + 1)) 2) == 1)] (fun _ => True) (fun _ => False) rfl rfl ?aP (fun _ hk => hk.elim) ?aF ?aO ?aB ?aS ?aL ?_; (case aP => exact rfl); (case aB => exact (by repeat first | exact HB.out | apply below_alloc | apply pw_below_drewN | apply below_drew1)); (case aF => exact (fun _ _ => trivial)); (case aO => exact HO_5.out); (case aS => exact (below_size (by repeat first | exact HB.out | apply below_alloc | apply pw_below_drewN | apply below_drew1))); (case aL => have := LMc18.out; omega); intro v588 w19 ho hb hg hat; rw [← Ny587.out] at ho; have n0_ := Aside0.mk (hb); have n1_ := Aside0.mk (ho); clear HB; clear HO_5; have HB := n0_; have HO589 := n1_; clear n0_ n1_; clear ho hb hg hat))
                      go_roundg kj8
                      case measure => have := HK1.out; have := HJ2.out; have := HJ8.out; omega
                      case rel => exact ⟨(y587), (decide ((wrap64 (x10_8 + 1)) > 1)), (wrap64 (x7_1 + 1)), (by first | rfl | (simp; done) | (simp [*]; done) | (refine congrArg (Value.int _) ?_; omega) | (refine congrArg Value.bool ?_; generalize ByteArray.toList _ = z_; cases z_ <;> rfl)), (by first | rfl | (simp; done) | (simp [*]; done) | (refine congrArg (Value.int _) ?_; omega) | (refine congrArg Value.bool ?_; generalize ByteArray.toList _ = z_; cases z_ <;> rfl)), H', ⟨by have := HK1.out; have := HJ2.out; have := HJ8.out; omega⟩, ⟨by (with_reducible repeat (first | apply Kd.R_alloc | apply Kd.R_drewN | apply Kd.R_drew)); exact HO589.out⟩, ⟨by repeat first | exact HB.out | apply below_alloc | apply pw_below_drewN | apply below_drew1⟩⟩
                    · rw [if_neg c18] at H
                      exact absurd H (by simp)
                  · replace c17 := Bool.eq_false_iff.mpr c17
                    subst c17
                    have H1 : (if x5_1.length < 140737488355328 then (gudgeonref01_add.l0 kj8 l0 l1 (x5_1 ++ [((Int.tmod x10_8 2) == 1)]) (decide (x10_8 > 1)) (wrap64 (x7_1 + 1))) else (none)) = some r := by rw [if_neg (show ¬ (false = true) by decide)] at H; exact H
                    clear H
                    have H := H1
                    clear H1
                    by_cases c20 : x5_1.length < 140737488355328
                    · rw [if_pos c20] at H
                      have LMc20 := Aside0.mk c20
                      clear c20
                      obtain ⟨y590, hy590⟩ : ∃ y_ : List Bool, y_ = (x5_1 ++ [((Int.tmod x10_8 2) == 1)]) := ⟨_, rfl⟩
                      replace H : (gudgeonref01_add.l0 kj8 l0 l1 y590 (decide (x10_8 > 1)) (wrap64 (x7_1 + 1))) = some r := by first | (rw [hy590]; with_reducible exact H) | (have H2_ := (Option.bind_some _ _).symm.trans H; rw [hy590]; with_reducible exact H2_) | (have H2_ := (Option.bind_some _ _).symm.trans H; with_reducible exact H2_) | with_reducible exact H | (rw [hy590]; exact H) | exact H
                      have Ny590 := Aside0.mk hy590
                      clear hy590
                      have H' := Aside0.mk H
                      clear H
                      go_wp2_with (first | ((with_reducible refine gate_builtin (b := .append) (xs := #[.tmp 41, .tmp 45]) rfl ?_); (try (refine gate_guard (by rfl) ?_; dsimp only)); at_builtin; refine Kd.R_append Kd.bool (w0 := w) w.heap.size rfl (.tmp 41) (.tmp 45) 49 4 (.bool false) 1 rfl Tryd.underlying49 info4 rfl (by decide) (by omega) u5 x5_1 ((Int.tmod x10_8 2) == 1) [.bool ((Int.tmod x10_8 2) == 1)] (fun _ => True) (fun _ => False) rfl rfl ?aP (fun _ hk => hk.elim) ?aF ?aO ?aB ?aS ?aL ?_; (case aP => exact rfl); (case aB => exact (by repeat first | exact HB.out | apply below_alloc | apply pw_below_drewN | apply below_drew1)); (case aF => exact (fun _ _ => trivial)); (case aO => exact HO_5.out); (case aS => exact (below_size (by repeat first | exact HB.out | apply below_alloc | apply pw_below_drewN | apply below_drew1))); (case aL => have := LMc20.out; omega); intro v591 w21 ho hb hg hat; rw [← Ny590.out] at ho; have n0_ := Aside0.mk (hb); have n1_ := Aside0.mk (ho); clear HB; clear HO_5; have HB := n0_; have HO592 := n1_; clear n0_ n1_; clear ho hb hg hat))
                      go_roundg kj8
                      case measure => have := HK1.out; have := HJ2.out; have := HJ8.out; omega
                      case rel => exact ⟨(y590), (decide (x10_8 > 1)), (wrap64 (x7_1 + 1)), (by first | rfl | (simp; done) | (simp [*]; done) | (refine congrArg (Value.int _) ?_; omega) | (refine congrArg Value.bool ?_; generalize ByteArray.toList _ = z_; cases z_ <;> rfl)), (by first | rfl | (simp; done) | (simp [*]; done) | (refine congrArg (Value.int _) ?_; omega) | (refine congrArg Value.bool ?_; generalize ByteArray.toList _ = z_; cases z_ <;> rfl)), H', ⟨by have := HK1.out; have := HJ2.out; have := HJ8.out; omega⟩, ⟨by (with_reducible repeat (first | apply Kd.R_alloc | apply Kd.R_drewN | apply Kd.R_drew)); exact HO592.out⟩, ⟨by repeat first | exact HB.out | apply below_alloc | apply pw_below_drewN | apply below_drew1⟩⟩
                    · rw [if_neg c20] at H
                      exact absurd H (by simp)
          · replace c6 := Bool.eq_false_iff.mpr c6
            subst c6
            have H1 : ((gudgeonref01_trim.f kj2 x5_1).bind fun t576 => (some t576)) = some r := by rw [if_neg (show ¬ (false = true) by decide)] at H; exact H
            clear H
            have H := H1
            clear H1
            replace H := Option.bind_eq_some_iff.mp H
            obtain ⟨t576, A220, H⟩ := H
            replace H : (some t576) = some r := H
            have A22 := Aside0.mk A220
            clear A220
            obtain rfl := Option.some.inj H
            obtain ⟨Ao23, co23, eo23⟩ := Kd.R_slice HO_5.out
            subst eo23
            go_wp2_with (first | ((with_reducible refine gate_callee (f := 55) rfl ?_); refine goesL_ (some 50) rfl rfl Tryd.func55 (by kernel_rfl) rfl #[.slice Ao23 x5_1.length co23] rfl (by (try simp only [List.map_toArray, List.map_cons, List.map_nil]); first | done | rfl | (simp only [List.length_drop, List.length_take]; rfl)) ?_; (with_reducible refine (gudgeonref01_trim.calls kj2 _ _ x5_1 t576 _ ?side1 ?side2 A22.out).mono ?_); (case side1 => repeat (first | exact (Kd.R_reads' HO_5.out).2.2 | (with_reducible refine Kd.C_alloc ?_ _) | (with_reducible refine Kd.C_drewN ?_ _) | (with_reducible refine Kd.C_drew ?_))); (case side2 => exact (Kd.R_reads' HO_5.out).2.1); rintro e w24 ⟨v577, rfl, ho0, hb⟩; refine ⟨_, rfl, ?_⟩; have n0_ := Aside0.mk (Kd.R_elder' HO_5.out (Kd.R_base ho0) hb); have n1_ := Aside0.mk (Kd.R_lower (Kd.R_new' ho0 (Kd.R_lt HO_5.out)) (below_size (by repeat first | exact HB.out | apply below_alloc | apply pw_below_drewN | apply below_drew1))); have n2_ := Aside0.mk (below_step (by repeat first | exact HB.out | apply below_alloc | apply pw_below_drewN | apply below_drew1) hb); clear HO_5; clear HB; have HO_5 := n0_; have HO578 := n1_; have HB := n2_; clear n0_ n1_ n2_))
            go_ret
            exact ⟨_, by first | rfl | (simp [errW_none, errW_some] <;> rfl) | (simp [*, errW_none, errW_some] <;> rfl), by (with_reducible repeat (first | apply Kd.R_alloc | apply Kd.R_drewN | apply Kd.R_drew)); exact Kd.R_mono HO578.out (fun _ hk => trivial), by repeat first | exact HB.out | apply below_alloc | apply pw_below_drewN | apply below_drew1⟩

/-! ### gudgeonref01_mul: function 45 -/
def gudgeonref01_mul.l0 : Nat → List Bool → List Bool → List Bool → Int → Option (List Bool)
  | 0, _, _, _, _ => none
  | k + 1, x0, x1, x5, x6 => if x6 ≥ 0 then ((some (([false] : List Bool) : List Bool)).bind fun y593 => (if y593.length + x5.length < 140737488355328 then ((some (y593 ++ x5 : List Bool)).bind fun y596 => (if 0 ≤ x6 then (if x6 < (x0.length : Int) then (if rdOf false x0 x6 = true then ((gudgeonref01_add.f k y596 x1).bind fun t600 => (gudgeonref01_mul.l0 k x0 x1 t600 (wrap64 (x6 - 1)))) else (gudgeonref01_mul.l0 k x0 x1 y596 (wrap64 (x6 - 1)))) else (none)) else (none))) else (none))) else ((gudgeonref01_trim.f k x5).bind fun t603 => (some t603))
def gudgeonref01_mul.f (k : Nat) (l0 : List Bool) (l1 : List Bool) : Option (List Bool) := gudgeonref01_mul.l0 k l0 l1 ([] : List Bool) (wrap64 ((l0.length : Int) - 1))
theorem gudgeonref01_mul.mono_l : ∀ k, (∀ y0 y1 y2 y3, LeO (gudgeonref01_mul.l0 k y0 y1 y2 y3) (gudgeonref01_mul.l0 (k + 1) y0 y1 y2 y3))
  | 0 => fun _ _ _ _ r h => by simp [gudgeonref01_mul.l0] at h
  | k + 1 => by
    have ih0 := gudgeonref01_mul.mono_l k
    · intro y0 y1 y2 y3
      unfold gudgeonref01_mul.l0
      repeat' first
      | (with_reducible exact ih0 _ _ _ _)
      | (with_reducible exact gudgeonref01_add.mono _ _ _)
      | (with_reducible exact gudgeonref01_trim.mono _ _)
      | (with_reducible exact LeO.refl _)
      | (with_reducible exact LeO.none _)
      | (with_reducible refine LeO.ite ?_ ?_)
      | (with_reducible refine LeO.bind ?_ (fun _ => ?_))
      | exact ih0 _ _ _ _
      | exact gudgeonref01_add.mono _ _ _
      | exact gudgeonref01_trim.mono _ _
      | exact LeO.none _
      | refine LeO.ite ?_ ?_
      | refine LeO.bind ?_ (fun _ => ?_)
theorem gudgeonref01_mul.mono : ∀ a0 a1 k, LeO (gudgeonref01_mul.f k a0 a1) (gudgeonref01_mul.f (k + 1) a0 a1) := by
  intro a0 a1 k
  have ih0 := gudgeonref01_mul.mono_l k
  unfold gudgeonref01_mul.f
  repeat' first
      | (with_reducible exact ih0 _ _ _ _)
      | (with_reducible exact gudgeonref01_add.mono _ _ _)
      | (with_reducible exact gudgeonref01_trim.mono _ _)
      | (with_reducible exact LeO.refl _)
      | (with_reducible exact LeO.none _)
      | (with_reducible refine LeO.ite ?_ ?_)
      | (with_reducible refine LeO.bind ?_ (fun _ => ?_))
      | exact ih0 _ _ _ _
      | exact gudgeonref01_add.mono _ _ _
      | exact gudgeonref01_trim.mono _ _
      | exact LeO.none _
      | refine LeO.ite ?_ ?_
      | refine LeO.bind ?_ (fun _ => ?_)
set_option maxHeartbeats 8000000 in
set_option maxRecDepth 100000 in
theorem gudgeonref01_mul.calls (k : Nat) (A0 : Option Addr) (c0 : Nat) (l0 : List Bool) (A1 : Option Addr) (c1 : Nat) (l1 : List Bool) (r : List Bool) (w : World) (hr0 : Kd.C Kd.bool w A0 l0.length l0) (hc0 : l0.length ≤ c0) (hr1 : Kd.C Kd.bool w A1 l1.length l1) (hc1 : l1.length ≤ c1) (h : gudgeonref01_mul.f k l0 l1 = some r) :
    Calls Tryd.prog 45 #[.slice A0 l0.length c0, .slice A1 l1.length c1] w fun e w' => ∃ v0_ : Value, e = .returned (v0_) ∧ Kd.R Kd.bool 4 w' w.heap.size (fun _ => True) v0_ r ∧ Below w.heap.size w w' := by
  have HR0 := Aside0.mk hr0
  have HC0 := Aside0.mk hc0
  clear hr0 hc0
  have HR1 := Aside0.mk hr1
  have HC1 := Aside0.mk hc1
  clear hr1 hc1
  have HB := Aside0.mk (Below.refl w.heap.size w)
  have H : (gudgeonref01_mul.l0 k l0 l1 ([] : List Bool) (wrap64 ((l0.length : Int) - 1))) = some r := h
  clear h
  have H' := Aside0.mk H
  clear H
  go_enter Tryd.func45, Tryd.ntmps45
  go_wp2
  go_loopg [5, 6] k (fun kq v5 v6 w' => ∃ (x5_1 : List Bool) (x6_1 : Int), v6 = .int .i64 x6_1 ∧ Aside0 (gudgeonref01_mul.l0 kq l0 l1 x5_1 x6_1 = some r) ∧ Aside0 (kq ≤ k) ∧ Aside0 (Kd.R Kd.bool 4 w' w.heap.size (fun _ => True) v5 x5_1) ∧ Aside0 (Below w.heap.size w w'))
  case atStart => exact ⟨(([] : List Bool)), (wrap64 ((l0.length : Int) - 1)), (by first | rfl | (simp; done) | (simp [*]; done) | (refine congrArg (Value.int _) ?_; omega) | (refine congrArg Value.bool ?_; generalize ByteArray.toList _ = z_; cases z_ <;> rfl)), H', ⟨Nat.le_refl _⟩, ⟨by first | exact Kd.R_nil _ _ _ _ _ | exact Kd.N_nil _ _ _ _ _ | exact Kd.V_nil _ _ _ _ _ | exact Kd.Q_nil _ _ _ _ _ | exact Kd.S_nil _ _ _ _ _⟩, ⟨by repeat first | exact HB.out | apply below_alloc | apply pw_below_drewN | apply below_drew1⟩⟩
  case round =>
    clear H'
    try clear c1
    try clear p2
    obtain ⟨x5_1, x6_1, rfl, HA, HK1, HO_5, HB⟩ := hrel
    cases gk with
    | zero => exact absurd HA.out (by simp [gudgeonref01_mul.l0])
    | succ k1 =>
      have H := HA.out
      clear HA
      simp only [gudgeonref01_mul.l0] at H
      by_cases c3 : x6_1 ≥ 0
      · rw [if_pos c3] at H
        have c3b0 : decide (0 ≤ x6_1) = true := decide_eq_true c3
        clear c3
        obtain ⟨y593, hy593⟩ : ∃ y_ : List Bool, y_ = (([false] : List Bool)) := ⟨_, rfl⟩
        replace H : (if y593.length + x5_1.length < 140737488355328 then ((some (y593 ++ x5_1 : List Bool)).bind fun y596 => (if 0 ≤ x6_1 then (if x6_1 < (l0.length : Int) then (if rdOf false l0 x6_1 = true then ((gudgeonref01_add.f k1 y596 l1).bind fun t600 => (gudgeonref01_mul.l0 k1 l0 l1 t600 (wrap64 (x6_1 - 1)))) else (gudgeonref01_mul.l0 k1 l0 l1 y596 (wrap64 (x6_1 - 1)))) else (none)) else (none))) else (none)) = some r := by first | (rw [hy593]; with_reducible exact H) | (have H2_ := (Option.bind_some _ _).symm.trans H; rw [hy593]; with_reducible exact H2_) | (have H2_ := (Option.bind_some _ _).symm.trans H; with_reducible exact H2_) | with_reducible exact H | (rw [hy593]; exact H) | exact H
        have Ny593 := Aside0.mk hy593
        clear hy593
        by_cases c4 : y593.length + x5_1.length < 140737488355328
        · rw [if_pos c4] at H
          have LMc4 := Aside0.mk c4
          clear c4
          obtain ⟨y596, hy596⟩ : ∃ y_ : List Bool, y_ = (y593 ++ x5_1) := ⟨_, rfl⟩
          replace H : (if 0 ≤ x6_1 then (if x6_1 < (l0.length : Int) then (if rdOf false l0 x6_1 = true then ((gudgeonref01_add.f k1 y596 l1).bind fun t600 => (gudgeonref01_mul.l0 k1 l0 l1 t600 (wrap64 (x6_1 - 1)))) else (gudgeonref01_mul.l0 k1 l0 l1 y596 (wrap64 (x6_1 - 1)))) else (none)) else (none)) = some r := by first | (rw [hy596]; with_reducible exact H) | (have H2_ := (Option.bind_some _ _).symm.trans H; rw [hy596]; with_reducible exact H2_) | (have H2_ := (Option.bind_some _ _).symm.trans H; with_reducible exact H2_) | with_reducible exact H | (rw [hy596]; exact H) | exact H
          have Ny596 := Aside0.mk hy596
          clear hy596
          by_cases c5 : 0 ≤ x6_1
          · rw [if_pos c5] at H
            have c5b0 : decide (0 ≤ x6_1) = true := decide_eq_true c5
            clear c5
            by_cases c6 : x6_1 < (l0.length : Int)
            · rw [if_pos c6] at H
              have c6b0 : decide (x6_1 < (l0.length : Int)) = true := decide_eq_true c6
              clear c6
              obtain ⟨bq7, hbq7⟩ : ∃ b_ : Bool, b_ = (rdOf false l0 x6_1) := ⟨_, rfl⟩
              replace H : (if bq7 = true then ((gudgeonref01_add.f k1 y596 l1).bind fun t600 => (gudgeonref01_mul.l0 k1 l0 l1 t600 (wrap64 (x6_1 - 1)))) else (gudgeonref01_mul.l0 k1 l0 l1 y596 (wrap64 (x6_1 - 1)))) = some r := by rw [← hbq7] at H; exact H
              have Nbq7 := Aside0.mk hbq7
              clear hbq7
              by_cases c8 : bq7 = true
              · subst c8
                have H1 : ((gudgeonref01_add.f k1 y596 l1).bind fun t600 => (gudgeonref01_mul.l0 k1 l0 l1 t600 (wrap64 (x6_1 - 1)))) = some r := by rw [if_pos rfl] at H; exact H
                clear H
                have H := H1
                clear H1
                replace H := Option.bind_eq_some_iff.mp H
                obtain ⟨t600, A90, H⟩ := H
                replace H : (gudgeonref01_mul.l0 k1 l0 l1 t600 (wrap64 (x6_1 - 1))) = some r := H
                have A9 := Aside0.mk A90
                clear A90
                have H' := Aside0.mk H
                clear H
                go_wp2_with (first | ((with_reducible refine gate_dst (N := 14) rfl ?_); refine Kd.R_lit Kd.bool _ 4 ?hg (N := 14) ?hd (xs := ([false] : List Bool)) (inner := [.bool false]) (ok := fun _ => True) (okp := fun _ => True) ?hr ?hp (fun _ hk => hk) trivial (Below.refl _ _) (Nat.le_refl _) (by simp) ?_; (case hd => rfl); (case hg => rfl); (case hr => first | (go_simp; done) | (go_simp; rfl) | (go_simp; simp only [IntKind.wrap_u8, IntKind.wrap_u32]; congr 4; omega) | (go_simp; simp only [IntKind.wrap_u8, IntKind.wrap_u32]; congr 5; omega)); (case hp => exact (Reps.one (show Kd.M Kd.bool _ _ _ false [.bool false] from rfl) (Reps.none _ _))); intro v594 w10 ho11 hb hg_ hnew_; clear hg_ hnew_; (first | rw [← Ny593.out] at ho11 | (simp only [Int.reduceToNat] at ho11; rw [← Ny593.out] at ho11)); have n0_ := Aside0.mk (Kd.R_elder' HO_5.out (Kd.R_base ho11) hb); have n1_ := Aside0.mk (Kd.R_lower (Kd.R_new' ho11 (Kd.R_lt HO_5.out)) (below_size (by repeat first | exact HB.out | apply below_alloc | apply pw_below_drewN | apply below_drew1))); have n2_ := Aside0.mk (below_step (by repeat first | exact HB.out | apply below_alloc | apply pw_below_drewN | apply below_drew1) hb); clear HO_5; clear HB; have HO_5 := n0_; have HO595 := n1_; have HB := n2_; clear n0_ n1_ n2_; clear hb ho11; obtain ⟨Ao13, co13, eo13⟩ := Kd.R_slice HO_5.out; subst eo13) | ((with_reducible refine gate_builtin (b := .append) (xs := #[.tmp 14, .tmp 15]) rfl ?_); at_builtin; refine Kd.R_append_rows Kd.bool (w0 := w) w.heap.size rfl (.tmp 14) (.tmp 15) 49 4 (.bool false) 1 rfl Tryd.underlying49 info4 rfl (by decide) (by omega) v594 y593 x5_1 _ _ _ (fun k_ => some k_ ≠ (.slice Ao13 x5_1.length co13 : Value).ownBlock) (fun _ => False) rfl rfl ?aO ?aR (fun _ _ h => h) (fun _ h => h.elim) ?aF ?aB ?aS ?aL ?_; (case aR => repeat (first | exact (Kd.R_reads' HO_5.out).2.2 | (with_reducible refine Kd.C_alloc ?_ _) | (with_reducible refine Kd.C_drewN ?_ _) | (with_reducible refine Kd.C_drew ?_))); (case aB => exact (by repeat first | exact HB.out | apply below_alloc | apply pw_below_drewN | apply below_drew1)); (case aF => exact (fun k_ hk => Kd.fresh' (Kd.R_lt HO_5.out) k_ hk)); (case aO => exact (by (with_reducible repeat (first | apply Kd.R_alloc | apply Kd.R_drewN | apply Kd.R_drew)); exact Kd.R_mono HO595.out (fun _ hk => hk.2))); (case aS => exact (below_size (by repeat first | exact HB.out | apply below_alloc | apply pw_below_drewN | apply below_drew1))); (case aL => have := LMc4.out; omega); intro v597 w12 ho hb hg hat; rw [← Ny596.out] at ho; have n0_ := Aside0.mk (Kd.R_after (ok := (fun _ => True)) HO_5.out hg hat); have n1_ := Aside0.mk (hb); have n2_ := Aside0.mk (ho); clear HO_5; clear HB; clear HO595; have HO_5 := n0_; have HB := n1_; have HO598 := n2_; clear n0_ n1_ n2_; clear ho hb hg hat; have p599 : 0 ≤ (x6_1 : Int) := of_decide_eq_true (by first | (with_reducible assumption) | assumption); have q599 : x6_1 < (l0.length : Int) := of_decide_eq_true (by first | (with_reducible assumption) | assumption); obtain ⟨ad599, e599, hx599_0⟩ := Kd.at_bool HR0.out x6_1 p599 q599; (try rw [← Nbq7.out] at hx599_0); cases e599; replace hx599_0 := (HB.out.cell (World.block_lt_of_cell? w _ hx599_0)).trans hx599_0; replace p599 := eq_true p599; replace q599 := eq_true q599; obtain ⟨Ao14, co14, eo14⟩ := Kd.R_slice HO598.out; subst eo14) | ((with_reducible refine gate_callee (f := 44) rfl ?_); refine goesL_ (some 23) rfl rfl Tryd.func44 (by kernel_rfl) rfl #[.slice Ao14 y596.length co14, .slice A1 l1.length c1] rfl (by (try simp only [List.map_toArray, List.map_cons, List.map_nil]); first | done | rfl | (simp only [List.length_drop, List.length_take]; rfl)) ?_; (with_reducible refine (gudgeonref01_add.calls k1 _ _ y596 _ _ l1 t600 _ ?side1 ?side2 ?side3 ?side4 A9.out).mono ?_); (case side1 => repeat (first | exact (Kd.R_reads' HO598.out).2.2 | (with_reducible refine Kd.C_alloc ?_ _) | (with_reducible refine Kd.C_drewN ?_ _) | (with_reducible refine Kd.C_drew ?_))); (case side2 => exact (Kd.R_reads' HO598.out).2.1); (case side3 => repeat (first | exact (Kd.C_below HR1.out HB.out) | (with_reducible refine Kd.C_alloc ?_ _) | (with_reducible refine Kd.C_drewN ?_ _) | (with_reducible refine Kd.C_drew ?_))); (case side4 => exact HC1.out); rintro e w15 ⟨v601, rfl, ho0, hb⟩; refine ⟨_, rfl, ?_⟩; have n0_ := Aside0.mk (Kd.R_elder' HO_5.out (Kd.R_base ho0) hb); have n1_ := Aside0.mk (Kd.R_elder' HO598.out (Kd.R_base ho0) hb); have n2_ := Aside0.mk (Kd.R_lower (Kd.R_new' (Kd.R_new' ho0 (Kd.R_lt HO_5.out)) (Kd.R_lt HO598.out)) (below_size (by repeat first | exact HB.out | apply below_alloc | apply pw_below_drewN | apply below_drew1))); have n3_ := Aside0.mk (below_step (by repeat first | exact HB.out | apply below_alloc | apply pw_below_drewN | apply below_drew1) hb); clear HO_5; clear HO598; clear HB; have HO_5 := n0_; have HO598 := n1_; have HO602 := n2_; have HB := n3_; clear n0_ n1_ n2_ n3_))
                go_roundg k1
                case measure => have := HK1.out; omega
                case rel => exact ⟨(t600), (wrap64 (x6_1 - 1)), (by first | rfl | (simp; done) | (simp [*]; done) | (refine congrArg (Value.int _) ?_; omega) | (refine congrArg Value.bool ?_; generalize ByteArray.toList _ = z_; cases z_ <;> rfl)), H', ⟨by have := HK1.out; omega⟩, ⟨by (with_reducible repeat (first | apply Kd.R_alloc | apply Kd.R_drewN | apply Kd.R_drew)); exact Kd.R_mono HO602.out (fun _ hk => trivial)⟩, ⟨by repeat first | exact HB.out | apply below_alloc | apply pw_below_drewN | apply below_drew1⟩⟩
              · replace c8 := Bool.eq_false_iff.mpr c8
                subst c8
                have H1 : (gudgeonref01_mul.l0 k1 l0 l1 y596 (wrap64 (x6_1 - 1))) = some r := by rw [if_neg (show ¬ (false = true) by decide)] at H; exact H
                clear H
                have H := H1
                clear H1
                have H' := Aside0.mk H
                clear H
                go_wp2_with (first | ((with_reducible refine gate_dst (N := 14) rfl ?_); refine Kd.R_lit Kd.bool _ 4 ?hg (N := 14) ?hd (xs := ([false] : List Bool)) (inner := [.bool false]) (ok := fun _ => True) (okp := fun _ => True) ?hr ?hp (fun _ hk => hk) trivial (Below.refl _ _) (Nat.le_refl _) (by simp) ?_; (case hd => rfl); (case hg => rfl); (case hr => first | (go_simp; done) | (go_simp; rfl) | (go_simp; simp only [IntKind.wrap_u8, IntKind.wrap_u32]; congr 4; omega) | (go_simp; simp only [IntKind.wrap_u8, IntKind.wrap_u32]; congr 5; omega)); (case hp => exact (Reps.one (show Kd.M Kd.bool _ _ _ false [.bool false] from rfl) (Reps.none _ _))); intro v594 w16 ho17 hb hg_ hnew_; clear hg_ hnew_; (first | rw [← Ny593.out] at ho17 | (simp only [Int.reduceToNat] at ho17; rw [← Ny593.out] at ho17)); have n0_ := Aside0.mk (Kd.R_elder' HO_5.out (Kd.R_base ho17) hb); have n1_ := Aside0.mk (Kd.R_lower (Kd.R_new' ho17 (Kd.R_lt HO_5.out)) (below_size (by repeat first | exact HB.out | apply below_alloc | apply pw_below_drewN | apply below_drew1))); have n2_ := Aside0.mk (below_step (by repeat first | exact HB.out | apply below_alloc | apply pw_below_drewN | apply below_drew1) hb); clear HO_5; clear HB; have HO_5 := n0_; have HO595 := n1_; have HB := n2_; clear n0_ n1_ n2_; clear hb ho17; obtain ⟨Ao19, co19, eo19⟩ := Kd.R_slice HO_5.out; subst eo19) | ((with_reducible refine gate_builtin (b := .append) (xs := #[.tmp 14, .tmp 15]) rfl ?_); at_builtin; refine Kd.R_append_rows Kd.bool (w0 := w) w.heap.size rfl (.tmp 14) (.tmp 15) 49 4 (.bool false) 1 rfl Tryd.underlying49 info4 rfl (by decide) (by omega) v594 y593 x5_1 _ _ _ (fun k_ => some k_ ≠ (.slice Ao19 x5_1.length co19 : Value).ownBlock) (fun _ => False) rfl rfl ?aO ?aR (fun _ _ h => h) (fun _ h => h.elim) ?aF ?aB ?aS ?aL ?_; (case aR => repeat (first | exact (Kd.R_reads' HO_5.out).2.2 | (with_reducible refine Kd.C_alloc ?_ _) | (with_reducible refine Kd.C_drewN ?_ _) | (with_reducible refine Kd.C_drew ?_))); (case aB => exact (by repeat first | exact HB.out | apply below_alloc | apply pw_below_drewN | apply below_drew1)); (case aF => exact (fun k_ hk => Kd.fresh' (Kd.R_lt HO_5.out) k_ hk)); (case aO => exact (by (with_reducible repeat (first | apply Kd.R_alloc | apply Kd.R_drewN | apply Kd.R_drew)); exact Kd.R_mono HO595.out (fun _ hk => hk.2))); (case aS => exact (below_size (by repeat first | exact HB.out | apply below_alloc | apply pw_below_drewN | apply below_drew1))); (case aL => have := LMc4.out; omega); intro v597 w18 ho hb hg hat; rw [← Ny596.out] at ho; have n0_ := Aside0.mk (Kd.R_after (ok := (fun _ => True)) HO_5.out hg hat); have n1_ := Aside0.mk (hb); have n2_ := Aside0.mk (ho); clear HO_5; clear HB; clear HO595; have HO_5 := n0_; have HB := n1_; have HO598 := n2_; clear n0_ n1_ n2_; clear ho hb hg hat; have p599 : 0 ≤ (x6_1 : Int) := of_decide_eq_true (by first | (with_reducible assumption) | assumption); have q599 : x6_1 < (l0.length : Int) := of_decide_eq_true (by first | (with_reducible assumption) | assumption); obtain ⟨ad599, e599, hx599_0⟩ := Kd.at_bool HR0.out x6_1 p599 q599; (try rw [← Nbq7.out] at hx599_0); cases e599; replace hx599_0 := (HB.out.cell (World.block_lt_of_cell? w _ hx599_0)).trans hx599_0; replace p599 := eq_true p599; replace q599 := eq_true q599))
                go_roundg k1
                case measure => have := HK1.out; omega
                case rel => exact ⟨(y596), (wrap64 (x6_1 - 1)), (by first | rfl | (simp; done) | (simp [*]; done) | (refine congrArg (Value.int _) ?_; omega) | (refine congrArg Value.bool ?_; generalize ByteArray.toList _ = z_; cases z_ <;> rfl)), H', ⟨by have := HK1.out; omega⟩, ⟨by (with_reducible repeat (first | apply Kd.R_alloc | apply Kd.R_drewN | apply Kd.R_drew)); exact Kd.R_mono HO598.out (fun _ hk => trivial)⟩, ⟨by repeat first | exact HB.out | apply below_alloc | apply pw_below_drewN | apply below_drew1⟩⟩
            · rw [if_neg c6] at H
              exact absurd H (by simp)
          · rw [if_neg c5] at H
            exact absurd H (by simp)
        · rw [if_neg c4] at H
          exact absurd H (by simp)
      · rw [if_neg c3] at H
        have c3b0 : decide (0 ≤ x6_1) = false := decide_eq_false c3
        clear c3
        replace H := Option.bind_eq_some_iff.mp H
        obtain ⟨t603, A200, H⟩ := H
        replace H : (some t603) = some r := H
        have A20 := Aside0.mk A200
        clear A200
        obtain rfl := Option.some.inj H
        obtain ⟨Ao21, co21, eo21⟩ := Kd.R_slice HO_5.out
        subst eo21
        go_wp2_with (first | ((with_reducible refine gate_callee (f := 55) rfl ?_); refine goesL_ (some 25) rfl rfl Tryd.func55 (by kernel_rfl) rfl #[.slice Ao21 x5_1.length co21] rfl (by (try simp only [List.map_toArray, List.map_cons, List.map_nil]); first | done | rfl | (simp only [List.length_drop, List.length_take]; rfl)) ?_; (with_reducible refine (gudgeonref01_trim.calls k1 _ _ x5_1 t603 _ ?side1 ?side2 A20.out).mono ?_); (case side1 => repeat (first | exact (Kd.R_reads' HO_5.out).2.2 | (with_reducible refine Kd.C_alloc ?_ _) | (with_reducible refine Kd.C_drewN ?_ _) | (with_reducible refine Kd.C_drew ?_))); (case side2 => exact (Kd.R_reads' HO_5.out).2.1); rintro e w22 ⟨v604, rfl, ho0, hb⟩; refine ⟨_, rfl, ?_⟩; have n0_ := Aside0.mk (Kd.R_elder' HO_5.out (Kd.R_base ho0) hb); have n1_ := Aside0.mk (Kd.R_lower (Kd.R_new' ho0 (Kd.R_lt HO_5.out)) (below_size (by repeat first | exact HB.out | apply below_alloc | apply pw_below_drewN | apply below_drew1))); have n2_ := Aside0.mk (below_step (by repeat first | exact HB.out | apply below_alloc | apply pw_below_drewN | apply below_drew1) hb); clear HO_5; clear HB; have HO_5 := n0_; have HO605 := n1_; have HB := n2_; clear n0_ n1_ n2_))
        go_ret
        exact ⟨_, by first | rfl | (simp [errW_none, errW_some] <;> rfl) | (simp [*, errW_none, errW_some] <;> rfl), by (with_reducible repeat (first | apply Kd.R_alloc | apply Kd.R_drewN | apply Kd.R_drew)); exact Kd.R_mono HO605.out (fun _ hk => trivial), by repeat first | exact HB.out | apply below_alloc | apply pw_below_drewN | apply below_drew1⟩

end Go.Proofs.YtlfpnohpcemkgaaDoor.PA
/- The reference's numbers by bits, the lowest one first: what its functions compute, as numbers. -/
namespace Go.Proofs.YtlfpnohpcemkgaaDoor.V
set_option linter.unusedVariables false
set_option linter.unusedSimpArgs false
open Go.RowKit Go.Proofs.YtlfpnohpcemkgaaDoor.PA Go.Proofs.YtlfpnohpcemkgaaDoor.H Go.Proofs.YtlfpnohpcemkgaaDoorW.PrintWords Go.Proofs.YtlfpnohpcemkgaaDoorW.PrintLast Go.Proofs.YtlfpnohpcemkgaaDoorW.PrintMore

def b2i (b : Bool) : Int := if b then 1 else 0
theorem b2i_rng (b : Bool) : 0 ≤ b2i b ∧ b2i b ≤ 1 := by cases b <;> simp [b2i]
/-- What bits are worth. -/
def bval : List Bool → Int
  | [] => 0
  | b :: r => b2i b + 2 * bval r
def p2 (n : Nat) : Int := 2 ^ n
theorem p2_zero : p2 0 = 1 := rfl
theorem p2_succ (n : Nat) : p2 (n + 1) = 2 * p2 n := by unfold p2; rw [Int.pow_succ]; omega
theorem p2_pos (n : Nat) : 0 < p2 n := by
  induction n with
  | zero => decide
  | succ n ih => rw [p2_succ]; omega
theorem p2_add (m n : Nat) : p2 (m + n) = p2 m * p2 n := by unfold p2; exact Int.pow_add ..
theorem p2_le {a b : Nat} (h : a ≤ b) : p2 a ≤ p2 b := by
  obtain ⟨d, rfl⟩ := Nat.exists_eq_add_of_le h
  rw [p2_add]
  have := p2_pos a
  have := p2_pos d
  calc p2 a = p2 a * 1 := by omega
    _ ≤ _ := Int.mul_le_mul_of_nonneg_left (by omega) (by omega)
theorem pw_p2 (n : Nat) : pw n = p2 (32 * n) := by unfold pw p2; rw [show (4294967296 : Int) = 2 ^ 32 from rfl, Int.pow_mul]
theorem bval_nonneg (l : List Bool) : 0 ≤ bval l := by
  induction l with
  | nil => simp [bval]
  | cons b l ih => have := b2i_rng b; simp only [bval]; omega
theorem bval_lt (l : List Bool) : bval l < p2 l.length := by
  induction l with
  | nil => simp [bval, p2_zero]
  | cons b l ih => have := b2i_rng b; simp only [bval, List.length_cons, p2_succ]; omega
theorem bval_append (a b : List Bool) : bval (a ++ b) = bval a + p2 a.length * bval b := by
  induction a with
  | nil => simp [bval, p2_zero]
  | cons x a ih => simp only [List.cons_append, bval, ih, List.length_cons, p2_succ]; grind
theorem bval_snoc (a : List Bool) (x : Bool) : bval (a ++ [x]) = bval a + p2 a.length * b2i x := by rw [bval_append]; simp [bval]
/-- A number's bits, without noughts behind. -/
def bitN (n : Nat) : List Bool := if h : n = 0 then [] else decide (n % 2 = 1) :: bitN (n / 2)
termination_by n
decreasing_by omega
def bits (n : Int) : List Bool := bitN n.toNat
theorem bits_zero : bits 0 = [] := by unfold bits; rw [bitN]; rfl
theorem bval_bitN (n : Nat) : bval (bitN n) = n := by
  induction n using Nat.strongRecOn with
  | _ n ih =>
    rw [bitN]
    split
    · rename_i h; simp [bval, h]
    · simp only [bval]; rw [ih _ (by omega)]
      by_cases h : n % 2 = 1
      · rw [decide_eq_true h]; simp only [b2i, if_true]; omega
      · rw [decide_eq_false h]; simp only [b2i, Bool.false_eq_true, if_false]; omega
theorem bval_bits {n : Int} (h : 0 ≤ n) : bval (bits n) = n := by unfold bits; rw [bval_bitN]; omega
theorem bits_cons (b : Bool) (n : Int) (hn : 0 ≤ n) (h : b2i b + 2 * n ≠ 0) : bits (b2i b + 2 * n) = b :: bits n := by
  have hb := b2i_rng b
  unfold bits
  rw [bitN, dif_neg (by omega)]
  have e1 : decide ((b2i b + 2 * n).toNat % 2 = 1) = b := by
    cases b
    · rw [decide_eq_false]; simp only [b2i, Bool.false_eq_true, if_false]; omega
    · rw [decide_eq_true]; simp only [b2i, if_true]; omega
  have e2 : (b2i b + 2 * n).toNat / 2 = n.toNat := by omega
  rw [e1, e2]
theorem bits_nil {n : Int} (h : 0 ≤ n) : bits n = [] ↔ n = 0 := by
  constructor
  · intro e
    have := bval_bits h
    rw [e] at this
    exact this.symm
  · rintro rfl; exact bits_zero
theorem bits_snoc_false (l : List Bool) : bits (bval (l ++ [false])) = bits (bval l) := by
  rw [bval_snoc]; simp [b2i]
theorem bits_last (l : List Bool) : bits (bval (l ++ [true])) = l ++ [true] := by
  induction l with
  | nil => have := bits_cons true 0 (by omega) (by decide); rw [bits_zero] at this; simpa [bval] using this
  | cons b l ih =>
    have h0 := bval_nonneg (l ++ [true])
    have h1 : 0 < bval (l ++ [true]) := by
      rw [bval_snoc]
      have := bval_nonneg l
      have := p2_pos l.length
      simp [b2i]; omega
    have hb := b2i_rng b
    simp only [List.cons_append, bval]
    rw [bits_cons b _ h0 (by omega), ih]
theorem bits_length_le {n : Int} {k : Nat} (h0 : 0 ≤ n) (h : n < p2 k) : (bits n).length ≤ k := by
  induction k generalizing n with
  | zero => rw [p2_zero] at h; rw [show n = 0 by omega, bits_zero]; simp
  | succ k ih =>
    rw [p2_succ] at h
    by_cases hn : n = 0
    · rw [hn, bits_zero]; simp
    · have e : n = b2i (decide (n % 2 = 1)) + 2 * (n / 2) := by
        by_cases h : n % 2 = 1
        · rw [decide_eq_true h]; simp only [b2i, if_true]; omega
        · rw [decide_eq_false h]; simp only [b2i, Bool.false_eq_true, if_false]; omega
      rw [e, bits_cons _ _ (by omega) (by omega)]
      have := ih (n := n / 2) (by omega) (by omega)
      simp; omega
theorem lt_of_bits_length {n : Int} {k : Nat} (h0 : 0 ≤ n) (h : (bits n).length ≤ k) : n < p2 k := by
  have := bval_lt (bits n)
  rw [bval_bits h0] at this
  have := p2_le h
  omega
theorem rdOf_D (l : List Bool) (i : Nat) : rdOf false l (i : Int) = l.getD i false := by simp [rdOf]
theorem bval_take_getD (l : List Bool) (i : Nat) : bval (l.take (i + 1)) = bval (l.take i) + p2 i * b2i (l.getD i false) := by
  by_cases h : i < l.length
  · rw [List.take_succ_eq_append_getElem h, bval_snoc, List.length_take, Nat.min_eq_left (Nat.le_of_lt h)]
    simp [h]
  · rw [List.take_of_length_le (by omega), List.take_of_length_le (by omega), List.getD_eq_getElem?_getD, List.getElem?_eq_none (by omega)]
    simp [b2i]
theorem bval_drop_getD (l : List Bool) (i : Nat) : bval (l.drop i) = b2i (l.getD i false) + 2 * bval (l.drop (i + 1)) := by
  by_cases h : i < l.length
  · rw [List.drop_eq_getElem_cons h]
    simp [bval, h]
  · rw [List.drop_eq_nil_of_le (by omega), List.drop_eq_nil_of_le (by omega), List.getD_eq_getElem?_getD, List.getElem?_eq_none (by omega)]
    simp [b2i, bval]
theorem bval_take_drop (l : List Bool) (i : Nat) (h : i ≤ l.length) : bval l = bval (l.take i) + p2 i * bval (l.drop i) := by
  have := bval_append (l.take i) (l.drop i)
  rwa [List.take_append_drop, List.length_take, Nat.min_eq_left h] at this
def LB (l : List Bool) : Prop := l.length ≤ 1000000000
theorem btrim_l0 (l : List Bool) (hn : l.length ≤ 2000000000) (d : Nat) (hd : d ≤ l.length) (he : bval l = bval (l.take d)) : Ev (fun k => gudgeonref01_trim.l0 k l (d : Int)) (bits (bval l)) := by
  induction d with
  | zero =>
    refine Ev.step (f := fun _ => some _) (fun k => ?_) (Ev.now _)
    simp only [gudgeonref01_trim.l0]
    rw [if_neg (by omega), if_pos (by omega), if_pos (by omega), if_pos (by simp), he]
    simp [bval, bits_zero]
  | succ d ih =>
    have hdl : d < l.length := by omega
    have e1 : l.take (d + 1) = l.take d ++ [l[d]] := List.take_succ_eq_append_getElem hdl
    have hg : l.getD d false = l[d] := by simp [hdl]
    cases hb : l[d] with
    | true =>
      refine Ev.step (f := fun _ => some _) (fun k => ?_) (Ev.now _)
      simp only [gudgeonref01_trim.l0]
      rw [if_pos (by omega), w64 (x := ((d + 1 : Nat) : Int) - 1) (by omega) (by omega), show ((d + 1 : Nat) : Int) - 1 = (d : Int) by omega, if_pos (by omega), if_pos (by omega), rdOf_D, hg, hb, if_pos rfl, if_pos (by omega), if_pos (by omega), if_pos (by simp; omega), he, Int.toNat_natCast, e1, hb, bits_last]
      rfl
    | false =>
      rw [e1, hb] at he
      have : bval (l.take d ++ [false]) = bval (l.take d) := by rw [bval_snoc]; simp [b2i]
      rw [this] at he
      refine Ev.step (fun k => ?_) (ih (by omega) he)
      simp only [gudgeonref01_trim.l0]
      rw [if_pos (by omega), w64 (x := ((d + 1 : Nat) : Int) - 1) (by omega) (by omega), show ((d + 1 : Nat) : Int) - 1 = (d : Int) by omega, if_pos (by omega), if_pos (by omega), rdOf_D, hg, hb, if_neg (by decide)]
theorem btrim_ev (l : List Bool) (hn : l.length ≤ 2000000000) : Ev (fun k => gudgeonref01_trim.f k l) (bits (bval l)) :=
  Ev.congr (fun k => rfl) (btrim_l0 l hn l.length (Nat.le_refl _) (by rw [List.take_of_length_le (Nat.le_refl _)]))
theorem Bits_l1 (l : List Int) (hL : Lim l) (hn : l.length < 10000000) (i : Nat) (hi : i < l.length) (r : List Bool)
    (hc : ∀ out, out.length = 32 * (i + 1) → bval out = val (l.take (i + 1)) → Ev (fun k => gudgeonref01_Bits.l0 k l out ((i + 1 : Nat) : Int)) r) (d : Nat) : ∀ (j : Nat) (out : List Bool) (x : Int), j + d = 32 → out.length = 32 * i + j → 0 ≤ x → x < p2 d → bval out + p2 (32 * i + j) * x = val (l.take (i + 1)) →
    Ev (fun k => gudgeonref01_Bits.l1 k l out (i : Int) x (j : Int)) r := by
  induction d with
  | zero =>
    intro j out x hj ho x0 x1 hv
    rw [p2_zero] at x1
    obtain rfl : x = 0 := by omega
    rw [Int.mul_zero, Int.add_zero] at hv
    refine Ev.step (fun k => ?_) (hc out (by omega) hv)
    simp only [gudgeonref01_Bits.l1]
    rw [if_neg (by omega), w64 (by omega) (by omega)]
    rfl
  | succ d ih =>
    intro j out x hj ho x0 x1 hv
    rw [p2_succ] at x1
    have hbit : ((Int.tmod x 2) == 1) = decide (x % 2 = 1) := by
      rw [Int.tmod_eq_emod_of_nonneg x0, Bool.eq_iff_iff]; simp
    have hx32 : x < 4294967296 := by
      have := p2_le (show d + 1 ≤ 32 by omega)
      rw [p2_succ] at this
      have e : p2 32 = 4294967296 := rfl
      omega
    refine Ev.step (fun k => ?_) (ih (j + 1) (out ++ [decide (x % 2 = 1)]) (x / 2) (by omega) (by simp; omega) (by omega) (by omega) ?_)
    · simp only [gudgeonref01_Bits.l1]
      rw [if_pos (by omega), if_pos (by omega), hbit, Int.tdiv_eq_ediv_of_nonneg x0, Int.emod_eq_of_lt (a := x / 2) (by omega) (by omega), w64 (by omega) (by omega)]
      rfl
    · rw [bval_snoc, ho, ← Nat.add_assoc, p2_succ, ← hv]
      have e : b2i (decide (x % 2 = 1)) = x % 2 := by
        by_cases h : x % 2 = 1
        · rw [decide_eq_true h, h]; rfl
        · rw [decide_eq_false h]; simp only [b2i, Bool.false_eq_true, if_false]; omega
      rw [e]
      have := Int.mul_ediv_add_emod x 2
      generalize x / 2 = q at *
      generalize x % 2 = r at *
      grind
theorem Bits_l0 (l : List Int) (hL : Lim l) (hn : l.length < 10000000) (d : Nat) : ∀ (i : Nat) (out : List Bool), i + d = l.length → out.length = 32 * i → bval out = val (l.take i) →
    Ev (fun k => gudgeonref01_Bits.l0 k l out (i : Int)) (bits (val l)) := by
  induction d with
  | zero =>
    intro i out hi ho hv
    rw [List.take_of_length_le (by omega)] at hv
    have := btrim_ev out (by omega)
    rw [hv] at this
    refine Ev.step (fun k => ?_) (Ev.bind (f := fun _ t => some t) this (Ev.now _))
    simp only [gudgeonref01_Bits.l0]
    rw [if_neg (by omega)]
  | succ d ih =>
    intro i out hi ho hv
    have hil : i < l.length := by omega
    have g := hL.get i hil
    refine Ev.step (fun k => ?_) (Bits_l1 l hL hn i hil _ (fun out' h1 h2 => ih (i + 1) out' (by omega) h1 h2) 32 0 out l[i] (by omega) (by omega) g.1 g.2 ?_)
    · simp only [gudgeonref01_Bits.l0]
      rw [if_pos (by omega), if_pos (by omega), rd_get _ _ hil]
      rfl
    · rw [Nat.add_zero, hv, val_take_succ _ _ hil, pw_p2]
theorem Bits_ev (l : List Int) (hL : Lim l) (hn : l.length < 10000000) : Ev (fun k => gudgeonref01_Bits.f k l) (bits (val l)) :=
  Ev.congr (fun k => rfl) (Bits_l0 l hL hn l.length 0 [] (by omega) rfl (by simp [val, bval]))
theorem at_ev (l : List Bool) (i : Nat) : gudgeonref01_at.f l (i : Int) = some (l.getD i false) := by
  unfold gudgeonref01_at.f
  by_cases h : i < l.length
  · rw [if_pos (by omega), if_pos (by omega), rdOf_D]
  · rw [if_neg (by omega), List.getD_eq_getElem?_getD, List.getElem?_eq_none (by omega)]; rfl
theorem bits_bound {n : Int} {k : Nat} (h0 : 0 ≤ n) (h : n < p2 k) (hk : k ≤ 1000000000) : LB (bits n) := Nat.le_trans (bits_length_le h0 h) hk
/-! ### order -/
theorem bcmp_l0 (a b : List Bool) (ha : LB a) (hb : LB b) (m : Nat) (hma : a.length ≤ m) (hmb : b.length ≤ m) (hm : m ≤ 1000000000) (d : Nat) (hd : d ≤ m) (he : bval (a.drop d) = bval (b.drop d)) : Ev (fun k => gudgeonref01_cmp.l0 k a b ((d : Int) - 1)) (cmpI (bval a) (bval b)) := by
  induction d with
  | zero =>
    simp only [List.drop_zero] at he
    refine Ev.step (f := fun _ => some _) (fun k => ?_) (Ev.now _)
    simp only [gudgeonref01_cmp.l0]
    rw [if_neg (by omega), he]
    unfold cmpI
    rw [if_neg (by omega), if_neg (by omega)]
  | succ d ih =>
    have e0 : ((d + 1 : Nat) : Int) - 1 = (d : Int) := by omega
    have da := bval_drop_getD a d
    have db := bval_drop_getD b d
    have sa : bval a = bval (a.take d) + p2 d * bval (a.drop d) := by
      by_cases h : d ≤ a.length
      · exact bval_take_drop a d h
      · rw [List.take_of_length_le (by omega), List.drop_eq_nil_of_le (by omega)]; simp [bval]
    have sb : bval b = bval (b.take d) + p2 d * bval (b.drop d) := by
      by_cases h : d ≤ b.length
      · exact bval_take_drop b d h
      · rw [List.take_of_length_le (by omega), List.drop_eq_nil_of_le (by omega)]; simp [bval]
    have ta0 := bval_nonneg (a.take d)
    have tb0 := bval_nonneg (b.take d)
    have ta1 : bval (a.take d) < p2 d := by have := bval_lt (a.take d); have := p2_le (show (a.take d).length ≤ d by rw [List.length_take]; omega); omega
    have tb1 : bval (b.take d) < p2 d := by have := bval_lt (b.take d); have := p2_le (show (b.take d).length ≤ d by rw [List.length_take]; omega); omega
    have hp := p2_pos d
    rw [e0]
    cases hx : a.getD d false with
    | true =>
      cases hy : b.getD d false with
      | true =>
        refine Ev.step (f := fun k => gudgeonref01_cmp.j2 k a b (d : Int) true true false) (fun k => ?_) (Ev.step (fun k => ?_) (ih (by omega) (by rw [da, db, hx, hy, he])))
        · simp only [gudgeonref01_cmp.l0]
          rw [if_pos (by omega), at_ev, at_ev, hx, hy]
          simp only [Option.bind_some]
          rw [if_neg (by decide)]
        · simp only [gudgeonref01_cmp.j2]
          rw [if_neg (by decide), if_neg (by decide), w64 (by omega) (by omega)]
      | false =>
        refine Ev.step (f := fun k => gudgeonref01_cmp.j2 k a b (d : Int) true false true) (fun k => ?_) (Ev.step (f := fun _ => some _) (fun k => ?_) (Ev.now _))
        · simp only [gudgeonref01_cmp.l0]
          rw [if_pos (by omega), at_ev, at_ev, hx, hy]
          simp only [Option.bind_some]
          rw [if_pos (by decide)]
        · simp only [gudgeonref01_cmp.j2]
          rw [if_pos trivial]
          rw [hx] at da
          rw [hy] at db
          simp only [b2i, if_true, Bool.false_eq_true, if_false] at da db
          have : bval (a.drop d) = bval (b.drop d) + 1 := by omega
          rw [this, Int.mul_add, Int.mul_one] at sa
          unfold cmpI
          rw [if_neg (by omega), if_pos (by omega)]
    | false =>
      cases hy : b.getD d false with
      | true =>
        refine Ev.step (f := fun k => gudgeonref01_cmp.j2 k a b (d : Int) false true false) (fun k => ?_) (Ev.step (f := fun _ => some _) (fun k => ?_) (Ev.now _))
        · simp only [gudgeonref01_cmp.l0]
          rw [if_pos (by omega), at_ev, at_ev, hx, hy]
          simp only [Option.bind_some]
          rw [if_pos (by decide)]
        · simp only [gudgeonref01_cmp.j2]
          rw [if_neg (by decide), if_pos (by decide)]
          rw [hx] at da
          rw [hy] at db
          simp only [b2i, if_true, Bool.false_eq_true, if_false] at da db
          have : bval (b.drop d) = bval (a.drop d) + 1 := by omega
          rw [this, Int.mul_add, Int.mul_one] at sb
          unfold cmpI
          rw [if_pos (by omega)]
      | false =>
        refine Ev.step (f := fun k => gudgeonref01_cmp.j2 k a b (d : Int) false false false) (fun k => ?_) (Ev.step (fun k => ?_) (ih (by omega) (by rw [da, db, hx, hy, he])))
        · simp only [gudgeonref01_cmp.l0]
          rw [if_pos (by omega), at_ev, at_ev, hx, hy]
          simp only [Option.bind_some]
          rw [if_neg (by decide)]
        · simp only [gudgeonref01_cmp.j2]
          rw [if_neg (by decide), if_neg (by decide), w64 (by omega) (by omega)]
theorem bcmp_ev (a b : List Bool) (ha : LB a) (hb : LB b) : Ev (fun k => gudgeonref01_cmp.f k a b) (cmpI (bval a) (bval b)) := by
  have ha' := ha
  have hb' := hb
  unfold LB at ha' hb'
  by_cases h : b.length > a.length
  · refine Ev.congr (fun k => ?_) (Ev.step (g := fun k => gudgeonref01_cmp.j0 k a b (b.length : Int)) (fun k => ?_) (bcmp_l0 a b ha hb b.length (by omega) (Nat.le_refl _) hb' b.length (Nat.le_refl _) (by rw [List.drop_eq_nil_of_le (by omega), List.drop_eq_nil_of_le (by omega)])))
    · unfold gudgeonref01_cmp.f
      rw [if_pos (by omega)]
    · simp only [gudgeonref01_cmp.j0]
      rw [w64 (by omega) (by omega)]
  · refine Ev.congr (fun k => ?_) (Ev.step (g := fun k => gudgeonref01_cmp.j0 k a b (a.length : Int)) (fun k => ?_) (bcmp_l0 a b ha hb a.length (Nat.le_refl _) (by omega) ha' a.length (Nat.le_refl _) (by rw [List.drop_eq_nil_of_le (by omega), List.drop_eq_nil_of_le (by omega)])))
    · unfold gudgeonref01_cmp.f
      rw [if_neg (by omega)]
    · simp only [gudgeonref01_cmp.j0]
      rw [w64 (by omega) (by omega)]
/-! ### sums -/
theorem step_badd {V P c A B x y q r : Int} (h : V + P * c = A + B) (e : r + 2 * q = c + (x + y)) : V + P * r + (2 * P) * q = A + P * x + (B + P * y) := by grind
theorem badd_j2 (a b : List Bool) (out : List Bool) (c x y : Bool) (i : Nat) (n : Int) (hn : n = b2i x) (ho : out.length ≤ 2000000000) (hi : i ≤ 2000000000) (r : List Bool)
    (h : Ev (fun k => gudgeonref01_add.l0 k a b (out ++ [decide ((b2i x + b2i y + b2i c) % 2 = 1)]) (decide (b2i x + b2i y + b2i c > 1)) ((i + 1 : Nat) : Int)) r) : Ev (fun k => gudgeonref01_add.j2 k a b out c (i : Int) y n) r := by
  subst hn
  refine Ev.step (fun k => ?_) h
  simp only [gudgeonref01_add.j2]
  cases x <;> cases y <;> cases c <;> simp only [b2i, if_true, Bool.false_eq_true, if_false] <;> rw [if_pos (by omega), w64 (x := (i : Int) + 1) (by omega) (by omega)] <;> simp [w01, w11, w21]
theorem badd_l0 (a b : List Bool) (ha : LB a) (hb : LB b) (d : Nat) : ∀ (i : Nat) (out : List Bool) (c : Bool), i + d = max a.length b.length + 2 → out.length = i → bval out + p2 i * b2i c = bval (a.take i) + bval (b.take i) → (i = max a.length b.length + 1 → c = false) →
    i ≤ max a.length b.length + 1 → Ev (fun k => gudgeonref01_add.l0 k a b out c (i : Int)) (bits (bval a + bval b)) := by
  unfold LB at ha hb
  induction d with
  | zero => intro i out c hi; omega
  | succ d ih =>
    intro i out c hi ho hv hend hle
    have hta : bval (a.take (i + 1)) = _ := bval_take_getD a i
    have htb : bval (b.take (i + 1)) = _ := bval_take_getD b i
    have hgo : (a.length > i ∨ b.length > i ∨ c = true) → Ev (fun k => gudgeonref01_add.j1 k a b out c (i : Int) true) (bits (bval a + bval b)) := by
      intro hor
      have hile : i ≤ max a.length b.length := by
        by_cases h : i = max a.length b.length + 1
        · have := hend h
          subst this
          simp at hor
          omega
        · omega
      have hnext := ih (i + 1) (out ++ [decide ((b2i (a.getD i false) + b2i (b.getD i false) + b2i c) % 2 = 1)]) (decide (b2i (a.getD i false) + b2i (b.getD i false) + b2i c > 1)) (by omega) (by simp [ho]) (by
        rw [bval_snoc, ho, p2_succ, hta, htb]
        apply step_badd hv
        cases a.getD i false <;> cases b.getD i false <;> cases c <;> rfl) (by
        intro hmax
        have e1 : i = max a.length b.length := by omega
        have hxa : a.getD i false = false := by rw [List.getD_eq_getElem?_getD, List.getElem?_eq_none (by omega)]; rfl
        have hxb : b.getD i false = false := by rw [List.getD_eq_getElem?_getD, List.getElem?_eq_none (by omega)]; rfl
        rw [hxa, hxb]
        cases c <;> rfl) (by omega)
      refine Ev.step (f := fun k => gudgeonref01_add.j2 k a b out c (i : Int) (b.getD i false) (b2i (a.getD i false))) (fun k => ?_) (badd_j2 a b out c (a.getD i false) (b.getD i false) i _ rfl (by omega) (by omega) _ hnext)
      simp only [gudgeonref01_add.j1, if_true]
      rw [at_ev, at_ev]
      simp only [Option.bind_some]
      cases a.getD i false
      · rw [if_neg (by decide)]; rfl
      · rw [if_pos rfl]; rfl
    by_cases h1 : i < a.length
    · refine Ev.step (fun k => ?_) (hgo (.inl h1))
      simp only [gudgeonref01_add.l0]
      rw [if_pos (by omega)]
    by_cases h2 : i < b.length
    · refine Ev.step (fun k => ?_) (hgo (.inr (.inl h2)))
      simp only [gudgeonref01_add.l0]
      rw [if_neg (by omega), if_pos (by omega)]
    cases c with
    | true =>
      refine Ev.step (fun k => ?_) (hgo (.inr (.inr rfl)))
      simp only [gudgeonref01_add.l0]
      rw [if_neg (by omega), if_neg (by omega)]
    | false =>
      have ht := btrim_ev out (by omega)
      rw [List.take_of_length_le (by omega), List.take_of_length_le (by omega)] at hv
      simp only [b2i, Bool.false_eq_true, if_false, Int.mul_zero, Int.add_zero] at hv
      rw [hv] at ht
      refine Ev.step (f := fun k => gudgeonref01_add.j1 k a b out false (i : Int) false) (fun k => ?_) (Ev.step (fun k => ?_) (Ev.bind (f := fun _ t => some t) ht (Ev.now _)))
      · simp only [gudgeonref01_add.l0]
        rw [if_neg (by omega), if_neg (by omega)]
      · simp only [gudgeonref01_add.j1]
        rw [if_neg (by decide)]
theorem badd_ev (a b : List Bool) (ha : LB a) (hb : LB b) : Ev (fun k => gudgeonref01_add.f k a b) (bits (bval a + bval b)) :=
  Ev.congr (fun k => rfl) (badd_l0 a b ha hb (max a.length b.length + 2) 0 [] false (by omega) rfl (by simp [bval, b2i]) (fun _ => rfl) (by omega))
end Go.Proofs.YtlfpnohpcemkgaaDoor.V
