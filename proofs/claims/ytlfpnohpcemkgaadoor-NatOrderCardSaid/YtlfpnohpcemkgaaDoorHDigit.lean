/- Contracts over a window of a row that is written: turned by wip/tools/winprint.py from the printed contracts of YtlfpnohpcemkgaaDoorPAx1, YtlfpnohpcemkgaaDoorPAx2. -/
import Derived.Test.YtlfpnohpcemkgaaDoorPAx1
import Derived.Test.YtlfpnohpcemkgaaDoorPAx2
import Derived.Test.YtlfpnohpcemkgaaDoorHWin
namespace Go.Proofs.YtlfpnohpcemkgaaDoor.H
open Go.RowKit Go.Proofs.YtlfpnohpcemkgaaDoorW.PrintWords Go.Proofs.YtlfpnohpcemkgaaDoorW.PrintLast Go.Proofs.YtlfpnohpcemkgaaDoorW.PrintMore Go.Proofs.YtlfpnohpcemkgaaDoor.H Go.Proofs.YtlfpnohpcemkgaaDoor.PA
set_option linter.unusedVariables false
set_option linter.unusedSimpArgs false
set_option maxHeartbeats 8000000 in
set_option maxRecDepth 100000 in
theorem nat_take.callsW (X_ : Wn) (k : Nat) (P0_ : Nat → Prop) (u9000_ : Value) (l0 : List Int) (A1 : Option Addr) (c1 : Nat) (l1 : List Int) (a2 : Int) (r1 : Bool) (r2 : List Int) (w0 w : World) (hB : Below w0.heap.size w0 w) (ho0 : X_.R w w0.heap.size P0_ u9000_ l0) (hr1 : ∀ W_, Kept w W_ (fun k_ => P0_ k_) → Kd.C (Kd.int .u32) W_ A1 l1.length l1) (hc1 : l1.length ≤ c1) (h : nat_take.f k l0 l1 a2 = some (r1, r2)) :
    Calls Tryd.prog 53 #[u9000_, .slice A1 l1.length c1, .int .u64 a2] w fun e w' => e = .returned (.bool r1) ∧ X_.R w' w0.heap.size (fun k_ => (P0_ k_ ∨ w.heap.size ≤ k_)) u9000_ r2 ∧ Below w0.heap.size w0 w' ∧ Kept w w' (fun k_ => P0_ k_) := by
  have HO0 := Aside0.mk (show X_.R w w0.heap.size (fun k_ => (P0_ k_ ∨ w.heap.size ≤ k_)) u9000_ l0 from Wn.R_mono ho0 (fun k_ hk => (.inl hk)))
  have HR1 := Aside0.mk hr1
  have HC1 := Aside0.mk hc1
  clear hr1 hc1
  have HK := Aside0.mk (Kept.refl w (fun k_ => P0_ k_))
  have HW0 := Aside0.mk hB.size
  have HB := Aside0.mk hB
  clear hB
  have H : (nat_take.l0 k l0 l1 a2 0 0 (l1.length : Int) 0) = some (r1, r2) := h
  clear h
  have H' := Aside0.mk H
  clear H
  go_enter Tryd.func53, Tryd.ntmps53
  go_wp2
  go_loopg [7, 8, 14] k (fun kq v7 v8 v14 w' => ∃ (x0_1 : List Int) (x7_1 : Int) (x8_1 : Int) (x14_1 : Int), v7 = .int .u64 x7_1 ∧ v8 = .int .u64 x8_1 ∧ v14 = .int .i64 x14_1 ∧ Aside0 (nat_take.l0 kq x0_1 l1 a2 x7_1 x8_1 (l1.length : Int) x14_1 = some (r1, r2)) ∧ Aside0 (kq ≤ k) ∧ Aside0 (X_.R w' w0.heap.size (fun k_ => (P0_ k_ ∨ w.heap.size ≤ k_)) u9000_ x0_1) ∧ Aside0 (Kept w w' (fun k_ => P0_ k_)) ∧ Aside0 (Below w0.heap.size w0 w'))
  case atStart => exact ⟨(l0), (0), (0), (0), (by first | rfl | (simp; done) | (simp [*]; done) | (refine congrArg (Value.int _) ?_; omega) | (refine congrArg Value.bool ?_; generalize ByteArray.toList _ = z_; cases z_ <;> rfl)), (by first | rfl | (simp; done) | (simp [*]; done) | (refine congrArg (Value.int _) ?_; omega) | (refine congrArg Value.bool ?_; generalize ByteArray.toList _ = z_; cases z_ <;> rfl)), (by first | rfl | (simp; done) | (simp [*]; done) | (refine congrArg (Value.int _) ?_; omega) | (refine congrArg Value.bool ?_; generalize ByteArray.toList _ = z_; cases z_ <;> rfl)), H', ⟨Nat.le_refl _⟩, ⟨by (with_reducible repeat (first | apply Wn.R_alloc | apply Wn.R_drewN | apply Wn.R_drew)); exact HO0.out⟩, ⟨by repeat (first | (with_reducible first | exact HK.out | apply Kept.alloc | apply Kept.drewN | apply Kept.drew) | exact HK.out)⟩, ⟨by repeat (first | (with_reducible first | exact HB.out | apply below_alloc | apply pw_below_drewN | apply below_drew1) | exact HB.out)⟩⟩
  case round =>
    clear H'
    try clear c1
    try clear p2
    obtain ⟨x0_1, x7_1, x8_1, x14_1, rfl, rfl, rfl, HA, HK1, HO_0, HK, HB⟩ := hrel
    cases gk with
    | zero => exact absurd HA.out (by simp [nat_take.l0])
    | succ k1 =>
      have H := HA.out
      clear HA
      simp only [nat_take.l0] at H
      by_cases c4 : x14_1 < (l1.length : Int)
      · rw [if_pos c4] at H
        have c4b0 : decide (x14_1 < (l1.length : Int)) = true := decide_eq_true c4
        clear c4
        by_cases c5 : 0 ≤ x14_1
        · rw [if_pos c5] at H
          have c5b0 : decide (0 ≤ x14_1) = true := decide_eq_true c5
          clear c5
          by_cases c6 : x14_1 < (l1.length : Int)
          · rw [if_pos c6] at H
            have c6b0 : decide (x14_1 < (l1.length : Int)) = true := decide_eq_true c6
            clear c6
            by_cases c7 : x14_1 < (x0_1.length : Int)
            · rw [if_pos c7] at H
              have c7b0 : decide (x14_1 < (x0_1.length : Int)) = true := decide_eq_true c7
              clear c7
              obtain ⟨y136, hy136⟩ : ∃ y_ : List Int, y_ = (x0_1.set (x14_1 : Int).toNat ((IntKind.u64.wrap ((IntKind.u64.wrap ((IntKind.u64.wrap (rd x0_1 x14_1)) - (Go.bits .and .u64 (IntKind.u64.wrap (x7_1 + (IntKind.u64.wrap (a2 * (IntKind.u64.wrap (rd l1 x14_1)))))) 4294967295))) - x8_1)) % 4294967296)) := ⟨_, rfl⟩
              replace H : (nat_take.l0 k1 y136 l1 a2 ((IntKind.u64.wrap (x7_1 + (IntKind.u64.wrap (a2 * (IntKind.u64.wrap (rd l1 x14_1)))))) / 4294967296) ((IntKind.u64.wrap ((IntKind.u64.wrap ((IntKind.u64.wrap (rd x0_1 x14_1)) - (Go.bits .and .u64 (IntKind.u64.wrap (x7_1 + (IntKind.u64.wrap (a2 * (IntKind.u64.wrap (rd l1 x14_1)))))) 4294967295))) - x8_1)) / 9223372036854775808) (l1.length : Int) (wrap64 (x14_1 + 1))) = some (r1, r2) := by first | (rw [hy136]; with_reducible exact H) | (have H2_ := (Option.bind_some _ _).symm.trans H; rw [hy136]; with_reducible exact H2_) | (have H2_ := (Option.bind_some _ _).symm.trans H; with_reducible exact H2_) | with_reducible exact H | (rw [hy136]; exact H) | exact H
              have Ny136 := Aside0.mk hy136
              clear hy136
              have H' := Aside0.mk H
              clear H
              have p134 : 0 ≤ (x14_1 : Int) := of_decide_eq_true (by first | (with_reducible assumption) | assumption)
              have q134 : x14_1 < (l1.length : Int) := of_decide_eq_true (by first | (with_reducible assumption) | assumption)
              obtain ⟨ad134, e134, hx134_0⟩ := Kd.at_int (Kd.C_kept_now HR1.out HK.out) x14_1 p134 q134
              cases e134
              replace p134 := eq_true p134
              replace q134 := eq_true q134
              obtain ⟨Ao9, co9, eo9⟩ := Wn.R_slice HO_0.out
              subst eo9
              have p135 : 0 ≤ (x14_1 : Int) := of_decide_eq_true (by first | (with_reducible assumption) | assumption)
              have q135 : x14_1 < (x0_1.length : Int) := of_decide_eq_true (by first | (with_reducible assumption) | assumption)
              obtain ⟨ad135, e135, hx135_0⟩ := Kd.at_int (Wn.R_reads' HO_0.out).2.2 x14_1 p135 q135
              cases e135
              replace p135 := eq_true p135
              replace q135 := eq_true q135
              have p8 : 0 ≤ (x14_1 : Int) := of_decide_eq_true (by first | (with_reducible assumption) | assumption)
              have q8 : (x14_1 : Int) < ((x0_1.length : Int) : Int) := of_decide_eq_true (by first | (with_reducible assumption) | assumption)
              obtain ⟨go8, co8, eo8, gb8, gl8, cl8, HG8⟩ := Wn.R_form HO_0.out (by omega)
              (first | cases eo8 | (injection eo8 with ea_ en_ ec_; (first | subst ea_ | (injection ea_ with ea_; subst ea_)); subst ec_; clear en_))
              have GB8 := Aside0.mk gb8
              have GG8 := Aside0.mk HG8
              clear gb8 gl8 HG8
              have HMgo8 := Aside0.mk (show (P0_ go8 ∨ w.heap.size ≤ go8) from (HO_0.out.1 _ rfl))
              (first | simp only [win_add] at hx135_0 | skip)
              obtain ⟨hx8_0, hf8_0⟩ := Wn.R_celln HO_0.out (x14_1 : Int) p8 q8
              replace p8 := eq_true p8
              replace q8 := eq_true q8
              have HP10 := Wn.R_putg HO_0.out (x14_1 : Int) ((IntKind.u64.wrap ((IntKind.u64.wrap ((IntKind.u64.wrap (rd x0_1 x14_1)) - (Go.bits .and .u64 (IntKind.u64.wrap (x7_1 + (IntKind.u64.wrap (a2 * (IntKind.u64.wrap (rd l1 x14_1)))))) 4294967295))) - x8_1)) % 4294967296) (of_eq_true p8) (of_eq_true q8)
              go_wp2_with (first | ((with_reducible refine gate_store (t := 43) (p := 40) rfl ?_); refine store_event (t := 43) (p := 40) (v := ?vo_w11) (w1 := (wr.setCell ⟨go8, X_.pre.length + (x14_1 : Int).toNat, none⟩ (.int .u32 ((IntKind.u64.wrap ((IntKind.u64.wrap ((IntKind.u64.wrap (rd x0_1 x14_1)) - (Go.bits .and .u64 (IntKind.u64.wrap (x7_1 + (IntKind.u64.wrap (a2 * (IntKind.u64.wrap (rd l1 x14_1)))))) 4294967295))) - x8_1)) % 4294967296)))) ?hg ?ho ?hn ?hr ?_; (case ho => rfl); (case hg => rfl); (case hn => rfl); (case hr => first | (go_simp; done) | (go_simp; rfl) | (go_simp; simp only [IntKind.wrap_u8, IntKind.wrap_u32]; congr 4; omega) | (go_simp; simp only [IntKind.wrap_u8, IntKind.wrap_u32]; congr 5; omega)); intro w11 hw; have hg : wr.grownBy w11 (some go8) := (by rw [hw]; exact HP10.2); have hp_ : X_.R w11 w0.heap.size (fun k_ => (P0_ k_ ∨ w.heap.size ≤ k_)) (.slice (some ⟨go8, X_.pre.length, none⟩) x0_1.length co9) y136 := (by rw [hw, Ny136.out]; exact HP10.1); clear HP10; have n0_ := Aside0.mk (hp_); have n1_ := Aside0.mk ((by rw [hw]; exact below_set (HB.out) GB8.out : Below w0.heap.size w0 w11)); have n2_ := Aside0.mk (Kept.of_grown (S := (fun k_ => P0_ k_)) hg (by repeat (first | (with_reducible first | exact HK.out | apply Kept.alloc | apply Kept.drewN | apply Kept.drew) | exact HK.out)) (fun k_ e_ => (HO_0.out.1 k_ e_))); clear HO_0; clear HB; clear HK; have HO_0 := n0_; have HB := n1_; have HK := n2_; clear n0_ n1_ n2_; clear hg hw hp_))
              go_roundg k1
              case measure => have := HK1.out; omega
              case rel => exact ⟨(y136), ((IntKind.u64.wrap (x7_1 + (IntKind.u64.wrap (a2 * (IntKind.u64.wrap (rd l1 x14_1)))))) / 4294967296), ((IntKind.u64.wrap ((IntKind.u64.wrap ((IntKind.u64.wrap (rd x0_1 x14_1)) - (Go.bits .and .u64 (IntKind.u64.wrap (x7_1 + (IntKind.u64.wrap (a2 * (IntKind.u64.wrap (rd l1 x14_1)))))) 4294967295))) - x8_1)) / 9223372036854775808), (wrap64 (x14_1 + 1)), (by first | rfl | (simp; done) | (simp [*]; done) | (refine congrArg (Value.int _) ?_; omega) | (refine congrArg Value.bool ?_; generalize ByteArray.toList _ = z_; cases z_ <;> rfl)), (by first | rfl | (simp; done) | (simp [*]; done) | (refine congrArg (Value.int _) ?_; omega) | (refine congrArg Value.bool ?_; generalize ByteArray.toList _ = z_; cases z_ <;> rfl)), (by first | rfl | (simp; done) | (simp [*]; done) | (refine congrArg (Value.int _) ?_; omega) | (refine congrArg Value.bool ?_; generalize ByteArray.toList _ = z_; cases z_ <;> rfl)), H', ⟨by have := HK1.out; omega⟩, ⟨by (with_reducible repeat (first | apply Wn.R_alloc | apply Wn.R_drewN | apply Wn.R_drew)); exact HO_0.out⟩, ⟨by repeat (first | (with_reducible first | exact HK.out | apply Kept.alloc | apply Kept.drewN | apply Kept.drew) | exact HK.out)⟩, ⟨by repeat (first | (with_reducible first | exact HB.out | apply below_alloc | apply pw_below_drewN | apply below_drew1) | exact HB.out)⟩⟩
            · rw [if_neg c7] at H
              exact absurd H (by simp)
          · rw [if_neg c6] at H
            exact absurd H (by simp)
        · rw [if_neg c5] at H
          exact absurd H (by simp)
      · rw [if_neg c4] at H
        have c4b0 : decide (x14_1 < (l1.length : Int)) = false := decide_eq_false c4
        clear c4
        by_cases c12 : 0 ≤ (l1.length : Int)
        · rw [if_pos c12] at H
          have c12b0 : decide (0 ≤ (l1.length : Int)) = true := decide_eq_true c12
          have c12b1 : decide (0 ≤ l1.length) = true := decide_eq_true (by omega)
          clear c12
          by_cases c13 : (l1.length : Int) < (x0_1.length : Int)
          · rw [if_pos c13] at H
            have c13b0 : decide ((l1.length : Int) < (x0_1.length : Int)) = true := decide_eq_true c13
            have c13b1 : decide (l1.length < x0_1.length) = true := decide_eq_true (Int.ofNat_lt.mp c13)
            clear c13
            obtain ⟨y138, hy138⟩ : ∃ y_ : List Int, y_ = (x0_1.set ((l1.length : Int) : Int).toNat ((IntKind.u64.wrap ((IntKind.u64.wrap ((IntKind.u64.wrap (rd x0_1 (l1.length : Int))) - x7_1)) - x8_1)) % 4294967296)) := ⟨_, rfl⟩
            replace H : (some ((((IntKind.u64.wrap ((IntKind.u64.wrap ((IntKind.u64.wrap (rd x0_1 (l1.length : Int))) - x7_1)) - x8_1)) / 9223372036854775808) == 1), y138)) = some (r1, r2) := by first | (rw [hy138]; with_reducible exact H) | (have H2_ := (Option.bind_some _ _).symm.trans H; rw [hy138]; with_reducible exact H2_) | (have H2_ := (Option.bind_some _ _).symm.trans H; with_reducible exact H2_) | with_reducible exact H | (rw [hy138]; exact H) | exact H
            have Ny138 := Aside0.mk hy138
            clear hy138
            simp only [Option.some.injEq, Prod.mk.injEq] at H
            obtain ⟨rfl, rfl⟩ := H
            obtain ⟨Ao15, co15, eo15⟩ := Wn.R_slice HO_0.out
            subst eo15
            have p137 : 0 ≤ ((l1.length : Int) : Int) := of_decide_eq_true (by first | (with_reducible assumption) | assumption)
            have q137 : (l1.length : Int) < (x0_1.length : Int) := of_decide_eq_true (by first | (with_reducible assumption) | assumption)
            obtain ⟨ad137, e137, hx137_0⟩ := Kd.at_int (Wn.R_reads' HO_0.out).2.2 (l1.length : Int) p137 q137
            cases e137
            (try simp only [Go.IntWalk.toNatUp] at hx137_0)
            replace p137 := eq_true p137
            replace q137 := eq_true q137
            have p14 : 0 ≤ ((l1.length : Int) : Int) := of_decide_eq_true (by first | (with_reducible assumption) | assumption)
            have q14 : ((l1.length : Int) : Int) < ((x0_1.length : Int) : Int) := of_decide_eq_true (by first | (with_reducible assumption) | assumption)
            obtain ⟨go14, co14, eo14, gb14, gl14, cl14, HG14⟩ := Wn.R_form HO_0.out (by omega)
            (first | cases eo14 | (injection eo14 with ea_ en_ ec_; (first | subst ea_ | (injection ea_ with ea_; subst ea_)); subst ec_; clear en_))
            have GB14 := Aside0.mk gb14
            have GG14 := Aside0.mk HG14
            clear gb14 gl14 HG14
            have HMgo14 := Aside0.mk (show (P0_ go14 ∨ w.heap.size ≤ go14) from (HO_0.out.1 _ rfl))
            (first | simp only [win_add] at hx137_0 | skip)
            obtain ⟨hx14_0, hf14_0⟩ := Wn.R_celln HO_0.out ((l1.length : Int) : Int) p14 q14
            (try simp only [Int.toNat_natCast] at hx14_0 hf14_0)
            replace p14 := eq_true p14
            replace q14 := eq_true q14
            have HP16 := Wn.R_putg HO_0.out ((l1.length : Int) : Int) ((IntKind.u64.wrap ((IntKind.u64.wrap ((IntKind.u64.wrap (rd x0_1 (l1.length : Int))) - x7_1)) - x8_1)) % 4294967296) (of_eq_true p14) (of_eq_true q14)
            go_wp2_with (first | ((with_reducible refine gate_store (t := 43) (p := 61) rfl ?_); refine store_event (t := 43) (p := 61) (v := ?vo_w17) (w1 := (wr.setCell ⟨go14, X_.pre.length + ((l1.length : Int) : Int).toNat, none⟩ (.int .u32 ((IntKind.u64.wrap ((IntKind.u64.wrap ((IntKind.u64.wrap (rd x0_1 (l1.length : Int))) - x7_1)) - x8_1)) % 4294967296)))) ?hg ?ho ?hn ?hr ?_; (case ho => rfl); (case hg => rfl); (case hn => rfl); (case hr => first | (go_simp; done) | (go_simp; rfl) | (go_simp; simp only [IntKind.wrap_u8, IntKind.wrap_u32]; congr 4; omega) | (go_simp; simp only [IntKind.wrap_u8, IntKind.wrap_u32]; congr 5; omega)); intro w17 hw; have hg : wr.grownBy w17 (some go14) := (by rw [hw]; exact HP16.2); have hp_ : X_.R w17 w0.heap.size (fun k_ => (P0_ k_ ∨ w.heap.size ≤ k_)) (.slice (some ⟨go14, X_.pre.length, none⟩) x0_1.length co15) y138 := (by rw [hw, Ny138.out]; exact HP16.1); clear HP16; have n0_ := Aside0.mk (hp_); have n1_ := Aside0.mk ((by rw [hw]; exact below_set (HB.out) GB14.out : Below w0.heap.size w0 w17)); have n2_ := Aside0.mk (Kept.of_grown (S := (fun k_ => P0_ k_)) hg (by repeat (first | (with_reducible first | exact HK.out | apply Kept.alloc | apply Kept.drewN | apply Kept.drew) | exact HK.out)) (fun k_ e_ => (HO_0.out.1 k_ e_))); clear HO_0; clear HB; clear HK; have HO_0 := n0_; have HB := n1_; have HK := n2_; clear n0_ n1_ n2_; clear hg hw hp_))
            go_ret
            exact ⟨by first | rfl | (simp [errW_none, errW_some] <;> rfl) | (simp [*, errW_none, errW_some] <;> rfl), by (with_reducible repeat (first | apply Wn.R_alloc | apply Wn.R_drewN | apply Wn.R_drew)); exact HO_0.out, by repeat (first | (with_reducible first | exact HB.out | apply below_alloc | apply pw_below_drewN | apply below_drew1) | exact HB.out), by repeat (first | (with_reducible first | exact HK.out | apply Kept.alloc | apply Kept.drewN | apply Kept.drew) | exact HK.out)⟩
          · rw [if_neg c13] at H
            exact absurd H (by simp)
        · rw [if_neg c12] at H
          exact absurd H (by simp)
set_option maxHeartbeats 8000000 in
set_option maxRecDepth 100000 in
theorem nat_give.callsW (X_ : Wn) (k : Nat) (P0_ : Nat → Prop) (u9000_ : Value) (l0 : List Int) (A1 : Option Addr) (c1 : Nat) (l1 : List Int) (r : List Int) (w0 w : World) (hB : Below w0.heap.size w0 w) (ho0 : X_.R w w0.heap.size P0_ u9000_ l0) (hr1 : ∀ W_, Kept w W_ (fun k_ => P0_ k_) → Kd.C (Kd.int .u32) W_ A1 l1.length l1) (hc1 : l1.length ≤ c1) (h : nat_give.f k l0 l1 = some r) :
    Calls Tryd.prog 54 #[u9000_, .slice A1 l1.length c1] w fun e w' => e = .returned (.tuple #[]) ∧ X_.R w' w0.heap.size (fun k_ => (P0_ k_ ∨ w.heap.size ≤ k_)) u9000_ r ∧ Below w0.heap.size w0 w' ∧ Kept w w' (fun k_ => P0_ k_) := by
  have HO0 := Aside0.mk (show X_.R w w0.heap.size (fun k_ => (P0_ k_ ∨ w.heap.size ≤ k_)) u9000_ l0 from Wn.R_mono ho0 (fun k_ hk => (.inl hk)))
  have HR1 := Aside0.mk hr1
  have HC1 := Aside0.mk hc1
  clear hr1 hc1
  have HK := Aside0.mk (Kept.refl w (fun k_ => P0_ k_))
  have HW0 := Aside0.mk hB.size
  have HB := Aside0.mk hB
  clear hB
  have H : (nat_give.l0 k l0 l1 0 (l1.length : Int) 0) = some r := h
  clear h
  have H' := Aside0.mk H
  clear H
  go_enter Tryd.func54, Tryd.ntmps54
  go_wp2
  repeat (go_quiet (fail); try go_wp2)
  go_loopg [4, 8] k (fun kq v4 v8 w' => ∃ (x0_1 : List Int) (x4_1 : Int) (x8_1 : Int), v4 = .int .u64 x4_1 ∧ v8 = .int .i64 x8_1 ∧ Aside0 (nat_give.l0 kq x0_1 l1 x4_1 (l1.length : Int) x8_1 = some r) ∧ Aside0 (kq ≤ k) ∧ Aside0 (X_.R w' w0.heap.size (fun k_ => (P0_ k_ ∨ w.heap.size ≤ k_)) u9000_ x0_1) ∧ Aside0 (Kept w w' (fun k_ => P0_ k_)) ∧ Aside0 (Below w0.heap.size w0 w'))
  case atStart => exact ⟨(l0), (0), (0), (by first | rfl | (simp; done) | (simp [*]; done) | (refine congrArg (Value.int _) ?_; omega) | (refine congrArg Value.bool ?_; generalize ByteArray.toList _ = z_; cases z_ <;> rfl)), (by first | rfl | (simp; done) | (simp [*]; done) | (refine congrArg (Value.int _) ?_; omega) | (refine congrArg Value.bool ?_; generalize ByteArray.toList _ = z_; cases z_ <;> rfl)), H', ⟨Nat.le_refl _⟩, ⟨by (with_reducible repeat (first | apply Wn.R_alloc | apply Wn.R_drewN | apply Wn.R_drew)); exact HO0.out⟩, ⟨by repeat (first | (with_reducible first | exact HK.out | apply Kept.alloc | apply Kept.drewN | apply Kept.drew) | exact HK.out)⟩, ⟨by repeat (first | (with_reducible first | exact HB.out | apply below_alloc | apply pw_below_drewN | apply below_drew1) | exact HB.out)⟩⟩
  case round =>
    clear H'
    try clear c1
    try clear p2
    obtain ⟨x0_1, x4_1, x8_1, rfl, rfl, HA, HK1, HO_0, HK, HB⟩ := hrel
    cases gk with
    | zero => exact absurd HA.out (by simp [nat_give.l0])
    | succ k1 =>
      have H := HA.out
      clear HA
      simp only [nat_give.l0] at H
      by_cases c3 : x8_1 < (l1.length : Int)
      · rw [if_pos c3] at H
        have c3b0 : decide (x8_1 < (l1.length : Int)) = true := decide_eq_true c3
        clear c3
        by_cases c4 : 0 ≤ x8_1
        · rw [if_pos c4] at H
          have c4b0 : decide (0 ≤ x8_1) = true := decide_eq_true c4
          clear c4
          by_cases c5 : x8_1 < (x0_1.length : Int)
          · rw [if_pos c5] at H
            have c5b0 : decide (x8_1 < (x0_1.length : Int)) = true := decide_eq_true c5
            clear c5
            by_cases c6 : x8_1 < (l1.length : Int)
            · rw [if_pos c6] at H
              have c6b0 : decide (x8_1 < (l1.length : Int)) = true := decide_eq_true c6
              clear c6
              obtain ⟨y141, hy141⟩ : ∃ y_ : List Int, y_ = (x0_1.set (x8_1 : Int).toNat ((IntKind.u64.wrap (x4_1 + (IntKind.u64.wrap ((IntKind.u64.wrap (rd x0_1 x8_1)) + (IntKind.u64.wrap (rd l1 x8_1)))))) % 4294967296)) := ⟨_, rfl⟩
              replace H : (nat_give.l0 k1 y141 l1 ((IntKind.u64.wrap (x4_1 + (IntKind.u64.wrap ((IntKind.u64.wrap (rd x0_1 x8_1)) + (IntKind.u64.wrap (rd l1 x8_1)))))) / 4294967296) (l1.length : Int) (wrap64 (x8_1 + 1))) = some r := by first | (rw [hy141]; with_reducible exact H) | (have H2_ := (Option.bind_some _ _).symm.trans H; rw [hy141]; with_reducible exact H2_) | (have H2_ := (Option.bind_some _ _).symm.trans H; with_reducible exact H2_) | with_reducible exact H | (rw [hy141]; exact H) | exact H
              have Ny141 := Aside0.mk hy141
              clear hy141
              have H' := Aside0.mk H
              clear H
              obtain ⟨Ao8, co8, eo8⟩ := Wn.R_slice HO_0.out
              subst eo8
              have p139 : 0 ≤ (x8_1 : Int) := of_decide_eq_true (by first | (with_reducible assumption) | assumption)
              have q139 : x8_1 < (x0_1.length : Int) := of_decide_eq_true (by first | (with_reducible assumption) | assumption)
              obtain ⟨ad139, e139, hx139_0⟩ := Kd.at_int (Wn.R_reads' HO_0.out).2.2 x8_1 p139 q139
              cases e139
              replace p139 := eq_true p139
              replace q139 := eq_true q139
              have p140 : 0 ≤ (x8_1 : Int) := of_decide_eq_true (by first | (with_reducible assumption) | assumption)
              have q140 : x8_1 < (l1.length : Int) := of_decide_eq_true (by first | (with_reducible assumption) | assumption)
              obtain ⟨ad140, e140, hx140_0⟩ := Kd.at_int (Kd.C_kept_now HR1.out HK.out) x8_1 p140 q140
              cases e140
              replace p140 := eq_true p140
              replace q140 := eq_true q140
              have p7 : 0 ≤ (x8_1 : Int) := of_decide_eq_true (by first | (with_reducible assumption) | assumption)
              have q7 : (x8_1 : Int) < ((x0_1.length : Int) : Int) := of_decide_eq_true (by first | (with_reducible assumption) | assumption)
              obtain ⟨go7, co7, eo7, gb7, gl7, cl7, HG7⟩ := Wn.R_form HO_0.out (by omega)
              (first | cases eo7 | (injection eo7 with ea_ en_ ec_; (first | subst ea_ | (injection ea_ with ea_; subst ea_)); subst ec_; clear en_))
              have GB7 := Aside0.mk gb7
              have GG7 := Aside0.mk HG7
              clear gb7 gl7 HG7
              have HMgo7 := Aside0.mk (show (P0_ go7 ∨ w.heap.size ≤ go7) from (HO_0.out.1 _ rfl))
              (first | simp only [win_add] at hx139_0 | skip)
              obtain ⟨hx7_0, hf7_0⟩ := Wn.R_celln HO_0.out (x8_1 : Int) p7 q7
              replace p7 := eq_true p7
              replace q7 := eq_true q7
              have HP9 := Wn.R_putg HO_0.out (x8_1 : Int) ((IntKind.u64.wrap (x4_1 + (IntKind.u64.wrap ((IntKind.u64.wrap (rd x0_1 x8_1)) + (IntKind.u64.wrap (rd l1 x8_1)))))) % 4294967296) (of_eq_true p7) (of_eq_true q7)
              go_wp2_with (first | ((with_reducible refine gate_store (t := 43) (p := 28) rfl ?_); (try (rw [drewN_self wr]; generalize hq_ : World.drewN wr _ = wr; have n0_ := Aside0.mk (Wn.R_at hq_ HO_0.out); have n1_ := Aside0.mk (kept_at hq_ HK.out); have n2_ := Aside0.mk (below_at hq_ HB.out); clear hq_ HO_0 HK HB; have HO_0 := n0_; have HK := n1_; have HB := n2_; clear n0_ n1_ n2_; (try (obtain ⟨hx7_0, hf7_0⟩ := Wn.R_celln HO_0.out (x8_1 : Int) (of_eq_true p7) (of_eq_true q7))); (try (have HP9 := Wn.R_putg HO_0.out (x8_1 : Int) ((IntKind.u64.wrap (x4_1 + (IntKind.u64.wrap ((IntKind.u64.wrap (rd x0_1 x8_1)) + (IntKind.u64.wrap (rd l1 x8_1)))))) % 4294967296) (of_eq_true p7) (of_eq_true q7))))); refine store_event (t := 43) (p := 28) (v := ?vo_w10) (w1 := (wr.setCell ⟨go7, X_.pre.length + (x8_1 : Int).toNat, none⟩ (.int .u32 ((IntKind.u64.wrap (x4_1 + (IntKind.u64.wrap ((IntKind.u64.wrap (rd x0_1 x8_1)) + (IntKind.u64.wrap (rd l1 x8_1)))))) % 4294967296)))) ?hg ?ho ?hn ?hr ?_; (case ho => rfl); (case hg => rfl); (case hn => rfl); (case hr => first | (go_simp; done) | (go_simp; rfl) | (go_simp; simp only [IntKind.wrap_u8, IntKind.wrap_u32]; congr 4; omega) | (go_simp; simp only [IntKind.wrap_u8, IntKind.wrap_u32]; congr 5; omega)); intro w10 hw; have hg : wr.grownBy w10 (some go7) := (by rw [hw]; exact HP9.2); have hp_ : X_.R w10 w0.heap.size (fun k_ => (P0_ k_ ∨ w.heap.size ≤ k_)) (.slice (some ⟨go7, X_.pre.length, none⟩) x0_1.length co8) y141 := (by rw [hw, Ny141.out]; exact HP9.1); clear HP9; have n0_ := Aside0.mk (hp_); have n1_ := Aside0.mk ((by rw [hw]; exact below_set (HB.out) GB7.out : Below w0.heap.size w0 w10)); have n2_ := Aside0.mk (Kept.of_grown (S := (fun k_ => P0_ k_)) hg (by repeat (first | (with_reducible first | exact HK.out | apply Kept.alloc | apply Kept.drewN | apply Kept.drew) | exact HK.out)) (fun k_ e_ => (HO_0.out.1 k_ e_))); clear HO_0; clear HB; clear HK; have HO_0 := n0_; have HB := n1_; have HK := n2_; clear n0_ n1_ n2_; clear hg hw hp_))
              repeat (go_quiet (first | ((with_reducible refine gate_store (t := 43) (p := 28) rfl ?_); (try (rw [drewN_self wr]; generalize hq_ : World.drewN wr _ = wr; have n0_ := Aside0.mk (Wn.R_at hq_ HO_0.out); have n1_ := Aside0.mk (kept_at hq_ HK.out); have n2_ := Aside0.mk (below_at hq_ HB.out); clear hq_ HO_0 HK HB; have HO_0 := n0_; have HK := n1_; have HB := n2_; clear n0_ n1_ n2_; (try (obtain ⟨hx7_0, hf7_0⟩ := Wn.R_celln HO_0.out (x8_1 : Int) (of_eq_true p7) (of_eq_true q7))); (try (have HP9 := Wn.R_putg HO_0.out (x8_1 : Int) ((IntKind.u64.wrap (x4_1 + (IntKind.u64.wrap ((IntKind.u64.wrap (rd x0_1 x8_1)) + (IntKind.u64.wrap (rd l1 x8_1)))))) % 4294967296) (of_eq_true p7) (of_eq_true q7))))); refine store_event (t := 43) (p := 28) (v := ?vo_w10) (w1 := (wr.setCell ⟨go7, X_.pre.length + (x8_1 : Int).toNat, none⟩ (.int .u32 ((IntKind.u64.wrap (x4_1 + (IntKind.u64.wrap ((IntKind.u64.wrap (rd x0_1 x8_1)) + (IntKind.u64.wrap (rd l1 x8_1)))))) % 4294967296)))) ?hg ?ho ?hn ?hr ?_; (case ho => rfl); (case hg => rfl); (case hn => rfl); (case hr => first | (go_simp; done) | (go_simp; rfl) | (go_simp; simp only [IntKind.wrap_u8, IntKind.wrap_u32]; congr 4; omega) | (go_simp; simp only [IntKind.wrap_u8, IntKind.wrap_u32]; congr 5; omega)); intro w10 hw; have hg : wr.grownBy w10 (some go7) := (by rw [hw]; exact HP9.2); have hp_ : X_.R w10 w0.heap.size (fun k_ => (P0_ k_ ∨ w.heap.size ≤ k_)) (.slice (some ⟨go7, X_.pre.length, none⟩) x0_1.length co8) y141 := (by rw [hw, Ny141.out]; exact HP9.1); clear HP9; have n0_ := Aside0.mk (hp_); have n1_ := Aside0.mk ((by rw [hw]; exact below_set (HB.out) GB7.out : Below w0.heap.size w0 w10)); have n2_ := Aside0.mk (Kept.of_grown (S := (fun k_ => P0_ k_)) hg (by repeat (first | (with_reducible first | exact HK.out | apply Kept.alloc | apply Kept.drewN | apply Kept.drew) | exact HK.out)) (fun k_ e_ => (HO_0.out.1 k_ e_))); clear HO_0; clear HB; clear HK; have HO_0 := n0_; have HB := n1_; have HK := n2_; clear n0_ n1_ n2_; clear hg hw hp_)); try go_wp2_with (first | ((with_reducible refine gate_store (t := 43) (p := 28) rfl ?_); (try (rw [drewN_self wr]; generalize hq_ : World.drewN wr _ = wr; have n0_ := Aside0.mk (Wn.R_at hq_ HO_0.out); have n1_ := Aside0.mk (kept_at hq_ HK.out); have n2_ := Aside0.mk (below_at hq_ HB.out); clear hq_ HO_0 HK HB; have HO_0 := n0_; have HK := n1_; have HB := n2_; clear n0_ n1_ n2_; (try (obtain ⟨hx7_0, hf7_0⟩ := Wn.R_celln HO_0.out (x8_1 : Int) (of_eq_true p7) (of_eq_true q7))); (try (have HP9 := Wn.R_putg HO_0.out (x8_1 : Int) ((IntKind.u64.wrap (x4_1 + (IntKind.u64.wrap ((IntKind.u64.wrap (rd x0_1 x8_1)) + (IntKind.u64.wrap (rd l1 x8_1)))))) % 4294967296) (of_eq_true p7) (of_eq_true q7))))); refine store_event (t := 43) (p := 28) (v := ?vo_w10) (w1 := (wr.setCell ⟨go7, X_.pre.length + (x8_1 : Int).toNat, none⟩ (.int .u32 ((IntKind.u64.wrap (x4_1 + (IntKind.u64.wrap ((IntKind.u64.wrap (rd x0_1 x8_1)) + (IntKind.u64.wrap (rd l1 x8_1)))))) % 4294967296)))) ?hg ?ho ?hn ?hr ?_; (case ho => rfl); (case hg => rfl); (case hn => rfl); (case hr => first | (go_simp; done) | (go_simp; rfl) | (go_simp; simp only [IntKind.wrap_u8, IntKind.wrap_u32]; congr 4; omega) | (go_simp; simp only [IntKind.wrap_u8, IntKind.wrap_u32]; congr 5; omega)); intro w10 hw; have hg : wr.grownBy w10 (some go7) := (by rw [hw]; exact HP9.2); have hp_ : X_.R w10 w0.heap.size (fun k_ => (P0_ k_ ∨ w.heap.size ≤ k_)) (.slice (some ⟨go7, X_.pre.length, none⟩) x0_1.length co8) y141 := (by rw [hw, Ny141.out]; exact HP9.1); clear HP9; have n0_ := Aside0.mk (hp_); have n1_ := Aside0.mk ((by rw [hw]; exact below_set (HB.out) GB7.out : Below w0.heap.size w0 w10)); have n2_ := Aside0.mk (Kept.of_grown (S := (fun k_ => P0_ k_)) hg (by repeat (first | (with_reducible first | exact HK.out | apply Kept.alloc | apply Kept.drewN | apply Kept.drew) | exact HK.out)) (fun k_ e_ => (HO_0.out.1 k_ e_))); clear HO_0; clear HB; clear HK; have HO_0 := n0_; have HB := n1_; have HK := n2_; clear n0_ n1_ n2_; clear hg hw hp_)))
              go_roundg k1
              case measure => have := HK1.out; omega
              case rel => exact ⟨(y141), ((IntKind.u64.wrap (x4_1 + (IntKind.u64.wrap ((IntKind.u64.wrap (rd x0_1 x8_1)) + (IntKind.u64.wrap (rd l1 x8_1)))))) / 4294967296), (wrap64 (x8_1 + 1)), (by first | rfl | (simp; done) | (simp [*]; done) | (refine congrArg (Value.int _) ?_; omega) | (refine congrArg Value.bool ?_; generalize ByteArray.toList _ = z_; cases z_ <;> rfl)), (by first | rfl | (simp; done) | (simp [*]; done) | (refine congrArg (Value.int _) ?_; omega) | (refine congrArg Value.bool ?_; generalize ByteArray.toList _ = z_; cases z_ <;> rfl)), H', ⟨by have := HK1.out; omega⟩, ⟨by (with_reducible repeat (first | apply Wn.R_alloc | apply Wn.R_drewN | apply Wn.R_drew)); exact HO_0.out⟩, ⟨by repeat (first | (with_reducible first | exact HK.out | apply Kept.alloc | apply Kept.drewN | apply Kept.drew) | exact HK.out)⟩, ⟨by repeat (first | (with_reducible first | exact HB.out | apply below_alloc | apply pw_below_drewN | apply below_drew1) | exact HB.out)⟩⟩
            · rw [if_neg c6] at H
              exact absurd H (by simp)
          · rw [if_neg c5] at H
            exact absurd H (by simp)
        · rw [if_neg c4] at H
          exact absurd H (by simp)
      · rw [if_neg c3] at H
        have c3b0 : decide (x8_1 < (l1.length : Int)) = false := decide_eq_false c3
        clear c3
        by_cases c11 : 0 ≤ (l1.length : Int)
        · rw [if_pos c11] at H
          have c11b0 : decide (0 ≤ (l1.length : Int)) = true := decide_eq_true c11
          have c11b1 : decide (0 ≤ l1.length) = true := decide_eq_true (by omega)
          clear c11
          by_cases c12 : (l1.length : Int) < (x0_1.length : Int)
          · rw [if_pos c12] at H
            have c12b0 : decide ((l1.length : Int) < (x0_1.length : Int)) = true := decide_eq_true c12
            have c12b1 : decide (l1.length < x0_1.length) = true := decide_eq_true (Int.ofNat_lt.mp c12)
            clear c12
            obtain ⟨y143, hy143⟩ : ∃ y_ : List Int, y_ = (x0_1.set ((l1.length : Int) : Int).toNat (((rd x0_1 (l1.length : Int)) + ((x4_1) % 4294967296)) % 4294967296)) := ⟨_, rfl⟩
            replace H : (some y143) = some r := by first | (rw [hy143]; with_reducible exact H) | (have H2_ := (Option.bind_some _ _).symm.trans H; rw [hy143]; with_reducible exact H2_) | (have H2_ := (Option.bind_some _ _).symm.trans H; with_reducible exact H2_) | with_reducible exact H | (rw [hy143]; exact H) | exact H
            have Ny143 := Aside0.mk hy143
            clear hy143
            obtain rfl := Option.some.inj H
            obtain ⟨Ao14, co14, eo14⟩ := Wn.R_slice HO_0.out
            subst eo14
            have p142 : 0 ≤ ((l1.length : Int) : Int) := of_decide_eq_true (by first | (with_reducible assumption) | assumption)
            have q142 : (l1.length : Int) < (x0_1.length : Int) := of_decide_eq_true (by first | (with_reducible assumption) | assumption)
            obtain ⟨ad142, e142, hx142_0⟩ := Kd.at_int (Wn.R_reads' HO_0.out).2.2 (l1.length : Int) p142 q142
            cases e142
            (try simp only [Go.IntWalk.toNatUp] at hx142_0)
            replace p142 := eq_true p142
            replace q142 := eq_true q142
            have p13 : 0 ≤ ((l1.length : Int) : Int) := of_decide_eq_true (by first | (with_reducible assumption) | assumption)
            have q13 : ((l1.length : Int) : Int) < ((x0_1.length : Int) : Int) := of_decide_eq_true (by first | (with_reducible assumption) | assumption)
            obtain ⟨go13, co13, eo13, gb13, gl13, cl13, HG13⟩ := Wn.R_form HO_0.out (by omega)
            (first | cases eo13 | (injection eo13 with ea_ en_ ec_; (first | subst ea_ | (injection ea_ with ea_; subst ea_)); subst ec_; clear en_))
            have GB13 := Aside0.mk gb13
            have GG13 := Aside0.mk HG13
            clear gb13 gl13 HG13
            have HMgo13 := Aside0.mk (show (P0_ go13 ∨ w.heap.size ≤ go13) from (HO_0.out.1 _ rfl))
            (first | simp only [win_add] at hx142_0 | skip)
            obtain ⟨hx13_0, hf13_0⟩ := Wn.R_celln HO_0.out ((l1.length : Int) : Int) p13 q13
            (try simp only [Int.toNat_natCast] at hx13_0 hf13_0)
            replace p13 := eq_true p13
            replace q13 := eq_true q13
            have HP15 := Wn.R_putg HO_0.out ((l1.length : Int) : Int) (((rd x0_1 (l1.length : Int)) + ((x4_1) % 4294967296)) % 4294967296) (of_eq_true p13) (of_eq_true q13)
            go_wp2_with (first | ((with_reducible refine gate_store (t := 43) (p := 40) rfl ?_); (try (rw [drewN_self wr]; generalize hq_ : World.drewN wr _ = wr; have n0_ := Aside0.mk (Wn.R_at hq_ HO_0.out); have n1_ := Aside0.mk (kept_at hq_ HK.out); have n2_ := Aside0.mk (below_at hq_ HB.out); clear hq_ HO_0 HK HB; have HO_0 := n0_; have HK := n1_; have HB := n2_; clear n0_ n1_ n2_; (try (obtain ⟨hx13_0, hf13_0⟩ := Wn.R_celln HO_0.out ((l1.length : Int) : Int) (of_eq_true p13) (of_eq_true q13))); (try (have HP15 := Wn.R_putg HO_0.out ((l1.length : Int) : Int) (((rd x0_1 (l1.length : Int)) + ((x4_1) % 4294967296)) % 4294967296) (of_eq_true p13) (of_eq_true q13))))); refine store_event (t := 43) (p := 40) (v := ?vo_w16) (w1 := (wr.setCell ⟨go13, X_.pre.length + ((l1.length : Int) : Int).toNat, none⟩ (.int .u32 (((rd x0_1 (l1.length : Int)) + ((x4_1) % 4294967296)) % 4294967296)))) ?hg ?ho ?hn ?hr ?_; (case ho => rfl); (case hg => rfl); (case hn => rfl); (case hr => first | (go_simp; done) | (go_simp; rfl) | (go_simp; simp only [IntKind.wrap_u8, IntKind.wrap_u32]; congr 4; omega) | (go_simp; simp only [IntKind.wrap_u8, IntKind.wrap_u32]; congr 5; omega)); intro w16 hw; have hg : wr.grownBy w16 (some go13) := (by rw [hw]; exact HP15.2); have hp_ : X_.R w16 w0.heap.size (fun k_ => (P0_ k_ ∨ w.heap.size ≤ k_)) (.slice (some ⟨go13, X_.pre.length, none⟩) x0_1.length co14) y143 := (by rw [hw, Ny143.out]; exact HP15.1); clear HP15; have n0_ := Aside0.mk (hp_); have n1_ := Aside0.mk ((by rw [hw]; exact below_set (HB.out) GB13.out : Below w0.heap.size w0 w16)); have n2_ := Aside0.mk (Kept.of_grown (S := (fun k_ => P0_ k_)) hg (by repeat (first | (with_reducible first | exact HK.out | apply Kept.alloc | apply Kept.drewN | apply Kept.drew) | exact HK.out)) (fun k_ e_ => (HO_0.out.1 k_ e_))); clear HO_0; clear HB; clear HK; have HO_0 := n0_; have HB := n1_; have HK := n2_; clear n0_ n1_ n2_; clear hg hw hp_))
            repeat (go_quiet (first | ((with_reducible refine gate_store (t := 43) (p := 40) rfl ?_); (try (rw [drewN_self wr]; generalize hq_ : World.drewN wr _ = wr; have n0_ := Aside0.mk (Wn.R_at hq_ HO_0.out); have n1_ := Aside0.mk (kept_at hq_ HK.out); have n2_ := Aside0.mk (below_at hq_ HB.out); clear hq_ HO_0 HK HB; have HO_0 := n0_; have HK := n1_; have HB := n2_; clear n0_ n1_ n2_; (try (obtain ⟨hx13_0, hf13_0⟩ := Wn.R_celln HO_0.out ((l1.length : Int) : Int) (of_eq_true p13) (of_eq_true q13))); (try (have HP15 := Wn.R_putg HO_0.out ((l1.length : Int) : Int) (((rd x0_1 (l1.length : Int)) + ((x4_1) % 4294967296)) % 4294967296) (of_eq_true p13) (of_eq_true q13))))); refine store_event (t := 43) (p := 40) (v := ?vo_w16) (w1 := (wr.setCell ⟨go13, X_.pre.length + ((l1.length : Int) : Int).toNat, none⟩ (.int .u32 (((rd x0_1 (l1.length : Int)) + ((x4_1) % 4294967296)) % 4294967296)))) ?hg ?ho ?hn ?hr ?_; (case ho => rfl); (case hg => rfl); (case hn => rfl); (case hr => first | (go_simp; done) | (go_simp; rfl) | (go_simp; simp only [IntKind.wrap_u8, IntKind.wrap_u32]; congr 4; omega) | (go_simp; simp only [IntKind.wrap_u8, IntKind.wrap_u32]; congr 5; omega)); intro w16 hw; have hg : wr.grownBy w16 (some go13) := (by rw [hw]; exact HP15.2); have hp_ : X_.R w16 w0.heap.size (fun k_ => (P0_ k_ ∨ w.heap.size ≤ k_)) (.slice (some ⟨go13, X_.pre.length, none⟩) x0_1.length co14) y143 := (by rw [hw, Ny143.out]; exact HP15.1); clear HP15; have n0_ := Aside0.mk (hp_); have n1_ := Aside0.mk ((by rw [hw]; exact below_set (HB.out) GB13.out : Below w0.heap.size w0 w16)); have n2_ := Aside0.mk (Kept.of_grown (S := (fun k_ => P0_ k_)) hg (by repeat (first | (with_reducible first | exact HK.out | apply Kept.alloc | apply Kept.drewN | apply Kept.drew) | exact HK.out)) (fun k_ e_ => (HO_0.out.1 k_ e_))); clear HO_0; clear HB; clear HK; have HO_0 := n0_; have HB := n1_; have HK := n2_; clear n0_ n1_ n2_; clear hg hw hp_)); try go_wp2_with (first | ((with_reducible refine gate_store (t := 43) (p := 40) rfl ?_); (try (rw [drewN_self wr]; generalize hq_ : World.drewN wr _ = wr; have n0_ := Aside0.mk (Wn.R_at hq_ HO_0.out); have n1_ := Aside0.mk (kept_at hq_ HK.out); have n2_ := Aside0.mk (below_at hq_ HB.out); clear hq_ HO_0 HK HB; have HO_0 := n0_; have HK := n1_; have HB := n2_; clear n0_ n1_ n2_; (try (obtain ⟨hx13_0, hf13_0⟩ := Wn.R_celln HO_0.out ((l1.length : Int) : Int) (of_eq_true p13) (of_eq_true q13))); (try (have HP15 := Wn.R_putg HO_0.out ((l1.length : Int) : Int) (((rd x0_1 (l1.length : Int)) + ((x4_1) % 4294967296)) % 4294967296) (of_eq_true p13) (of_eq_true q13))))); refine store_event (t := 43) (p := 40) (v := ?vo_w16) (w1 := (wr.setCell ⟨go13, X_.pre.length + ((l1.length : Int) : Int).toNat, none⟩ (.int .u32 (((rd x0_1 (l1.length : Int)) + ((x4_1) % 4294967296)) % 4294967296)))) ?hg ?ho ?hn ?hr ?_; (case ho => rfl); (case hg => rfl); (case hn => rfl); (case hr => first | (go_simp; done) | (go_simp; rfl) | (go_simp; simp only [IntKind.wrap_u8, IntKind.wrap_u32]; congr 4; omega) | (go_simp; simp only [IntKind.wrap_u8, IntKind.wrap_u32]; congr 5; omega)); intro w16 hw; have hg : wr.grownBy w16 (some go13) := (by rw [hw]; exact HP15.2); have hp_ : X_.R w16 w0.heap.size (fun k_ => (P0_ k_ ∨ w.heap.size ≤ k_)) (.slice (some ⟨go13, X_.pre.length, none⟩) x0_1.length co14) y143 := (by rw [hw, Ny143.out]; exact HP15.1); clear HP15; have n0_ := Aside0.mk (hp_); have n1_ := Aside0.mk ((by rw [hw]; exact below_set (HB.out) GB13.out : Below w0.heap.size w0 w16)); have n2_ := Aside0.mk (Kept.of_grown (S := (fun k_ => P0_ k_)) hg (by repeat (first | (with_reducible first | exact HK.out | apply Kept.alloc | apply Kept.drewN | apply Kept.drew) | exact HK.out)) (fun k_ e_ => (HO_0.out.1 k_ e_))); clear HO_0; clear HB; clear HK; have HO_0 := n0_; have HB := n1_; have HK := n2_; clear n0_ n1_ n2_; clear hg hw hp_)))
            first | go_end0 | ((try simp only [Exit.inBlock, Exit.then]); refine bodyPost_ret (results_none rfl _ _ _) rfl ?_)
            exact ⟨by first | rfl | (simp [errW_none, errW_some] <;> rfl) | (simp [*, errW_none, errW_some] <;> rfl), by (with_reducible repeat (first | apply Wn.R_alloc | apply Wn.R_drewN | apply Wn.R_drew)); exact HO_0.out, by repeat (first | (with_reducible first | exact HB.out | apply below_alloc | apply pw_below_drewN | apply below_drew1) | exact HB.out), by repeat (first | (with_reducible first | exact HK.out | apply Kept.alloc | apply Kept.drewN | apply Kept.drew) | exact HK.out)⟩
          · rw [if_neg c12] at H
            exact absurd H (by simp)
        · rw [if_neg c11] at H
          exact absurd H (by simp)
set_option maxHeartbeats 8000000 in
set_option maxRecDepth 100000 in
theorem nat_digit.callsW (X_ : Wn) (k : Nat) (P0_ : Nat → Prop) (u9000_ : Value) (l0 : List Int) (A1 : Option Addr) (c1 : Nat) (l1 : List Int) (r1 : Int) (r2 : List Int) (w0 w : World) (hB : Below w0.heap.size w0 w) (ho0 : X_.R w w0.heap.size P0_ u9000_ l0) (hr1 : ∀ W_, Kept w W_ (fun k_ => P0_ k_) → Kd.C (Kd.int .u32) W_ A1 l1.length l1) (hc1 : l1.length ≤ c1) (h : nat_digit.f k l0 l1 = some (r1, r2)) :
    Calls Tryd.prog 39 #[u9000_, .slice A1 l1.length c1] w fun e w' => e = .returned (.int .u32 r1) ∧ X_.R w' w0.heap.size (fun k_ => (P0_ k_ ∨ w.heap.size ≤ k_)) u9000_ r2 ∧ Below w0.heap.size w0 w' ∧ Kept w w' (fun k_ => P0_ k_) := by
  have HO0 := Aside0.mk (show X_.R w w0.heap.size (fun k_ => (P0_ k_ ∨ w.heap.size ≤ k_)) u9000_ l0 from Wn.R_mono ho0 (fun k_ hk => (.inl hk)))
  have HR1 := Aside0.mk hr1
  have HC1 := Aside0.mk hc1
  clear hr1 hc1
  have HK := Aside0.mk (Kept.refl w (fun k_ => P0_ k_))
  have HW0 := Aside0.mk hB.size
  have HB := Aside0.mk hB
  clear hB
  have H : (if 0 ≤ (l1.length : Int) then (if (l1.length : Int) < (l0.length : Int) then (if 0 ≤ (wrap64 ((l1.length : Int) - 1)) then (if (wrap64 ((l1.length : Int) - 1)) < (l0.length : Int) then (if (wrap64 ((l1.length : Int) - 1)) < (l1.length : Int) then (if (IntKind.u64.wrap (rd l1 (wrap64 ((l1.length : Int) - 1)))) = 0 then (none) else (nat_digit.l0 k l0 l1 (l1.length : Int) (mn (IntKind.u64.wrap (Int.tdiv (Go.bits .or .u64 (IntKind.u64.wrap ((IntKind.u64.wrap (rd l0 (l1.length : Int))) * 4294967296)) (IntKind.u64.wrap (rd l0 (wrap64 ((l1.length : Int) - 1))))) (IntKind.u64.wrap (rd l1 (wrap64 ((l1.length : Int) - 1)))))) 4294967295) (IntKind.u64.wrap ((Go.bits .or .u64 (IntKind.u64.wrap ((IntKind.u64.wrap (rd l0 (l1.length : Int))) * 4294967296)) (IntKind.u64.wrap (rd l0 (wrap64 ((l1.length : Int) - 1))))) - (IntKind.u64.wrap ((mn (IntKind.u64.wrap (Int.tdiv (Go.bits .or .u64 (IntKind.u64.wrap ((IntKind.u64.wrap (rd l0 (l1.length : Int))) * 4294967296)) (IntKind.u64.wrap (rd l0 (wrap64 ((l1.length : Int) - 1))))) (IntKind.u64.wrap (rd l1 (wrap64 ((l1.length : Int) - 1)))))) 4294967295) * (IntKind.u64.wrap (rd l1 (wrap64 ((l1.length : Int) - 1)))))))))) else (none)) else (none)) else (none)) else (none)) else (none)) = some (r1, r2) := h
  clear h
  by_cases c3 : 0 ≤ (l1.length : Int)
  · rw [if_pos c3] at H
    have c3b0 : decide (0 ≤ (l1.length : Int)) = true := decide_eq_true c3
    have c3b1 : decide (0 ≤ l1.length) = true := decide_eq_true (by omega)
    clear c3
    by_cases c4 : (l1.length : Int) < (l0.length : Int)
    · rw [if_pos c4] at H
      have c4b0 : decide ((l1.length : Int) < (l0.length : Int)) = true := decide_eq_true c4
      have c4b1 : decide (l1.length < l0.length) = true := decide_eq_true (Int.ofNat_lt.mp c4)
      clear c4
      obtain ⟨ji5, hji5⟩ : ∃ j_ : Int, (wrap64 ((l1.length : Int) - 1)) = j_ := ⟨_, rfl⟩
      replace H : (if 0 ≤ (ji5) then (if (ji5) < (l0.length : Int) then (if (ji5) < (l1.length : Int) then (if (IntKind.u64.wrap (rd l1 (ji5))) = 0 then (none) else (nat_digit.l0 k l0 l1 (l1.length : Int) (mn (IntKind.u64.wrap (Int.tdiv (Go.bits .or .u64 (IntKind.u64.wrap ((IntKind.u64.wrap (rd l0 (l1.length : Int))) * 4294967296)) (IntKind.u64.wrap (rd l0 (ji5)))) (IntKind.u64.wrap (rd l1 (ji5))))) 4294967295) (IntKind.u64.wrap ((Go.bits .or .u64 (IntKind.u64.wrap ((IntKind.u64.wrap (rd l0 (l1.length : Int))) * 4294967296)) (IntKind.u64.wrap (rd l0 (ji5)))) - (IntKind.u64.wrap ((mn (IntKind.u64.wrap (Int.tdiv (Go.bits .or .u64 (IntKind.u64.wrap ((IntKind.u64.wrap (rd l0 (l1.length : Int))) * 4294967296)) (IntKind.u64.wrap (rd l0 (ji5)))) (IntKind.u64.wrap (rd l1 (ji5))))) 4294967295) * (IntKind.u64.wrap (rd l1 (ji5))))))))) else (none)) else (none)) else (none)) = some (r1, r2) := by first | (rw [hji5] at H; exact H) | (simp only [hji5] at H ⊢; exact H)
      have hji5w : (IntKind.i64.wrap ((l1.length : Int) - 1)) = ji5 := (i64_w _).trans hji5
      by_cases c6 : 0 ≤ (ji5)
      · rw [if_pos c6] at H
        have c6b0 : decide (0 ≤ (ji5)) = true := decide_eq_true c6
        clear c6
        by_cases c7 : (ji5) < (l0.length : Int)
        · rw [if_pos c7] at H
          have c7b0 : decide ((ji5) < (l0.length : Int)) = true := decide_eq_true c7
          clear c7
          by_cases c8 : (ji5) < (l1.length : Int)
          · rw [if_pos c8] at H
            have c8b0 : decide ((ji5) < (l1.length : Int)) = true := decide_eq_true c8
            clear c8
            by_cases c9 : (IntKind.u64.wrap (rd l1 (ji5))) = 0
            · rw [if_pos c9] at H
              exact absurd H (by simp)
            · rw [if_neg c9] at H
              have c9b0 : ((IntKind.u64.wrap (rd l1 (ji5))) == 0) = false := beq_eq_false_iff_ne.mpr c9
              have c9b1 : ((IntKind.u64.wrap (rd l1 (ji5))) != 0) = true := bne_iff_ne.mpr c9
              obtain ⟨ji10, hji10⟩ : ∃ j_ : Int, (mn (IntKind.u64.wrap (Int.tdiv (Go.bits .or .u64 (IntKind.u64.wrap ((IntKind.u64.wrap (rd l0 (l1.length : Int))) * 4294967296)) (IntKind.u64.wrap (rd l0 (ji5)))) (IntKind.u64.wrap (rd l1 (ji5))))) 4294967295) = j_ := ⟨_, rfl⟩
              replace H : (nat_digit.l0 k l0 l1 (l1.length : Int) ji10 (IntKind.u64.wrap ((Go.bits .or .u64 (IntKind.u64.wrap ((IntKind.u64.wrap (rd l0 (l1.length : Int))) * 4294967296)) (IntKind.u64.wrap (rd l0 (ji5)))) - (IntKind.u64.wrap ((ji10) * (IntKind.u64.wrap (rd l1 (ji5)))))))) = some (r1, r2) := by first | (rw [hji10] at H; exact H) | (simp only [hji10] at H ⊢; exact H)
              have hji10_ : (if 4294967295 < (IntKind.u64.wrap (Int.tdiv (Go.bits .or .u64 (IntKind.u64.wrap ((IntKind.u64.wrap (rd l0 (l1.length : Int))) * 4294967296)) (IntKind.u64.wrap (rd l0 (ji5)))) (IntKind.u64.wrap (rd l1 (ji5))))) then 4294967295 else (IntKind.u64.wrap (Int.tdiv (Go.bits .or .u64 (IntKind.u64.wrap ((IntKind.u64.wrap (rd l0 (l1.length : Int))) * 4294967296)) (IntKind.u64.wrap (rd l0 (ji5)))) (IntKind.u64.wrap (rd l1 (ji5)))))) = ji10 := hji10
              have HC11 := Aside0.mk H
              clear H
              obtain ⟨Ao12, co12, eo12⟩ := Wn.R_slice HO0.out
              subst eo12
              have p144 : 0 ≤ ((l1.length : Int) : Int) := of_decide_eq_true (by first | (with_reducible assumption) | assumption)
              have q144 : (l1.length : Int) < (l0.length : Int) := of_decide_eq_true (by first | (with_reducible assumption) | assumption)
              obtain ⟨ad144, e144, hx144_0⟩ := Kd.at_int (Wn.R_reads' HO0.out).2.2 (l1.length : Int) p144 q144
              cases e144
              (try simp only [Go.IntWalk.toNatUp] at hx144_0)
              replace p144 := eq_true p144
              replace q144 := eq_true q144
              have p145 : 0 ≤ ((ji5) : Int) := of_decide_eq_true (by first | (with_reducible assumption) | assumption)
              have q145 : (ji5) < (l0.length : Int) := of_decide_eq_true (by first | (with_reducible assumption) | assumption)
              obtain ⟨ad145, e145, hx145_0⟩ := Kd.at_int (Wn.R_reads' HO0.out).2.2 (ji5) p145 q145
              obtain rfl : ad144 = ad145 := (by injection e145)
              replace p145 := eq_true p145
              replace q145 := eq_true q145
              have p146 : 0 ≤ ((ji5) : Int) := of_decide_eq_true (by first | (with_reducible assumption) | assumption)
              have q146 : (ji5) < (l1.length : Int) := of_decide_eq_true (by first | (with_reducible assumption) | assumption)
              obtain ⟨ad146, e146, hx146_0⟩ := Kd.at_int (Kd.C_kept_now HR1.out HK.out) (ji5) p146 q146
              cases e146
              replace p146 := eq_true p146
              replace q146 := eq_true q146
              have p147 : 0 ≤ ((ji5) : Int) := of_decide_eq_true (by first | (with_reducible assumption) | assumption)
              have q147 : (ji5) < (l1.length : Int) := of_decide_eq_true (by first | (with_reducible assumption) | assumption)
              obtain ⟨ad147, e147, hx147_0⟩ := Kd.at_int (Kd.C_kept_now HR1.out HK.out) (ji5) p147 q147
              obtain rfl : ad146 = ad147 := (by injection e147)
              replace p147 := eq_true p147
              replace q147 := eq_true q147
              go_enter Tryd.func39, Tryd.ntmps39
              go_upto_block 0 with (fail)
              repeat (go_quiet (fail); go_upto_block 0 with (fail))
              go_cut [7] (fun v7 wc => ∃ (kq : Nat) (x7_10 : Int), v7 = .int .u64 x7_10 ∧ Aside0 (nat_digit.j1 kq l0 l1 x7_10 = some (r1, r2)) ∧ Aside0 (kq ≤ k) ∧ Aside0 (X_.R wc w0.heap.size (fun k_ => (P0_ k_ ∨ w.heap.size ≤ k_)) (.slice (some ad144) l0.length co12) l0) ∧ Aside0 (Kept w wc (fun k_ => P0_ k_)) ∧ Aside0 (Below w0.heap.size w0 wc))
              case first =>
                have H := HC11.out
                clear HC11
                have H' := Aside0.mk H
                clear H
                go_wp2
                repeat (go_quiet (fail); try go_wp2)
                go_loopg [7, 8] k (fun kq v7 v8 w' => ∃ (x7_1 : Int) (x8_1 : Int), v7 = .int .u64 x7_1 ∧ v8 = .int .u64 x8_1 ∧ Aside0 (nat_digit.l0 kq l0 l1 (l1.length : Int) x7_1 x8_1 = some (r1, r2)) ∧ Aside0 (kq ≤ k) ∧ Aside0 (X_.R w' w0.heap.size (fun k_ => (P0_ k_ ∨ w.heap.size ≤ k_)) (.slice (some ad144) l0.length co12) l0) ∧ Aside0 (Kept w w' (fun k_ => P0_ k_)) ∧ Aside0 (Below w0.heap.size w0 w'))
                case atStart => exact ⟨(ji10), (IntKind.u64.wrap ((Go.bits .or .u64 (IntKind.u64.wrap ((IntKind.u64.wrap (rd l0 (l1.length : Int))) * 4294967296)) (IntKind.u64.wrap (rd l0 (ji5)))) - (IntKind.u64.wrap ((ji10) * (IntKind.u64.wrap (rd l1 (ji5))))))), (by first | rfl | (simp; done) | (simp only [← hji10] <;> (first | rfl | simp)) | (simp [*]; done)), (by first | rfl | (simp; done) | (simp only [← hji5, ← hji10] <;> (first | rfl | simp)) | (simp [*]; done)), H', ⟨Nat.le_refl _⟩, ⟨by (with_reducible repeat (first | apply Wn.R_alloc | apply Wn.R_drewN | apply Wn.R_drew)); exact HO0.out⟩, ⟨by repeat (first | (with_reducible first | exact HK.out | apply Kept.alloc | apply Kept.drewN | apply Kept.drew) | exact HK.out)⟩, ⟨by repeat (first | (with_reducible first | exact HB.out | apply below_alloc | apply pw_below_drewN | apply below_drew1) | exact HB.out)⟩⟩
                case round =>
                  clear H'
                  try clear c1
                  try clear p1
                  try clear q1
                  try clear hx1
                  try clear p2
                  try clear c3
                  try clear c3b0
                  try clear c3b1
                  try clear c4
                  try clear c4b0
                  try clear c4b1
                  try clear c6
                  try clear c6b0
                  try clear p6
                  try clear c7
                  try clear c7b0
                  try clear c8
                  try clear c8b0
                  try clear c9
                  try clear c9b0
                  try clear c9b1
                  try clear hx144_0
                  try clear hx145_0
                  try clear hx146_0
                  try clear hx147_0
                  try clear p144
                  try clear p145
                  try clear p146
                  try clear p147
                  try clear q144
                  try clear q145
                  try clear q146
                  try clear q147
                  obtain ⟨x7_1, x8_1, rfl, rfl, HA, HK1, HO_0, HK, HB⟩ := hrel
                  cases gk with
                  | zero => exact absurd HA.out (by simp [nat_digit.l0])
                  | succ k1 =>
                    have H := HA.out
                    clear HA
                    simp only [nat_digit.l0] at H
                    by_cases c13 : x8_1 < 4294967296
                    · rw [if_pos c13] at H
                      have c13b0 : decide (x8_1 < 4294967296) = true := decide_eq_true c13
                      clear c13
                      (first | rw [c13b0] | rw [c13b1] | (simp only [i64_w, i32_w]; rw [c13b0]) | skip)
                      obtain ⟨ji14, hji14⟩ : ∃ j_ : Int, (wrap64 ((l1.length : Int) - 2)) = j_ := ⟨_, rfl⟩
                      replace H : (if 0 ≤ (ji14) then (if (ji14) < (l1.length : Int) then (if (ji14) < (l0.length : Int) then (if (IntKind.u64.wrap (x7_1 * (IntKind.u64.wrap (rd l1 (ji14))))) > (Go.bits .or .u64 (IntKind.u64.wrap (x8_1 * 4294967296)) (IntKind.u64.wrap (rd l0 (ji14)))) then (if 0 ≤ (wrap64 ((l1.length : Int) - 1)) then (if (wrap64 ((l1.length : Int) - 1)) < (l1.length : Int) then (nat_digit.l0 k1 l0 l1 (l1.length : Int) (IntKind.u64.wrap (x7_1 - 1)) (IntKind.u64.wrap (x8_1 + (IntKind.u64.wrap (rd l1 (wrap64 ((l1.length : Int) - 1))))))) else (none)) else (none)) else (nat_digit.j1 k1 l0 l1 x7_1)) else (none)) else (none)) else (none)) = some (r1, r2) := by first | (rw [hji14] at H; exact H) | (simp only [hji14] at H ⊢; exact H)
                      have hji14w : (IntKind.i64.wrap ((l1.length : Int) - 2)) = ji14 := (i64_w _).trans hji14
                      by_cases c15 : 0 ≤ (ji14)
                      · rw [if_pos c15] at H
                        have c15b0 : decide (0 ≤ (ji14)) = true := decide_eq_true c15
                        clear c15
                        by_cases c16 : (ji14) < (l1.length : Int)
                        · rw [if_pos c16] at H
                          have c16b0 : decide ((ji14) < (l1.length : Int)) = true := decide_eq_true c16
                          clear c16
                          by_cases c17 : (ji14) < (l0.length : Int)
                          · rw [if_pos c17] at H
                            have c17b0 : decide ((ji14) < (l0.length : Int)) = true := decide_eq_true c17
                            clear c17
                            by_cases c18 : (IntKind.u64.wrap (x7_1 * (IntKind.u64.wrap (rd l1 (ji14))))) > (Go.bits .or .u64 (IntKind.u64.wrap (x8_1 * 4294967296)) (IntKind.u64.wrap (rd l0 (ji14))))
                            · rw [if_pos c18] at H
                              have c18b0 : decide ((Go.bits .or .u64 (IntKind.u64.wrap (x8_1 * 4294967296)) (IntKind.u64.wrap (rd l0 (ji14)))) < (IntKind.u64.wrap (x7_1 * (IntKind.u64.wrap (rd l1 (ji14)))))) = true := decide_eq_true c18
                              clear c18
                              obtain ⟨ji19, hji19⟩ : ∃ j_ : Int, (wrap64 ((l1.length : Int) - 1)) = j_ := ⟨_, rfl⟩
                              replace H : (if 0 ≤ (ji19) then (if (ji19) < (l1.length : Int) then (nat_digit.l0 k1 l0 l1 (l1.length : Int) (IntKind.u64.wrap (x7_1 - 1)) (IntKind.u64.wrap (x8_1 + (IntKind.u64.wrap (rd l1 (ji19)))))) else (none)) else (none)) = some (r1, r2) := by first | (rw [hji19] at H; exact H) | (simp only [hji19] at H ⊢; exact H)
                              (try rw [hji19] at hji5)
                              (try rw [hji19] at hji5w)
                              have hji19w : (IntKind.i64.wrap ((l1.length : Int) - 1)) = ji19 := (i64_w _).trans hji19
                              (try clear hji5w)
                              (try clear hji5)
                              by_cases c20 : 0 ≤ (ji19)
                              · rw [if_pos c20] at H
                                have c20b0 : decide (0 ≤ (ji19)) = true := decide_eq_true c20
                                clear c20
                                by_cases c21 : (ji19) < (l1.length : Int)
                                · rw [if_pos c21] at H
                                  have c21b0 : decide ((ji19) < (l1.length : Int)) = true := decide_eq_true c21
                                  clear c21
                                  have H' := Aside0.mk H
                                  clear H
                                  have p148 : 0 ≤ ((ji14) : Int) := of_decide_eq_true (by first | (with_reducible assumption) | assumption)
                                  have q148 : (ji14) < (l1.length : Int) := of_decide_eq_true (by first | (with_reducible assumption) | assumption)
                                  obtain ⟨ad148, e148, hx148_0⟩ := Kd.at_int (Kd.C_kept_now HR1.out HK.out) (ji14) p148 q148
                                  obtain rfl : ad146 = ad148 := (by injection e148)
                                  replace p148 := eq_true p148
                                  replace q148 := eq_true q148
                                  have p149 : 0 ≤ ((ji14) : Int) := of_decide_eq_true (by first | (with_reducible assumption) | assumption)
                                  have q149 : (ji14) < (l0.length : Int) := of_decide_eq_true (by first | (with_reducible assumption) | assumption)
                                  obtain ⟨ad149, e149, hx149_0⟩ := Kd.at_int (Wn.R_reads' HO_0.out).2.2 (ji14) p149 q149
                                  obtain rfl : ad144 = ad149 := (by injection e149)
                                  replace p149 := eq_true p149
                                  replace q149 := eq_true q149
                                  have p150 : 0 ≤ ((ji19) : Int) := of_decide_eq_true (by first | (with_reducible assumption) | assumption)
                                  have q150 : (ji19) < (l1.length : Int) := of_decide_eq_true (by first | (with_reducible assumption) | assumption)
                                  obtain ⟨ad150, e150, hx150_0⟩ := Kd.at_int (Kd.C_kept_now HR1.out HK.out) (ji19) p150 q150
                                  obtain rfl : ad146 = ad150 := (by injection e150)
                                  replace p150 := eq_true p150
                                  replace q150 := eq_true q150
                                  go_wp2
                                  repeat (go_quiet (fail); try go_wp2)
                                  go_roundg k1
                                  case measure => have := HK1.out; omega
                                  case rel => exact ⟨(IntKind.u64.wrap (x7_1 - 1)), (IntKind.u64.wrap (x8_1 + (IntKind.u64.wrap (rd l1 (ji19))))), (by first | rfl | (simp; done) | (simp [*]; done) | (refine congrArg (Value.int _) ?_; omega) | (refine congrArg Value.bool ?_; generalize ByteArray.toList _ = z_; cases z_ <;> rfl)), (by first | rfl | (simp; done) | (simp only [← hji19] <;> (first | rfl | simp)) | (simp [*]; done)), H', ⟨by have := HK1.out; omega⟩, ⟨by (with_reducible repeat (first | apply Wn.R_alloc | apply Wn.R_drewN | apply Wn.R_drew)); exact HO_0.out⟩, ⟨by repeat (first | (with_reducible first | exact HK.out | apply Kept.alloc | apply Kept.drewN | apply Kept.drew) | exact HK.out)⟩, ⟨by repeat (first | (with_reducible first | exact HB.out | apply below_alloc | apply pw_below_drewN | apply below_drew1) | exact HB.out)⟩⟩
                                · rw [if_neg c21] at H
                                  exact absurd H (by simp)
                              · rw [if_neg c20] at H
                                exact absurd H (by simp)
                            · rw [if_neg c18] at H
                              have c18b0 : decide ((Go.bits .or .u64 (IntKind.u64.wrap (x8_1 * 4294967296)) (IntKind.u64.wrap (rd l0 (ji14)))) < (IntKind.u64.wrap (x7_1 * (IntKind.u64.wrap (rd l1 (ji14)))))) = false := decide_eq_false c18
                              clear c18
                              have H' := Aside0.mk H
                              clear H
                              have p148 : 0 ≤ ((ji14) : Int) := of_decide_eq_true (by first | (with_reducible assumption) | assumption)
                              have q148 : (ji14) < (l1.length : Int) := of_decide_eq_true (by first | (with_reducible assumption) | assumption)
                              obtain ⟨ad148, e148, hx148_0⟩ := Kd.at_int (Kd.C_kept_now HR1.out HK.out) (ji14) p148 q148
                              obtain rfl : ad146 = ad148 := (by injection e148)
                              replace p148 := eq_true p148
                              replace q148 := eq_true q148
                              have p149 : 0 ≤ ((ji14) : Int) := of_decide_eq_true (by first | (with_reducible assumption) | assumption)
                              have q149 : (ji14) < (l0.length : Int) := of_decide_eq_true (by first | (with_reducible assumption) | assumption)
                              obtain ⟨ad149, e149, hx149_0⟩ := Kd.at_int (Wn.R_reads' HO_0.out).2.2 (ji14) p149 q149
                              obtain rfl : ad144 = ad149 := (by injection e149)
                              replace p149 := eq_true p149
                              replace q149 := eq_true q149
                              go_wp2
                              repeat (go_quiet (fail); try go_wp2)
                              go_meet
                              case rel => exact ⟨_, (x7_1), (by first | rfl | (simp; done) | (simp [*]; done) | (refine congrArg (Value.int _) ?_; omega) | (refine congrArg Value.bool ?_; generalize ByteArray.toList _ = z_; cases z_ <;> rfl)), H', ⟨by have := HK1.out; first | omega | exact Nat.le_refl _⟩, ⟨by (with_reducible repeat (first | apply Wn.R_alloc | apply Wn.R_drewN | apply Wn.R_drew)); exact HO_0.out⟩, ⟨by repeat (first | (with_reducible first | exact HK.out | apply Kept.alloc | apply Kept.drewN | apply Kept.drew) | exact HK.out)⟩, ⟨by repeat (first | (with_reducible first | exact HB.out | apply below_alloc | apply pw_below_drewN | apply below_drew1) | exact HB.out)⟩⟩
                          · rw [if_neg c17] at H
                            exact absurd H (by simp)
                        · rw [if_neg c16] at H
                          exact absurd H (by simp)
                      · rw [if_neg c15] at H
                        exact absurd H (by simp)
                    · rw [if_neg c13] at H
                      have c13b0 : decide (x8_1 < 4294967296) = false := decide_eq_false c13
                      clear c13
                      (first | rw [c13b0] | rw [c13b1] | (simp only [i64_w, i32_w]; rw [c13b0]) | skip)
                      have H' := Aside0.mk H
                      clear H
                      go_wp2
                      repeat (go_quiet (fail); try go_wp2)
                      go_meet
                      case rel => exact ⟨_, (x7_1), (by first | rfl | (simp; done) | (simp [*]; done) | (refine congrArg (Value.int _) ?_; omega) | (refine congrArg Value.bool ?_; generalize ByteArray.toList _ = z_; cases z_ <;> rfl)), H', ⟨by have := HK1.out; first | omega | exact Nat.le_refl _⟩, ⟨by (with_reducible repeat (first | apply Wn.R_alloc | apply Wn.R_drewN | apply Wn.R_drew)); exact HO_0.out⟩, ⟨by repeat (first | (with_reducible first | exact HK.out | apply Kept.alloc | apply Kept.drewN | apply Kept.drew) | exact HK.out)⟩, ⟨by repeat (first | (with_reducible first | exact HB.out | apply below_alloc | apply pw_below_drewN | apply below_drew1) | exact HB.out)⟩⟩
              case rest =>
                clear HC11
                try clear c1
                try clear p1
                try clear q1
                try clear hx1
                try clear c2
                try clear p2
                try clear c3
                try clear c3b0
                try clear c3b1
                try clear c4
                try clear c4b0
                try clear c4b1
                try clear c6
                try clear c6b0
                try clear p6
                try clear c7
                try clear c7b0
                try clear c8
                try clear c8b0
                try clear c9
                try clear c9b0
                try clear c9b1
                try clear c13
                try clear c13b0
                try clear p14
                try clear q14
                try clear hx14
                try clear c15
                try clear c15b0
                try clear p15
                try clear q15
                try clear hx15
                try clear c16
                try clear c16b0
                try clear c17
                try clear c17b0
                try clear c18
                try clear c18b0
                try clear c20
                try clear c20b0
                try clear c21
                try clear c21b0
                try clear hx144_0
                try clear hx145_0
                try clear hx146_0
                try clear hx147_0
                try clear hx148_0
                try clear hx149_0
                try clear hx150_0
                try clear p1
                try clear p144
                try clear p145
                try clear p146
                try clear p147
                try clear p148
                try clear p149
                try clear p150
                try clear p2
                try clear p6
                try clear q1
                try clear q144
                try clear q145
                try clear q146
                try clear q147
                try clear q148
                try clear q149
                try clear q150
                obtain ⟨kq, x7_10, rfl, HA, HJ10, HO_0, HK, HB⟩ := hcut
                cases kq with
                | zero => exact absurd HA.out (by simp [nat_digit.j1])
                | succ kj10 =>
                  have H := HA.out
                  clear HA
                  simp only [nat_digit.j1] at H
                  replace H := Option.bind_eq_some_iff.mp H
                  obtain ⟨⟨t151, t152⟩, A220, H⟩ := H
                  replace H : (if t151 = true then ((nat_give.f kj10 t152 l1).bind fun t153 => (some ((IntKind.u64.wrap (x7_10 - 1)) % 4294967296, t153))) else (some ((x7_10) % 4294967296, t152))) = some (r1, r2) := H
                  have A22 := Aside0.mk A220
                  clear A220
                  by_cases c23 : t151 = true
                  · subst c23
                    have H1 : ((nat_give.f kj10 t152 l1).bind fun t153 => (some ((IntKind.u64.wrap (x7_10 - 1)) % 4294967296, t153))) = some (r1, r2) := by rw [if_pos rfl] at H; exact H
                    clear H
                    have H := H1
                    clear H1
                    replace H := Option.bind_eq_some_iff.mp H
                    obtain ⟨t153, A240, H⟩ := H
                    replace H : (some ((IntKind.u64.wrap (x7_10 - 1)) % 4294967296, t153)) = some (r1, r2) := H
                    have A24 := Aside0.mk A240
                    clear A240
                    simp only [Option.some.injEq, Prod.mk.injEq] at H
                    obtain ⟨rfl, rfl⟩ := H
                    go_wp2_with (first | (go_at_call 53; (with_reducible refine (nat_take.callsW X_ kj10 (fun k_ => some k_ = (.slice (some ad144) l0.length co12 : Value).ownBlock) (.slice (some ad144) l0.length co12) l0 _ _ l1 x7_10 true t152 w0 _ ?side1 ?side2 ?side3 ?side4 A22.out).mono ?_); (case side1 => repeat (first | (with_reducible first | exact HB.out | apply below_alloc | apply pw_below_drewN | apply below_drew1) | exact HB.out)); (case side2 => exact Wn.R_tight HO_0.out); (case side3 => exact Kd.C_kept_call HR1.out (by repeat (first | (with_reducible first | exact HK.out | apply Kept.alloc | apply Kept.drewN | apply Kept.drew) | exact HK.out)) (fun k_ hs_ => (fun e_ => (HO_0.out.1 k_ e_.symm)) hs_)); (case side4 => exact HC1.out); rintro e w25 ⟨rfl, hy0, hb, hkp⟩; have n0_ := Aside0.mk (Wn.R_reok hy0 (fun k_ e_ => HO_0.out.1 k_ e_)); have n1_ := Aside0.mk (Kept.then_ (S := (fun k_ => P0_ k_)) (by repeat (first | (with_reducible first | exact HK.out | apply Kept.alloc | apply Kept.drewN | apply Kept.drew) | exact HK.out)) hkp (fun k_ hs_ => (fun e_ => (HO_0.out.1 k_ e_.symm)) hs_)); have n2_ := Aside0.mk (hb); clear HO_0; clear HK; clear HB; have HO_0 := n0_; have HK := n1_; have HB := n2_; clear n0_ n1_ n2_; (try clear hb); (try clear hkp); (try clear hy0)) | (go_at_call 54; (with_reducible refine (nat_give.callsW X_ kj10 (fun k_ => some k_ = (.slice (some ad144) l0.length co12 : Value).ownBlock) (.slice (some ad144) l0.length co12) t152 _ _ l1 t153 w0 _ ?side1 ?side2 ?side3 ?side4 A24.out).mono ?_); (case side1 => repeat (first | (with_reducible first | exact HB.out | apply below_alloc | apply pw_below_drewN | apply below_drew1) | exact HB.out)); (case side2 => exact Wn.R_tight HO_0.out); (case side3 => exact Kd.C_kept_call HR1.out (by repeat (first | (with_reducible first | exact HK.out | apply Kept.alloc | apply Kept.drewN | apply Kept.drew) | exact HK.out)) (fun k_ hs_ => (fun e_ => (HO_0.out.1 k_ e_.symm)) hs_)); (case side4 => exact HC1.out); rintro e w26 ⟨rfl, hy0, hb, hkp⟩; have n0_ := Aside0.mk (Wn.R_reok hy0 (fun k_ e_ => HO_0.out.1 k_ e_)); have n1_ := Aside0.mk (Kept.then_ (S := (fun k_ => P0_ k_)) (by repeat (first | (with_reducible first | exact HK.out | apply Kept.alloc | apply Kept.drewN | apply Kept.drew) | exact HK.out)) hkp (fun k_ hs_ => (fun e_ => (HO_0.out.1 k_ e_.symm)) hs_)); have n2_ := Aside0.mk (hb); clear HO_0; clear HK; clear HB; have HO_0 := n0_; have HK := n1_; have HB := n2_; clear n0_ n1_ n2_; (try clear hb); (try clear hkp); (try clear hy0)))
                    repeat (go_quiet (first | (go_at_call 53; (with_reducible refine (nat_take.callsW X_ kj10 (fun k_ => some k_ = (.slice (some ad144) l0.length co12 : Value).ownBlock) (.slice (some ad144) l0.length co12) l0 _ _ l1 x7_10 true t152 w0 _ ?side1 ?side2 ?side3 ?side4 A22.out).mono ?_); (case side1 => repeat (first | (with_reducible first | exact HB.out | apply below_alloc | apply pw_below_drewN | apply below_drew1) | exact HB.out)); (case side2 => exact Wn.R_tight HO_0.out); (case side3 => exact Kd.C_kept_call HR1.out (by repeat (first | (with_reducible first | exact HK.out | apply Kept.alloc | apply Kept.drewN | apply Kept.drew) | exact HK.out)) (fun k_ hs_ => (fun e_ => (HO_0.out.1 k_ e_.symm)) hs_)); (case side4 => exact HC1.out); rintro e w25 ⟨rfl, hy0, hb, hkp⟩; have n0_ := Aside0.mk (Wn.R_reok hy0 (fun k_ e_ => HO_0.out.1 k_ e_)); have n1_ := Aside0.mk (Kept.then_ (S := (fun k_ => P0_ k_)) (by repeat (first | (with_reducible first | exact HK.out | apply Kept.alloc | apply Kept.drewN | apply Kept.drew) | exact HK.out)) hkp (fun k_ hs_ => (fun e_ => (HO_0.out.1 k_ e_.symm)) hs_)); have n2_ := Aside0.mk (hb); clear HO_0; clear HK; clear HB; have HO_0 := n0_; have HK := n1_; have HB := n2_; clear n0_ n1_ n2_; (try clear hb); (try clear hkp); (try clear hy0)) | (go_at_call 54; (with_reducible refine (nat_give.callsW X_ kj10 (fun k_ => some k_ = (.slice (some ad144) l0.length co12 : Value).ownBlock) (.slice (some ad144) l0.length co12) t152 _ _ l1 t153 w0 _ ?side1 ?side2 ?side3 ?side4 A24.out).mono ?_); (case side1 => repeat (first | (with_reducible first | exact HB.out | apply below_alloc | apply pw_below_drewN | apply below_drew1) | exact HB.out)); (case side2 => exact Wn.R_tight HO_0.out); (case side3 => exact Kd.C_kept_call HR1.out (by repeat (first | (with_reducible first | exact HK.out | apply Kept.alloc | apply Kept.drewN | apply Kept.drew) | exact HK.out)) (fun k_ hs_ => (fun e_ => (HO_0.out.1 k_ e_.symm)) hs_)); (case side4 => exact HC1.out); rintro e w26 ⟨rfl, hy0, hb, hkp⟩; have n0_ := Aside0.mk (Wn.R_reok hy0 (fun k_ e_ => HO_0.out.1 k_ e_)); have n1_ := Aside0.mk (Kept.then_ (S := (fun k_ => P0_ k_)) (by repeat (first | (with_reducible first | exact HK.out | apply Kept.alloc | apply Kept.drewN | apply Kept.drew) | exact HK.out)) hkp (fun k_ hs_ => (fun e_ => (HO_0.out.1 k_ e_.symm)) hs_)); have n2_ := Aside0.mk (hb); clear HO_0; clear HK; clear HB; have HO_0 := n0_; have HK := n1_; have HB := n2_; clear n0_ n1_ n2_; (try clear hb); (try clear hkp); (try clear hy0))); try go_wp2_with (first | (go_at_call 53; (with_reducible refine (nat_take.callsW X_ kj10 (fun k_ => some k_ = (.slice (some ad144) l0.length co12 : Value).ownBlock) (.slice (some ad144) l0.length co12) l0 _ _ l1 x7_10 true t152 w0 _ ?side1 ?side2 ?side3 ?side4 A22.out).mono ?_); (case side1 => repeat (first | (with_reducible first | exact HB.out | apply below_alloc | apply pw_below_drewN | apply below_drew1) | exact HB.out)); (case side2 => exact Wn.R_tight HO_0.out); (case side3 => exact Kd.C_kept_call HR1.out (by repeat (first | (with_reducible first | exact HK.out | apply Kept.alloc | apply Kept.drewN | apply Kept.drew) | exact HK.out)) (fun k_ hs_ => (fun e_ => (HO_0.out.1 k_ e_.symm)) hs_)); (case side4 => exact HC1.out); rintro e w25 ⟨rfl, hy0, hb, hkp⟩; have n0_ := Aside0.mk (Wn.R_reok hy0 (fun k_ e_ => HO_0.out.1 k_ e_)); have n1_ := Aside0.mk (Kept.then_ (S := (fun k_ => P0_ k_)) (by repeat (first | (with_reducible first | exact HK.out | apply Kept.alloc | apply Kept.drewN | apply Kept.drew) | exact HK.out)) hkp (fun k_ hs_ => (fun e_ => (HO_0.out.1 k_ e_.symm)) hs_)); have n2_ := Aside0.mk (hb); clear HO_0; clear HK; clear HB; have HO_0 := n0_; have HK := n1_; have HB := n2_; clear n0_ n1_ n2_; (try clear hb); (try clear hkp); (try clear hy0)) | (go_at_call 54; (with_reducible refine (nat_give.callsW X_ kj10 (fun k_ => some k_ = (.slice (some ad144) l0.length co12 : Value).ownBlock) (.slice (some ad144) l0.length co12) t152 _ _ l1 t153 w0 _ ?side1 ?side2 ?side3 ?side4 A24.out).mono ?_); (case side1 => repeat (first | (with_reducible first | exact HB.out | apply below_alloc | apply pw_below_drewN | apply below_drew1) | exact HB.out)); (case side2 => exact Wn.R_tight HO_0.out); (case side3 => exact Kd.C_kept_call HR1.out (by repeat (first | (with_reducible first | exact HK.out | apply Kept.alloc | apply Kept.drewN | apply Kept.drew) | exact HK.out)) (fun k_ hs_ => (fun e_ => (HO_0.out.1 k_ e_.symm)) hs_)); (case side4 => exact HC1.out); rintro e w26 ⟨rfl, hy0, hb, hkp⟩; have n0_ := Aside0.mk (Wn.R_reok hy0 (fun k_ e_ => HO_0.out.1 k_ e_)); have n1_ := Aside0.mk (Kept.then_ (S := (fun k_ => P0_ k_)) (by repeat (first | (with_reducible first | exact HK.out | apply Kept.alloc | apply Kept.drewN | apply Kept.drew) | exact HK.out)) hkp (fun k_ hs_ => (fun e_ => (HO_0.out.1 k_ e_.symm)) hs_)); have n2_ := Aside0.mk (hb); clear HO_0; clear HK; clear HB; have HO_0 := n0_; have HK := n1_; have HB := n2_; clear n0_ n1_ n2_; (try clear hb); (try clear hkp); (try clear hy0))))
                    go_ret
                    exact ⟨by first | rfl | (simp [errW_none, errW_some] <;> rfl) | (simp only [← hji5, ← hji10]; first | rfl | (simp [errW_none, errW_some] <;> rfl)) | (simp [*, errW_none, errW_some] <;> rfl), by (with_reducible repeat (first | apply Wn.R_alloc | apply Wn.R_drewN | apply Wn.R_drew)); exact HO_0.out, by repeat (first | (with_reducible first | exact HB.out | apply below_alloc | apply pw_below_drewN | apply below_drew1) | exact HB.out), by repeat (first | (with_reducible first | exact HK.out | apply Kept.alloc | apply Kept.drewN | apply Kept.drew) | exact HK.out)⟩
                  · replace c23 := Bool.eq_false_iff.mpr c23
                    subst c23
                    have H1 : (some ((x7_10) % 4294967296, t152)) = some (r1, r2) := by rw [if_neg (show ¬ (false = true) by decide)] at H; exact H
                    clear H
                    have H := H1
                    clear H1
                    simp only [Option.some.injEq, Prod.mk.injEq] at H
                    obtain ⟨rfl, rfl⟩ := H
                    go_wp2_with (first | (go_at_call 53; (with_reducible refine (nat_take.callsW X_ kj10 (fun k_ => some k_ = (.slice (some ad144) l0.length co12 : Value).ownBlock) (.slice (some ad144) l0.length co12) l0 _ _ l1 x7_10 false t152 w0 _ ?side1 ?side2 ?side3 ?side4 A22.out).mono ?_); (case side1 => repeat (first | (with_reducible first | exact HB.out | apply below_alloc | apply pw_below_drewN | apply below_drew1) | exact HB.out)); (case side2 => exact Wn.R_tight HO_0.out); (case side3 => exact Kd.C_kept_call HR1.out (by repeat (first | (with_reducible first | exact HK.out | apply Kept.alloc | apply Kept.drewN | apply Kept.drew) | exact HK.out)) (fun k_ hs_ => (fun e_ => (HO_0.out.1 k_ e_.symm)) hs_)); (case side4 => exact HC1.out); rintro e w27 ⟨rfl, hy0, hb, hkp⟩; have n0_ := Aside0.mk (Wn.R_reok hy0 (fun k_ e_ => HO_0.out.1 k_ e_)); have n1_ := Aside0.mk (Kept.then_ (S := (fun k_ => P0_ k_)) (by repeat (first | (with_reducible first | exact HK.out | apply Kept.alloc | apply Kept.drewN | apply Kept.drew) | exact HK.out)) hkp (fun k_ hs_ => (fun e_ => (HO_0.out.1 k_ e_.symm)) hs_)); have n2_ := Aside0.mk (hb); clear HO_0; clear HK; clear HB; have HO_0 := n0_; have HK := n1_; have HB := n2_; clear n0_ n1_ n2_; (try clear hb); (try clear hkp); (try clear hy0)))
                    repeat (go_quiet (first | (go_at_call 53; (with_reducible refine (nat_take.callsW X_ kj10 (fun k_ => some k_ = (.slice (some ad144) l0.length co12 : Value).ownBlock) (.slice (some ad144) l0.length co12) l0 _ _ l1 x7_10 false t152 w0 _ ?side1 ?side2 ?side3 ?side4 A22.out).mono ?_); (case side1 => repeat (first | (with_reducible first | exact HB.out | apply below_alloc | apply pw_below_drewN | apply below_drew1) | exact HB.out)); (case side2 => exact Wn.R_tight HO_0.out); (case side3 => exact Kd.C_kept_call HR1.out (by repeat (first | (with_reducible first | exact HK.out | apply Kept.alloc | apply Kept.drewN | apply Kept.drew) | exact HK.out)) (fun k_ hs_ => (fun e_ => (HO_0.out.1 k_ e_.symm)) hs_)); (case side4 => exact HC1.out); rintro e w27 ⟨rfl, hy0, hb, hkp⟩; have n0_ := Aside0.mk (Wn.R_reok hy0 (fun k_ e_ => HO_0.out.1 k_ e_)); have n1_ := Aside0.mk (Kept.then_ (S := (fun k_ => P0_ k_)) (by repeat (first | (with_reducible first | exact HK.out | apply Kept.alloc | apply Kept.drewN | apply Kept.drew) | exact HK.out)) hkp (fun k_ hs_ => (fun e_ => (HO_0.out.1 k_ e_.symm)) hs_)); have n2_ := Aside0.mk (hb); clear HO_0; clear HK; clear HB; have HO_0 := n0_; have HK := n1_; have HB := n2_; clear n0_ n1_ n2_; (try clear hb); (try clear hkp); (try clear hy0))); try go_wp2_with (first | (go_at_call 53; (with_reducible refine (nat_take.callsW X_ kj10 (fun k_ => some k_ = (.slice (some ad144) l0.length co12 : Value).ownBlock) (.slice (some ad144) l0.length co12) l0 _ _ l1 x7_10 false t152 w0 _ ?side1 ?side2 ?side3 ?side4 A22.out).mono ?_); (case side1 => repeat (first | (with_reducible first | exact HB.out | apply below_alloc | apply pw_below_drewN | apply below_drew1) | exact HB.out)); (case side2 => exact Wn.R_tight HO_0.out); (case side3 => exact Kd.C_kept_call HR1.out (by repeat (first | (with_reducible first | exact HK.out | apply Kept.alloc | apply Kept.drewN | apply Kept.drew) | exact HK.out)) (fun k_ hs_ => (fun e_ => (HO_0.out.1 k_ e_.symm)) hs_)); (case side4 => exact HC1.out); rintro e w27 ⟨rfl, hy0, hb, hkp⟩; have n0_ := Aside0.mk (Wn.R_reok hy0 (fun k_ e_ => HO_0.out.1 k_ e_)); have n1_ := Aside0.mk (Kept.then_ (S := (fun k_ => P0_ k_)) (by repeat (first | (with_reducible first | exact HK.out | apply Kept.alloc | apply Kept.drewN | apply Kept.drew) | exact HK.out)) hkp (fun k_ hs_ => (fun e_ => (HO_0.out.1 k_ e_.symm)) hs_)); have n2_ := Aside0.mk (hb); clear HO_0; clear HK; clear HB; have HO_0 := n0_; have HK := n1_; have HB := n2_; clear n0_ n1_ n2_; (try clear hb); (try clear hkp); (try clear hy0))))
                    go_ret
                    exact ⟨by first | rfl | (simp [errW_none, errW_some] <;> rfl) | (simp only [← hji5, ← hji10]; first | rfl | (simp [errW_none, errW_some] <;> rfl)) | (simp [*, errW_none, errW_some] <;> rfl), by (with_reducible repeat (first | apply Wn.R_alloc | apply Wn.R_drewN | apply Wn.R_drew)); exact HO_0.out, by repeat (first | (with_reducible first | exact HB.out | apply below_alloc | apply pw_below_drewN | apply below_drew1) | exact HB.out), by repeat (first | (with_reducible first | exact HK.out | apply Kept.alloc | apply Kept.drewN | apply Kept.drew) | exact HK.out)⟩
          · rw [if_neg c8] at H
            exact absurd H (by simp)
        · rw [if_neg c7] at H
          exact absurd H (by simp)
      · rw [if_neg c6] at H
        exact absurd H (by simp)
    · rw [if_neg c4] at H
      exact absurd H (by simp)
  · rw [if_neg c3] at H
    exact absurd H (by simp)
end Go.Proofs.YtlfpnohpcemkgaaDoor.H
