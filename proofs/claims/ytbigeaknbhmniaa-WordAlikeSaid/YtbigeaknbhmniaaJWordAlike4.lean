/- Joined by wip/tools/shake.py for the claim of WordAlike: PBx6, PBx11, PBx2, HConcat, HDelete, HJoined, HText. -/
import Derived.Test.YtbigeaknbhmniaaJWordAlike2
import Derived.Test.YtbigeaknbhmniaaJWordAlike3
import Derived.Test.YtbigeaknbhmniaaJWordAlike1
import Derived.WalkKit
import Derived.KernelRfl
import Derived.Deep.RegionLaw
import Derived.Shelf.RegionOpenPlain
import Derived.Lib.SliceRun
import Derived.Lib.BufferOwn
import Derived.Deep.LoopGhost
import Derived.Lib.Walk
/- Written by a program of this session, wip/tools/patch_print.py, over the kit's print of the loaded functions. -/
namespace Go.Proofs.Ytbigeaknbhmniaa.H
end Go.Proofs.Ytbigeaknbhmniaa.H
namespace Go.Proofs.Ytbigeaknbhmniaa.PB
open Go.RowKit Go.Proofs.YtbigeaknbhmniaaW.PrintWords Go.Proofs.YtbigeaknbhmniaaW.PrintLast Go.Proofs.YtbigeaknbhmniaaW.PrintMore Go.Proofs.Ytbigeaknbhmniaa.H
attribute [local go_sem] max2_int min2_int max_two min_two max_three min_three max_four min_four   -- for this text's walks alone
set_option linter.unusedVariables false
set_option linter.unusedSimpArgs false

/-! ### gudgeonlaw17_of: function 37 -/
def gudgeonlaw17_of.l0 : Nat → ByteArray → List (S69) → Int → Option ((List (S69)))
 | 0, _, _, _ => none
 | k + 1, x0, x3, x4 => if x4 < (x0.size : Int) then (if 0 ≤ x4 then (if (bt x0 x4) ≥ 120 then (if x3.length < 8796093022208 then (gudgeonlaw17_of.l0 k x0 (x3 ++ [(⟨((bt x0 x4) - 120) % 256, 0⟩ : S69)]) (wrap64 (x4 + 1))) else (none)) else (if x3.length < 8796093022208 then (gudgeonlaw17_of.l0 k x0 (x3 ++ [(⟨(-1), wrap64 (bt x0 x4)⟩ : S69)]) (wrap64 (x4 + 1))) else (none))) else (none)) else (some x3)
def gudgeonlaw17_of.f (k : Nat) (a0 : ByteArray) : Option ((List (S69))) := gudgeonlaw17_of.l0 k a0 ([] : List (S69)) 0
theorem gudgeonlaw17_of.mono_l : ∀ k, (∀ y0 y1 y2, LeO (gudgeonlaw17_of.l0 k y0 y1 y2) (gudgeonlaw17_of.l0 (k + 1) y0 y1 y2))
 | 0 => fun _ _ _ r h => by simp [gudgeonlaw17_of.l0] at h
 | k + 1 => by
  have ih0 := gudgeonlaw17_of.mono_l k
  ·intro y0 y1 y2
   unfold gudgeonlaw17_of.l0
   repeat' first
   | (with_reducible exact ih0 _ _ _)
   | (with_reducible exact LeO.refl _)
   | (with_reducible exact LeO.none _)
   | (with_reducible refine LeO.ite ?_ ?_)
   | (with_reducible refine LeO.bind ?_ (fun _ => ?_))
   | exact ih0 _ _ _
   | exact LeO.none _
   | refine LeO.ite ?_ ?_
   | refine LeO.bind ?_ (fun _ => ?_)
theorem gudgeonlaw17_of.mono : ∀ a0 k, LeO (gudgeonlaw17_of.f k a0) (gudgeonlaw17_of.f (k + 1) a0) := by
 intro a0 k
 have ih0 := gudgeonlaw17_of.mono_l k
 unfold gudgeonlaw17_of.f
 repeat' first
   | (with_reducible exact ih0 _ _ _)
   | (with_reducible exact LeO.refl _)
   | (with_reducible exact LeO.none _)
   | (with_reducible refine LeO.ite ?_ ?_)
   | (with_reducible refine LeO.bind ?_ (fun _ => ?_))
   | exact ih0 _ _ _
   | exact LeO.none _
   | refine LeO.ite ?_ ?_
   | refine LeO.bind ?_ (fun _ => ?_)
set_option maxHeartbeats 8000000 in
set_option maxRecDepth 100000 in
theorem gudgeonlaw17_of.calls (k : Nat) (a0 : ByteArray) (r : List (S69)) (w : World) (h : gudgeonlaw17_of.f k a0 = some r) :
  Calls Try.prog 37 #[.string a0] w fun e w' => ∃ v0_ : Value, e = .returned (v0_) ∧ Kd.R k69 69 w' w.heap.size (fun _ => True) v0_ r ∧ Below w.heap.size w w' := by
 have hu69 := Try.underlying69
 have HB := Aside0.mk (Below.refl w.heap.size w)
 have H : (gudgeonlaw17_of.l0 k a0 ([] : List (S69)) 0) = some r := h
 clear h
 have H' := Aside0.mk H
 clear H
 go_enter Try.func37, Try.ntmps37
 go_wp2
 go_loopg [3, 4] k (fun kq v3 v4 w' => ∃ (x3_1 : List (S69)) (x4_1 : Int), v4 = .int .i64 x4_1 ∧ Aside0 (gudgeonlaw17_of.l0 kq a0 x3_1 x4_1 = some r) ∧ Aside0 (kq ≤ k) ∧ Aside0 (Kd.R k69 69 w' w.heap.size (fun _ => True) v3 x3_1) ∧ Aside0 (Below w.heap.size w w'))
 case atStart => exact ⟨(([] : List (S69))), (0), (by first | rfl | (simp; done) | (simp [*]; done) | (refine congrArg (Value.int _) ?_; omega) | (refine congrArg Value.bool ?_; generalize ByteArray.toList _ = z_; cases z_ <;> rfl)), H', ⟨Nat.le_refl _⟩, ⟨by first | exact Kd.R_nil _ _ _ _ _ | exact Kd.N_nil _ _ _ _ _ | exact Kd.V_nil _ _ _ _ _ | exact Kd.Q_nil _ _ _ _ _ | exact Kd.S_nil _ _ _ _ _⟩, ⟨by repeat (first | (with_reducible first | exact HB.out | apply below_alloc | apply pw_below_drewN | apply below_drew1) | exact HB.out)⟩⟩
 case round =>
  clear H'
  obtain ⟨x3_1, x4_1, rfl, HA, HK1, HO_3, HB⟩ := hrel
  cases gk with
  | zero => exact absurd HA.out (by simp [gudgeonlaw17_of.l0])
  | succ k1 =>
   have H := HA.out
   clear HA
   simp only [gudgeonlaw17_of.l0] at H
   by_cases c2 : x4_1 < (a0.size : Int)
   ·rw [if_pos c2] at H
    have c2b0 : decide (x4_1 < (a0.size : Int)) = true := decide_eq_true c2
    clear c2
    by_cases c3 : 0 ≤ x4_1
    ·rw [if_pos c3] at H
     have c3b0 : decide (0 ≤ x4_1) = true := decide_eq_true c3
     clear c3
     by_cases c5 : (bt a0 x4_1) ≥ 120
     ·rw [if_pos c5] at H
      have c5b0 : decide (120 ≤ (bt a0 x4_1)) = true := decide_eq_true c5
      clear c5
      by_cases c7 : x3_1.length < 8796093022208
      ·rw [if_pos c7] at H
       have LMc7 := Aside0.mk c7
       clear c7
       obtain ⟨y190, hy190⟩ : ∃ y_ : List (S69), y_ = (x3_1 ++ [(⟨((bt a0 x4_1) - 120) % 256, 0⟩ : S69)]) := ⟨_, rfl⟩
       replace H : (gudgeonlaw17_of.l0 k1 a0 y190 (wrap64 (x4_1 + 1))) = some r := by first | (rw [hy190]; with_reducible exact H) | (have H2_ := (Option.bind_some _ _).symm.trans H; rw [hy190]; with_reducible exact H2_) | (have H2_ := (Option.bind_some _ _).symm.trans H; with_reducible exact H2_) | with_reducible exact H | (rw [hy190]; exact H) | exact H
       have Ny190 := Aside0.mk hy190
       clear hy190
       have H' := Aside0.mk H
       clear H
       have p4 : 0 ≤ (x4_1 : Int) := of_decide_eq_true (by first | (with_reducible assumption) | assumption)
       have q4 : x4_1 < (a0.size : Int) := of_decide_eq_true (by first | (with_reducible assumption) | assumption)
       have hx4 := bt_at a0 x4_1
       replace p4 := eq_true p4
       replace q4 := eq_true q4
       have p6 : 0 ≤ (x4_1 : Int) := of_decide_eq_true (by first | (with_reducible assumption) | assumption)
       have q6 : x4_1 < (a0.size : Int) := of_decide_eq_true (by first | (with_reducible assumption) | assumption)
       have hx6 := bt_at a0 x4_1
       replace p6 := eq_true p6
       replace q6 := eq_true q6
       go_wp2_with (first | ((with_reducible refine gate_builtin (b := .append) (xs := #[.tmp 15, .tmp 22]) rfl ?_); at_builtin; refine Kd.R_append k69 (w0 := w) w.heap.size rfl (.tmp 15) (.tmp 22) 23 69 (.agg #[(.int .i64 0), (.int .i64 0)]) 16 rfl Try.underlying23 info69 rfl (by decide) (by omega) u3 x3_1 (⟨((bt a0 x4_1) - 120) % 256, 0⟩ : S69) [.int .i64 (((bt a0 x4_1) - 120) % 256), .int .i64 0] (fun _ => True) (fun _ => False) rfl rfl ?aP (fun _ hk => hk.elim) ?aF ?aO ?aB ?aS ?aL ?_; (case aP => exact k69_mkM _ _ _ (⟨((bt a0 x4_1) - 120) % 256, 0⟩ : S69)); (case aB => exact (by repeat (first | (with_reducible first | exact HB.out | apply below_alloc | apply pw_below_drewN | apply below_drew1) | exact HB.out))); (case aF => exact (fun _ _ => trivial)); (case aO => exact (by (with_reducible repeat (first | apply Kd.R_alloc | apply Kd.R_drewN | apply Kd.R_drew)); exact HO_3.out)); (case aS => exact (below_size (by repeat (first | (with_reducible first | exact HB.out | apply below_alloc | apply pw_below_drewN | apply below_drew1) | exact HB.out)))); (case aL => have := LMc7.out; omega); intro v191 w8 ho hb hg hat; rw [← Ny190.out] at ho; have n0_ := Aside0.mk (hb); have n1_ := Aside0.mk (ho); clear HB; clear HO_3; have HB := n0_; have HO192 := n1_; clear n0_ n1_; clear ho hb hg hat))
       go_roundg k1
       case measure => have := HK1.out; omega
       case rel => exact ⟨(y190), (wrap64 (x4_1 + 1)), (by first | rfl | (simp; done) | (simp [*]; done) | (refine congrArg (Value.int _) ?_; omega) | (refine congrArg Value.bool ?_; generalize ByteArray.toList _ = z_; cases z_ <;> rfl)), H', ⟨by have := HK1.out; omega⟩, ⟨by (with_reducible repeat (first | apply Kd.R_alloc | apply Kd.R_drewN | apply Kd.R_drew)); exact HO192.out⟩, ⟨by repeat (first | (with_reducible first | exact HB.out | apply below_alloc | apply pw_below_drewN | apply below_drew1) | exact HB.out)⟩⟩
      ·rw [if_neg c7] at H
       exact absurd H (by simp)
     ·rw [if_neg c5] at H
      have c5b0 : decide (120 ≤ (bt a0 x4_1)) = false := decide_eq_false c5
      clear c5
      by_cases c10 : x3_1.length < 8796093022208
      ·rw [if_pos c10] at H
       have LMc10 := Aside0.mk c10
       clear c10
       obtain ⟨y193, hy193⟩ : ∃ y_ : List (S69), y_ = (x3_1 ++ [(⟨(-1), wrap64 (bt a0 x4_1)⟩ : S69)]) := ⟨_, rfl⟩
       replace H : (gudgeonlaw17_of.l0 k1 a0 y193 (wrap64 (x4_1 + 1))) = some r := by first | (rw [hy193]; with_reducible exact H) | (have H2_ := (Option.bind_some _ _).symm.trans H; rw [hy193]; with_reducible exact H2_) | (have H2_ := (Option.bind_some _ _).symm.trans H; with_reducible exact H2_) | with_reducible exact H | (rw [hy193]; exact H) | exact H
       have Ny193 := Aside0.mk hy193
       clear hy193
       have H' := Aside0.mk H
       clear H
       have p4 : 0 ≤ (x4_1 : Int) := of_decide_eq_true (by first | (with_reducible assumption) | assumption)
       have q4 : x4_1 < (a0.size : Int) := of_decide_eq_true (by first | (with_reducible assumption) | assumption)
       have hx4 := bt_at a0 x4_1
       replace p4 := eq_true p4
       replace q4 := eq_true q4
       have p9 : 0 ≤ (x4_1 : Int) := of_decide_eq_true (by first | (with_reducible assumption) | assumption)
       have q9 : x4_1 < (a0.size : Int) := of_decide_eq_true (by first | (with_reducible assumption) | assumption)
       have hx9 := bt_at a0 x4_1
       replace p9 := eq_true p9
       replace q9 := eq_true q9
       go_wp2_with (first | ((with_reducible refine gate_builtin (b := .append) (xs := #[.tmp 24, .tmp 30]) rfl ?_); at_builtin; refine Kd.R_append k69 (w0 := w) w.heap.size rfl (.tmp 24) (.tmp 30) 23 69 (.agg #[(.int .i64 0), (.int .i64 0)]) 16 rfl Try.underlying23 info69 rfl (by decide) (by omega) u3 x3_1 (⟨(-1), wrap64 (bt a0 x4_1)⟩ : S69) [.int .i64 (-1), .int .i64 (wrap64 (bt a0 x4_1))] (fun _ => True) (fun _ => False) rfl rfl ?aP (fun _ hk => hk.elim) ?aF ?aO ?aB ?aS ?aL ?_; (case aP => exact k69_mkM _ _ _ (⟨(-1), wrap64 (bt a0 x4_1)⟩ : S69)); (case aB => exact (by repeat (first | (with_reducible first | exact HB.out | apply below_alloc | apply pw_below_drewN | apply below_drew1) | exact HB.out))); (case aF => exact (fun _ _ => trivial)); (case aO => exact (by (with_reducible repeat (first | apply Kd.R_alloc | apply Kd.R_drewN | apply Kd.R_drew)); exact HO_3.out)); (case aS => exact (below_size (by repeat (first | (with_reducible first | exact HB.out | apply below_alloc | apply pw_below_drewN | apply below_drew1) | exact HB.out)))); (case aL => have := LMc10.out; omega); intro v194 w11 ho hb hg hat; rw [← Ny193.out] at ho; have n0_ := Aside0.mk (hb); have n1_ := Aside0.mk (ho); clear HB; clear HO_3; have HB := n0_; have HO195 := n1_; clear n0_ n1_; clear ho hb hg hat))
       go_roundg k1
       case measure => have := HK1.out; omega
       case rel => exact ⟨(y193), (wrap64 (x4_1 + 1)), (by first | rfl | (simp; done) | (simp [*]; done) | (refine congrArg (Value.int _) ?_; omega) | (refine congrArg Value.bool ?_; generalize ByteArray.toList _ = z_; cases z_ <;> rfl)), H', ⟨by have := HK1.out; omega⟩, ⟨by (with_reducible repeat (first | apply Kd.R_alloc | apply Kd.R_drewN | apply Kd.R_drew)); exact HO195.out⟩, ⟨by repeat (first | (with_reducible first | exact HB.out | apply below_alloc | apply pw_below_drewN | apply below_drew1) | exact HB.out)⟩⟩
      ·rw [if_neg c10] at H
       exact absurd H (by simp)
    ·rw [if_neg c3] at H
     exact absurd H (by simp)
   ·rw [if_neg c2] at H
    have c2b0 : decide (x4_1 < (a0.size : Int)) = false := decide_eq_false c2
    clear c2
    obtain rfl := Option.some.inj H
    go_wp2
    go_ret
    exact ⟨_, by first | rfl | (simp [errW_none, errW_some] <;> rfl) | (simp [*, errW_none, errW_some] <;> rfl), by (with_reducible repeat (first | apply Kd.R_alloc | apply Kd.R_drewN | apply Kd.R_drew)); exact HO_3.out, by repeat (first | (with_reducible first | exact HB.out | apply below_alloc | apply pw_below_drewN | apply below_drew1) | exact HB.out)⟩

/-! ### gudgeonlaw17_awake: function 10 -/
def gudgeonlaw17_awake.f (k : Nat)  : Option (Bool) := (gudgeonlaw17_of.f k (⟨#[120, 97, 121]⟩ : ByteArray)).bind fun t196 => ((gudgeonlaw17_of.f k (⟨#[120, 98, 121]⟩ : ByteArray)).bind fun t199 => ((word_Strip.f k t196 t199).bind fun bt202 => ((gudgeonlaw17_of.f k (⟨#[120, 97, 121]⟩ : ByteArray)).bind fun t209 => ((gudgeonlaw17_of.f k (⟨#[120, 121]⟩ : ByteArray)).bind fun t212 => ((word_Strip.f k t209 t212).bind fun bt215 => ((gudgeonlaw17_of.f k (⟨#[120, 97, 121]⟩ : ByteArray)).bind fun t222 => ((gudgeonlaw17_of.f k (⟨#[120, 122, 121]⟩ : ByteArray)).bind fun t225 => ((word_Strip.f k t222 t225).bind fun bt228 => ((gudgeonlaw17_of.f k (⟨#[97]⟩ : ByteArray)).bind fun t235 => ((gudgeonref17_Same.f k bt228.1 t235).bind fun t238 => ((gudgeonlaw17_of.f k (⟨#[122]⟩ : ByteArray)).bind fun t239 => ((gudgeonref17_Same.f k bt228.2.1 t239).bind fun t242 => (if bt202.2.2 = (-1) then (if bt215.2.2 = (-1) then (if bt228.2.2 = 0 then (if t238 = true then (if t242 = true then ((gudgeonlaw17_of.f k (⟨#[120, 97, 121]⟩ : ByteArray)).bind fun t243 => ((gudgeonlaw17_of.f k (⟨#[97, 121]⟩ : ByteArray)).bind fun t246 => ((word_Alike.f k t243 t246 (([0] : List Int))).bind fun t252 => (if t252 = true then ((gudgeonlaw17_of.f k (⟨#[120, 97, 120]⟩ : ByteArray)).bind fun t253 => ((word_Vars.f k t253).bind fun t256 => (some ((t256.length : Int) == 1)))) else (none))))) else (none)) else (none)) else (none)) else (none)) else (none))))))))))))))
theorem gudgeonlaw17_awake.mono : ∀ k, LeO (gudgeonlaw17_awake.f k ) (gudgeonlaw17_awake.f (k + 1) ) := by
 intro  k
 unfold gudgeonlaw17_awake.f
 repeat' first
   | (with_reducible exact gudgeonlaw17_of.mono _ _)
   | (with_reducible exact gudgeonref17_Same.mono _ _ _)
   | (with_reducible exact word_Alike.mono _ _ _ _)
   | (with_reducible exact word_Strip.mono _ _ _)
   | (with_reducible exact word_Vars.mono _ _)
   | (with_reducible exact LeO.refl _)
   | (with_reducible exact LeO.none _)
   | (with_reducible refine LeO.ite ?_ ?_)
   | (with_reducible refine LeO.bind ?_ (fun _ => ?_))
   | exact gudgeonlaw17_of.mono _ _
   | exact gudgeonref17_Same.mono _ _ _
   | exact word_Alike.mono _ _ _ _
   | exact word_Strip.mono _ _ _
   | exact word_Vars.mono _ _
   | exact LeO.none _
   | refine LeO.ite ?_ ?_
   | refine LeO.bind ?_ (fun _ => ?_)
set_option maxHeartbeats 8000000 in
set_option maxRecDepth 100000 in
theorem gudgeonlaw17_awake.calls (k : Nat)  (r : Bool) (w : World) (h : gudgeonlaw17_awake.f k  = some r) :
  Calls Try.prog 10 #[] w fun e w' => e = .returned (.bool r) ∧ Below w.heap.size w w' := by
 have HB := Aside0.mk (Below.refl w.heap.size w)
 have H : ((gudgeonlaw17_of.f k (⟨#[120, 97, 121]⟩ : ByteArray)).bind fun t196 => ((gudgeonlaw17_of.f k (⟨#[120, 98, 121]⟩ : ByteArray)).bind fun t199 => ((word_Strip.f k t196 t199).bind fun bt202 => ((gudgeonlaw17_of.f k (⟨#[120, 97, 121]⟩ : ByteArray)).bind fun t209 => ((gudgeonlaw17_of.f k (⟨#[120, 121]⟩ : ByteArray)).bind fun t212 => ((word_Strip.f k t209 t212).bind fun bt215 => ((gudgeonlaw17_of.f k (⟨#[120, 97, 121]⟩ : ByteArray)).bind fun t222 => ((gudgeonlaw17_of.f k (⟨#[120, 122, 121]⟩ : ByteArray)).bind fun t225 => ((word_Strip.f k t222 t225).bind fun bt228 => ((gudgeonlaw17_of.f k (⟨#[97]⟩ : ByteArray)).bind fun t235 => ((gudgeonref17_Same.f k bt228.1 t235).bind fun t238 => ((gudgeonlaw17_of.f k (⟨#[122]⟩ : ByteArray)).bind fun t239 => ((gudgeonref17_Same.f k bt228.2.1 t239).bind fun t242 => (if bt202.2.2 = (-1) then (if bt215.2.2 = (-1) then (if bt228.2.2 = 0 then (if t238 = true then (if t242 = true then ((gudgeonlaw17_of.f k (⟨#[120, 97, 121]⟩ : ByteArray)).bind fun t243 => ((gudgeonlaw17_of.f k (⟨#[97, 121]⟩ : ByteArray)).bind fun t246 => ((word_Alike.f k t243 t246 (([0] : List Int))).bind fun t252 => (if t252 = true then ((gudgeonlaw17_of.f k (⟨#[120, 97, 120]⟩ : ByteArray)).bind fun t253 => ((word_Vars.f k t253).bind fun t256 => (some ((t256.length : Int) == 1)))) else (none))))) else (none)) else (none)) else (none)) else (none)) else (none))))))))))))))) = some r := h
 clear h
 replace H := Option.bind_eq_some_iff.mp H
 obtain ⟨t196, A10, H⟩ := H
 replace H : ((gudgeonlaw17_of.f k (⟨#[120, 98, 121]⟩ : ByteArray)).bind fun t199 => ((word_Strip.f k t196 t199).bind fun bt202 => ((gudgeonlaw17_of.f k (⟨#[120, 97, 121]⟩ : ByteArray)).bind fun t209 => ((gudgeonlaw17_of.f k (⟨#[120, 121]⟩ : ByteArray)).bind fun t212 => ((word_Strip.f k t209 t212).bind fun bt215 => ((gudgeonlaw17_of.f k (⟨#[120, 97, 121]⟩ : ByteArray)).bind fun t222 => ((gudgeonlaw17_of.f k (⟨#[120, 122, 121]⟩ : ByteArray)).bind fun t225 => ((word_Strip.f k t222 t225).bind fun bt228 => ((gudgeonlaw17_of.f k (⟨#[97]⟩ : ByteArray)).bind fun t235 => ((gudgeonref17_Same.f k bt228.1 t235).bind fun t238 => ((gudgeonlaw17_of.f k (⟨#[122]⟩ : ByteArray)).bind fun t239 => ((gudgeonref17_Same.f k bt228.2.1 t239).bind fun t242 => (if bt202.2.2 = (-1) then (if bt215.2.2 = (-1) then (if bt228.2.2 = 0 then (if t238 = true then (if t242 = true then ((gudgeonlaw17_of.f k (⟨#[120, 97, 121]⟩ : ByteArray)).bind fun t243 => ((gudgeonlaw17_of.f k (⟨#[97, 121]⟩ : ByteArray)).bind fun t246 => ((word_Alike.f k t243 t246 (([0] : List Int))).bind fun t252 => (if t252 = true then ((gudgeonlaw17_of.f k (⟨#[120, 97, 120]⟩ : ByteArray)).bind fun t253 => ((word_Vars.f k t253).bind fun t256 => (some ((t256.length : Int) == 1)))) else (none))))) else (none)) else (none)) else (none)) else (none)) else (none)))))))))))))) = some r := H
 have A1 := Aside0.mk A10
 clear A10
 replace H := Option.bind_eq_some_iff.mp H
 obtain ⟨t199, A20, H⟩ := H
 replace H : ((word_Strip.f k t196 t199).bind fun bt202 => ((gudgeonlaw17_of.f k (⟨#[120, 97, 121]⟩ : ByteArray)).bind fun t209 => ((gudgeonlaw17_of.f k (⟨#[120, 121]⟩ : ByteArray)).bind fun t212 => ((word_Strip.f k t209 t212).bind fun bt215 => ((gudgeonlaw17_of.f k (⟨#[120, 97, 121]⟩ : ByteArray)).bind fun t222 => ((gudgeonlaw17_of.f k (⟨#[120, 122, 121]⟩ : ByteArray)).bind fun t225 => ((word_Strip.f k t222 t225).bind fun bt228 => ((gudgeonlaw17_of.f k (⟨#[97]⟩ : ByteArray)).bind fun t235 => ((gudgeonref17_Same.f k bt228.1 t235).bind fun t238 => ((gudgeonlaw17_of.f k (⟨#[122]⟩ : ByteArray)).bind fun t239 => ((gudgeonref17_Same.f k bt228.2.1 t239).bind fun t242 => (if bt202.2.2 = (-1) then (if bt215.2.2 = (-1) then (if bt228.2.2 = 0 then (if t238 = true then (if t242 = true then ((gudgeonlaw17_of.f k (⟨#[120, 97, 121]⟩ : ByteArray)).bind fun t243 => ((gudgeonlaw17_of.f k (⟨#[97, 121]⟩ : ByteArray)).bind fun t246 => ((word_Alike.f k t243 t246 (([0] : List Int))).bind fun t252 => (if t252 = true then ((gudgeonlaw17_of.f k (⟨#[120, 97, 120]⟩ : ByteArray)).bind fun t253 => ((word_Vars.f k t253).bind fun t256 => (some ((t256.length : Int) == 1)))) else (none))))) else (none)) else (none)) else (none)) else (none)) else (none))))))))))))) = some r := H
 have A2 := Aside0.mk A20
 clear A20
 replace H := Option.bind_eq_some_iff.mp H
 obtain ⟨⟨t202, t205, t208⟩, A30, H⟩ := H
 replace H : ((gudgeonlaw17_of.f k (⟨#[120, 97, 121]⟩ : ByteArray)).bind fun t209 => ((gudgeonlaw17_of.f k (⟨#[120, 121]⟩ : ByteArray)).bind fun t212 => ((word_Strip.f k t209 t212).bind fun bt215 => ((gudgeonlaw17_of.f k (⟨#[120, 97, 121]⟩ : ByteArray)).bind fun t222 => ((gudgeonlaw17_of.f k (⟨#[120, 122, 121]⟩ : ByteArray)).bind fun t225 => ((word_Strip.f k t222 t225).bind fun bt228 => ((gudgeonlaw17_of.f k (⟨#[97]⟩ : ByteArray)).bind fun t235 => ((gudgeonref17_Same.f k bt228.1 t235).bind fun t238 => ((gudgeonlaw17_of.f k (⟨#[122]⟩ : ByteArray)).bind fun t239 => ((gudgeonref17_Same.f k bt228.2.1 t239).bind fun t242 => (if t208 = (-1) then (if bt215.2.2 = (-1) then (if bt228.2.2 = 0 then (if t238 = true then (if t242 = true then ((gudgeonlaw17_of.f k (⟨#[120, 97, 121]⟩ : ByteArray)).bind fun t243 => ((gudgeonlaw17_of.f k (⟨#[97, 121]⟩ : ByteArray)).bind fun t246 => ((word_Alike.f k t243 t246 (([0] : List Int))).bind fun t252 => (if t252 = true then ((gudgeonlaw17_of.f k (⟨#[120, 97, 120]⟩ : ByteArray)).bind fun t253 => ((word_Vars.f k t253).bind fun t256 => (some ((t256.length : Int) == 1)))) else (none))))) else (none)) else (none)) else (none)) else (none)) else (none)))))))))))) = some r := H
 have A3 := Aside0.mk A30
 clear A30
 replace H := Option.bind_eq_some_iff.mp H
 obtain ⟨t209, A40, H⟩ := H
 replace H : ((gudgeonlaw17_of.f k (⟨#[120, 121]⟩ : ByteArray)).bind fun t212 => ((word_Strip.f k t209 t212).bind fun bt215 => ((gudgeonlaw17_of.f k (⟨#[120, 97, 121]⟩ : ByteArray)).bind fun t222 => ((gudgeonlaw17_of.f k (⟨#[120, 122, 121]⟩ : ByteArray)).bind fun t225 => ((word_Strip.f k t222 t225).bind fun bt228 => ((gudgeonlaw17_of.f k (⟨#[97]⟩ : ByteArray)).bind fun t235 => ((gudgeonref17_Same.f k bt228.1 t235).bind fun t238 => ((gudgeonlaw17_of.f k (⟨#[122]⟩ : ByteArray)).bind fun t239 => ((gudgeonref17_Same.f k bt228.2.1 t239).bind fun t242 => (if t208 = (-1) then (if bt215.2.2 = (-1) then (if bt228.2.2 = 0 then (if t238 = true then (if t242 = true then ((gudgeonlaw17_of.f k (⟨#[120, 97, 121]⟩ : ByteArray)).bind fun t243 => ((gudgeonlaw17_of.f k (⟨#[97, 121]⟩ : ByteArray)).bind fun t246 => ((word_Alike.f k t243 t246 (([0] : List Int))).bind fun t252 => (if t252 = true then ((gudgeonlaw17_of.f k (⟨#[120, 97, 120]⟩ : ByteArray)).bind fun t253 => ((word_Vars.f k t253).bind fun t256 => (some ((t256.length : Int) == 1)))) else (none))))) else (none)) else (none)) else (none)) else (none)) else (none))))))))))) = some r := H
 have A4 := Aside0.mk A40
 clear A40
 replace H := Option.bind_eq_some_iff.mp H
 obtain ⟨t212, A50, H⟩ := H
 replace H : ((word_Strip.f k t209 t212).bind fun bt215 => ((gudgeonlaw17_of.f k (⟨#[120, 97, 121]⟩ : ByteArray)).bind fun t222 => ((gudgeonlaw17_of.f k (⟨#[120, 122, 121]⟩ : ByteArray)).bind fun t225 => ((word_Strip.f k t222 t225).bind fun bt228 => ((gudgeonlaw17_of.f k (⟨#[97]⟩ : ByteArray)).bind fun t235 => ((gudgeonref17_Same.f k bt228.1 t235).bind fun t238 => ((gudgeonlaw17_of.f k (⟨#[122]⟩ : ByteArray)).bind fun t239 => ((gudgeonref17_Same.f k bt228.2.1 t239).bind fun t242 => (if t208 = (-1) then (if bt215.2.2 = (-1) then (if bt228.2.2 = 0 then (if t238 = true then (if t242 = true then ((gudgeonlaw17_of.f k (⟨#[120, 97, 121]⟩ : ByteArray)).bind fun t243 => ((gudgeonlaw17_of.f k (⟨#[97, 121]⟩ : ByteArray)).bind fun t246 => ((word_Alike.f k t243 t246 (([0] : List Int))).bind fun t252 => (if t252 = true then ((gudgeonlaw17_of.f k (⟨#[120, 97, 120]⟩ : ByteArray)).bind fun t253 => ((word_Vars.f k t253).bind fun t256 => (some ((t256.length : Int) == 1)))) else (none))))) else (none)) else (none)) else (none)) else (none)) else (none)))))))))) = some r := H
 have A5 := Aside0.mk A50
 clear A50
 replace H := Option.bind_eq_some_iff.mp H
 obtain ⟨⟨t215, t218, t221⟩, A60, H⟩ := H
 replace H : ((gudgeonlaw17_of.f k (⟨#[120, 97, 121]⟩ : ByteArray)).bind fun t222 => ((gudgeonlaw17_of.f k (⟨#[120, 122, 121]⟩ : ByteArray)).bind fun t225 => ((word_Strip.f k t222 t225).bind fun bt228 => ((gudgeonlaw17_of.f k (⟨#[97]⟩ : ByteArray)).bind fun t235 => ((gudgeonref17_Same.f k bt228.1 t235).bind fun t238 => ((gudgeonlaw17_of.f k (⟨#[122]⟩ : ByteArray)).bind fun t239 => ((gudgeonref17_Same.f k bt228.2.1 t239).bind fun t242 => (if t208 = (-1) then (if t221 = (-1) then (if bt228.2.2 = 0 then (if t238 = true then (if t242 = true then ((gudgeonlaw17_of.f k (⟨#[120, 97, 121]⟩ : ByteArray)).bind fun t243 => ((gudgeonlaw17_of.f k (⟨#[97, 121]⟩ : ByteArray)).bind fun t246 => ((word_Alike.f k t243 t246 (([0] : List Int))).bind fun t252 => (if t252 = true then ((gudgeonlaw17_of.f k (⟨#[120, 97, 120]⟩ : ByteArray)).bind fun t253 => ((word_Vars.f k t253).bind fun t256 => (some ((t256.length : Int) == 1)))) else (none))))) else (none)) else (none)) else (none)) else (none)) else (none))))))))) = some r := H
 have A6 := Aside0.mk A60
 clear A60
 replace H := Option.bind_eq_some_iff.mp H
 obtain ⟨t222, A70, H⟩ := H
 replace H : ((gudgeonlaw17_of.f k (⟨#[120, 122, 121]⟩ : ByteArray)).bind fun t225 => ((word_Strip.f k t222 t225).bind fun bt228 => ((gudgeonlaw17_of.f k (⟨#[97]⟩ : ByteArray)).bind fun t235 => ((gudgeonref17_Same.f k bt228.1 t235).bind fun t238 => ((gudgeonlaw17_of.f k (⟨#[122]⟩ : ByteArray)).bind fun t239 => ((gudgeonref17_Same.f k bt228.2.1 t239).bind fun t242 => (if t208 = (-1) then (if t221 = (-1) then (if bt228.2.2 = 0 then (if t238 = true then (if t242 = true then ((gudgeonlaw17_of.f k (⟨#[120, 97, 121]⟩ : ByteArray)).bind fun t243 => ((gudgeonlaw17_of.f k (⟨#[97, 121]⟩ : ByteArray)).bind fun t246 => ((word_Alike.f k t243 t246 (([0] : List Int))).bind fun t252 => (if t252 = true then ((gudgeonlaw17_of.f k (⟨#[120, 97, 120]⟩ : ByteArray)).bind fun t253 => ((word_Vars.f k t253).bind fun t256 => (some ((t256.length : Int) == 1)))) else (none))))) else (none)) else (none)) else (none)) else (none)) else (none)))))))) = some r := H
 have A7 := Aside0.mk A70
 clear A70
 replace H := Option.bind_eq_some_iff.mp H
 obtain ⟨t225, A80, H⟩ := H
 replace H : ((word_Strip.f k t222 t225).bind fun bt228 => ((gudgeonlaw17_of.f k (⟨#[97]⟩ : ByteArray)).bind fun t235 => ((gudgeonref17_Same.f k bt228.1 t235).bind fun t238 => ((gudgeonlaw17_of.f k (⟨#[122]⟩ : ByteArray)).bind fun t239 => ((gudgeonref17_Same.f k bt228.2.1 t239).bind fun t242 => (if t208 = (-1) then (if t221 = (-1) then (if bt228.2.2 = 0 then (if t238 = true then (if t242 = true then ((gudgeonlaw17_of.f k (⟨#[120, 97, 121]⟩ : ByteArray)).bind fun t243 => ((gudgeonlaw17_of.f k (⟨#[97, 121]⟩ : ByteArray)).bind fun t246 => ((word_Alike.f k t243 t246 (([0] : List Int))).bind fun t252 => (if t252 = true then ((gudgeonlaw17_of.f k (⟨#[120, 97, 120]⟩ : ByteArray)).bind fun t253 => ((word_Vars.f k t253).bind fun t256 => (some ((t256.length : Int) == 1)))) else (none))))) else (none)) else (none)) else (none)) else (none)) else (none))))))) = some r := H
 have A8 := Aside0.mk A80
 clear A80
 replace H := Option.bind_eq_some_iff.mp H
 obtain ⟨⟨t228, t231, t234⟩, A90, H⟩ := H
 replace H : ((gudgeonlaw17_of.f k (⟨#[97]⟩ : ByteArray)).bind fun t235 => ((gudgeonref17_Same.f k t228 t235).bind fun t238 => ((gudgeonlaw17_of.f k (⟨#[122]⟩ : ByteArray)).bind fun t239 => ((gudgeonref17_Same.f k t231 t239).bind fun t242 => (if t208 = (-1) then (if t221 = (-1) then (if t234 = 0 then (if t238 = true then (if t242 = true then ((gudgeonlaw17_of.f k (⟨#[120, 97, 121]⟩ : ByteArray)).bind fun t243 => ((gudgeonlaw17_of.f k (⟨#[97, 121]⟩ : ByteArray)).bind fun t246 => ((word_Alike.f k t243 t246 (([0] : List Int))).bind fun t252 => (if t252 = true then ((gudgeonlaw17_of.f k (⟨#[120, 97, 120]⟩ : ByteArray)).bind fun t253 => ((word_Vars.f k t253).bind fun t256 => (some ((t256.length : Int) == 1)))) else (none))))) else (none)) else (none)) else (none)) else (none)) else (none)))))) = some r := H
 have A9 := Aside0.mk A90
 clear A90
 replace H := Option.bind_eq_some_iff.mp H
 obtain ⟨t235, A100, H⟩ := H
 replace H : ((gudgeonref17_Same.f k t228 t235).bind fun t238 => ((gudgeonlaw17_of.f k (⟨#[122]⟩ : ByteArray)).bind fun t239 => ((gudgeonref17_Same.f k t231 t239).bind fun t242 => (if t208 = (-1) then (if t221 = (-1) then (if t234 = 0 then (if t238 = true then (if t242 = true then ((gudgeonlaw17_of.f k (⟨#[120, 97, 121]⟩ : ByteArray)).bind fun t243 => ((gudgeonlaw17_of.f k (⟨#[97, 121]⟩ : ByteArray)).bind fun t246 => ((word_Alike.f k t243 t246 (([0] : List Int))).bind fun t252 => (if t252 = true then ((gudgeonlaw17_of.f k (⟨#[120, 97, 120]⟩ : ByteArray)).bind fun t253 => ((word_Vars.f k t253).bind fun t256 => (some ((t256.length : Int) == 1)))) else (none))))) else (none)) else (none)) else (none)) else (none)) else (none))))) = some r := H
 have A10 := Aside0.mk A100
 clear A100
 replace H := Option.bind_eq_some_iff.mp H
 obtain ⟨t238, A110, H⟩ := H
 replace H : ((gudgeonlaw17_of.f k (⟨#[122]⟩ : ByteArray)).bind fun t239 => ((gudgeonref17_Same.f k t231 t239).bind fun t242 => (if t208 = (-1) then (if t221 = (-1) then (if t234 = 0 then (if t238 = true then (if t242 = true then ((gudgeonlaw17_of.f k (⟨#[120, 97, 121]⟩ : ByteArray)).bind fun t243 => ((gudgeonlaw17_of.f k (⟨#[97, 121]⟩ : ByteArray)).bind fun t246 => ((word_Alike.f k t243 t246 (([0] : List Int))).bind fun t252 => (if t252 = true then ((gudgeonlaw17_of.f k (⟨#[120, 97, 120]⟩ : ByteArray)).bind fun t253 => ((word_Vars.f k t253).bind fun t256 => (some ((t256.length : Int) == 1)))) else (none))))) else (none)) else (none)) else (none)) else (none)) else (none)))) = some r := H
 have A11 := Aside0.mk A110
 clear A110
 replace H := Option.bind_eq_some_iff.mp H
 obtain ⟨t239, A120, H⟩ := H
 replace H : ((gudgeonref17_Same.f k t231 t239).bind fun t242 => (if t208 = (-1) then (if t221 = (-1) then (if t234 = 0 then (if t238 = true then (if t242 = true then ((gudgeonlaw17_of.f k (⟨#[120, 97, 121]⟩ : ByteArray)).bind fun t243 => ((gudgeonlaw17_of.f k (⟨#[97, 121]⟩ : ByteArray)).bind fun t246 => ((word_Alike.f k t243 t246 (([0] : List Int))).bind fun t252 => (if t252 = true then ((gudgeonlaw17_of.f k (⟨#[120, 97, 120]⟩ : ByteArray)).bind fun t253 => ((word_Vars.f k t253).bind fun t256 => (some ((t256.length : Int) == 1)))) else (none))))) else (none)) else (none)) else (none)) else (none)) else (none))) = some r := H
 have A12 := Aside0.mk A120
 clear A120
 replace H := Option.bind_eq_some_iff.mp H
 obtain ⟨t242, A130, H⟩ := H
 replace H : (if t208 = (-1) then (if t221 = (-1) then (if t234 = 0 then (if t238 = true then (if t242 = true then ((gudgeonlaw17_of.f k (⟨#[120, 97, 121]⟩ : ByteArray)).bind fun t243 => ((gudgeonlaw17_of.f k (⟨#[97, 121]⟩ : ByteArray)).bind fun t246 => ((word_Alike.f k t243 t246 (([0] : List Int))).bind fun t252 => (if t252 = true then ((gudgeonlaw17_of.f k (⟨#[120, 97, 120]⟩ : ByteArray)).bind fun t253 => ((word_Vars.f k t253).bind fun t256 => (some ((t256.length : Int) == 1)))) else (none))))) else (none)) else (none)) else (none)) else (none)) else (none)) = some r := H
 have A13 := Aside0.mk A130
 clear A130
 by_cases c14 : t208 = (-1)
 ·rw [if_pos c14] at H
  have c14b0 : (t208 == (-1)) = true := beq_iff_eq.mpr c14
  have c14b1 : (t208 != (-1)) = false := bne_eq_false_iff_eq.mpr c14
  clear c14
  by_cases c15 : t221 = (-1)
  ·rw [if_pos c15] at H
   have c15b0 : (t221 == (-1)) = true := beq_iff_eq.mpr c15
   have c15b1 : (t221 != (-1)) = false := bne_eq_false_iff_eq.mpr c15
   clear c15
   by_cases c16 : t234 = 0
   ·rw [if_pos c16] at H
    have c16b0 : (t234 == 0) = true := beq_iff_eq.mpr c16
    have c16b1 : (t234 != 0) = false := bne_eq_false_iff_eq.mpr c16
    clear c16
    by_cases c17 : t238 = true
    ·subst c17
     have H1 : (if t242 = true then ((gudgeonlaw17_of.f k (⟨#[120, 97, 121]⟩ : ByteArray)).bind fun t243 => ((gudgeonlaw17_of.f k (⟨#[97, 121]⟩ : ByteArray)).bind fun t246 => ((word_Alike.f k t243 t246 (([0] : List Int))).bind fun t252 => (if t252 = true then ((gudgeonlaw17_of.f k (⟨#[120, 97, 120]⟩ : ByteArray)).bind fun t253 => ((word_Vars.f k t253).bind fun t256 => (some ((t256.length : Int) == 1)))) else (none))))) else (none)) = some r := by rw [if_pos rfl] at H; exact H
     clear H
     have H := H1
     clear H1
     by_cases c18 : t242 = true
     ·subst c18
      have H1 : ((gudgeonlaw17_of.f k (⟨#[120, 97, 121]⟩ : ByteArray)).bind fun t243 => ((gudgeonlaw17_of.f k (⟨#[97, 121]⟩ : ByteArray)).bind fun t246 => ((word_Alike.f k t243 t246 (([0] : List Int))).bind fun t252 => (if t252 = true then ((gudgeonlaw17_of.f k (⟨#[120, 97, 120]⟩ : ByteArray)).bind fun t253 => ((word_Vars.f k t253).bind fun t256 => (some ((t256.length : Int) == 1)))) else (none))))) = some r := by rw [if_pos rfl] at H; exact H
      clear H
      have H := H1
      clear H1
      replace H := Option.bind_eq_some_iff.mp H
      obtain ⟨t243, A190, H⟩ := H
      replace H : ((gudgeonlaw17_of.f k (⟨#[97, 121]⟩ : ByteArray)).bind fun t246 => ((word_Alike.f k t243 t246 (([0] : List Int))).bind fun t252 => (if t252 = true then ((gudgeonlaw17_of.f k (⟨#[120, 97, 120]⟩ : ByteArray)).bind fun t253 => ((word_Vars.f k t253).bind fun t256 => (some ((t256.length : Int) == 1)))) else (none)))) = some r := H
      have A19 := Aside0.mk A190
      clear A190
      replace H := Option.bind_eq_some_iff.mp H
      obtain ⟨t246, A200, H⟩ := H
      replace H : ((word_Alike.f k t243 t246 (([0] : List Int))).bind fun t252 => (if t252 = true then ((gudgeonlaw17_of.f k (⟨#[120, 97, 120]⟩ : ByteArray)).bind fun t253 => ((word_Vars.f k t253).bind fun t256 => (some ((t256.length : Int) == 1)))) else (none))) = some r := H
      have A20 := Aside0.mk A200
      clear A200
      obtain ⟨y249, hy249⟩ : ∃ y_ : List Int, y_ = (([0] : List Int)) := ⟨_, rfl⟩
      replace H : ((word_Alike.f k t243 t246 y249).bind fun t252 => (if t252 = true then ((gudgeonlaw17_of.f k (⟨#[120, 97, 120]⟩ : ByteArray)).bind fun t253 => ((word_Vars.f k t253).bind fun t256 => (some ((t256.length : Int) == 1)))) else (none))) = some r := by first | (rw [hy249]; with_reducible exact H) | (have H2_ := (Option.bind_some _ _).symm.trans H; rw [hy249]; with_reducible exact H2_) | (have H2_ := (Option.bind_some _ _).symm.trans H; with_reducible exact H2_) | with_reducible exact H | (rw [hy249]; exact H) | exact H
      have Ny249 := Aside0.mk hy249
      clear hy249
      replace H := Option.bind_eq_some_iff.mp H
      obtain ⟨t252, A210, H⟩ := H
      replace H : (if t252 = true then ((gudgeonlaw17_of.f k (⟨#[120, 97, 120]⟩ : ByteArray)).bind fun t253 => ((word_Vars.f k t253).bind fun t256 => (some ((t256.length : Int) == 1)))) else (none)) = some r := H
      have A21 := Aside0.mk A210
      clear A210
      by_cases c22 : t252 = true
      ·subst c22
       have H1 : ((gudgeonlaw17_of.f k (⟨#[120, 97, 120]⟩ : ByteArray)).bind fun t253 => ((word_Vars.f k t253).bind fun t256 => (some ((t256.length : Int) == 1)))) = some r := by rw [if_pos rfl] at H; exact H
       clear H
       have H := H1
       clear H1
       replace H := Option.bind_eq_some_iff.mp H
       obtain ⟨t253, A230, H⟩ := H
       replace H : ((word_Vars.f k t253).bind fun t256 => (some ((t256.length : Int) == 1))) = some r := H
       have A23 := Aside0.mk A230
       clear A230
       replace H := Option.bind_eq_some_iff.mp H
       obtain ⟨t256, A240, H⟩ := H
       replace H : (some ((t256.length : Int) == 1)) = some r := H
       have A24 := Aside0.mk A240
       clear A240
       obtain rfl := Option.some.inj H
       go_enter Try.func10, Try.ntmps10
       go_wp2_with (first | ((with_reducible refine gate_callee (f := 37) rfl ?_); refine goesL_ (some 13) rfl rfl Try.func37 (by kernel_rfl) rfl #[.string (⟨#[120, 97, 121]⟩ : ByteArray)] rfl (by (try simp only [List.map_toArray, List.map_cons, List.map_nil]); first | done | rfl | (simp only [List.length_drop, List.length_take]; rfl)) ?_; (with_reducible refine (gudgeonlaw17_of.calls k (⟨#[120, 97, 121]⟩ : ByteArray) t196 _ A1.out).mono ?_); rintro e w25 ⟨v197, rfl, ho0, hb⟩; refine ⟨_, rfl, ?_⟩; have n0_ := Aside0.mk (Kd.R_lower ho0 (below_size (by repeat (first | (with_reducible first | exact HB.out | apply below_alloc | apply pw_below_drewN | apply below_drew1) | exact HB.out)))); have n1_ := Aside0.mk (below_step (by repeat (first | (with_reducible first | exact HB.out | apply below_alloc | apply pw_below_drewN | apply below_drew1) | exact HB.out)) hb); clear HB; have HO198 := n0_; have HB := n1_; clear n0_ n1_; (try clear hb); (try clear hb2); (try clear hk); (try clear hi); (try clear ho0)) | ((with_reducible refine gate_callee (f := 37) rfl ?_); refine goesL_ (some 14) rfl rfl Try.func37 (by kernel_rfl) rfl #[.string (⟨#[120, 98, 121]⟩ : ByteArray)] rfl (by (try simp only [List.map_toArray, List.map_cons, List.map_nil]); first | done | rfl | (simp only [List.length_drop, List.length_take]; rfl)) ?_; (with_reducible refine (gudgeonlaw17_of.calls k (⟨#[120, 98, 121]⟩ : ByteArray) t199 _ A2.out).mono ?_); rintro e w26 ⟨v200, rfl, ho0, hb⟩; refine ⟨_, rfl, ?_⟩; have n0_ := Aside0.mk (Kd.R_elder' (by (with_reducible repeat (first | apply Kd.R_alloc | apply Kd.R_drewN | apply Kd.R_drew)); exact HO198.out) (Kd.R_base ho0) hb); have n1_ := Aside0.mk (Kd.R_lower (Kd.R_new' ho0 (Kd.R_lt (by (with_reducible repeat (first | apply Kd.R_alloc | apply Kd.R_drewN | apply Kd.R_drew)); exact HO198.out))) (below_size (by repeat (first | (with_reducible first | exact HB.out | apply below_alloc | apply pw_below_drewN | apply below_drew1) | exact HB.out)))); have n2_ := Aside0.mk (below_step (by repeat (first | (with_reducible first | exact HB.out | apply below_alloc | apply pw_below_drewN | apply below_drew1) | exact HB.out)) hb); clear HO198; clear HB; have HO198 := n0_; have HO201 := n1_; have HB := n2_; clear n0_ n1_ n2_; (try clear hb); (try clear hb2); (try clear hk); (try clear hi); (try clear ho0); obtain ⟨Ao27, co27, eo27⟩ := Kd.R_slice HO198.out; subst eo27; obtain ⟨Ao28, co28, eo28⟩ := Kd.R_slice HO201.out; subst eo28) | ((with_reducible refine gate_callee (f := 21) rfl ?_); refine goesL_ (some 15) rfl rfl Try.func21 (by kernel_rfl) rfl #[.slice Ao27 t196.length co27, .slice Ao28 t199.length co28] rfl (by (try simp only [List.map_toArray, List.map_cons, List.map_nil]); first | done | rfl | (simp only [List.length_drop, List.length_take]; rfl)) ?_; (with_reducible refine (word_Strip.calls k (fun k_ => some k_ = (.slice Ao27 t196.length co27 : Value).ownBlock) _ _ t196 (fun k_ => some k_ = (.slice Ao28 t199.length co28 : Value).ownBlock) _ _ t199 t202 t205 t208 _ ?side1 ?side2 A3.out).mono ?_); (case side1 => exact Kd.R_V (Kd.R_tight rfl (HO198.out))); (case side2 => exact Kd.R_V (Kd.R_tight rfl (HO201.out))); rintro e w29 ⟨v203, v206, rfl, ho0, ho1, hb⟩; refine ⟨_, rfl, ?_⟩; have n0_ := Aside0.mk (Kd.R_mono (Kd.R_told (Kd.R_told (Kd.R_old (by (with_reducible repeat (first | apply Kd.R_alloc | apply Kd.R_drewN | apply Kd.R_drew)); exact HO198.out) hb) (Kd.R_base ho0)) (Kd.R_base ho1)) (fun _ h_ => h_.1)); have n1_ := Aside0.mk (Kd.R_mono (Kd.R_told (Kd.R_told (Kd.R_old (by (with_reducible repeat (first | apply Kd.R_alloc | apply Kd.R_drewN | apply Kd.R_drew)); exact HO201.out) hb) (Kd.R_base ho0)) (Kd.R_base ho1)) (fun _ h_ => h_.1)); have n2_ := Aside0.mk (Kd.R_lower (Kd.R_new' (Kd.R_new' (Kd.R_mono (ok' := fun k_ => some k_ ≠ (v206 : Value).ownBlock) ho0 (fun _ hk_ => hk_.2)) (Kd.R_lt (by (with_reducible repeat (first | apply Kd.R_alloc | apply Kd.R_drewN | apply Kd.R_drew)); exact HO198.out))) (Kd.R_lt (by (with_reducible repeat (first | apply Kd.R_alloc | apply Kd.R_drewN | apply Kd.R_drew)); exact HO201.out))) (below_size (by repeat (first | (with_reducible first | exact HB.out | apply below_alloc | apply pw_below_drewN | apply below_drew1) | exact HB.out)))); have n3_ := Aside0.mk (Kd.R_lower (Kd.R_new' (Kd.R_new' (Kd.R_mono (ok' := fun k_ => some k_ ≠ (v203 : Value).ownBlock) ho1 (fun _ hk_ => hk_.2)) (Kd.R_lt (by (with_reducible repeat (first | apply Kd.R_alloc | apply Kd.R_drewN | apply Kd.R_drew)); exact HO198.out))) (Kd.R_lt (by (with_reducible repeat (first | apply Kd.R_alloc | apply Kd.R_drewN | apply Kd.R_drew)); exact HO201.out))) (below_size (by repeat (first | (with_reducible first | exact HB.out | apply below_alloc | apply pw_below_drewN | apply below_drew1) | exact HB.out)))); have n4_ := Aside0.mk (below_step (by repeat (first | (with_reducible first | exact HB.out | apply below_alloc | apply pw_below_drewN | apply below_drew1) | exact HB.out)) hb); clear HO198; clear HO201; clear HB; have HO198 := n0_; have HO201 := n1_; have HO204 := n2_; have HO207 := n3_; have HB := n4_; clear n0_ n1_ n2_ n3_ n4_; (try clear hb); (try clear hb2); (try clear hk); (try clear hi); (try clear ho0); (try clear ho1)) | ((with_reducible refine gate_callee (f := 37) rfl ?_); refine goesL_ (some 20) rfl rfl Try.func37 (by kernel_rfl) rfl #[.string (⟨#[120, 97, 121]⟩ : ByteArray)] rfl (by (try simp only [List.map_toArray, List.map_cons, List.map_nil]); first | done | rfl | (simp only [List.length_drop, List.length_take]; rfl)) ?_; (with_reducible refine (gudgeonlaw17_of.calls k (⟨#[120, 97, 121]⟩ : ByteArray) t209 _ A4.out).mono ?_); rintro e w30 ⟨v210, rfl, ho0, hb⟩; refine ⟨_, rfl, ?_⟩; have n0_ := Aside0.mk (Kd.R_elder' (by (with_reducible repeat (first | apply Kd.R_alloc | apply Kd.R_drewN | apply Kd.R_drew)); exact HO198.out) (Kd.R_base ho0) hb); have n1_ := Aside0.mk (Kd.R_elder' (by (with_reducible repeat (first | apply Kd.R_alloc | apply Kd.R_drewN | apply Kd.R_drew)); exact HO201.out) (Kd.R_base ho0) hb); have n2_ := Aside0.mk (Kd.R_elder' (by (with_reducible repeat (first | apply Kd.R_alloc | apply Kd.R_drewN | apply Kd.R_drew)); exact HO204.out) (Kd.R_base ho0) hb); have n3_ := Aside0.mk (Kd.R_elder' (by (with_reducible repeat (first | apply Kd.R_alloc | apply Kd.R_drewN | apply Kd.R_drew)); exact HO207.out) (Kd.R_base ho0) hb); have n4_ := Aside0.mk (Kd.R_lower (Kd.R_new' (Kd.R_new' (Kd.R_new' (Kd.R_new' ho0 (Kd.R_lt (by (with_reducible repeat (first | apply Kd.R_alloc | apply Kd.R_drewN | apply Kd.R_drew)); exact HO198.out))) (Kd.R_lt (by (with_reducible repeat (first | apply Kd.R_alloc | apply Kd.R_drewN | apply Kd.R_drew)); exact HO201.out))) (Kd.R_lt (by (with_reducible repeat (first | apply Kd.R_alloc | apply Kd.R_drewN | apply Kd.R_drew)); exact HO204.out))) (Kd.R_lt (by (with_reducible repeat (first | apply Kd.R_alloc | apply Kd.R_drewN | apply Kd.R_drew)); exact HO207.out))) (below_size (by repeat (first | (with_reducible first | exact HB.out | apply below_alloc | apply pw_below_drewN | apply below_drew1) | exact HB.out)))); have n5_ := Aside0.mk (below_step (by repeat (first | (with_reducible first | exact HB.out | apply below_alloc | apply pw_below_drewN | apply below_drew1) | exact HB.out)) hb); clear HO198; clear HO201; clear HO204; clear HO207; clear HB; have HO198 := n0_; have HO201 := n1_; have HO204 := n2_; have HO207 := n3_; have HO211 := n4_; have HB := n5_; clear n0_ n1_ n2_ n3_ n4_ n5_; (try clear hb); (try clear hb2); (try clear hk); (try clear hi); (try clear ho0)) | ((with_reducible refine gate_callee (f := 37) rfl ?_); refine goesL_ (some 21) rfl rfl Try.func37 (by kernel_rfl) rfl #[.string (⟨#[120, 121]⟩ : ByteArray)] rfl (by (try simp only [List.map_toArray, List.map_cons, List.map_nil]); first | done | rfl | (simp only [List.length_drop, List.length_take]; rfl)) ?_; (with_reducible refine (gudgeonlaw17_of.calls k (⟨#[120, 121]⟩ : ByteArray) t212 _ A5.out).mono ?_); rintro e w31 ⟨v213, rfl, ho0, hb⟩; refine ⟨_, rfl, ?_⟩; have n0_ := Aside0.mk (Kd.R_elder' (by (with_reducible repeat (first | apply Kd.R_alloc | apply Kd.R_drewN | apply Kd.R_drew)); exact HO198.out) (Kd.R_base ho0) hb); have n1_ := Aside0.mk (Kd.R_elder' (by (with_reducible repeat (first | apply Kd.R_alloc | apply Kd.R_drewN | apply Kd.R_drew)); exact HO201.out) (Kd.R_base ho0) hb); have n2_ := Aside0.mk (Kd.R_elder' (by (with_reducible repeat (first | apply Kd.R_alloc | apply Kd.R_drewN | apply Kd.R_drew)); exact HO204.out) (Kd.R_base ho0) hb); have n3_ := Aside0.mk (Kd.R_elder' (by (with_reducible repeat (first | apply Kd.R_alloc | apply Kd.R_drewN | apply Kd.R_drew)); exact HO207.out) (Kd.R_base ho0) hb); have n4_ := Aside0.mk (Kd.R_elder' (by (with_reducible repeat (first | apply Kd.R_alloc | apply Kd.R_drewN | apply Kd.R_drew)); exact HO211.out) (Kd.R_base ho0) hb); have n5_ := Aside0.mk (Kd.R_lower (Kd.R_new' (Kd.R_new' (Kd.R_new' (Kd.R_new' (Kd.R_new' ho0 (Kd.R_lt (by (with_reducible repeat (first | apply Kd.R_alloc | apply Kd.R_drewN | apply Kd.R_drew)); exact HO198.out))) (Kd.R_lt (by (with_reducible repeat (first | apply Kd.R_alloc | apply Kd.R_drewN | apply Kd.R_drew)); exact HO201.out))) (Kd.R_lt (by (with_reducible repeat (first | apply Kd.R_alloc | apply Kd.R_drewN | apply Kd.R_drew)); exact HO204.out))) (Kd.R_lt (by (with_reducible repeat (first | apply Kd.R_alloc | apply Kd.R_drewN | apply Kd.R_drew)); exact HO207.out))) (Kd.R_lt (by (with_reducible repeat (first | apply Kd.R_alloc | apply Kd.R_drewN | apply Kd.R_drew)); exact HO211.out))) (below_size (by repeat (first | (with_reducible first | exact HB.out | apply below_alloc | apply pw_below_drewN | apply below_drew1) | exact HB.out)))); have n6_ := Aside0.mk (below_step (by repeat (first | (with_reducible first | exact HB.out | apply below_alloc | apply pw_below_drewN | apply below_drew1) | exact HB.out)) hb); clear HO198; clear HO201; clear HO204; clear HO207; clear HO211; clear HB; have HO198 := n0_; have HO201 := n1_; have HO204 := n2_; have HO207 := n3_; have HO211 := n4_; have HO214 := n5_; have HB := n6_; clear n0_ n1_ n2_ n3_ n4_ n5_ n6_; (try clear hb); (try clear hb2); (try clear hk); (try clear hi); (try clear ho0); obtain ⟨Ao32, co32, eo32⟩ := Kd.R_slice HO211.out; subst eo32; obtain ⟨Ao33, co33, eo33⟩ := Kd.R_slice HO214.out; subst eo33) | ((with_reducible refine gate_callee (f := 21) rfl ?_); refine goesL_ (some 22) rfl rfl Try.func21 (by kernel_rfl) rfl #[.slice Ao32 t209.length co32, .slice Ao33 t212.length co33] rfl (by (try simp only [List.map_toArray, List.map_cons, List.map_nil]); first | done | rfl | (simp only [List.length_drop, List.length_take]; rfl)) ?_; (with_reducible refine (word_Strip.calls k (fun k_ => some k_ = (.slice Ao32 t209.length co32 : Value).ownBlock) _ _ t209 (fun k_ => some k_ = (.slice Ao33 t212.length co33 : Value).ownBlock) _ _ t212 t215 t218 t221 _ ?side1 ?side2 A6.out).mono ?_); (case side1 => exact Kd.R_V (Kd.R_tight rfl (HO211.out))); (case side2 => exact Kd.R_V (Kd.R_tight rfl (HO214.out))); rintro e w34 ⟨v216, v219, rfl, ho0, ho1, hb⟩; refine ⟨_, rfl, ?_⟩; have n0_ := Aside0.mk (Kd.R_mono (Kd.R_told (Kd.R_told (Kd.R_old (by (with_reducible repeat (first | apply Kd.R_alloc | apply Kd.R_drewN | apply Kd.R_drew)); exact HO198.out) hb) (Kd.R_base ho0)) (Kd.R_base ho1)) (fun _ h_ => h_.1)); have n1_ := Aside0.mk (Kd.R_mono (Kd.R_told (Kd.R_told (Kd.R_old (by (with_reducible repeat (first | apply Kd.R_alloc | apply Kd.R_drewN | apply Kd.R_drew)); exact HO201.out) hb) (Kd.R_base ho0)) (Kd.R_base ho1)) (fun _ h_ => h_.1)); have n2_ := Aside0.mk (Kd.R_mono (Kd.R_told (Kd.R_told (Kd.R_old (by (with_reducible repeat (first | apply Kd.R_alloc | apply Kd.R_drewN | apply Kd.R_drew)); exact HO204.out) hb) (Kd.R_base ho0)) (Kd.R_base ho1)) (fun _ h_ => h_.1)); have n3_ := Aside0.mk (Kd.R_mono (Kd.R_told (Kd.R_told (Kd.R_old (by (with_reducible repeat (first | apply Kd.R_alloc | apply Kd.R_drewN | apply Kd.R_drew)); exact HO207.out) hb) (Kd.R_base ho0)) (Kd.R_base ho1)) (fun _ h_ => h_.1)); have n4_ := Aside0.mk (Kd.R_mono (Kd.R_told (Kd.R_told (Kd.R_old (by (with_reducible repeat (first | apply Kd.R_alloc | apply Kd.R_drewN | apply Kd.R_drew)); exact HO211.out) hb) (Kd.R_base ho0)) (Kd.R_base ho1)) (fun _ h_ => h_.1)); have n5_ := Aside0.mk (Kd.R_mono (Kd.R_told (Kd.R_told (Kd.R_old (by (with_reducible repeat (first | apply Kd.R_alloc | apply Kd.R_drewN | apply Kd.R_drew)); exact HO214.out) hb) (Kd.R_base ho0)) (Kd.R_base ho1)) (fun _ h_ => h_.1)); have n6_ := Aside0.mk (Kd.R_lower (Kd.R_new' (Kd.R_new' (Kd.R_new' (Kd.R_new' (Kd.R_new' (Kd.R_new' (Kd.R_mono (ok' := fun k_ => some k_ ≠ (v219 : Value).ownBlock) ho0 (fun _ hk_ => hk_.2)) (Kd.R_lt (by (with_reducible repeat (first | apply Kd.R_alloc | apply Kd.R_drewN | apply Kd.R_drew)); exact HO198.out))) (Kd.R_lt (by (with_reducible repeat (first | apply Kd.R_alloc | apply Kd.R_drewN | apply Kd.R_drew)); exact HO201.out))) (Kd.R_lt (by (with_reducible repeat (first | apply Kd.R_alloc | apply Kd.R_drewN | apply Kd.R_drew)); exact HO204.out))) (Kd.R_lt (by (with_reducible repeat (first | apply Kd.R_alloc | apply Kd.R_drewN | apply Kd.R_drew)); exact HO207.out))) (Kd.R_lt (by (with_reducible repeat (first | apply Kd.R_alloc | apply Kd.R_drewN | apply Kd.R_drew)); exact HO211.out))) (Kd.R_lt (by (with_reducible repeat (first | apply Kd.R_alloc | apply Kd.R_drewN | apply Kd.R_drew)); exact HO214.out))) (below_size (by repeat (first | (with_reducible first | exact HB.out | apply below_alloc | apply pw_below_drewN | apply below_drew1) | exact HB.out)))); have n7_ := Aside0.mk (Kd.R_lower (Kd.R_new' (Kd.R_new' (Kd.R_new' (Kd.R_new' (Kd.R_new' (Kd.R_new' (Kd.R_mono (ok' := fun k_ => some k_ ≠ (v216 : Value).ownBlock) ho1 (fun _ hk_ => hk_.2)) (Kd.R_lt (by (with_reducible repeat (first | apply Kd.R_alloc | apply Kd.R_drewN | apply Kd.R_drew)); exact HO198.out))) (Kd.R_lt (by (with_reducible repeat (first | apply Kd.R_alloc | apply Kd.R_drewN | apply Kd.R_drew)); exact HO201.out))) (Kd.R_lt (by (with_reducible repeat (first | apply Kd.R_alloc | apply Kd.R_drewN | apply Kd.R_drew)); exact HO204.out))) (Kd.R_lt (by (with_reducible repeat (first | apply Kd.R_alloc | apply Kd.R_drewN | apply Kd.R_drew)); exact HO207.out))) (Kd.R_lt (by (with_reducible repeat (first | apply Kd.R_alloc | apply Kd.R_drewN | apply Kd.R_drew)); exact HO211.out))) (Kd.R_lt (by (with_reducible repeat (first | apply Kd.R_alloc | apply Kd.R_drewN | apply Kd.R_drew)); exact HO214.out))) (below_size (by repeat (first | (with_reducible first | exact HB.out | apply below_alloc | apply pw_below_drewN | apply below_drew1) | exact HB.out)))); have n8_ := Aside0.mk (below_step (by repeat (first | (with_reducible first | exact HB.out | apply below_alloc | apply pw_below_drewN | apply below_drew1) | exact HB.out)) hb); clear HO198; clear HO201; clear HO204; clear HO207; clear HO211; clear HO214; clear HB; have HO198 := n0_; have HO201 := n1_; have HO204 := n2_; have HO207 := n3_; have HO211 := n4_; have HO214 := n5_; have HO217 := n6_; have HO220 := n7_; have HB := n8_; clear n0_ n1_ n2_ n3_ n4_ n5_ n6_ n7_ n8_; (try clear hb); (try clear hb2); (try clear hk); (try clear hi); (try clear ho0); (try clear ho1)) | ((with_reducible refine gate_callee (f := 37) rfl ?_); refine goesL_ (some 27) rfl rfl Try.func37 (by kernel_rfl) rfl #[.string (⟨#[120, 97, 121]⟩ : ByteArray)] rfl (by (try simp only [List.map_toArray, List.map_cons, List.map_nil]); first | done | rfl | (simp only [List.length_drop, List.length_take]; rfl)) ?_; (with_reducible refine (gudgeonlaw17_of.calls k (⟨#[120, 97, 121]⟩ : ByteArray) t222 _ A7.out).mono ?_); rintro e w35 ⟨v223, rfl, ho0, hb⟩; refine ⟨_, rfl, ?_⟩; have n0_ := Aside0.mk (Kd.R_elder' (by (with_reducible repeat (first | apply Kd.R_alloc | apply Kd.R_drewN | apply Kd.R_drew)); exact HO198.out) (Kd.R_base ho0) hb); have n1_ := Aside0.mk (Kd.R_elder' (by (with_reducible repeat (first | apply Kd.R_alloc | apply Kd.R_drewN | apply Kd.R_drew)); exact HO201.out) (Kd.R_base ho0) hb); have n2_ := Aside0.mk (Kd.R_elder' (by (with_reducible repeat (first | apply Kd.R_alloc | apply Kd.R_drewN | apply Kd.R_drew)); exact HO204.out) (Kd.R_base ho0) hb); have n3_ := Aside0.mk (Kd.R_elder' (by (with_reducible repeat (first | apply Kd.R_alloc | apply Kd.R_drewN | apply Kd.R_drew)); exact HO207.out) (Kd.R_base ho0) hb); have n4_ := Aside0.mk (Kd.R_elder' (by (with_reducible repeat (first | apply Kd.R_alloc | apply Kd.R_drewN | apply Kd.R_drew)); exact HO211.out) (Kd.R_base ho0) hb); have n5_ := Aside0.mk (Kd.R_elder' (by (with_reducible repeat (first | apply Kd.R_alloc | apply Kd.R_drewN | apply Kd.R_drew)); exact HO214.out) (Kd.R_base ho0) hb); have n6_ := Aside0.mk (Kd.R_elder' (by (with_reducible repeat (first | apply Kd.R_alloc | apply Kd.R_drewN | apply Kd.R_drew)); exact HO217.out) (Kd.R_base ho0) hb); have n7_ := Aside0.mk (Kd.R_elder' (by (with_reducible repeat (first | apply Kd.R_alloc | apply Kd.R_drewN | apply Kd.R_drew)); exact HO220.out) (Kd.R_base ho0) hb); have n8_ := Aside0.mk (Kd.R_lower (Kd.R_new' (Kd.R_new' (Kd.R_new' (Kd.R_new' (Kd.R_new' (Kd.R_new' (Kd.R_new' (Kd.R_new' ho0 (Kd.R_lt (by (with_reducible repeat (first | apply Kd.R_alloc | apply Kd.R_drewN | apply Kd.R_drew)); exact HO198.out))) (Kd.R_lt (by (with_reducible repeat (first | apply Kd.R_alloc | apply Kd.R_drewN | apply Kd.R_drew)); exact HO201.out))) (Kd.R_lt (by (with_reducible repeat (first | apply Kd.R_alloc | apply Kd.R_drewN | apply Kd.R_drew)); exact HO204.out))) (Kd.R_lt (by (with_reducible repeat (first | apply Kd.R_alloc | apply Kd.R_drewN | apply Kd.R_drew)); exact HO207.out))) (Kd.R_lt (by (with_reducible repeat (first | apply Kd.R_alloc | apply Kd.R_drewN | apply Kd.R_drew)); exact HO211.out))) (Kd.R_lt (by (with_reducible repeat (first | apply Kd.R_alloc | apply Kd.R_drewN | apply Kd.R_drew)); exact HO214.out))) (Kd.R_lt (by (with_reducible repeat (first | apply Kd.R_alloc | apply Kd.R_drewN | apply Kd.R_drew)); exact HO217.out))) (Kd.R_lt (by (with_reducible repeat (first | apply Kd.R_alloc | apply Kd.R_drewN | apply Kd.R_drew)); exact HO220.out))) (below_size (by repeat (first | (with_reducible first | exact HB.out | apply below_alloc | apply pw_below_drewN | apply below_drew1) | exact HB.out)))); have n9_ := Aside0.mk (below_step (by repeat (first | (with_reducible first | exact HB.out | apply below_alloc | apply pw_below_drewN | apply below_drew1) | exact HB.out)) hb); clear HO198; clear HO201; clear HO204; clear HO207; clear HO211; clear HO214; clear HO217; clear HO220; clear HB; have HO198 := n0_; have HO201 := n1_; have HO204 := n2_; have HO207 := n3_; have HO211 := n4_; have HO214 := n5_; have HO217 := n6_; have HO220 := n7_; have HO224 := n8_; have HB := n9_; clear n0_ n1_ n2_ n3_ n4_ n5_ n6_ n7_ n8_ n9_; (try clear hb); (try clear hb2); (try clear hk); (try clear hi); (try clear ho0)) | ((with_reducible refine gate_callee (f := 37) rfl ?_); refine goesL_ (some 28) rfl rfl Try.func37 (by kernel_rfl) rfl #[.string (⟨#[120, 122, 121]⟩ : ByteArray)] rfl (by (try simp only [List.map_toArray, List.map_cons, List.map_nil]); first | done | rfl | (simp only [List.length_drop, List.length_take]; rfl)) ?_; (with_reducible refine (gudgeonlaw17_of.calls k (⟨#[120, 122, 121]⟩ : ByteArray) t225 _ A8.out).mono ?_); rintro e w36 ⟨v226, rfl, ho0, hb⟩; refine ⟨_, rfl, ?_⟩; have n0_ := Aside0.mk (Kd.R_elder' (by (with_reducible repeat (first | apply Kd.R_alloc | apply Kd.R_drewN | apply Kd.R_drew)); exact HO198.out) (Kd.R_base ho0) hb); have n1_ := Aside0.mk (Kd.R_elder' (by (with_reducible repeat (first | apply Kd.R_alloc | apply Kd.R_drewN | apply Kd.R_drew)); exact HO201.out) (Kd.R_base ho0) hb); have n2_ := Aside0.mk (Kd.R_elder' (by (with_reducible repeat (first | apply Kd.R_alloc | apply Kd.R_drewN | apply Kd.R_drew)); exact HO204.out) (Kd.R_base ho0) hb); have n3_ := Aside0.mk (Kd.R_elder' (by (with_reducible repeat (first | apply Kd.R_alloc | apply Kd.R_drewN | apply Kd.R_drew)); exact HO207.out) (Kd.R_base ho0) hb); have n4_ := Aside0.mk (Kd.R_elder' (by (with_reducible repeat (first | apply Kd.R_alloc | apply Kd.R_drewN | apply Kd.R_drew)); exact HO211.out) (Kd.R_base ho0) hb); have n5_ := Aside0.mk (Kd.R_elder' (by (with_reducible repeat (first | apply Kd.R_alloc | apply Kd.R_drewN | apply Kd.R_drew)); exact HO214.out) (Kd.R_base ho0) hb); have n6_ := Aside0.mk (Kd.R_elder' (by (with_reducible repeat (first | apply Kd.R_alloc | apply Kd.R_drewN | apply Kd.R_drew)); exact HO217.out) (Kd.R_base ho0) hb); have n7_ := Aside0.mk (Kd.R_elder' (by (with_reducible repeat (first | apply Kd.R_alloc | apply Kd.R_drewN | apply Kd.R_drew)); exact HO220.out) (Kd.R_base ho0) hb); have n8_ := Aside0.mk (Kd.R_elder' (by (with_reducible repeat (first | apply Kd.R_alloc | apply Kd.R_drewN | apply Kd.R_drew)); exact HO224.out) (Kd.R_base ho0) hb); have n9_ := Aside0.mk (Kd.R_lower (Kd.R_new' (Kd.R_new' (Kd.R_new' (Kd.R_new' (Kd.R_new' (Kd.R_new' (Kd.R_new' (Kd.R_new' (Kd.R_new' ho0 (Kd.R_lt (by (with_reducible repeat (first | apply Kd.R_alloc | apply Kd.R_drewN | apply Kd.R_drew)); exact HO198.out))) (Kd.R_lt (by (with_reducible repeat (first | apply Kd.R_alloc | apply Kd.R_drewN | apply Kd.R_drew)); exact HO201.out))) (Kd.R_lt (by (with_reducible repeat (first | apply Kd.R_alloc | apply Kd.R_drewN | apply Kd.R_drew)); exact HO204.out))) (Kd.R_lt (by (with_reducible repeat (first | apply Kd.R_alloc | apply Kd.R_drewN | apply Kd.R_drew)); exact HO207.out))) (Kd.R_lt (by (with_reducible repeat (first | apply Kd.R_alloc | apply Kd.R_drewN | apply Kd.R_drew)); exact HO211.out))) (Kd.R_lt (by (with_reducible repeat (first | apply Kd.R_alloc | apply Kd.R_drewN | apply Kd.R_drew)); exact HO214.out))) (Kd.R_lt (by (with_reducible repeat (first | apply Kd.R_alloc | apply Kd.R_drewN | apply Kd.R_drew)); exact HO217.out))) (Kd.R_lt (by (with_reducible repeat (first | apply Kd.R_alloc | apply Kd.R_drewN | apply Kd.R_drew)); exact HO220.out))) (Kd.R_lt (by (with_reducible repeat (first | apply Kd.R_alloc | apply Kd.R_drewN | apply Kd.R_drew)); exact HO224.out))) (below_size (by repeat (first | (with_reducible first | exact HB.out | apply below_alloc | apply pw_below_drewN | apply below_drew1) | exact HB.out)))); have n10_ := Aside0.mk (below_step (by repeat (first | (with_reducible first | exact HB.out | apply below_alloc | apply pw_below_drewN | apply below_drew1) | exact HB.out)) hb); clear HO198; clear HO201; clear HO204; clear HO207; clear HO211; clear HO214; clear HO217; clear HO220; clear HO224; clear HB; have HO198 := n0_; have HO201 := n1_; have HO204 := n2_; have HO207 := n3_; have HO211 := n4_; have HO214 := n5_; have HO217 := n6_; have HO220 := n7_; have HO224 := n8_; have HO227 := n9_; have HB := n10_; clear n0_ n1_ n2_ n3_ n4_ n5_ n6_ n7_ n8_ n9_ n10_; (try clear hb); (try clear hb2); (try clear hk); (try clear hi); (try clear ho0); obtain ⟨Ao37, co37, eo37⟩ := Kd.R_slice HO224.out; subst eo37; obtain ⟨Ao38, co38, eo38⟩ := Kd.R_slice HO227.out; subst eo38) | ((with_reducible refine gate_callee (f := 21) rfl ?_); refine goesL_ (some 29) rfl rfl Try.func21 (by kernel_rfl) rfl #[.slice Ao37 t222.length co37, .slice Ao38 t225.length co38] rfl (by (try simp only [List.map_toArray, List.map_cons, List.map_nil]); first | done | rfl | (simp only [List.length_drop, List.length_take]; rfl)) ?_; (with_reducible refine (word_Strip.calls k (fun k_ => some k_ = (.slice Ao37 t222.length co37 : Value).ownBlock) _ _ t222 (fun k_ => some k_ = (.slice Ao38 t225.length co38 : Value).ownBlock) _ _ t225 t228 t231 t234 _ ?side1 ?side2 A9.out).mono ?_); (case side1 => exact Kd.R_V (Kd.R_tight rfl (HO224.out))); (case side2 => exact Kd.R_V (Kd.R_tight rfl (HO227.out))); rintro e w39 ⟨v229, v232, rfl, ho0, ho1, hb⟩; refine ⟨_, rfl, ?_⟩; have n0_ := Aside0.mk (Kd.R_mono (Kd.R_told (Kd.R_told (Kd.R_old (by (with_reducible repeat (first | apply Kd.R_alloc | apply Kd.R_drewN | apply Kd.R_drew)); exact HO198.out) hb) (Kd.R_base ho0)) (Kd.R_base ho1)) (fun _ h_ => h_.1)); have n1_ := Aside0.mk (Kd.R_mono (Kd.R_told (Kd.R_told (Kd.R_old (by (with_reducible repeat (first | apply Kd.R_alloc | apply Kd.R_drewN | apply Kd.R_drew)); exact HO201.out) hb) (Kd.R_base ho0)) (Kd.R_base ho1)) (fun _ h_ => h_.1)); have n2_ := Aside0.mk (Kd.R_mono (Kd.R_told (Kd.R_told (Kd.R_old (by (with_reducible repeat (first | apply Kd.R_alloc | apply Kd.R_drewN | apply Kd.R_drew)); exact HO204.out) hb) (Kd.R_base ho0)) (Kd.R_base ho1)) (fun _ h_ => h_.1)); have n3_ := Aside0.mk (Kd.R_mono (Kd.R_told (Kd.R_told (Kd.R_old (by (with_reducible repeat (first | apply Kd.R_alloc | apply Kd.R_drewN | apply Kd.R_drew)); exact HO207.out) hb) (Kd.R_base ho0)) (Kd.R_base ho1)) (fun _ h_ => h_.1)); have n4_ := Aside0.mk (Kd.R_mono (Kd.R_told (Kd.R_told (Kd.R_old (by (with_reducible repeat (first | apply Kd.R_alloc | apply Kd.R_drewN | apply Kd.R_drew)); exact HO211.out) hb) (Kd.R_base ho0)) (Kd.R_base ho1)) (fun _ h_ => h_.1)); have n5_ := Aside0.mk (Kd.R_mono (Kd.R_told (Kd.R_told (Kd.R_old (by (with_reducible repeat (first | apply Kd.R_alloc | apply Kd.R_drewN | apply Kd.R_drew)); exact HO214.out) hb) (Kd.R_base ho0)) (Kd.R_base ho1)) (fun _ h_ => h_.1)); have n6_ := Aside0.mk (Kd.R_mono (Kd.R_told (Kd.R_told (Kd.R_old (by (with_reducible repeat (first | apply Kd.R_alloc | apply Kd.R_drewN | apply Kd.R_drew)); exact HO217.out) hb) (Kd.R_base ho0)) (Kd.R_base ho1)) (fun _ h_ => h_.1)); have n7_ := Aside0.mk (Kd.R_mono (Kd.R_told (Kd.R_told (Kd.R_old (by (with_reducible repeat (first | apply Kd.R_alloc | apply Kd.R_drewN | apply Kd.R_drew)); exact HO220.out) hb) (Kd.R_base ho0)) (Kd.R_base ho1)) (fun _ h_ => h_.1)); have n8_ := Aside0.mk (Kd.R_mono (Kd.R_told (Kd.R_told (Kd.R_old (by (with_reducible repeat (first | apply Kd.R_alloc | apply Kd.R_drewN | apply Kd.R_drew)); exact HO224.out) hb) (Kd.R_base ho0)) (Kd.R_base ho1)) (fun _ h_ => h_.1)); have n9_ := Aside0.mk (Kd.R_mono (Kd.R_told (Kd.R_told (Kd.R_old (by (with_reducible repeat (first | apply Kd.R_alloc | apply Kd.R_drewN | apply Kd.R_drew)); exact HO227.out) hb) (Kd.R_base ho0)) (Kd.R_base ho1)) (fun _ h_ => h_.1)); have n10_ := Aside0.mk (Kd.R_lower (Kd.R_new' (Kd.R_new' (Kd.R_new' (Kd.R_new' (Kd.R_new' (Kd.R_new' (Kd.R_new' (Kd.R_new' (Kd.R_new' (Kd.R_new' (Kd.R_mono (ok' := fun k_ => some k_ ≠ (v232 : Value).ownBlock) ho0 (fun _ hk_ => hk_.2)) (Kd.R_lt (by (with_reducible repeat (first | apply Kd.R_alloc | apply Kd.R_drewN | apply Kd.R_drew)); exact HO198.out))) (Kd.R_lt (by (with_reducible repeat (first | apply Kd.R_alloc | apply Kd.R_drewN | apply Kd.R_drew)); exact HO201.out))) (Kd.R_lt (by (with_reducible repeat (first | apply Kd.R_alloc | apply Kd.R_drewN | apply Kd.R_drew)); exact HO204.out))) (Kd.R_lt (by (with_reducible repeat (first | apply Kd.R_alloc | apply Kd.R_drewN | apply Kd.R_drew)); exact HO207.out))) (Kd.R_lt (by (with_reducible repeat (first | apply Kd.R_alloc | apply Kd.R_drewN | apply Kd.R_drew)); exact HO211.out))) (Kd.R_lt (by (with_reducible repeat (first | apply Kd.R_alloc | apply Kd.R_drewN | apply Kd.R_drew)); exact HO214.out))) (Kd.R_lt (by (with_reducible repeat (first | apply Kd.R_alloc | apply Kd.R_drewN | apply Kd.R_drew)); exact HO217.out))) (Kd.R_lt (by (with_reducible repeat (first | apply Kd.R_alloc | apply Kd.R_drewN | apply Kd.R_drew)); exact HO220.out))) (Kd.R_lt (by (with_reducible repeat (first | apply Kd.R_alloc | apply Kd.R_drewN | apply Kd.R_drew)); exact HO224.out))) (Kd.R_lt (by (with_reducible repeat (first | apply Kd.R_alloc | apply Kd.R_drewN | apply Kd.R_drew)); exact HO227.out))) (below_size (by repeat (first | (with_reducible first | exact HB.out | apply below_alloc | apply pw_below_drewN | apply below_drew1) | exact HB.out)))); have n11_ := Aside0.mk (Kd.R_lower (Kd.R_new' (Kd.R_new' (Kd.R_new' (Kd.R_new' (Kd.R_new' (Kd.R_new' (Kd.R_new' (Kd.R_new' (Kd.R_new' (Kd.R_new' (Kd.R_mono (ok' := fun k_ => some k_ ≠ (v229 : Value).ownBlock) ho1 (fun _ hk_ => hk_.2)) (Kd.R_lt (by (with_reducible repeat (first | apply Kd.R_alloc | apply Kd.R_drewN | apply Kd.R_drew)); exact HO198.out))) (Kd.R_lt (by (with_reducible repeat (first | apply Kd.R_alloc | apply Kd.R_drewN | apply Kd.R_drew)); exact HO201.out))) (Kd.R_lt (by (with_reducible repeat (first | apply Kd.R_alloc | apply Kd.R_drewN | apply Kd.R_drew)); exact HO204.out))) (Kd.R_lt (by (with_reducible repeat (first | apply Kd.R_alloc | apply Kd.R_drewN | apply Kd.R_drew)); exact HO207.out))) (Kd.R_lt (by (with_reducible repeat (first | apply Kd.R_alloc | apply Kd.R_drewN | apply Kd.R_drew)); exact HO211.out))) (Kd.R_lt (by (with_reducible repeat (first | apply Kd.R_alloc | apply Kd.R_drewN | apply Kd.R_drew)); exact HO214.out))) (Kd.R_lt (by (with_reducible repeat (first | apply Kd.R_alloc | apply Kd.R_drewN | apply Kd.R_drew)); exact HO217.out))) (Kd.R_lt (by (with_reducible repeat (first | apply Kd.R_alloc | apply Kd.R_drewN | apply Kd.R_drew)); exact HO220.out))) (Kd.R_lt (by (with_reducible repeat (first | apply Kd.R_alloc | apply Kd.R_drewN | apply Kd.R_drew)); exact HO224.out))) (Kd.R_lt (by (with_reducible repeat (first | apply Kd.R_alloc | apply Kd.R_drewN | apply Kd.R_drew)); exact HO227.out))) (below_size (by repeat (first | (with_reducible first | exact HB.out | apply below_alloc | apply pw_below_drewN | apply below_drew1) | exact HB.out)))); have n12_ := Aside0.mk (below_step (by repeat (first | (with_reducible first | exact HB.out | apply below_alloc | apply pw_below_drewN | apply below_drew1) | exact HB.out)) hb); clear HO198; clear HO201; clear HO204; clear HO207; clear HO211; clear HO214; clear HO217; clear HO220; clear HO224; clear HO227; clear HB; have HO198 := n0_; have HO201 := n1_; have HO204 := n2_; have HO207 := n3_; have HO211 := n4_; have HO214 := n5_; have HO217 := n6_; have HO220 := n7_; have HO224 := n8_; have HO227 := n9_; have HO230 := n10_; have HO233 := n11_; have HB := n12_; clear n0_ n1_ n2_ n3_ n4_ n5_ n6_ n7_ n8_ n9_ n10_ n11_ n12_; (try clear hb); (try clear hb2); (try clear hk); (try clear hi); (try clear ho0); (try clear ho1)) | ((with_reducible refine gate_callee (f := 37) rfl ?_); refine goesL_ (some 34) rfl rfl Try.func37 (by kernel_rfl) rfl #[.string (⟨#[97]⟩ : ByteArray)] rfl (by (try simp only [List.map_toArray, List.map_cons, List.map_nil]); first | done | rfl | (simp only [List.length_drop, List.length_take]; rfl)) ?_; (with_reducible refine (gudgeonlaw17_of.calls k (⟨#[97]⟩ : ByteArray) t235 _ A10.out).mono ?_); rintro e w40 ⟨v236, rfl, ho0, hb⟩; refine ⟨_, rfl, ?_⟩; have n0_ := Aside0.mk (Kd.R_elder' (by (with_reducible repeat (first | apply Kd.R_alloc | apply Kd.R_drewN | apply Kd.R_drew)); exact HO198.out) (Kd.R_base ho0) hb); have n1_ := Aside0.mk (Kd.R_elder' (by (with_reducible repeat (first | apply Kd.R_alloc | apply Kd.R_drewN | apply Kd.R_drew)); exact HO201.out) (Kd.R_base ho0) hb); have n2_ := Aside0.mk (Kd.R_elder' (by (with_reducible repeat (first | apply Kd.R_alloc | apply Kd.R_drewN | apply Kd.R_drew)); exact HO204.out) (Kd.R_base ho0) hb); have n3_ := Aside0.mk (Kd.R_elder' (by (with_reducible repeat (first | apply Kd.R_alloc | apply Kd.R_drewN | apply Kd.R_drew)); exact HO207.out) (Kd.R_base ho0) hb); have n4_ := Aside0.mk (Kd.R_elder' (by (with_reducible repeat (first | apply Kd.R_alloc | apply Kd.R_drewN | apply Kd.R_drew)); exact HO211.out) (Kd.R_base ho0) hb); have n5_ := Aside0.mk (Kd.R_elder' (by (with_reducible repeat (first | apply Kd.R_alloc | apply Kd.R_drewN | apply Kd.R_drew)); exact HO214.out) (Kd.R_base ho0) hb); have n6_ := Aside0.mk (Kd.R_elder' (by (with_reducible repeat (first | apply Kd.R_alloc | apply Kd.R_drewN | apply Kd.R_drew)); exact HO217.out) (Kd.R_base ho0) hb); have n7_ := Aside0.mk (Kd.R_elder' (by (with_reducible repeat (first | apply Kd.R_alloc | apply Kd.R_drewN | apply Kd.R_drew)); exact HO220.out) (Kd.R_base ho0) hb); have n8_ := Aside0.mk (Kd.R_elder' (by (with_reducible repeat (first | apply Kd.R_alloc | apply Kd.R_drewN | apply Kd.R_drew)); exact HO224.out) (Kd.R_base ho0) hb); have n9_ := Aside0.mk (Kd.R_elder' (by (with_reducible repeat (first | apply Kd.R_alloc | apply Kd.R_drewN | apply Kd.R_drew)); exact HO227.out) (Kd.R_base ho0) hb); have n10_ := Aside0.mk (Kd.R_elder' (by (with_reducible repeat (first | apply Kd.R_alloc | apply Kd.R_drewN | apply Kd.R_drew)); exact HO230.out) (Kd.R_base ho0) hb); have n11_ := Aside0.mk (Kd.R_elder' (by (with_reducible repeat (first | apply Kd.R_alloc | apply Kd.R_drewN | apply Kd.R_drew)); exact HO233.out) (Kd.R_base ho0) hb); have n12_ := Aside0.mk (Kd.R_lower (Kd.R_new' (Kd.R_new' (Kd.R_new' (Kd.R_new' (Kd.R_new' (Kd.R_new' (Kd.R_new' (Kd.R_new' (Kd.R_new' (Kd.R_new' (Kd.R_new' (Kd.R_new' ho0 (Kd.R_lt (by (with_reducible repeat (first | apply Kd.R_alloc | apply Kd.R_drewN | apply Kd.R_drew)); exact HO198.out))) (Kd.R_lt (by (with_reducible repeat (first | apply Kd.R_alloc | apply Kd.R_drewN | apply Kd.R_drew)); exact HO201.out))) (Kd.R_lt (by (with_reducible repeat (first | apply Kd.R_alloc | apply Kd.R_drewN | apply Kd.R_drew)); exact HO204.out))) (Kd.R_lt (by (with_reducible repeat (first | apply Kd.R_alloc | apply Kd.R_drewN | apply Kd.R_drew)); exact HO207.out))) (Kd.R_lt (by (with_reducible repeat (first | apply Kd.R_alloc | apply Kd.R_drewN | apply Kd.R_drew)); exact HO211.out))) (Kd.R_lt (by (with_reducible repeat (first | apply Kd.R_alloc | apply Kd.R_drewN | apply Kd.R_drew)); exact HO214.out))) (Kd.R_lt (by (with_reducible repeat (first | apply Kd.R_alloc | apply Kd.R_drewN | apply Kd.R_drew)); exact HO217.out))) (Kd.R_lt (by (with_reducible repeat (first | apply Kd.R_alloc | apply Kd.R_drewN | apply Kd.R_drew)); exact HO220.out))) (Kd.R_lt (by (with_reducible repeat (first | apply Kd.R_alloc | apply Kd.R_drewN | apply Kd.R_drew)); exact HO224.out))) (Kd.R_lt (by (with_reducible repeat (first | apply Kd.R_alloc | apply Kd.R_drewN | apply Kd.R_drew)); exact HO227.out))) (Kd.R_lt (by (with_reducible repeat (first | apply Kd.R_alloc | apply Kd.R_drewN | apply Kd.R_drew)); exact HO230.out))) (Kd.R_lt (by (with_reducible repeat (first | apply Kd.R_alloc | apply Kd.R_drewN | apply Kd.R_drew)); exact HO233.out))) (below_size (by repeat (first | (with_reducible first | exact HB.out | apply below_alloc | apply pw_below_drewN | apply below_drew1) | exact HB.out)))); have n13_ := Aside0.mk (below_step (by repeat (first | (with_reducible first | exact HB.out | apply below_alloc | apply pw_below_drewN | apply below_drew1) | exact HB.out)) hb); clear HO198; clear HO201; clear HO204; clear HO207; clear HO211; clear HO214; clear HO217; clear HO220; clear HO224; clear HO227; clear HO230; clear HO233; clear HB; have HO198 := n0_; have HO201 := n1_; have HO204 := n2_; have HO207 := n3_; have HO211 := n4_; have HO214 := n5_; have HO217 := n6_; have HO220 := n7_; have HO224 := n8_; have HO227 := n9_; have HO230 := n10_; have HO233 := n11_; have HO237 := n12_; have HB := n13_; clear n0_ n1_ n2_ n3_ n4_ n5_ n6_ n7_ n8_ n9_ n10_ n11_ n12_ n13_; (try clear hb); (try clear hb2); (try clear hk); (try clear hi); (try clear ho0); obtain ⟨Ao41, co41, eo41⟩ := Kd.R_slice HO230.out; subst eo41; obtain ⟨Ao42, co42, eo42⟩ := Kd.R_slice HO237.out; subst eo42) | ((with_reducible refine gate_callee (f := 15) rfl ?_); refine goesL_ (some 35) rfl rfl Try.func15 (by kernel_rfl) rfl #[.slice Ao41 t228.length co41, .slice Ao42 t235.length co42] rfl (by (try simp only [List.map_toArray, List.map_cons, List.map_nil]); first | done | rfl | (simp only [List.length_drop, List.length_take]; rfl)) ?_; (with_reducible refine (gudgeonref17_Same.calls k _ _ t228 _ _ t235 true _ ?side1 ?side2 ?side3 ?side4 A11.out).mono ?_); (case side1 => repeat (first | exact (Kd.R_reads' HO230.out).2.2 | (with_reducible refine Kd.C_alloc ?_ _) | (with_reducible refine Kd.C_drewN ?_ _) | (with_reducible refine Kd.C_drew ?_))); (case side2 => exact (Kd.R_reads' HO230.out).2.1); (case side3 => repeat (first | exact (Kd.R_reads' HO237.out).2.2 | (with_reducible refine Kd.C_alloc ?_ _) | (with_reducible refine Kd.C_drewN ?_ _) | (with_reducible refine Kd.C_drew ?_))); (case side4 => exact (Kd.R_reads' HO237.out).2.1); rintro e w43 ⟨rfl, hb⟩; refine ⟨_, rfl, ?_⟩; have n0_ := Aside0.mk (Kd.R_below (by (with_reducible repeat (first | apply Kd.R_alloc | apply Kd.R_drewN | apply Kd.R_drew)); exact HO198.out) hb); have n1_ := Aside0.mk (Kd.R_below (by (with_reducible repeat (first | apply Kd.R_alloc | apply Kd.R_drewN | apply Kd.R_drew)); exact HO201.out) hb); have n2_ := Aside0.mk (Kd.R_below (by (with_reducible repeat (first | apply Kd.R_alloc | apply Kd.R_drewN | apply Kd.R_drew)); exact HO204.out) hb); have n3_ := Aside0.mk (Kd.R_below (by (with_reducible repeat (first | apply Kd.R_alloc | apply Kd.R_drewN | apply Kd.R_drew)); exact HO207.out) hb); have n4_ := Aside0.mk (Kd.R_below (by (with_reducible repeat (first | apply Kd.R_alloc | apply Kd.R_drewN | apply Kd.R_drew)); exact HO211.out) hb); have n5_ := Aside0.mk (Kd.R_below (by (with_reducible repeat (first | apply Kd.R_alloc | apply Kd.R_drewN | apply Kd.R_drew)); exact HO214.out) hb); have n6_ := Aside0.mk (Kd.R_below (by (with_reducible repeat (first | apply Kd.R_alloc | apply Kd.R_drewN | apply Kd.R_drew)); exact HO217.out) hb); have n7_ := Aside0.mk (Kd.R_below (by (with_reducible repeat (first | apply Kd.R_alloc | apply Kd.R_drewN | apply Kd.R_drew)); exact HO220.out) hb); have n8_ := Aside0.mk (Kd.R_below (by (with_reducible repeat (first | apply Kd.R_alloc | apply Kd.R_drewN | apply Kd.R_drew)); exact HO224.out) hb); have n9_ := Aside0.mk (Kd.R_below (by (with_reducible repeat (first | apply Kd.R_alloc | apply Kd.R_drewN | apply Kd.R_drew)); exact HO227.out) hb); have n10_ := Aside0.mk (Kd.R_below (by (with_reducible repeat (first | apply Kd.R_alloc | apply Kd.R_drewN | apply Kd.R_drew)); exact HO230.out) hb); have n11_ := Aside0.mk (Kd.R_below (by (with_reducible repeat (first | apply Kd.R_alloc | apply Kd.R_drewN | apply Kd.R_drew)); exact HO233.out) hb); have n12_ := Aside0.mk (Kd.R_below (by (with_reducible repeat (first | apply Kd.R_alloc | apply Kd.R_drewN | apply Kd.R_drew)); exact HO237.out) hb); have n13_ := Aside0.mk (below_step (by repeat (first | (with_reducible first | exact HB.out | apply below_alloc | apply pw_below_drewN | apply below_drew1) | exact HB.out)) hb); clear HO198; clear HO201; clear HO204; clear HO207; clear HO211; clear HO214; clear HO217; clear HO220; clear HO224; clear HO227; clear HO230; clear HO233; clear HO237; clear HB; have HO198 := n0_; have HO201 := n1_; have HO204 := n2_; have HO207 := n3_; have HO211 := n4_; have HO214 := n5_; have HO217 := n6_; have HO220 := n7_; have HO224 := n8_; have HO227 := n9_; have HO230 := n10_; have HO233 := n11_; have HO237 := n12_; have HB := n13_; clear n0_ n1_ n2_ n3_ n4_ n5_ n6_ n7_ n8_ n9_ n10_ n11_ n12_ n13_; (try clear hb); (try clear hb2); (try clear hk); (try clear hi)) | ((with_reducible refine gate_callee (f := 37) rfl ?_); refine goesL_ (some 37) rfl rfl Try.func37 (by kernel_rfl) rfl #[.string (⟨#[122]⟩ : ByteArray)] rfl (by (try simp only [List.map_toArray, List.map_cons, List.map_nil]); first | done | rfl | (simp only [List.length_drop, List.length_take]; rfl)) ?_; (with_reducible refine (gudgeonlaw17_of.calls k (⟨#[122]⟩ : ByteArray) t239 _ A12.out).mono ?_); rintro e w44 ⟨v240, rfl, ho0, hb⟩; refine ⟨_, rfl, ?_⟩; have n0_ := Aside0.mk (Kd.R_elder' (by (with_reducible repeat (first | apply Kd.R_alloc | apply Kd.R_drewN | apply Kd.R_drew)); exact HO198.out) (Kd.R_base ho0) hb); have n1_ := Aside0.mk (Kd.R_elder' (by (with_reducible repeat (first | apply Kd.R_alloc | apply Kd.R_drewN | apply Kd.R_drew)); exact HO201.out) (Kd.R_base ho0) hb); have n2_ := Aside0.mk (Kd.R_elder' (by (with_reducible repeat (first | apply Kd.R_alloc | apply Kd.R_drewN | apply Kd.R_drew)); exact HO204.out) (Kd.R_base ho0) hb); have n3_ := Aside0.mk (Kd.R_elder' (by (with_reducible repeat (first | apply Kd.R_alloc | apply Kd.R_drewN | apply Kd.R_drew)); exact HO207.out) (Kd.R_base ho0) hb); have n4_ := Aside0.mk (Kd.R_elder' (by (with_reducible repeat (first | apply Kd.R_alloc | apply Kd.R_drewN | apply Kd.R_drew)); exact HO211.out) (Kd.R_base ho0) hb); have n5_ := Aside0.mk (Kd.R_elder' (by (with_reducible repeat (first | apply Kd.R_alloc | apply Kd.R_drewN | apply Kd.R_drew)); exact HO214.out) (Kd.R_base ho0) hb); have n6_ := Aside0.mk (Kd.R_elder' (by (with_reducible repeat (first | apply Kd.R_alloc | apply Kd.R_drewN | apply Kd.R_drew)); exact HO217.out) (Kd.R_base ho0) hb); have n7_ := Aside0.mk (Kd.R_elder' (by (with_reducible repeat (first | apply Kd.R_alloc | apply Kd.R_drewN | apply Kd.R_drew)); exact HO220.out) (Kd.R_base ho0) hb); have n8_ := Aside0.mk (Kd.R_elder' (by (with_reducible repeat (first | apply Kd.R_alloc | apply Kd.R_drewN | apply Kd.R_drew)); exact HO224.out) (Kd.R_base ho0) hb); have n9_ := Aside0.mk (Kd.R_elder' (by (with_reducible repeat (first | apply Kd.R_alloc | apply Kd.R_drewN | apply Kd.R_drew)); exact HO227.out) (Kd.R_base ho0) hb); have n10_ := Aside0.mk (Kd.R_elder' (by (with_reducible repeat (first | apply Kd.R_alloc | apply Kd.R_drewN | apply Kd.R_drew)); exact HO230.out) (Kd.R_base ho0) hb); have n11_ := Aside0.mk (Kd.R_elder' (by (with_reducible repeat (first | apply Kd.R_alloc | apply Kd.R_drewN | apply Kd.R_drew)); exact HO233.out) (Kd.R_base ho0) hb); have n12_ := Aside0.mk (Kd.R_elder' (by (with_reducible repeat (first | apply Kd.R_alloc | apply Kd.R_drewN | apply Kd.R_drew)); exact HO237.out) (Kd.R_base ho0) hb); have n13_ := Aside0.mk (Kd.R_lower (Kd.R_new' (Kd.R_new' (Kd.R_new' (Kd.R_new' (Kd.R_new' (Kd.R_new' (Kd.R_new' (Kd.R_new' (Kd.R_new' (Kd.R_new' (Kd.R_new' (Kd.R_new' (Kd.R_new' ho0 (Kd.R_lt (by (with_reducible repeat (first | apply Kd.R_alloc | apply Kd.R_drewN | apply Kd.R_drew)); exact HO198.out))) (Kd.R_lt (by (with_reducible repeat (first | apply Kd.R_alloc | apply Kd.R_drewN | apply Kd.R_drew)); exact HO201.out))) (Kd.R_lt (by (with_reducible repeat (first | apply Kd.R_alloc | apply Kd.R_drewN | apply Kd.R_drew)); exact HO204.out))) (Kd.R_lt (by (with_reducible repeat (first | apply Kd.R_alloc | apply Kd.R_drewN | apply Kd.R_drew)); exact HO207.out))) (Kd.R_lt (by (with_reducible repeat (first | apply Kd.R_alloc | apply Kd.R_drewN | apply Kd.R_drew)); exact HO211.out))) (Kd.R_lt (by (with_reducible repeat (first | apply Kd.R_alloc | apply Kd.R_drewN | apply Kd.R_drew)); exact HO214.out))) (Kd.R_lt (by (with_reducible repeat (first | apply Kd.R_alloc | apply Kd.R_drewN | apply Kd.R_drew)); exact HO217.out))) (Kd.R_lt (by (with_reducible repeat (first | apply Kd.R_alloc | apply Kd.R_drewN | apply Kd.R_drew)); exact HO220.out))) (Kd.R_lt (by (with_reducible repeat (first | apply Kd.R_alloc | apply Kd.R_drewN | apply Kd.R_drew)); exact HO224.out))) (Kd.R_lt (by (with_reducible repeat (first | apply Kd.R_alloc | apply Kd.R_drewN | apply Kd.R_drew)); exact HO227.out))) (Kd.R_lt (by (with_reducible repeat (first | apply Kd.R_alloc | apply Kd.R_drewN | apply Kd.R_drew)); exact HO230.out))) (Kd.R_lt (by (with_reducible repeat (first | apply Kd.R_alloc | apply Kd.R_drewN | apply Kd.R_drew)); exact HO233.out))) (Kd.R_lt (by (with_reducible repeat (first | apply Kd.R_alloc | apply Kd.R_drewN | apply Kd.R_drew)); exact HO237.out))) (below_size (by repeat (first | (with_reducible first | exact HB.out | apply below_alloc | apply pw_below_drewN | apply below_drew1) | exact HB.out)))); have n14_ := Aside0.mk (below_step (by repeat (first | (with_reducible first | exact HB.out | apply below_alloc | apply pw_below_drewN | apply below_drew1) | exact HB.out)) hb); clear HO198; clear HO201; clear HO204; clear HO207; clear HO211; clear HO214; clear HO217; clear HO220; clear HO224; clear HO227; clear HO230; clear HO233; clear HO237; clear HB; have HO198 := n0_; have HO201 := n1_; have HO204 := n2_; have HO207 := n3_; have HO211 := n4_; have HO214 := n5_; have HO217 := n6_; have HO220 := n7_; have HO224 := n8_; have HO227 := n9_; have HO230 := n10_; have HO233 := n11_; have HO237 := n12_; have HO241 := n13_; have HB := n14_; clear n0_ n1_ n2_ n3_ n4_ n5_ n6_ n7_ n8_ n9_ n10_ n11_ n12_ n13_ n14_; (try clear hb); (try clear hb2); (try clear hk); (try clear hi); (try clear ho0); obtain ⟨Ao45, co45, eo45⟩ := Kd.R_slice HO233.out; subst eo45; obtain ⟨Ao46, co46, eo46⟩ := Kd.R_slice HO241.out; subst eo46) | ((with_reducible refine gate_callee (f := 15) rfl ?_); refine goesL_ (some 38) rfl rfl Try.func15 (by kernel_rfl) rfl #[.slice Ao45 t231.length co45, .slice Ao46 t239.length co46] rfl (by (try simp only [List.map_toArray, List.map_cons, List.map_nil]); first | done | rfl | (simp only [List.length_drop, List.length_take]; rfl)) ?_; (with_reducible refine (gudgeonref17_Same.calls k _ _ t231 _ _ t239 true _ ?side1 ?side2 ?side3 ?side4 A13.out).mono ?_); (case side1 => repeat (first | exact (Kd.R_reads' HO233.out).2.2 | (with_reducible refine Kd.C_alloc ?_ _) | (with_reducible refine Kd.C_drewN ?_ _) | (with_reducible refine Kd.C_drew ?_))); (case side2 => exact (Kd.R_reads' HO233.out).2.1); (case side3 => repeat (first | exact (Kd.R_reads' HO241.out).2.2 | (with_reducible refine Kd.C_alloc ?_ _) | (with_reducible refine Kd.C_drewN ?_ _) | (with_reducible refine Kd.C_drew ?_))); (case side4 => exact (Kd.R_reads' HO241.out).2.1); rintro e w47 ⟨rfl, hb⟩; refine ⟨_, rfl, ?_⟩; have n0_ := Aside0.mk (Kd.R_below (by (with_reducible repeat (first | apply Kd.R_alloc | apply Kd.R_drewN | apply Kd.R_drew)); exact HO198.out) hb); have n1_ := Aside0.mk (Kd.R_below (by (with_reducible repeat (first | apply Kd.R_alloc | apply Kd.R_drewN | apply Kd.R_drew)); exact HO201.out) hb); have n2_ := Aside0.mk (Kd.R_below (by (with_reducible repeat (first | apply Kd.R_alloc | apply Kd.R_drewN | apply Kd.R_drew)); exact HO204.out) hb); have n3_ := Aside0.mk (Kd.R_below (by (with_reducible repeat (first | apply Kd.R_alloc | apply Kd.R_drewN | apply Kd.R_drew)); exact HO207.out) hb); have n4_ := Aside0.mk (Kd.R_below (by (with_reducible repeat (first | apply Kd.R_alloc | apply Kd.R_drewN | apply Kd.R_drew)); exact HO211.out) hb); have n5_ := Aside0.mk (Kd.R_below (by (with_reducible repeat (first | apply Kd.R_alloc | apply Kd.R_drewN | apply Kd.R_drew)); exact HO214.out) hb); have n6_ := Aside0.mk (Kd.R_below (by (with_reducible repeat (first | apply Kd.R_alloc | apply Kd.R_drewN | apply Kd.R_drew)); exact HO217.out) hb); have n7_ := Aside0.mk (Kd.R_below (by (with_reducible repeat (first | apply Kd.R_alloc | apply Kd.R_drewN | apply Kd.R_drew)); exact HO220.out) hb); have n8_ := Aside0.mk (Kd.R_below (by (with_reducible repeat (first | apply Kd.R_alloc | apply Kd.R_drewN | apply Kd.R_drew)); exact HO224.out) hb); have n9_ := Aside0.mk (Kd.R_below (by (with_reducible repeat (first | apply Kd.R_alloc | apply Kd.R_drewN | apply Kd.R_drew)); exact HO227.out) hb); have n10_ := Aside0.mk (Kd.R_below (by (with_reducible repeat (first | apply Kd.R_alloc | apply Kd.R_drewN | apply Kd.R_drew)); exact HO230.out) hb); have n11_ := Aside0.mk (Kd.R_below (by (with_reducible repeat (first | apply Kd.R_alloc | apply Kd.R_drewN | apply Kd.R_drew)); exact HO233.out) hb); have n12_ := Aside0.mk (Kd.R_below (by (with_reducible repeat (first | apply Kd.R_alloc | apply Kd.R_drewN | apply Kd.R_drew)); exact HO237.out) hb); have n13_ := Aside0.mk (Kd.R_below (by (with_reducible repeat (first | apply Kd.R_alloc | apply Kd.R_drewN | apply Kd.R_drew)); exact HO241.out) hb); have n14_ := Aside0.mk (below_step (by repeat (first | (with_reducible first | exact HB.out | apply below_alloc | apply pw_below_drewN | apply below_drew1) | exact HB.out)) hb); clear HO198; clear HO201; clear HO204; clear HO207; clear HO211; clear HO214; clear HO217; clear HO220; clear HO224; clear HO227; clear HO230; clear HO233; clear HO237; clear HO241; clear HB; have HO198 := n0_; have HO201 := n1_; have HO204 := n2_; have HO207 := n3_; have HO211 := n4_; have HO214 := n5_; have HO217 := n6_; have HO220 := n7_; have HO224 := n8_; have HO227 := n9_; have HO230 := n10_; have HO233 := n11_; have HO237 := n12_; have HO241 := n13_; have HB := n14_; clear n0_ n1_ n2_ n3_ n4_ n5_ n6_ n7_ n8_ n9_ n10_ n11_ n12_ n13_ n14_; (try clear hb); (try clear hb2); (try clear hk); (try clear hi)) | (go_at_call 37; (with_reducible refine (gudgeonlaw17_of.calls k (⟨#[120, 97, 121]⟩ : ByteArray) t243 _ A19.out).mono ?_); rintro e w48 ⟨v244, rfl, ho0, hb⟩; have n0_ := Aside0.mk (Kd.R_elder' (by (with_reducible repeat (first | apply Kd.R_alloc | apply Kd.R_drewN | apply Kd.R_drew)); exact HO198.out) (Kd.R_base ho0) hb); have n1_ := Aside0.mk (Kd.R_elder' (by (with_reducible repeat (first | apply Kd.R_alloc | apply Kd.R_drewN | apply Kd.R_drew)); exact HO201.out) (Kd.R_base ho0) hb); have n2_ := Aside0.mk (Kd.R_elder' (by (with_reducible repeat (first | apply Kd.R_alloc | apply Kd.R_drewN | apply Kd.R_drew)); exact HO204.out) (Kd.R_base ho0) hb); have n3_ := Aside0.mk (Kd.R_elder' (by (with_reducible repeat (first | apply Kd.R_alloc | apply Kd.R_drewN | apply Kd.R_drew)); exact HO207.out) (Kd.R_base ho0) hb); have n4_ := Aside0.mk (Kd.R_elder' (by (with_reducible repeat (first | apply Kd.R_alloc | apply Kd.R_drewN | apply Kd.R_drew)); exact HO211.out) (Kd.R_base ho0) hb); have n5_ := Aside0.mk (Kd.R_elder' (by (with_reducible repeat (first | apply Kd.R_alloc | apply Kd.R_drewN | apply Kd.R_drew)); exact HO214.out) (Kd.R_base ho0) hb); have n6_ := Aside0.mk (Kd.R_elder' (by (with_reducible repeat (first | apply Kd.R_alloc | apply Kd.R_drewN | apply Kd.R_drew)); exact HO217.out) (Kd.R_base ho0) hb); have n7_ := Aside0.mk (Kd.R_elder' (by (with_reducible repeat (first | apply Kd.R_alloc | apply Kd.R_drewN | apply Kd.R_drew)); exact HO220.out) (Kd.R_base ho0) hb); have n8_ := Aside0.mk (Kd.R_elder' (by (with_reducible repeat (first | apply Kd.R_alloc | apply Kd.R_drewN | apply Kd.R_drew)); exact HO224.out) (Kd.R_base ho0) hb); have n9_ := Aside0.mk (Kd.R_elder' (by (with_reducible repeat (first | apply Kd.R_alloc | apply Kd.R_drewN | apply Kd.R_drew)); exact HO227.out) (Kd.R_base ho0) hb); have n10_ := Aside0.mk (Kd.R_elder' (by (with_reducible repeat (first | apply Kd.R_alloc | apply Kd.R_drewN | apply Kd.R_drew)); exact HO230.out) (Kd.R_base ho0) hb); have n11_ := Aside0.mk (Kd.R_elder' (by (with_reducible repeat (first | apply Kd.R_alloc | apply Kd.R_drewN | apply Kd.R_drew)); exact HO233.out) (Kd.R_base ho0) hb); have n12_ := Aside0.mk (Kd.R_elder' (by (with_reducible repeat (first | apply Kd.R_alloc | apply Kd.R_drewN | apply Kd.R_drew)); exact HO237.out) (Kd.R_base ho0) hb); have n13_ := Aside0.mk (Kd.R_elder' (by (with_reducible repeat (first | apply Kd.R_alloc | apply Kd.R_drewN | apply Kd.R_drew)); exact HO241.out) (Kd.R_base ho0) hb); have n14_ := Aside0.mk (Kd.R_lower (Kd.R_new' (Kd.R_new' (Kd.R_new' (Kd.R_new' (Kd.R_new' (Kd.R_new' (Kd.R_new' (Kd.R_new' (Kd.R_new' (Kd.R_new' (Kd.R_new' (Kd.R_new' (Kd.R_new' (Kd.R_new' ho0 (Kd.R_lt (by (with_reducible repeat (first | apply Kd.R_alloc | apply Kd.R_drewN | apply Kd.R_drew)); exact HO198.out))) (Kd.R_lt (by (with_reducible repeat (first | apply Kd.R_alloc | apply Kd.R_drewN | apply Kd.R_drew)); exact HO201.out))) (Kd.R_lt (by (with_reducible repeat (first | apply Kd.R_alloc | apply Kd.R_drewN | apply Kd.R_drew)); exact HO204.out))) (Kd.R_lt (by (with_reducible repeat (first | apply Kd.R_alloc | apply Kd.R_drewN | apply Kd.R_drew)); exact HO207.out))) (Kd.R_lt (by (with_reducible repeat (first | apply Kd.R_alloc | apply Kd.R_drewN | apply Kd.R_drew)); exact HO211.out))) (Kd.R_lt (by (with_reducible repeat (first | apply Kd.R_alloc | apply Kd.R_drewN | apply Kd.R_drew)); exact HO214.out))) (Kd.R_lt (by (with_reducible repeat (first | apply Kd.R_alloc | apply Kd.R_drewN | apply Kd.R_drew)); exact HO217.out))) (Kd.R_lt (by (with_reducible repeat (first | apply Kd.R_alloc | apply Kd.R_drewN | apply Kd.R_drew)); exact HO220.out))) (Kd.R_lt (by (with_reducible repeat (first | apply Kd.R_alloc | apply Kd.R_drewN | apply Kd.R_drew)); exact HO224.out))) (Kd.R_lt (by (with_reducible repeat (first | apply Kd.R_alloc | apply Kd.R_drewN | apply Kd.R_drew)); exact HO227.out))) (Kd.R_lt (by (with_reducible repeat (first | apply Kd.R_alloc | apply Kd.R_drewN | apply Kd.R_drew)); exact HO230.out))) (Kd.R_lt (by (with_reducible repeat (first | apply Kd.R_alloc | apply Kd.R_drewN | apply Kd.R_drew)); exact HO233.out))) (Kd.R_lt (by (with_reducible repeat (first | apply Kd.R_alloc | apply Kd.R_drewN | apply Kd.R_drew)); exact HO237.out))) (Kd.R_lt (by (with_reducible repeat (first | apply Kd.R_alloc | apply Kd.R_drewN | apply Kd.R_drew)); exact HO241.out))) (below_size (by repeat (first | (with_reducible first | exact HB.out | apply below_alloc | apply pw_below_drewN | apply below_drew1) | exact HB.out)))); have n15_ := Aside0.mk (below_step (by repeat (first | (with_reducible first | exact HB.out | apply below_alloc | apply pw_below_drewN | apply below_drew1) | exact HB.out)) hb); clear HO198; clear HO201; clear HO204; clear HO207; clear HO211; clear HO214; clear HO217; clear HO220; clear HO224; clear HO227; clear HO230; clear HO233; clear HO237; clear HO241; clear HB; have HO198 := n0_; have HO201 := n1_; have HO204 := n2_; have HO207 := n3_; have HO211 := n4_; have HO214 := n5_; have HO217 := n6_; have HO220 := n7_; have HO224 := n8_; have HO227 := n9_; have HO230 := n10_; have HO233 := n11_; have HO237 := n12_; have HO241 := n13_; have HO245 := n14_; have HB := n15_; clear n0_ n1_ n2_ n3_ n4_ n5_ n6_ n7_ n8_ n9_ n10_ n11_ n12_ n13_ n14_ n15_; (try clear hb); (try clear hb2); (try clear hk); (try clear hi); (try clear ho0)) | (go_at_call 37; (with_reducible refine (gudgeonlaw17_of.calls k (⟨#[97, 121]⟩ : ByteArray) t246 _ A20.out).mono ?_); rintro e w49 ⟨v247, rfl, ho0, hb⟩; have n0_ := Aside0.mk (Kd.R_elder' (by (with_reducible repeat (first | apply Kd.R_alloc | apply Kd.R_drewN | apply Kd.R_drew)); exact HO198.out) (Kd.R_base ho0) hb); have n1_ := Aside0.mk (Kd.R_elder' (by (with_reducible repeat (first | apply Kd.R_alloc | apply Kd.R_drewN | apply Kd.R_drew)); exact HO201.out) (Kd.R_base ho0) hb); have n2_ := Aside0.mk (Kd.R_elder' (by (with_reducible repeat (first | apply Kd.R_alloc | apply Kd.R_drewN | apply Kd.R_drew)); exact HO204.out) (Kd.R_base ho0) hb); have n3_ := Aside0.mk (Kd.R_elder' (by (with_reducible repeat (first | apply Kd.R_alloc | apply Kd.R_drewN | apply Kd.R_drew)); exact HO207.out) (Kd.R_base ho0) hb); have n4_ := Aside0.mk (Kd.R_elder' (by (with_reducible repeat (first | apply Kd.R_alloc | apply Kd.R_drewN | apply Kd.R_drew)); exact HO211.out) (Kd.R_base ho0) hb); have n5_ := Aside0.mk (Kd.R_elder' (by (with_reducible repeat (first | apply Kd.R_alloc | apply Kd.R_drewN | apply Kd.R_drew)); exact HO214.out) (Kd.R_base ho0) hb); have n6_ := Aside0.mk (Kd.R_elder' (by (with_reducible repeat (first | apply Kd.R_alloc | apply Kd.R_drewN | apply Kd.R_drew)); exact HO217.out) (Kd.R_base ho0) hb); have n7_ := Aside0.mk (Kd.R_elder' (by (with_reducible repeat (first | apply Kd.R_alloc | apply Kd.R_drewN | apply Kd.R_drew)); exact HO220.out) (Kd.R_base ho0) hb); have n8_ := Aside0.mk (Kd.R_elder' (by (with_reducible repeat (first | apply Kd.R_alloc | apply Kd.R_drewN | apply Kd.R_drew)); exact HO224.out) (Kd.R_base ho0) hb); have n9_ := Aside0.mk (Kd.R_elder' (by (with_reducible repeat (first | apply Kd.R_alloc | apply Kd.R_drewN | apply Kd.R_drew)); exact HO227.out) (Kd.R_base ho0) hb); have n10_ := Aside0.mk (Kd.R_elder' (by (with_reducible repeat (first | apply Kd.R_alloc | apply Kd.R_drewN | apply Kd.R_drew)); exact HO230.out) (Kd.R_base ho0) hb); have n11_ := Aside0.mk (Kd.R_elder' (by (with_reducible repeat (first | apply Kd.R_alloc | apply Kd.R_drewN | apply Kd.R_drew)); exact HO233.out) (Kd.R_base ho0) hb); have n12_ := Aside0.mk (Kd.R_elder' (by (with_reducible repeat (first | apply Kd.R_alloc | apply Kd.R_drewN | apply Kd.R_drew)); exact HO237.out) (Kd.R_base ho0) hb); have n13_ := Aside0.mk (Kd.R_elder' (by (with_reducible repeat (first | apply Kd.R_alloc | apply Kd.R_drewN | apply Kd.R_drew)); exact HO241.out) (Kd.R_base ho0) hb); have n14_ := Aside0.mk (Kd.R_elder' (by (with_reducible repeat (first | apply Kd.R_alloc | apply Kd.R_drewN | apply Kd.R_drew)); exact HO245.out) (Kd.R_base ho0) hb); have n15_ := Aside0.mk (Kd.R_lower (Kd.R_new' (Kd.R_new' (Kd.R_new' (Kd.R_new' (Kd.R_new' (Kd.R_new' (Kd.R_new' (Kd.R_new' (Kd.R_new' (Kd.R_new' (Kd.R_new' (Kd.R_new' (Kd.R_new' (Kd.R_new' (Kd.R_new' ho0 (Kd.R_lt (by (with_reducible repeat (first | apply Kd.R_alloc | apply Kd.R_drewN | apply Kd.R_drew)); exact HO198.out))) (Kd.R_lt (by (with_reducible repeat (first | apply Kd.R_alloc | apply Kd.R_drewN | apply Kd.R_drew)); exact HO201.out))) (Kd.R_lt (by (with_reducible repeat (first | apply Kd.R_alloc | apply Kd.R_drewN | apply Kd.R_drew)); exact HO204.out))) (Kd.R_lt (by (with_reducible repeat (first | apply Kd.R_alloc | apply Kd.R_drewN | apply Kd.R_drew)); exact HO207.out))) (Kd.R_lt (by (with_reducible repeat (first | apply Kd.R_alloc | apply Kd.R_drewN | apply Kd.R_drew)); exact HO211.out))) (Kd.R_lt (by (with_reducible repeat (first | apply Kd.R_alloc | apply Kd.R_drewN | apply Kd.R_drew)); exact HO214.out))) (Kd.R_lt (by (with_reducible repeat (first | apply Kd.R_alloc | apply Kd.R_drewN | apply Kd.R_drew)); exact HO217.out))) (Kd.R_lt (by (with_reducible repeat (first | apply Kd.R_alloc | apply Kd.R_drewN | apply Kd.R_drew)); exact HO220.out))) (Kd.R_lt (by (with_reducible repeat (first | apply Kd.R_alloc | apply Kd.R_drewN | apply Kd.R_drew)); exact HO224.out))) (Kd.R_lt (by (with_reducible repeat (first | apply Kd.R_alloc | apply Kd.R_drewN | apply Kd.R_drew)); exact HO227.out))) (Kd.R_lt (by (with_reducible repeat (first | apply Kd.R_alloc | apply Kd.R_drewN | apply Kd.R_drew)); exact HO230.out))) (Kd.R_lt (by (with_reducible repeat (first | apply Kd.R_alloc | apply Kd.R_drewN | apply Kd.R_drew)); exact HO233.out))) (Kd.R_lt (by (with_reducible repeat (first | apply Kd.R_alloc | apply Kd.R_drewN | apply Kd.R_drew)); exact HO237.out))) (Kd.R_lt (by (with_reducible repeat (first | apply Kd.R_alloc | apply Kd.R_drewN | apply Kd.R_drew)); exact HO241.out))) (Kd.R_lt (by (with_reducible repeat (first | apply Kd.R_alloc | apply Kd.R_drewN | apply Kd.R_drew)); exact HO245.out))) (below_size (by repeat (first | (with_reducible first | exact HB.out | apply below_alloc | apply pw_below_drewN | apply below_drew1) | exact HB.out)))); have n16_ := Aside0.mk (below_step (by repeat (first | (with_reducible first | exact HB.out | apply below_alloc | apply pw_below_drewN | apply below_drew1) | exact HB.out)) hb); clear HO198; clear HO201; clear HO204; clear HO207; clear HO211; clear HO214; clear HO217; clear HO220; clear HO224; clear HO227; clear HO230; clear HO233; clear HO237; clear HO241; clear HO245; clear HB; have HO198 := n0_; have HO201 := n1_; have HO204 := n2_; have HO207 := n3_; have HO211 := n4_; have HO214 := n5_; have HO217 := n6_; have HO220 := n7_; have HO224 := n8_; have HO227 := n9_; have HO230 := n10_; have HO233 := n11_; have HO237 := n12_; have HO241 := n13_; have HO245 := n14_; have HO248 := n15_; have HB := n16_; clear n0_ n1_ n2_ n3_ n4_ n5_ n6_ n7_ n8_ n9_ n10_ n11_ n12_ n13_ n14_ n15_ n16_; (try clear hb); (try clear hb2); (try clear hk); (try clear hi); (try clear ho0)) | ((with_reducible refine gate_dst (N := 58) rfl ?_); (try (refine gate_guard (by rfl) ?_; dsimp only)); refine Kd.R_lit (Kd.int .i64) _ 3 ?hg (N := 58) ?hd (xs := ([0] : List Int)) (inner := [.int .i64 0]) (ok := fun _ => True) (okp := fun _ => True) ?hr ?hp (fun _ hk => hk) trivial (Below.refl _ _) (Nat.le_refl _) (by simp) ?_; (case hd => rfl); (case hg => rfl); (case hr => first | (go_simp; done) | (go_simp; rfl) | (go_simp; simp only [IntKind.wrap_u8, IntKind.wrap_u32]; congr 4; omega) | (go_simp; simp only [IntKind.wrap_u8, IntKind.wrap_u32]; congr 5; omega)); (case hp => exact (Reps.one (show Kd.M (Kd.int .i64) _ _ _ 0 [.int .i64 0] from rfl) (Reps.none _ _))); intro v250 w50 ho51 hb hg_ hnew_; clear hg_ hnew_; (first | rw [← Ny249.out] at ho51 | (simp only [Int.reduceToNat] at ho51; rw [← Ny249.out] at ho51)); have n0_ := Aside0.mk (Kd.R_below (by (with_reducible repeat (first | apply Kd.R_alloc | apply Kd.R_drewN | apply Kd.R_drew)); exact HO198.out) hb); have n1_ := Aside0.mk (Kd.R_below (by (with_reducible repeat (first | apply Kd.R_alloc | apply Kd.R_drewN | apply Kd.R_drew)); exact HO201.out) hb); have n2_ := Aside0.mk (Kd.R_below (by (with_reducible repeat (first | apply Kd.R_alloc | apply Kd.R_drewN | apply Kd.R_drew)); exact HO204.out) hb); have n3_ := Aside0.mk (Kd.R_below (by (with_reducible repeat (first | apply Kd.R_alloc | apply Kd.R_drewN | apply Kd.R_drew)); exact HO207.out) hb); have n4_ := Aside0.mk (Kd.R_below (by (with_reducible repeat (first | apply Kd.R_alloc | apply Kd.R_drewN | apply Kd.R_drew)); exact HO211.out) hb); have n5_ := Aside0.mk (Kd.R_below (by (with_reducible repeat (first | apply Kd.R_alloc | apply Kd.R_drewN | apply Kd.R_drew)); exact HO214.out) hb); have n6_ := Aside0.mk (Kd.R_below (by (with_reducible repeat (first | apply Kd.R_alloc | apply Kd.R_drewN | apply Kd.R_drew)); exact HO217.out) hb); have n7_ := Aside0.mk (Kd.R_below (by (with_reducible repeat (first | apply Kd.R_alloc | apply Kd.R_drewN | apply Kd.R_drew)); exact HO220.out) hb); have n8_ := Aside0.mk (Kd.R_below (by (with_reducible repeat (first | apply Kd.R_alloc | apply Kd.R_drewN | apply Kd.R_drew)); exact HO224.out) hb); have n9_ := Aside0.mk (Kd.R_below (by (with_reducible repeat (first | apply Kd.R_alloc | apply Kd.R_drewN | apply Kd.R_drew)); exact HO227.out) hb); have n10_ := Aside0.mk (Kd.R_below (by (with_reducible repeat (first | apply Kd.R_alloc | apply Kd.R_drewN | apply Kd.R_drew)); exact HO230.out) hb); have n11_ := Aside0.mk (Kd.R_below (by (with_reducible repeat (first | apply Kd.R_alloc | apply Kd.R_drewN | apply Kd.R_drew)); exact HO233.out) hb); have n12_ := Aside0.mk (Kd.R_below (by (with_reducible repeat (first | apply Kd.R_alloc | apply Kd.R_drewN | apply Kd.R_drew)); exact HO237.out) hb); have n13_ := Aside0.mk (Kd.R_below (by (with_reducible repeat (first | apply Kd.R_alloc | apply Kd.R_drewN | apply Kd.R_drew)); exact HO241.out) hb); have n14_ := Aside0.mk (Kd.R_below (by (with_reducible repeat (first | apply Kd.R_alloc | apply Kd.R_drewN | apply Kd.R_drew)); exact HO245.out) hb); have n15_ := Aside0.mk (Kd.R_below (by (with_reducible repeat (first | apply Kd.R_alloc | apply Kd.R_drewN | apply Kd.R_drew)); exact HO248.out) hb); have n16_ := Aside0.mk (Kd.R_lower ho51 (below_size (by repeat (first | (with_reducible first | exact HB.out | apply below_alloc | apply pw_below_drewN | apply below_drew1) | exact HB.out)))); have n17_ := Aside0.mk (below_step (by repeat (first | (with_reducible first | exact HB.out | apply below_alloc | apply pw_below_drewN | apply below_drew1) | exact HB.out)) hb); clear HO198; clear HO201; clear HO204; clear HO207; clear HO211; clear HO214; clear HO217; clear HO220; clear HO224; clear HO227; clear HO230; clear HO233; clear HO237; clear HO241; clear HO245; clear HO248; clear HB; have HO198 := n0_; have HO201 := n1_; have HO204 := n2_; have HO207 := n3_; have HO211 := n4_; have HO214 := n5_; have HO217 := n6_; have HO220 := n7_; have HO224 := n8_; have HO227 := n9_; have HO230 := n10_; have HO233 := n11_; have HO237 := n12_; have HO241 := n13_; have HO245 := n14_; have HO248 := n15_; have HO251 := n16_; have HB := n17_; clear n0_ n1_ n2_ n3_ n4_ n5_ n6_ n7_ n8_ n9_ n10_ n11_ n12_ n13_ n14_ n15_ n16_ n17_; clear hb ho51; obtain ⟨Ao52, co52, eo52⟩ := Kd.R_slice HO245.out; subst eo52; obtain ⟨Ao53, co53, eo53⟩ := Kd.R_slice HO248.out; subst eo53; obtain ⟨Ao54, co54, eo54⟩ := Kd.R_slice HO251.out; subst eo54) | (go_at_call 20; (with_reducible refine (word_Alike.calls k _ _ t243 _ _ t246 _ _ y249 true _ ?side1 ?side2 ?side3 ?side4 ?side5 ?side6 A21.out).mono ?_); (case side1 => repeat (first | exact (Kd.R_reads' HO245.out).2.2 | (with_reducible refine Kd.C_alloc ?_ _) | (with_reducible refine Kd.C_drewN ?_ _) | (with_reducible refine Kd.C_drew ?_))); (case side2 => exact (Kd.R_reads' HO245.out).2.1); (case side3 => repeat (first | exact (Kd.R_reads' HO248.out).2.2 | (with_reducible refine Kd.C_alloc ?_ _) | (with_reducible refine Kd.C_drewN ?_ _) | (with_reducible refine Kd.C_drew ?_))); (case side4 => exact (Kd.R_reads' HO248.out).2.1); (case side5 => repeat (first | exact (Kd.R_reads' HO251.out).2.2 | (with_reducible refine Kd.C_alloc ?_ _) | (with_reducible refine Kd.C_drewN ?_ _) | (with_reducible refine Kd.C_drew ?_))); (case side6 => exact (Kd.R_reads' HO251.out).2.1); rintro e w55 ⟨rfl, hb⟩; have n0_ := Aside0.mk (Kd.R_below (by (with_reducible repeat (first | apply Kd.R_alloc | apply Kd.R_drewN | apply Kd.R_drew)); exact HO198.out) hb); have n1_ := Aside0.mk (Kd.R_below (by (with_reducible repeat (first | apply Kd.R_alloc | apply Kd.R_drewN | apply Kd.R_drew)); exact HO201.out) hb); have n2_ := Aside0.mk (Kd.R_below (by (with_reducible repeat (first | apply Kd.R_alloc | apply Kd.R_drewN | apply Kd.R_drew)); exact HO204.out) hb); have n3_ := Aside0.mk (Kd.R_below (by (with_reducible repeat (first | apply Kd.R_alloc | apply Kd.R_drewN | apply Kd.R_drew)); exact HO207.out) hb); have n4_ := Aside0.mk (Kd.R_below (by (with_reducible repeat (first | apply Kd.R_alloc | apply Kd.R_drewN | apply Kd.R_drew)); exact HO211.out) hb); have n5_ := Aside0.mk (Kd.R_below (by (with_reducible repeat (first | apply Kd.R_alloc | apply Kd.R_drewN | apply Kd.R_drew)); exact HO214.out) hb); have n6_ := Aside0.mk (Kd.R_below (by (with_reducible repeat (first | apply Kd.R_alloc | apply Kd.R_drewN | apply Kd.R_drew)); exact HO217.out) hb); have n7_ := Aside0.mk (Kd.R_below (by (with_reducible repeat (first | apply Kd.R_alloc | apply Kd.R_drewN | apply Kd.R_drew)); exact HO220.out) hb); have n8_ := Aside0.mk (Kd.R_below (by (with_reducible repeat (first | apply Kd.R_alloc | apply Kd.R_drewN | apply Kd.R_drew)); exact HO224.out) hb); have n9_ := Aside0.mk (Kd.R_below (by (with_reducible repeat (first | apply Kd.R_alloc | apply Kd.R_drewN | apply Kd.R_drew)); exact HO227.out) hb); have n10_ := Aside0.mk (Kd.R_below (by (with_reducible repeat (first | apply Kd.R_alloc | apply Kd.R_drewN | apply Kd.R_drew)); exact HO230.out) hb); have n11_ := Aside0.mk (Kd.R_below (by (with_reducible repeat (first | apply Kd.R_alloc | apply Kd.R_drewN | apply Kd.R_drew)); exact HO233.out) hb); have n12_ := Aside0.mk (Kd.R_below (by (with_reducible repeat (first | apply Kd.R_alloc | apply Kd.R_drewN | apply Kd.R_drew)); exact HO237.out) hb); have n13_ := Aside0.mk (Kd.R_below (by (with_reducible repeat (first | apply Kd.R_alloc | apply Kd.R_drewN | apply Kd.R_drew)); exact HO241.out) hb); have n14_ := Aside0.mk (Kd.R_below (by (with_reducible repeat (first | apply Kd.R_alloc | apply Kd.R_drewN | apply Kd.R_drew)); exact HO245.out) hb); have n15_ := Aside0.mk (Kd.R_below (by (with_reducible repeat (first | apply Kd.R_alloc | apply Kd.R_drewN | apply Kd.R_drew)); exact HO248.out) hb); have n16_ := Aside0.mk (Kd.R_below (by (with_reducible repeat (first | apply Kd.R_alloc | apply Kd.R_drewN | apply Kd.R_drew)); exact HO251.out) hb); have n17_ := Aside0.mk (below_step (by repeat (first | (with_reducible first | exact HB.out | apply below_alloc | apply pw_below_drewN | apply below_drew1) | exact HB.out)) hb); clear HO198; clear HO201; clear HO204; clear HO207; clear HO211; clear HO214; clear HO217; clear HO220; clear HO224; clear HO227; clear HO230; clear HO233; clear HO237; clear HO241; clear HO245; clear HO248; clear HO251; clear HB; have HO198 := n0_; have HO201 := n1_; have HO204 := n2_; have HO207 := n3_; have HO211 := n4_; have HO214 := n5_; have HO217 := n6_; have HO220 := n7_; have HO224 := n8_; have HO227 := n9_; have HO230 := n10_; have HO233 := n11_; have HO237 := n12_; have HO241 := n13_; have HO245 := n14_; have HO248 := n15_; have HO251 := n16_; have HB := n17_; clear n0_ n1_ n2_ n3_ n4_ n5_ n6_ n7_ n8_ n9_ n10_ n11_ n12_ n13_ n14_ n15_ n16_ n17_; (try clear hb); (try clear hb2); (try clear hk); (try clear hi)) | (go_at_call 37; (with_reducible refine (gudgeonlaw17_of.calls k (⟨#[120, 97, 120]⟩ : ByteArray) t253 _ A23.out).mono ?_); rintro e w56 ⟨v254, rfl, ho0, hb⟩; have n0_ := Aside0.mk (Kd.R_elder' (by (with_reducible repeat (first | apply Kd.R_alloc | apply Kd.R_drewN | apply Kd.R_drew)); exact HO198.out) (Kd.R_base ho0) hb); have n1_ := Aside0.mk (Kd.R_elder' (by (with_reducible repeat (first | apply Kd.R_alloc | apply Kd.R_drewN | apply Kd.R_drew)); exact HO201.out) (Kd.R_base ho0) hb); have n2_ := Aside0.mk (Kd.R_elder' (by (with_reducible repeat (first | apply Kd.R_alloc | apply Kd.R_drewN | apply Kd.R_drew)); exact HO204.out) (Kd.R_base ho0) hb); have n3_ := Aside0.mk (Kd.R_elder' (by (with_reducible repeat (first | apply Kd.R_alloc | apply Kd.R_drewN | apply Kd.R_drew)); exact HO207.out) (Kd.R_base ho0) hb); have n4_ := Aside0.mk (Kd.R_elder' (by (with_reducible repeat (first | apply Kd.R_alloc | apply Kd.R_drewN | apply Kd.R_drew)); exact HO211.out) (Kd.R_base ho0) hb); have n5_ := Aside0.mk (Kd.R_elder' (by (with_reducible repeat (first | apply Kd.R_alloc | apply Kd.R_drewN | apply Kd.R_drew)); exact HO214.out) (Kd.R_base ho0) hb); have n6_ := Aside0.mk (Kd.R_elder' (by (with_reducible repeat (first | apply Kd.R_alloc | apply Kd.R_drewN | apply Kd.R_drew)); exact HO217.out) (Kd.R_base ho0) hb); have n7_ := Aside0.mk (Kd.R_elder' (by (with_reducible repeat (first | apply Kd.R_alloc | apply Kd.R_drewN | apply Kd.R_drew)); exact HO220.out) (Kd.R_base ho0) hb); have n8_ := Aside0.mk (Kd.R_elder' (by (with_reducible repeat (first | apply Kd.R_alloc | apply Kd.R_drewN | apply Kd.R_drew)); exact HO224.out) (Kd.R_base ho0) hb); have n9_ := Aside0.mk (Kd.R_elder' (by (with_reducible repeat (first | apply Kd.R_alloc | apply Kd.R_drewN | apply Kd.R_drew)); exact HO227.out) (Kd.R_base ho0) hb); have n10_ := Aside0.mk (Kd.R_elder' (by (with_reducible repeat (first | apply Kd.R_alloc | apply Kd.R_drewN | apply Kd.R_drew)); exact HO230.out) (Kd.R_base ho0) hb); have n11_ := Aside0.mk (Kd.R_elder' (by (with_reducible repeat (first | apply Kd.R_alloc | apply Kd.R_drewN | apply Kd.R_drew)); exact HO233.out) (Kd.R_base ho0) hb); have n12_ := Aside0.mk (Kd.R_elder' (by (with_reducible repeat (first | apply Kd.R_alloc | apply Kd.R_drewN | apply Kd.R_drew)); exact HO237.out) (Kd.R_base ho0) hb); have n13_ := Aside0.mk (Kd.R_elder' (by (with_reducible repeat (first | apply Kd.R_alloc | apply Kd.R_drewN | apply Kd.R_drew)); exact HO241.out) (Kd.R_base ho0) hb); have n14_ := Aside0.mk (Kd.R_elder' (by (with_reducible repeat (first | apply Kd.R_alloc | apply Kd.R_drewN | apply Kd.R_drew)); exact HO245.out) (Kd.R_base ho0) hb); have n15_ := Aside0.mk (Kd.R_elder' (by (with_reducible repeat (first | apply Kd.R_alloc | apply Kd.R_drewN | apply Kd.R_drew)); exact HO248.out) (Kd.R_base ho0) hb); have n16_ := Aside0.mk (Kd.R_below (by (with_reducible repeat (first | apply Kd.R_alloc | apply Kd.R_drewN | apply Kd.R_drew)); exact HO251.out) hb); have n17_ := Aside0.mk (Kd.R_lower (Kd.R_new' (Kd.R_new' (Kd.R_new' (Kd.R_new' (Kd.R_new' (Kd.R_new' (Kd.R_new' (Kd.R_new' (Kd.R_new' (Kd.R_new' (Kd.R_new' (Kd.R_new' (Kd.R_new' (Kd.R_new' (Kd.R_new' (Kd.R_new' ho0 (Kd.R_lt (by (with_reducible repeat (first | apply Kd.R_alloc | apply Kd.R_drewN | apply Kd.R_drew)); exact HO198.out))) (Kd.R_lt (by (with_reducible repeat (first | apply Kd.R_alloc | apply Kd.R_drewN | apply Kd.R_drew)); exact HO201.out))) (Kd.R_lt (by (with_reducible repeat (first | apply Kd.R_alloc | apply Kd.R_drewN | apply Kd.R_drew)); exact HO204.out))) (Kd.R_lt (by (with_reducible repeat (first | apply Kd.R_alloc | apply Kd.R_drewN | apply Kd.R_drew)); exact HO207.out))) (Kd.R_lt (by (with_reducible repeat (first | apply Kd.R_alloc | apply Kd.R_drewN | apply Kd.R_drew)); exact HO211.out))) (Kd.R_lt (by (with_reducible repeat (first | apply Kd.R_alloc | apply Kd.R_drewN | apply Kd.R_drew)); exact HO214.out))) (Kd.R_lt (by (with_reducible repeat (first | apply Kd.R_alloc | apply Kd.R_drewN | apply Kd.R_drew)); exact HO217.out))) (Kd.R_lt (by (with_reducible repeat (first | apply Kd.R_alloc | apply Kd.R_drewN | apply Kd.R_drew)); exact HO220.out))) (Kd.R_lt (by (with_reducible repeat (first | apply Kd.R_alloc | apply Kd.R_drewN | apply Kd.R_drew)); exact HO224.out))) (Kd.R_lt (by (with_reducible repeat (first | apply Kd.R_alloc | apply Kd.R_drewN | apply Kd.R_drew)); exact HO227.out))) (Kd.R_lt (by (with_reducible repeat (first | apply Kd.R_alloc | apply Kd.R_drewN | apply Kd.R_drew)); exact HO230.out))) (Kd.R_lt (by (with_reducible repeat (first | apply Kd.R_alloc | apply Kd.R_drewN | apply Kd.R_drew)); exact HO233.out))) (Kd.R_lt (by (with_reducible repeat (first | apply Kd.R_alloc | apply Kd.R_drewN | apply Kd.R_drew)); exact HO237.out))) (Kd.R_lt (by (with_reducible repeat (first | apply Kd.R_alloc | apply Kd.R_drewN | apply Kd.R_drew)); exact HO241.out))) (Kd.R_lt (by (with_reducible repeat (first | apply Kd.R_alloc | apply Kd.R_drewN | apply Kd.R_drew)); exact HO245.out))) (Kd.R_lt (by (with_reducible repeat (first | apply Kd.R_alloc | apply Kd.R_drewN | apply Kd.R_drew)); exact HO248.out))) (below_size (by repeat (first | (with_reducible first | exact HB.out | apply below_alloc | apply pw_below_drewN | apply below_drew1) | exact HB.out)))); have n18_ := Aside0.mk (below_step (by repeat (first | (with_reducible first | exact HB.out | apply below_alloc | apply pw_below_drewN | apply below_drew1) | exact HB.out)) hb); clear HO198; clear HO201; clear HO204; clear HO207; clear HO211; clear HO214; clear HO217; clear HO220; clear HO224; clear HO227; clear HO230; clear HO233; clear HO237; clear HO241; clear HO245; clear HO248; clear HO251; clear HB; have HO198 := n0_; have HO201 := n1_; have HO204 := n2_; have HO207 := n3_; have HO211 := n4_; have HO214 := n5_; have HO217 := n6_; have HO220 := n7_; have HO224 := n8_; have HO227 := n9_; have HO230 := n10_; have HO233 := n11_; have HO237 := n12_; have HO241 := n13_; have HO245 := n14_; have HO248 := n15_; have HO251 := n16_; have HO255 := n17_; have HB := n18_; clear n0_ n1_ n2_ n3_ n4_ n5_ n6_ n7_ n8_ n9_ n10_ n11_ n12_ n13_ n14_ n15_ n16_ n17_ n18_; (try clear hb); (try clear hb2); (try clear hk); (try clear hi); (try clear ho0); obtain ⟨Ao57, co57, eo57⟩ := Kd.R_slice HO255.out; subst eo57) | (go_at_call 28; (with_reducible refine (word_Vars.calls k _ _ t253 t256 _ ?side1 ?side2 A24.out).mono ?_); (case side1 => repeat (first | exact (Kd.R_reads' HO255.out).2.2 | (with_reducible refine Kd.C_alloc ?_ _) | (with_reducible refine Kd.C_drewN ?_ _) | (with_reducible refine Kd.C_drew ?_))); (case side2 => exact (Kd.R_reads' HO255.out).2.1); rintro e w58 ⟨v257, rfl, ho0, hb⟩; have n0_ := Aside0.mk (Kd.R_below (by (with_reducible repeat (first | apply Kd.R_alloc | apply Kd.R_drewN | apply Kd.R_drew)); exact HO198.out) hb); have n1_ := Aside0.mk (Kd.R_below (by (with_reducible repeat (first | apply Kd.R_alloc | apply Kd.R_drewN | apply Kd.R_drew)); exact HO201.out) hb); have n2_ := Aside0.mk (Kd.R_below (by (with_reducible repeat (first | apply Kd.R_alloc | apply Kd.R_drewN | apply Kd.R_drew)); exact HO204.out) hb); have n3_ := Aside0.mk (Kd.R_below (by (with_reducible repeat (first | apply Kd.R_alloc | apply Kd.R_drewN | apply Kd.R_drew)); exact HO207.out) hb); have n4_ := Aside0.mk (Kd.R_below (by (with_reducible repeat (first | apply Kd.R_alloc | apply Kd.R_drewN | apply Kd.R_drew)); exact HO211.out) hb); have n5_ := Aside0.mk (Kd.R_below (by (with_reducible repeat (first | apply Kd.R_alloc | apply Kd.R_drewN | apply Kd.R_drew)); exact HO214.out) hb); have n6_ := Aside0.mk (Kd.R_below (by (with_reducible repeat (first | apply Kd.R_alloc | apply Kd.R_drewN | apply Kd.R_drew)); exact HO217.out) hb); have n7_ := Aside0.mk (Kd.R_below (by (with_reducible repeat (first | apply Kd.R_alloc | apply Kd.R_drewN | apply Kd.R_drew)); exact HO220.out) hb); have n8_ := Aside0.mk (Kd.R_below (by (with_reducible repeat (first | apply Kd.R_alloc | apply Kd.R_drewN | apply Kd.R_drew)); exact HO224.out) hb); have n9_ := Aside0.mk (Kd.R_below (by (with_reducible repeat (first | apply Kd.R_alloc | apply Kd.R_drewN | apply Kd.R_drew)); exact HO227.out) hb); have n10_ := Aside0.mk (Kd.R_below (by (with_reducible repeat (first | apply Kd.R_alloc | apply Kd.R_drewN | apply Kd.R_drew)); exact HO230.out) hb); have n11_ := Aside0.mk (Kd.R_below (by (with_reducible repeat (first | apply Kd.R_alloc | apply Kd.R_drewN | apply Kd.R_drew)); exact HO233.out) hb); have n12_ := Aside0.mk (Kd.R_below (by (with_reducible repeat (first | apply Kd.R_alloc | apply Kd.R_drewN | apply Kd.R_drew)); exact HO237.out) hb); have n13_ := Aside0.mk (Kd.R_below (by (with_reducible repeat (first | apply Kd.R_alloc | apply Kd.R_drewN | apply Kd.R_drew)); exact HO241.out) hb); have n14_ := Aside0.mk (Kd.R_below (by (with_reducible repeat (first | apply Kd.R_alloc | apply Kd.R_drewN | apply Kd.R_drew)); exact HO245.out) hb); have n15_ := Aside0.mk (Kd.R_below (by (with_reducible repeat (first | apply Kd.R_alloc | apply Kd.R_drewN | apply Kd.R_drew)); exact HO248.out) hb); have n16_ := Aside0.mk (Kd.R_elder' (by (with_reducible repeat (first | apply Kd.R_alloc | apply Kd.R_drewN | apply Kd.R_drew)); exact HO251.out) (Kd.R_base ho0) hb); have n17_ := Aside0.mk (Kd.R_below (by (with_reducible repeat (first | apply Kd.R_alloc | apply Kd.R_drewN | apply Kd.R_drew)); exact HO255.out) hb); have n18_ := Aside0.mk (Kd.R_lower (Kd.R_new' ho0 (Kd.R_lt (by (with_reducible repeat (first | apply Kd.R_alloc | apply Kd.R_drewN | apply Kd.R_drew)); exact HO251.out))) (below_size (by repeat (first | (with_reducible first | exact HB.out | apply below_alloc | apply pw_below_drewN | apply below_drew1) | exact HB.out)))); have n19_ := Aside0.mk (below_step (by repeat (first | (with_reducible first | exact HB.out | apply below_alloc | apply pw_below_drewN | apply below_drew1) | exact HB.out)) hb); clear HO198; clear HO201; clear HO204; clear HO207; clear HO211; clear HO214; clear HO217; clear HO220; clear HO224; clear HO227; clear HO230; clear HO233; clear HO237; clear HO241; clear HO245; clear HO248; clear HO251; clear HO255; clear HB; have HO198 := n0_; have HO201 := n1_; have HO204 := n2_; have HO207 := n3_; have HO211 := n4_; have HO214 := n5_; have HO217 := n6_; have HO220 := n7_; have HO224 := n8_; have HO227 := n9_; have HO230 := n10_; have HO233 := n11_; have HO237 := n12_; have HO241 := n13_; have HO245 := n14_; have HO248 := n15_; have HO251 := n16_; have HO255 := n17_; have HO258 := n18_; have HB := n19_; clear n0_ n1_ n2_ n3_ n4_ n5_ n6_ n7_ n8_ n9_ n10_ n11_ n12_ n13_ n14_ n15_ n16_ n17_ n18_ n19_; (try clear hb); (try clear hb2); (try clear hk); (try clear hi); (try clear ho0); obtain ⟨Ao59, co59, eo59⟩ := Kd.R_slice HO258.out; subst eo59))
       go_ret
       exact ⟨by first | rfl | (simp [errW_none, errW_some] <;> rfl) | (refine congrArg (fun z_ => Ending.returned (Value.bool z_)) (decide_eq_decide.mpr ?_); unfold wrap64; omega) | (simp [*, errW_none, errW_some] <;> rfl), by repeat (first | (with_reducible first | exact HB.out | apply below_alloc | apply pw_below_drewN | apply below_drew1) | exact HB.out)⟩
      ·replace c22 := Bool.eq_false_iff.mpr c22
       subst c22
       have H1 : (none) = some r := by rw [if_neg (show ¬ (false = true) by decide)] at H; exact H
       clear H
       have H := H1
       clear H1
       exact absurd H (by simp)
     ·replace c18 := Bool.eq_false_iff.mpr c18
      subst c18
      have H1 : (none) = some r := by rw [if_neg (show ¬ (false = true) by decide)] at H; exact H
      clear H
      have H := H1
      clear H1
      exact absurd H (by simp)
    ·replace c17 := Bool.eq_false_iff.mpr c17
     subst c17
     have H1 : (none) = some r := by rw [if_neg (show ¬ (false = true) by decide)] at H; exact H
     clear H
     have H := H1
     clear H1
     exact absurd H (by simp)
   ·rw [if_neg c16] at H
    exact absurd H (by simp)
  ·rw [if_neg c15] at H
   exact absurd H (by simp)
 ·rw [if_neg c14] at H
  exact absurd H (by simp)

/-! ### runs_May: function 38 -/
def runs_May.l0 : Nat → List (S71) → Int → List (S71) → Int → Int → Option (Bool)
 | 0, _, _, _, _, _ => none
 | k + 1, x0, x3, x9, x10, x11 => if x11 < x10 then (if 0 ≤ x11 then (if x11 < (x9.length : Int) then (if ((rd_T71 x9 x11).f0) < 0 then (some false) else (if ((rd_T71 x9 x11).f0) > 196607 then (some false) else (if ((rd_T71 x9 x11).f1) < 1 then (some false) else (if ((rd_T71 x9 x11).f1) > x3 then (some false) else (if x11 > 0 then (if 0 ≤ (wrap64 (x11 - 1)) then (if (wrap64 (x11 - 1)) < (x0.length : Int) then (if ((rd_T71 x0 (wrap64 (x11 - 1))).f0) = ((rd_T71 x9 x11).f0) then (some false) else (runs_May.l0 k x0 (wrap64 (x3 - ((rd_T71 x9 x11).f1))) x9 x10 (wrap64 (x11 + 1)))) else (none)) else (none)) else (runs_May.l0 k x0 (wrap64 (x3 - ((rd_T71 x9 x11).f1))) x9 x10 (wrap64 (x11 + 1)))))))) else (none)) else (none)) else (some true)
def runs_May.f (k : Nat) (l0 : List (S71)) : Option (Bool) := if (l0.length : Int) > 65536 then (some false) else (runs_May.l0 k l0 1099511627776 l0 (l0.length : Int) 0)
set_option maxHeartbeats 8000000 in
set_option maxRecDepth 100000 in
theorem runs_May.calls (k : Nat) (A0 : Option Addr) (c0 : Nat) (l0 : List (S71)) (r : Bool) (w : World) (hr0 : Kd.C k71 w A0 l0.length l0) (hc0 : l0.length ≤ c0) (h : runs_May.f k l0 = some r) :
  Calls Try.prog 38 #[.slice A0 l0.length c0] w fun e w' => e = .returned (.bool r) ∧ Below w.heap.size w w' := by
 have hu71 := Try.underlying71
 have HR0 := Aside0.mk hr0
 have HC0 := Aside0.mk hc0
 clear hr0 hc0
 have HB := Aside0.mk (Below.refl w.heap.size w)
 have H : (if (l0.length : Int) > 65536 then (some false) else (runs_May.l0 k l0 1099511627776 l0 (l0.length : Int) 0)) = some r := h
 clear h
 by_cases c2 : (l0.length : Int) > 65536
 ·rw [if_pos c2] at H
  have c2b0 : decide (65536 < (l0.length : Int)) = true := decide_eq_true c2
  have c2b1 : decide (65536 < l0.length) = true := decide_eq_true (by omega)
  clear c2
  obtain rfl := Option.some.inj H
  go_enter Try.func38, Try.ntmps38
  go_wp2
  repeat (go_quiet (fail); try go_wp2)
  go_ret
  exact ⟨by first | rfl | (simp [errW_none, errW_some] <;> rfl) | (refine congrArg (fun z_ => Ending.returned (Value.bool z_)) (decide_eq_decide.mpr ?_); unfold wrap64; omega) | (simp [*, errW_none, errW_some] <;> rfl), by repeat (first | (with_reducible first | exact HB.out | apply below_alloc | apply pw_below_drewN | apply below_drew1) | exact HB.out)⟩
 ·rw [if_neg c2] at H
  have c2b0 : decide (65536 < (l0.length : Int)) = false := decide_eq_false c2
  have c2b1 : decide (65536 < l0.length) = false := decide_eq_false (by omega)
  clear c2
  have H' := Aside0.mk H
  clear H
  go_enter Try.func38, Try.ntmps38
  go_wp2
  repeat (go_quiet (fail); try go_wp2)
  go_loopg [3, 11] k (fun kq v3 v11 w' => ∃ (x3_1 : Int) (x11_1 : Int), v3 = .int .i64 x3_1 ∧ v11 = .int .i64 x11_1 ∧ Aside0 (runs_May.l0 kq l0 x3_1 l0 (l0.length : Int) x11_1 = some r) ∧ Aside0 (kq ≤ k) ∧ Aside0 (Below w.heap.size w w'))
  case atStart => exact ⟨(1099511627776), (0), (by first | rfl | (simp; done) | (simp [*]; done) | (refine congrArg (Value.int _) ?_; omega) | (refine congrArg Value.bool ?_; generalize ByteArray.toList _ = z_; cases z_ <;> rfl)), (by first | rfl | (simp; done) | (simp [*]; done) | (refine congrArg (Value.int _) ?_; omega) | (refine congrArg Value.bool ?_; generalize ByteArray.toList _ = z_; cases z_ <;> rfl)), H', ⟨Nat.le_refl _⟩, ⟨by repeat (first | (with_reducible first | exact HB.out | apply below_alloc | apply pw_below_drewN | apply below_drew1) | exact HB.out)⟩⟩
  case round =>
   clear H'
   try clear c2
   try clear c2b0
   try clear c2b1
   try clear p2
   obtain ⟨x3_1, x11_1, rfl, rfl, HA, HK1, HB⟩ := hrel
   cases gk with
   | zero => exact absurd HA.out (by simp [runs_May.l0])
   | succ k1 =>
    have H := HA.out
    clear HA
    simp only [runs_May.l0] at H
    by_cases c3 : x11_1 < (l0.length : Int)
    ·rw [if_pos c3] at H
     have c3b0 : decide (x11_1 < (l0.length : Int)) = true := decide_eq_true c3
     clear c3
     by_cases c4 : 0 ≤ x11_1
     ·rw [if_pos c4] at H
      have c4b0 : decide (0 ≤ x11_1) = true := decide_eq_true c4
      clear c4
      by_cases c5 : x11_1 < (l0.length : Int)
      ·rw [if_pos c5] at H
       have c5b0 : decide (x11_1 < (l0.length : Int)) = true := decide_eq_true c5
       clear c5
       by_cases c6 : ((rd_T71 l0 x11_1).f0) < 0
       ·rw [if_pos c6] at H
        have c6b0 : decide (((rd_T71 l0 x11_1).f0) < 0) = true := decide_eq_true c6
        clear c6
        obtain rfl := Option.some.inj H
        have p259 : 0 ≤ (x11_1 : Int) := of_decide_eq_true (by first | (with_reducible assumption) | assumption)
        have q259 : x11_1 < (l0.length : Int) := of_decide_eq_true (by first | (with_reducible assumption) | assumption)
        obtain ⟨ad259, e259, hx259_0, hx259_1⟩ := at_T71 HR0.out x11_1 p259 q259
        cases e259
        replace hx259_0 := (HB.out.cell (World.block_lt_of_cell? w _ hx259_0)).trans hx259_0
        replace hx259_1 := (HB.out.cell (World.block_lt_of_cell? w _ hx259_1)).trans hx259_1
        replace p259 := eq_true p259
        replace q259 := eq_true q259
        go_wp2_with (first | ((with_reducible refine gate_dst (N := 5) rfl ?_); refine box_event ?hg (N := 5) ?hd (cs := #[.int .i64 0, .int .i64 0]) (t := 71) ?hr ?_; (case hd => rfl); (case hg => rfl); (case hr => first | (go_simp; done) | (go_simp; rfl) | (go_simp; simp only [IntKind.wrap_u8, IntKind.wrap_u32]; congr 4; omega) | (go_simp; simp only [IntKind.wrap_u8, IntKind.wrap_u32]; congr 5; omega)); intro gb260 hg w7 hbox hb; have n0_ := Aside0.mk (below_step (by repeat (first | (with_reducible first | exact HB.out | apply below_alloc | apply pw_below_drewN | apply below_drew1) | exact HB.out)) hb); have n1_ := Aside0.mk (hbox); have n2_ := Aside0.mk ((by rw [hg]; exact (below_size (by repeat (first | (with_reducible first | exact HB.out | apply below_alloc | apply pw_below_drewN | apply below_drew1) | exact HB.out))) : w.heap.size ≤ gb260)); have n3_ := Aside0.mk ((by rw [hg]; exact (below_size (by repeat (first | (with_reducible first | exact HB.out | apply below_alloc | apply pw_below_drewN | apply below_drew1) | exact HB.out))) : w.heap.size ≤ gb260)); clear HB; have HB := n0_; have BK260 := n1_; have GW260 := n2_; have GE260 := n3_; clear n0_ n1_ n2_ n3_; clear hb hbox hg; have hcz8_0 : w7.cell? ⟨gb260, 0, none⟩ = some (.int .i64 0) := (blk_cell BK260.out 0).trans rfl; have hcz8_1 : w7.cell? ⟨gb260, 1, none⟩ = some (.int .i64 0) := (blk_cell BK260.out 1).trans rfl; have hfz8_0 := blk_frozen BK260.out 0; have hfz8_1 := blk_frozen BK260.out 1))
        repeat (go_quiet (first | ((with_reducible refine gate_dst (N := 5) rfl ?_); refine box_event ?hg (N := 5) ?hd (cs := #[.int .i64 0, .int .i64 0]) (t := 71) ?hr ?_; (case hd => rfl); (case hg => rfl); (case hr => first | (go_simp; done) | (go_simp; rfl) | (go_simp; simp only [IntKind.wrap_u8, IntKind.wrap_u32]; congr 4; omega) | (go_simp; simp only [IntKind.wrap_u8, IntKind.wrap_u32]; congr 5; omega)); intro gb260 hg w7 hbox hb; have n0_ := Aside0.mk (below_step (by repeat (first | (with_reducible first | exact HB.out | apply below_alloc | apply pw_below_drewN | apply below_drew1) | exact HB.out)) hb); have n1_ := Aside0.mk (hbox); have n2_ := Aside0.mk ((by rw [hg]; exact (below_size (by repeat (first | (with_reducible first | exact HB.out | apply below_alloc | apply pw_below_drewN | apply below_drew1) | exact HB.out))) : w.heap.size ≤ gb260)); have n3_ := Aside0.mk ((by rw [hg]; exact (below_size (by repeat (first | (with_reducible first | exact HB.out | apply below_alloc | apply pw_below_drewN | apply below_drew1) | exact HB.out))) : w.heap.size ≤ gb260)); clear HB; have HB := n0_; have BK260 := n1_; have GW260 := n2_; have GE260 := n3_; clear n0_ n1_ n2_ n3_; clear hb hbox hg; have hcz8_0 : w7.cell? ⟨gb260, 0, none⟩ = some (.int .i64 0) := (blk_cell BK260.out 0).trans rfl; have hcz8_1 : w7.cell? ⟨gb260, 1, none⟩ = some (.int .i64 0) := (blk_cell BK260.out 1).trans rfl; have hfz8_0 := blk_frozen BK260.out 0; have hfz8_1 := blk_frozen BK260.out 1)); try go_wp2_with (first | ((with_reducible refine gate_dst (N := 5) rfl ?_); refine box_event ?hg (N := 5) ?hd (cs := #[.int .i64 0, .int .i64 0]) (t := 71) ?hr ?_; (case hd => rfl); (case hg => rfl); (case hr => first | (go_simp; done) | (go_simp; rfl) | (go_simp; simp only [IntKind.wrap_u8, IntKind.wrap_u32]; congr 4; omega) | (go_simp; simp only [IntKind.wrap_u8, IntKind.wrap_u32]; congr 5; omega)); intro gb260 hg w7 hbox hb; have n0_ := Aside0.mk (below_step (by repeat (first | (with_reducible first | exact HB.out | apply below_alloc | apply pw_below_drewN | apply below_drew1) | exact HB.out)) hb); have n1_ := Aside0.mk (hbox); have n2_ := Aside0.mk ((by rw [hg]; exact (below_size (by repeat (first | (with_reducible first | exact HB.out | apply below_alloc | apply pw_below_drewN | apply below_drew1) | exact HB.out))) : w.heap.size ≤ gb260)); have n3_ := Aside0.mk ((by rw [hg]; exact (below_size (by repeat (first | (with_reducible first | exact HB.out | apply below_alloc | apply pw_below_drewN | apply below_drew1) | exact HB.out))) : w.heap.size ≤ gb260)); clear HB; have HB := n0_; have BK260 := n1_; have GW260 := n2_; have GE260 := n3_; clear n0_ n1_ n2_ n3_; clear hb hbox hg; have hcz8_0 : w7.cell? ⟨gb260, 0, none⟩ = some (.int .i64 0) := (blk_cell BK260.out 0).trans rfl; have hcz8_1 : w7.cell? ⟨gb260, 1, none⟩ = some (.int .i64 0) := (blk_cell BK260.out 1).trans rfl; have hfz8_0 := blk_frozen BK260.out 0; have hfz8_1 := blk_frozen BK260.out 1)))
        go_ret
        exact ⟨by first | rfl | (simp [errW_none, errW_some] <;> rfl) | (refine congrArg (fun z_ => Ending.returned (Value.bool z_)) (decide_eq_decide.mpr ?_); unfold wrap64; omega) | (simp [*, errW_none, errW_some] <;> rfl), by repeat (first | (with_reducible first | exact HB.out | apply below_alloc | apply pw_below_drewN | apply below_drew1 | refine below_set ?_ GE260.out) | exact HB.out)⟩
       ·rw [if_neg c6] at H
        have c6b0 : decide (((rd_T71 l0 x11_1).f0) < 0) = false := decide_eq_false c6
        clear c6
        by_cases c9 : ((rd_T71 l0 x11_1).f0) > 196607
        ·rw [if_pos c9] at H
         have c9b0 : decide (196607 < ((rd_T71 l0 x11_1).f0)) = true := decide_eq_true c9
         clear c9
         obtain rfl := Option.some.inj H
         have p259 : 0 ≤ (x11_1 : Int) := of_decide_eq_true (by first | (with_reducible assumption) | assumption)
         have q259 : x11_1 < (l0.length : Int) := of_decide_eq_true (by first | (with_reducible assumption) | assumption)
         obtain ⟨ad259, e259, hx259_0, hx259_1⟩ := at_T71 HR0.out x11_1 p259 q259
         cases e259
         replace hx259_0 := (HB.out.cell (World.block_lt_of_cell? w _ hx259_0)).trans hx259_0
         replace hx259_1 := (HB.out.cell (World.block_lt_of_cell? w _ hx259_1)).trans hx259_1
         replace p259 := eq_true p259
         replace q259 := eq_true q259
         go_wp2_with (first | ((with_reducible refine gate_dst (N := 5) rfl ?_); refine box_event ?hg (N := 5) ?hd (cs := #[.int .i64 0, .int .i64 0]) (t := 71) ?hr ?_; (case hd => rfl); (case hg => rfl); (case hr => first | (go_simp; done) | (go_simp; rfl) | (go_simp; simp only [IntKind.wrap_u8, IntKind.wrap_u32]; congr 4; omega) | (go_simp; simp only [IntKind.wrap_u8, IntKind.wrap_u32]; congr 5; omega)); intro gb260 hg w10 hbox hb; have n0_ := Aside0.mk (below_step (by repeat (first | (with_reducible first | exact HB.out | apply below_alloc | apply pw_below_drewN | apply below_drew1) | exact HB.out)) hb); have n1_ := Aside0.mk (hbox); have n2_ := Aside0.mk ((by rw [hg]; exact (below_size (by repeat (first | (with_reducible first | exact HB.out | apply below_alloc | apply pw_below_drewN | apply below_drew1) | exact HB.out))) : w.heap.size ≤ gb260)); have n3_ := Aside0.mk ((by rw [hg]; exact (below_size (by repeat (first | (with_reducible first | exact HB.out | apply below_alloc | apply pw_below_drewN | apply below_drew1) | exact HB.out))) : w.heap.size ≤ gb260)); clear HB; have HB := n0_; have BK260 := n1_; have GW260 := n2_; have GE260 := n3_; clear n0_ n1_ n2_ n3_; clear hb hbox hg; have hcz11_0 : w10.cell? ⟨gb260, 0, none⟩ = some (.int .i64 0) := (blk_cell BK260.out 0).trans rfl; have hcz11_1 : w10.cell? ⟨gb260, 1, none⟩ = some (.int .i64 0) := (blk_cell BK260.out 1).trans rfl; have hfz11_0 := blk_frozen BK260.out 0; have hfz11_1 := blk_frozen BK260.out 1))
         repeat (go_quiet (first | ((with_reducible refine gate_dst (N := 5) rfl ?_); refine box_event ?hg (N := 5) ?hd (cs := #[.int .i64 0, .int .i64 0]) (t := 71) ?hr ?_; (case hd => rfl); (case hg => rfl); (case hr => first | (go_simp; done) | (go_simp; rfl) | (go_simp; simp only [IntKind.wrap_u8, IntKind.wrap_u32]; congr 4; omega) | (go_simp; simp only [IntKind.wrap_u8, IntKind.wrap_u32]; congr 5; omega)); intro gb260 hg w10 hbox hb; have n0_ := Aside0.mk (below_step (by repeat (first | (with_reducible first | exact HB.out | apply below_alloc | apply pw_below_drewN | apply below_drew1) | exact HB.out)) hb); have n1_ := Aside0.mk (hbox); have n2_ := Aside0.mk ((by rw [hg]; exact (below_size (by repeat (first | (with_reducible first | exact HB.out | apply below_alloc | apply pw_below_drewN | apply below_drew1) | exact HB.out))) : w.heap.size ≤ gb260)); have n3_ := Aside0.mk ((by rw [hg]; exact (below_size (by repeat (first | (with_reducible first | exact HB.out | apply below_alloc | apply pw_below_drewN | apply below_drew1) | exact HB.out))) : w.heap.size ≤ gb260)); clear HB; have HB := n0_; have BK260 := n1_; have GW260 := n2_; have GE260 := n3_; clear n0_ n1_ n2_ n3_; clear hb hbox hg; have hcz11_0 : w10.cell? ⟨gb260, 0, none⟩ = some (.int .i64 0) := (blk_cell BK260.out 0).trans rfl; have hcz11_1 : w10.cell? ⟨gb260, 1, none⟩ = some (.int .i64 0) := (blk_cell BK260.out 1).trans rfl; have hfz11_0 := blk_frozen BK260.out 0; have hfz11_1 := blk_frozen BK260.out 1)); try go_wp2_with (first | ((with_reducible refine gate_dst (N := 5) rfl ?_); refine box_event ?hg (N := 5) ?hd (cs := #[.int .i64 0, .int .i64 0]) (t := 71) ?hr ?_; (case hd => rfl); (case hg => rfl); (case hr => first | (go_simp; done) | (go_simp; rfl) | (go_simp; simp only [IntKind.wrap_u8, IntKind.wrap_u32]; congr 4; omega) | (go_simp; simp only [IntKind.wrap_u8, IntKind.wrap_u32]; congr 5; omega)); intro gb260 hg w10 hbox hb; have n0_ := Aside0.mk (below_step (by repeat (first | (with_reducible first | exact HB.out | apply below_alloc | apply pw_below_drewN | apply below_drew1) | exact HB.out)) hb); have n1_ := Aside0.mk (hbox); have n2_ := Aside0.mk ((by rw [hg]; exact (below_size (by repeat (first | (with_reducible first | exact HB.out | apply below_alloc | apply pw_below_drewN | apply below_drew1) | exact HB.out))) : w.heap.size ≤ gb260)); have n3_ := Aside0.mk ((by rw [hg]; exact (below_size (by repeat (first | (with_reducible first | exact HB.out | apply below_alloc | apply pw_below_drewN | apply below_drew1) | exact HB.out))) : w.heap.size ≤ gb260)); clear HB; have HB := n0_; have BK260 := n1_; have GW260 := n2_; have GE260 := n3_; clear n0_ n1_ n2_ n3_; clear hb hbox hg; have hcz11_0 : w10.cell? ⟨gb260, 0, none⟩ = some (.int .i64 0) := (blk_cell BK260.out 0).trans rfl; have hcz11_1 : w10.cell? ⟨gb260, 1, none⟩ = some (.int .i64 0) := (blk_cell BK260.out 1).trans rfl; have hfz11_0 := blk_frozen BK260.out 0; have hfz11_1 := blk_frozen BK260.out 1)))
         go_ret
         exact ⟨by first | rfl | (simp [errW_none, errW_some] <;> rfl) | (refine congrArg (fun z_ => Ending.returned (Value.bool z_)) (decide_eq_decide.mpr ?_); unfold wrap64; omega) | (simp [*, errW_none, errW_some] <;> rfl), by repeat (first | (with_reducible first | exact HB.out | apply below_alloc | apply pw_below_drewN | apply below_drew1 | refine below_set ?_ GE260.out) | exact HB.out)⟩
        ·rw [if_neg c9] at H
         have c9b0 : decide (196607 < ((rd_T71 l0 x11_1).f0)) = false := decide_eq_false c9
         clear c9
         by_cases c12 : ((rd_T71 l0 x11_1).f1) < 1
         ·rw [if_pos c12] at H
          have c12b0 : decide (((rd_T71 l0 x11_1).f1) < 1) = true := decide_eq_true c12
          clear c12
          obtain rfl := Option.some.inj H
          have p259 : 0 ≤ (x11_1 : Int) := of_decide_eq_true (by first | (with_reducible assumption) | assumption)
          have q259 : x11_1 < (l0.length : Int) := of_decide_eq_true (by first | (with_reducible assumption) | assumption)
          obtain ⟨ad259, e259, hx259_0, hx259_1⟩ := at_T71 HR0.out x11_1 p259 q259
          cases e259
          replace hx259_0 := (HB.out.cell (World.block_lt_of_cell? w _ hx259_0)).trans hx259_0
          replace hx259_1 := (HB.out.cell (World.block_lt_of_cell? w _ hx259_1)).trans hx259_1
          replace p259 := eq_true p259
          replace q259 := eq_true q259
          go_wp2_with (first | ((with_reducible refine gate_dst (N := 5) rfl ?_); refine box_event ?hg (N := 5) ?hd (cs := #[.int .i64 0, .int .i64 0]) (t := 71) ?hr ?_; (case hd => rfl); (case hg => rfl); (case hr => first | (go_simp; done) | (go_simp; rfl) | (go_simp; simp only [IntKind.wrap_u8, IntKind.wrap_u32]; congr 4; omega) | (go_simp; simp only [IntKind.wrap_u8, IntKind.wrap_u32]; congr 5; omega)); intro gb260 hg w13 hbox hb; have n0_ := Aside0.mk (below_step (by repeat (first | (with_reducible first | exact HB.out | apply below_alloc | apply pw_below_drewN | apply below_drew1) | exact HB.out)) hb); have n1_ := Aside0.mk (hbox); have n2_ := Aside0.mk ((by rw [hg]; exact (below_size (by repeat (first | (with_reducible first | exact HB.out | apply below_alloc | apply pw_below_drewN | apply below_drew1) | exact HB.out))) : w.heap.size ≤ gb260)); have n3_ := Aside0.mk ((by rw [hg]; exact (below_size (by repeat (first | (with_reducible first | exact HB.out | apply below_alloc | apply pw_below_drewN | apply below_drew1) | exact HB.out))) : w.heap.size ≤ gb260)); clear HB; have HB := n0_; have BK260 := n1_; have GW260 := n2_; have GE260 := n3_; clear n0_ n1_ n2_ n3_; clear hb hbox hg; have hcz14_0 : w13.cell? ⟨gb260, 0, none⟩ = some (.int .i64 0) := (blk_cell BK260.out 0).trans rfl; have hcz14_1 : w13.cell? ⟨gb260, 1, none⟩ = some (.int .i64 0) := (blk_cell BK260.out 1).trans rfl; have hfz14_0 := blk_frozen BK260.out 0; have hfz14_1 := blk_frozen BK260.out 1))
          repeat (go_quiet (first | ((with_reducible refine gate_dst (N := 5) rfl ?_); refine box_event ?hg (N := 5) ?hd (cs := #[.int .i64 0, .int .i64 0]) (t := 71) ?hr ?_; (case hd => rfl); (case hg => rfl); (case hr => first | (go_simp; done) | (go_simp; rfl) | (go_simp; simp only [IntKind.wrap_u8, IntKind.wrap_u32]; congr 4; omega) | (go_simp; simp only [IntKind.wrap_u8, IntKind.wrap_u32]; congr 5; omega)); intro gb260 hg w13 hbox hb; have n0_ := Aside0.mk (below_step (by repeat (first | (with_reducible first | exact HB.out | apply below_alloc | apply pw_below_drewN | apply below_drew1) | exact HB.out)) hb); have n1_ := Aside0.mk (hbox); have n2_ := Aside0.mk ((by rw [hg]; exact (below_size (by repeat (first | (with_reducible first | exact HB.out | apply below_alloc | apply pw_below_drewN | apply below_drew1) | exact HB.out))) : w.heap.size ≤ gb260)); have n3_ := Aside0.mk ((by rw [hg]; exact (below_size (by repeat (first | (with_reducible first | exact HB.out | apply below_alloc | apply pw_below_drewN | apply below_drew1) | exact HB.out))) : w.heap.size ≤ gb260)); clear HB; have HB := n0_; have BK260 := n1_; have GW260 := n2_; have GE260 := n3_; clear n0_ n1_ n2_ n3_; clear hb hbox hg; have hcz14_0 : w13.cell? ⟨gb260, 0, none⟩ = some (.int .i64 0) := (blk_cell BK260.out 0).trans rfl; have hcz14_1 : w13.cell? ⟨gb260, 1, none⟩ = some (.int .i64 0) := (blk_cell BK260.out 1).trans rfl; have hfz14_0 := blk_frozen BK260.out 0; have hfz14_1 := blk_frozen BK260.out 1)); try go_wp2_with (first | ((with_reducible refine gate_dst (N := 5) rfl ?_); refine box_event ?hg (N := 5) ?hd (cs := #[.int .i64 0, .int .i64 0]) (t := 71) ?hr ?_; (case hd => rfl); (case hg => rfl); (case hr => first | (go_simp; done) | (go_simp; rfl) | (go_simp; simp only [IntKind.wrap_u8, IntKind.wrap_u32]; congr 4; omega) | (go_simp; simp only [IntKind.wrap_u8, IntKind.wrap_u32]; congr 5; omega)); intro gb260 hg w13 hbox hb; have n0_ := Aside0.mk (below_step (by repeat (first | (with_reducible first | exact HB.out | apply below_alloc | apply pw_below_drewN | apply below_drew1) | exact HB.out)) hb); have n1_ := Aside0.mk (hbox); have n2_ := Aside0.mk ((by rw [hg]; exact (below_size (by repeat (first | (with_reducible first | exact HB.out | apply below_alloc | apply pw_below_drewN | apply below_drew1) | exact HB.out))) : w.heap.size ≤ gb260)); have n3_ := Aside0.mk ((by rw [hg]; exact (below_size (by repeat (first | (with_reducible first | exact HB.out | apply below_alloc | apply pw_below_drewN | apply below_drew1) | exact HB.out))) : w.heap.size ≤ gb260)); clear HB; have HB := n0_; have BK260 := n1_; have GW260 := n2_; have GE260 := n3_; clear n0_ n1_ n2_ n3_; clear hb hbox hg; have hcz14_0 : w13.cell? ⟨gb260, 0, none⟩ = some (.int .i64 0) := (blk_cell BK260.out 0).trans rfl; have hcz14_1 : w13.cell? ⟨gb260, 1, none⟩ = some (.int .i64 0) := (blk_cell BK260.out 1).trans rfl; have hfz14_0 := blk_frozen BK260.out 0; have hfz14_1 := blk_frozen BK260.out 1)))
          go_ret
          exact ⟨by first | rfl | (simp [errW_none, errW_some] <;> rfl) | (refine congrArg (fun z_ => Ending.returned (Value.bool z_)) (decide_eq_decide.mpr ?_); unfold wrap64; omega) | (simp [*, errW_none, errW_some] <;> rfl), by repeat (first | (with_reducible first | exact HB.out | apply below_alloc | apply pw_below_drewN | apply below_drew1 | refine below_set ?_ GE260.out) | exact HB.out)⟩
         ·rw [if_neg c12] at H
          have c12b0 : decide (((rd_T71 l0 x11_1).f1) < 1) = false := decide_eq_false c12
          clear c12
          by_cases c15 : ((rd_T71 l0 x11_1).f1) > x3_1
          ·rw [if_pos c15] at H
           have c15b0 : decide (x3_1 < ((rd_T71 l0 x11_1).f1)) = true := decide_eq_true c15
           clear c15
           obtain rfl := Option.some.inj H
           have p259 : 0 ≤ (x11_1 : Int) := of_decide_eq_true (by first | (with_reducible assumption) | assumption)
           have q259 : x11_1 < (l0.length : Int) := of_decide_eq_true (by first | (with_reducible assumption) | assumption)
           obtain ⟨ad259, e259, hx259_0, hx259_1⟩ := at_T71 HR0.out x11_1 p259 q259
           cases e259
           replace hx259_0 := (HB.out.cell (World.block_lt_of_cell? w _ hx259_0)).trans hx259_0
           replace hx259_1 := (HB.out.cell (World.block_lt_of_cell? w _ hx259_1)).trans hx259_1
           replace p259 := eq_true p259
           replace q259 := eq_true q259
           go_wp2_with (first | ((with_reducible refine gate_dst (N := 5) rfl ?_); refine box_event ?hg (N := 5) ?hd (cs := #[.int .i64 0, .int .i64 0]) (t := 71) ?hr ?_; (case hd => rfl); (case hg => rfl); (case hr => first | (go_simp; done) | (go_simp; rfl) | (go_simp; simp only [IntKind.wrap_u8, IntKind.wrap_u32]; congr 4; omega) | (go_simp; simp only [IntKind.wrap_u8, IntKind.wrap_u32]; congr 5; omega)); intro gb260 hg w16 hbox hb; have n0_ := Aside0.mk (below_step (by repeat (first | (with_reducible first | exact HB.out | apply below_alloc | apply pw_below_drewN | apply below_drew1) | exact HB.out)) hb); have n1_ := Aside0.mk (hbox); have n2_ := Aside0.mk ((by rw [hg]; exact (below_size (by repeat (first | (with_reducible first | exact HB.out | apply below_alloc | apply pw_below_drewN | apply below_drew1) | exact HB.out))) : w.heap.size ≤ gb260)); have n3_ := Aside0.mk ((by rw [hg]; exact (below_size (by repeat (first | (with_reducible first | exact HB.out | apply below_alloc | apply pw_below_drewN | apply below_drew1) | exact HB.out))) : w.heap.size ≤ gb260)); clear HB; have HB := n0_; have BK260 := n1_; have GW260 := n2_; have GE260 := n3_; clear n0_ n1_ n2_ n3_; clear hb hbox hg; have hcz17_0 : w16.cell? ⟨gb260, 0, none⟩ = some (.int .i64 0) := (blk_cell BK260.out 0).trans rfl; have hcz17_1 : w16.cell? ⟨gb260, 1, none⟩ = some (.int .i64 0) := (blk_cell BK260.out 1).trans rfl; have hfz17_0 := blk_frozen BK260.out 0; have hfz17_1 := blk_frozen BK260.out 1))
           repeat (go_quiet (first | ((with_reducible refine gate_dst (N := 5) rfl ?_); refine box_event ?hg (N := 5) ?hd (cs := #[.int .i64 0, .int .i64 0]) (t := 71) ?hr ?_; (case hd => rfl); (case hg => rfl); (case hr => first | (go_simp; done) | (go_simp; rfl) | (go_simp; simp only [IntKind.wrap_u8, IntKind.wrap_u32]; congr 4; omega) | (go_simp; simp only [IntKind.wrap_u8, IntKind.wrap_u32]; congr 5; omega)); intro gb260 hg w16 hbox hb; have n0_ := Aside0.mk (below_step (by repeat (first | (with_reducible first | exact HB.out | apply below_alloc | apply pw_below_drewN | apply below_drew1) | exact HB.out)) hb); have n1_ := Aside0.mk (hbox); have n2_ := Aside0.mk ((by rw [hg]; exact (below_size (by repeat (first | (with_reducible first | exact HB.out | apply below_alloc | apply pw_below_drewN | apply below_drew1) | exact HB.out))) : w.heap.size ≤ gb260)); have n3_ := Aside0.mk ((by rw [hg]; exact (below_size (by repeat (first | (with_reducible first | exact HB.out | apply below_alloc | apply pw_below_drewN | apply below_drew1) | exact HB.out))) : w.heap.size ≤ gb260)); clear HB; have HB := n0_; have BK260 := n1_; have GW260 := n2_; have GE260 := n3_; clear n0_ n1_ n2_ n3_; clear hb hbox hg; have hcz17_0 : w16.cell? ⟨gb260, 0, none⟩ = some (.int .i64 0) := (blk_cell BK260.out 0).trans rfl; have hcz17_1 : w16.cell? ⟨gb260, 1, none⟩ = some (.int .i64 0) := (blk_cell BK260.out 1).trans rfl; have hfz17_0 := blk_frozen BK260.out 0; have hfz17_1 := blk_frozen BK260.out 1)); try go_wp2_with (first | ((with_reducible refine gate_dst (N := 5) rfl ?_); refine box_event ?hg (N := 5) ?hd (cs := #[.int .i64 0, .int .i64 0]) (t := 71) ?hr ?_; (case hd => rfl); (case hg => rfl); (case hr => first | (go_simp; done) | (go_simp; rfl) | (go_simp; simp only [IntKind.wrap_u8, IntKind.wrap_u32]; congr 4; omega) | (go_simp; simp only [IntKind.wrap_u8, IntKind.wrap_u32]; congr 5; omega)); intro gb260 hg w16 hbox hb; have n0_ := Aside0.mk (below_step (by repeat (first | (with_reducible first | exact HB.out | apply below_alloc | apply pw_below_drewN | apply below_drew1) | exact HB.out)) hb); have n1_ := Aside0.mk (hbox); have n2_ := Aside0.mk ((by rw [hg]; exact (below_size (by repeat (first | (with_reducible first | exact HB.out | apply below_alloc | apply pw_below_drewN | apply below_drew1) | exact HB.out))) : w.heap.size ≤ gb260)); have n3_ := Aside0.mk ((by rw [hg]; exact (below_size (by repeat (first | (with_reducible first | exact HB.out | apply below_alloc | apply pw_below_drewN | apply below_drew1) | exact HB.out))) : w.heap.size ≤ gb260)); clear HB; have HB := n0_; have BK260 := n1_; have GW260 := n2_; have GE260 := n3_; clear n0_ n1_ n2_ n3_; clear hb hbox hg; have hcz17_0 : w16.cell? ⟨gb260, 0, none⟩ = some (.int .i64 0) := (blk_cell BK260.out 0).trans rfl; have hcz17_1 : w16.cell? ⟨gb260, 1, none⟩ = some (.int .i64 0) := (blk_cell BK260.out 1).trans rfl; have hfz17_0 := blk_frozen BK260.out 0; have hfz17_1 := blk_frozen BK260.out 1)))
           go_ret
           exact ⟨by first | rfl | (simp [errW_none, errW_some] <;> rfl) | (refine congrArg (fun z_ => Ending.returned (Value.bool z_)) (decide_eq_decide.mpr ?_); unfold wrap64; omega) | (simp [*, errW_none, errW_some] <;> rfl), by repeat (first | (with_reducible first | exact HB.out | apply below_alloc | apply pw_below_drewN | apply below_drew1 | refine below_set ?_ GE260.out) | exact HB.out)⟩
          ·rw [if_neg c15] at H
           have c15b0 : decide (x3_1 < ((rd_T71 l0 x11_1).f1)) = false := decide_eq_false c15
           clear c15
           by_cases c18 : x11_1 > 0
           ·rw [if_pos c18] at H
            have c18b0 : decide (0 < x11_1) = true := decide_eq_true c18
            clear c18
            obtain ⟨ji19, hji19⟩ : ∃ j_ : Int, (wrap64 (x11_1 - 1)) = j_ := ⟨_, rfl⟩
            replace H : (if 0 ≤ (ji19) then (if (ji19) < (l0.length : Int) then (if ((rd_T71 l0 (ji19)).f0) = ((rd_T71 l0 x11_1).f0) then (some false) else (runs_May.l0 k1 l0 (wrap64 (x3_1 - ((rd_T71 l0 x11_1).f1))) l0 (l0.length : Int) (wrap64 (x11_1 + 1)))) else (none)) else (none)) = some r := by first | (rw [hji19] at H; exact H) | (simp only [hji19] at H ⊢; exact H)
            have hji19w : (IntKind.i64.wrap (x11_1 - 1)) = ji19 := (i64_w _).trans hji19
            by_cases c20 : 0 ≤ (ji19)
            ·rw [if_pos c20] at H
             have c20b0 : decide (0 ≤ (ji19)) = true := decide_eq_true c20
             clear c20
             by_cases c21 : (ji19) < (l0.length : Int)
             ·rw [if_pos c21] at H
              have c21b0 : decide ((ji19) < (l0.length : Int)) = true := decide_eq_true c21
              clear c21
              by_cases c22 : ((rd_T71 l0 (ji19)).f0) = ((rd_T71 l0 x11_1).f0)
              ·rw [if_pos c22] at H
               have c22b0 : (((rd_T71 l0 (ji19)).f0) == ((rd_T71 l0 x11_1).f0)) = true := beq_iff_eq.mpr c22
               have c22b1 : (((rd_T71 l0 (ji19)).f0) != ((rd_T71 l0 x11_1).f0)) = false := bne_eq_false_iff_eq.mpr c22
               clear c22
               obtain rfl := Option.some.inj H
               have p259 : 0 ≤ (x11_1 : Int) := of_decide_eq_true (by first | (with_reducible assumption) | assumption)
               have q259 : x11_1 < (l0.length : Int) := of_decide_eq_true (by first | (with_reducible assumption) | assumption)
               obtain ⟨ad259, e259, hx259_0, hx259_1⟩ := at_T71 HR0.out x11_1 p259 q259
               cases e259
               replace hx259_0 := (HB.out.cell (World.block_lt_of_cell? w _ hx259_0)).trans hx259_0
               replace hx259_1 := (HB.out.cell (World.block_lt_of_cell? w _ hx259_1)).trans hx259_1
               replace p259 := eq_true p259
               replace q259 := eq_true q259
               go_wp2_with (first | ((with_reducible refine gate_dst (N := 5) rfl ?_); refine box_event ?hg (N := 5) ?hd (cs := #[.int .i64 0, .int .i64 0]) (t := 71) ?hr ?_; (case hd => rfl); (case hg => rfl); (case hr => first | (go_simp; done) | (go_simp; rfl) | (go_simp; simp only [IntKind.wrap_u8, IntKind.wrap_u32]; congr 4; omega) | (go_simp; simp only [IntKind.wrap_u8, IntKind.wrap_u32]; congr 5; omega)); intro gb260 hg w23 hbox hb; have n0_ := Aside0.mk (below_step (by repeat (first | (with_reducible first | exact HB.out | apply below_alloc | apply pw_below_drewN | apply below_drew1) | exact HB.out)) hb); have n1_ := Aside0.mk (hbox); have n2_ := Aside0.mk ((by rw [hg]; exact (below_size (by repeat (first | (with_reducible first | exact HB.out | apply below_alloc | apply pw_below_drewN | apply below_drew1) | exact HB.out))) : w.heap.size ≤ gb260)); have n3_ := Aside0.mk ((by rw [hg]; exact (below_size (by repeat (first | (with_reducible first | exact HB.out | apply below_alloc | apply pw_below_drewN | apply below_drew1) | exact HB.out))) : w.heap.size ≤ gb260)); clear HB; have HB := n0_; have BK260 := n1_; have GW260 := n2_; have GE260 := n3_; clear n0_ n1_ n2_ n3_; clear hb hbox hg; have hcz24_0 : w23.cell? ⟨gb260, 0, none⟩ = some (.int .i64 0) := (blk_cell BK260.out 0).trans rfl; have hcz24_1 : w23.cell? ⟨gb260, 1, none⟩ = some (.int .i64 0) := (blk_cell BK260.out 1).trans rfl; have hfz24_0 := blk_frozen BK260.out 0; have hfz24_1 := blk_frozen BK260.out 1; have p261 : 0 ≤ ((ji19) : Int) := of_decide_eq_true (by first | (with_reducible assumption) | assumption); have q261 : (ji19) < (l0.length : Int) := of_decide_eq_true (by first | (with_reducible assumption) | assumption); obtain ⟨ad261, e261, hx261_0, hx261_1⟩ := at_T71 HR0.out (ji19) p261 q261; obtain rfl : ad259 = ad261 := (by injection e261); have hn261_0 : ad259.block ≠ gb260 := Nat.ne_of_lt (Nat.lt_of_lt_of_le (by have := World.block_lt_of_cell? _ _ hx261_0; first | rwa [add_block] at this | exact this) GW260.out); have hn261_1 : ad259.block ≠ gb260 := Nat.ne_of_lt (Nat.lt_of_lt_of_le (by have := World.block_lt_of_cell? _ _ hx261_0; first | rwa [add_block] at this | exact this) GW260.out); replace hx261_0 := (HB.out.cell (World.block_lt_of_cell? w _ hx261_0)).trans hx261_0; replace hx261_1 := (HB.out.cell (World.block_lt_of_cell? w _ hx261_1)).trans hx261_1; replace hx261_0 := (cell_far (p := ⟨gb260, 0, none⟩) (by first | (rw [add_block]; exact hn261_0) | (show (Addr.add _ _).block ≠ _; rw [add_block]; exact hn261_0) | exact hn261_0) (.int .i64 ((rd_T71 l0 x11_1).f0))).trans hx261_0; replace hx261_1 := (cell_far (p := ⟨gb260, 0, none⟩) (by first | (rw [add_block]; exact hn261_0) | (show (Addr.add _ _).block ≠ _; rw [add_block]; exact hn261_0) | exact hn261_0) (.int .i64 ((rd_T71 l0 x11_1).f0))).trans hx261_1; replace hx261_0 := (cell_far (p := ⟨gb260, 1, none⟩) (by first | (rw [add_block]; exact hn261_1) | (show (Addr.add _ _).block ≠ _; rw [add_block]; exact hn261_1) | exact hn261_1) (.int .i64 ((rd_T71 l0 x11_1).f1))).trans hx261_0; replace hx261_1 := (cell_far (p := ⟨gb260, 1, none⟩) (by first | (rw [add_block]; exact hn261_1) | (show (Addr.add _ _).block ≠ _; rw [add_block]; exact hn261_1) | exact hn261_1) (.int .i64 ((rd_T71 l0 x11_1).f1))).trans hx261_1; (try have hy261_0 := fun (n_ : Nat) => (show ((((w23.drewN n_).setCell ⟨gb260, 0, none⟩ (.int .i64 ((rd_T71 l0 x11_1).f0))).setCell ⟨gb260, 1, none⟩ (.int .i64 ((rd_T71 l0 x11_1).f1)))).cell? _ = some _ from hx261_0)); (try have hy261_1 := fun (n_ : Nat) => (show ((((w23.drewN n_).setCell ⟨gb260, 0, none⟩ (.int .i64 ((rd_T71 l0 x11_1).f0))).setCell ⟨gb260, 1, none⟩ (.int .i64 ((rd_T71 l0 x11_1).f1)))).cell? _ = some _ from hx261_1)); clear hn261_0; clear hn261_1; replace p261 := eq_true p261; replace q261 := eq_true q261))
               repeat (go_quiet (first | ((with_reducible refine gate_dst (N := 5) rfl ?_); refine box_event ?hg (N := 5) ?hd (cs := #[.int .i64 0, .int .i64 0]) (t := 71) ?hr ?_; (case hd => rfl); (case hg => rfl); (case hr => first | (go_simp; done) | (go_simp; rfl) | (go_simp; simp only [IntKind.wrap_u8, IntKind.wrap_u32]; congr 4; omega) | (go_simp; simp only [IntKind.wrap_u8, IntKind.wrap_u32]; congr 5; omega)); intro gb260 hg w23 hbox hb; have n0_ := Aside0.mk (below_step (by repeat (first | (with_reducible first | exact HB.out | apply below_alloc | apply pw_below_drewN | apply below_drew1) | exact HB.out)) hb); have n1_ := Aside0.mk (hbox); have n2_ := Aside0.mk ((by rw [hg]; exact (below_size (by repeat (first | (with_reducible first | exact HB.out | apply below_alloc | apply pw_below_drewN | apply below_drew1) | exact HB.out))) : w.heap.size ≤ gb260)); have n3_ := Aside0.mk ((by rw [hg]; exact (below_size (by repeat (first | (with_reducible first | exact HB.out | apply below_alloc | apply pw_below_drewN | apply below_drew1) | exact HB.out))) : w.heap.size ≤ gb260)); clear HB; have HB := n0_; have BK260 := n1_; have GW260 := n2_; have GE260 := n3_; clear n0_ n1_ n2_ n3_; clear hb hbox hg; have hcz24_0 : w23.cell? ⟨gb260, 0, none⟩ = some (.int .i64 0) := (blk_cell BK260.out 0).trans rfl; have hcz24_1 : w23.cell? ⟨gb260, 1, none⟩ = some (.int .i64 0) := (blk_cell BK260.out 1).trans rfl; have hfz24_0 := blk_frozen BK260.out 0; have hfz24_1 := blk_frozen BK260.out 1; have p261 : 0 ≤ ((ji19) : Int) := of_decide_eq_true (by first | (with_reducible assumption) | assumption); have q261 : (ji19) < (l0.length : Int) := of_decide_eq_true (by first | (with_reducible assumption) | assumption); obtain ⟨ad261, e261, hx261_0, hx261_1⟩ := at_T71 HR0.out (ji19) p261 q261; obtain rfl : ad259 = ad261 := (by injection e261); have hn261_0 : ad259.block ≠ gb260 := Nat.ne_of_lt (Nat.lt_of_lt_of_le (by have := World.block_lt_of_cell? _ _ hx261_0; first | rwa [add_block] at this | exact this) GW260.out); have hn261_1 : ad259.block ≠ gb260 := Nat.ne_of_lt (Nat.lt_of_lt_of_le (by have := World.block_lt_of_cell? _ _ hx261_0; first | rwa [add_block] at this | exact this) GW260.out); replace hx261_0 := (HB.out.cell (World.block_lt_of_cell? w _ hx261_0)).trans hx261_0; replace hx261_1 := (HB.out.cell (World.block_lt_of_cell? w _ hx261_1)).trans hx261_1; replace hx261_0 := (cell_far (p := ⟨gb260, 0, none⟩) (by first | (rw [add_block]; exact hn261_0) | (show (Addr.add _ _).block ≠ _; rw [add_block]; exact hn261_0) | exact hn261_0) (.int .i64 ((rd_T71 l0 x11_1).f0))).trans hx261_0; replace hx261_1 := (cell_far (p := ⟨gb260, 0, none⟩) (by first | (rw [add_block]; exact hn261_0) | (show (Addr.add _ _).block ≠ _; rw [add_block]; exact hn261_0) | exact hn261_0) (.int .i64 ((rd_T71 l0 x11_1).f0))).trans hx261_1; replace hx261_0 := (cell_far (p := ⟨gb260, 1, none⟩) (by first | (rw [add_block]; exact hn261_1) | (show (Addr.add _ _).block ≠ _; rw [add_block]; exact hn261_1) | exact hn261_1) (.int .i64 ((rd_T71 l0 x11_1).f1))).trans hx261_0; replace hx261_1 := (cell_far (p := ⟨gb260, 1, none⟩) (by first | (rw [add_block]; exact hn261_1) | (show (Addr.add _ _).block ≠ _; rw [add_block]; exact hn261_1) | exact hn261_1) (.int .i64 ((rd_T71 l0 x11_1).f1))).trans hx261_1; (try have hy261_0 := fun (n_ : Nat) => (show ((((w23.drewN n_).setCell ⟨gb260, 0, none⟩ (.int .i64 ((rd_T71 l0 x11_1).f0))).setCell ⟨gb260, 1, none⟩ (.int .i64 ((rd_T71 l0 x11_1).f1)))).cell? _ = some _ from hx261_0)); (try have hy261_1 := fun (n_ : Nat) => (show ((((w23.drewN n_).setCell ⟨gb260, 0, none⟩ (.int .i64 ((rd_T71 l0 x11_1).f0))).setCell ⟨gb260, 1, none⟩ (.int .i64 ((rd_T71 l0 x11_1).f1)))).cell? _ = some _ from hx261_1)); clear hn261_0; clear hn261_1; replace p261 := eq_true p261; replace q261 := eq_true q261)); try go_wp2_with (first | ((with_reducible refine gate_dst (N := 5) rfl ?_); refine box_event ?hg (N := 5) ?hd (cs := #[.int .i64 0, .int .i64 0]) (t := 71) ?hr ?_; (case hd => rfl); (case hg => rfl); (case hr => first | (go_simp; done) | (go_simp; rfl) | (go_simp; simp only [IntKind.wrap_u8, IntKind.wrap_u32]; congr 4; omega) | (go_simp; simp only [IntKind.wrap_u8, IntKind.wrap_u32]; congr 5; omega)); intro gb260 hg w23 hbox hb; have n0_ := Aside0.mk (below_step (by repeat (first | (with_reducible first | exact HB.out | apply below_alloc | apply pw_below_drewN | apply below_drew1) | exact HB.out)) hb); have n1_ := Aside0.mk (hbox); have n2_ := Aside0.mk ((by rw [hg]; exact (below_size (by repeat (first | (with_reducible first | exact HB.out | apply below_alloc | apply pw_below_drewN | apply below_drew1) | exact HB.out))) : w.heap.size ≤ gb260)); have n3_ := Aside0.mk ((by rw [hg]; exact (below_size (by repeat (first | (with_reducible first | exact HB.out | apply below_alloc | apply pw_below_drewN | apply below_drew1) | exact HB.out))) : w.heap.size ≤ gb260)); clear HB; have HB := n0_; have BK260 := n1_; have GW260 := n2_; have GE260 := n3_; clear n0_ n1_ n2_ n3_; clear hb hbox hg; have hcz24_0 : w23.cell? ⟨gb260, 0, none⟩ = some (.int .i64 0) := (blk_cell BK260.out 0).trans rfl; have hcz24_1 : w23.cell? ⟨gb260, 1, none⟩ = some (.int .i64 0) := (blk_cell BK260.out 1).trans rfl; have hfz24_0 := blk_frozen BK260.out 0; have hfz24_1 := blk_frozen BK260.out 1; have p261 : 0 ≤ ((ji19) : Int) := of_decide_eq_true (by first | (with_reducible assumption) | assumption); have q261 : (ji19) < (l0.length : Int) := of_decide_eq_true (by first | (with_reducible assumption) | assumption); obtain ⟨ad261, e261, hx261_0, hx261_1⟩ := at_T71 HR0.out (ji19) p261 q261; obtain rfl : ad259 = ad261 := (by injection e261); have hn261_0 : ad259.block ≠ gb260 := Nat.ne_of_lt (Nat.lt_of_lt_of_le (by have := World.block_lt_of_cell? _ _ hx261_0; first | rwa [add_block] at this | exact this) GW260.out); have hn261_1 : ad259.block ≠ gb260 := Nat.ne_of_lt (Nat.lt_of_lt_of_le (by have := World.block_lt_of_cell? _ _ hx261_0; first | rwa [add_block] at this | exact this) GW260.out); replace hx261_0 := (HB.out.cell (World.block_lt_of_cell? w _ hx261_0)).trans hx261_0; replace hx261_1 := (HB.out.cell (World.block_lt_of_cell? w _ hx261_1)).trans hx261_1; replace hx261_0 := (cell_far (p := ⟨gb260, 0, none⟩) (by first | (rw [add_block]; exact hn261_0) | (show (Addr.add _ _).block ≠ _; rw [add_block]; exact hn261_0) | exact hn261_0) (.int .i64 ((rd_T71 l0 x11_1).f0))).trans hx261_0; replace hx261_1 := (cell_far (p := ⟨gb260, 0, none⟩) (by first | (rw [add_block]; exact hn261_0) | (show (Addr.add _ _).block ≠ _; rw [add_block]; exact hn261_0) | exact hn261_0) (.int .i64 ((rd_T71 l0 x11_1).f0))).trans hx261_1; replace hx261_0 := (cell_far (p := ⟨gb260, 1, none⟩) (by first | (rw [add_block]; exact hn261_1) | (show (Addr.add _ _).block ≠ _; rw [add_block]; exact hn261_1) | exact hn261_1) (.int .i64 ((rd_T71 l0 x11_1).f1))).trans hx261_0; replace hx261_1 := (cell_far (p := ⟨gb260, 1, none⟩) (by first | (rw [add_block]; exact hn261_1) | (show (Addr.add _ _).block ≠ _; rw [add_block]; exact hn261_1) | exact hn261_1) (.int .i64 ((rd_T71 l0 x11_1).f1))).trans hx261_1; (try have hy261_0 := fun (n_ : Nat) => (show ((((w23.drewN n_).setCell ⟨gb260, 0, none⟩ (.int .i64 ((rd_T71 l0 x11_1).f0))).setCell ⟨gb260, 1, none⟩ (.int .i64 ((rd_T71 l0 x11_1).f1)))).cell? _ = some _ from hx261_0)); (try have hy261_1 := fun (n_ : Nat) => (show ((((w23.drewN n_).setCell ⟨gb260, 0, none⟩ (.int .i64 ((rd_T71 l0 x11_1).f0))).setCell ⟨gb260, 1, none⟩ (.int .i64 ((rd_T71 l0 x11_1).f1)))).cell? _ = some _ from hx261_1)); clear hn261_0; clear hn261_1; replace p261 := eq_true p261; replace q261 := eq_true q261)))
               go_ret
               exact ⟨by first | rfl | (simp [errW_none, errW_some] <;> rfl) | (simp only [← hji19]; first | rfl | (simp [errW_none, errW_some] <;> rfl)) | (refine congrArg (fun z_ => Ending.returned (Value.bool z_)) (decide_eq_decide.mpr ?_); unfold wrap64; omega) | (simp [*, errW_none, errW_some] <;> rfl), by repeat (first | (with_reducible first | exact HB.out | apply below_alloc | apply pw_below_drewN | apply below_drew1 | refine below_set ?_ GE260.out) | exact HB.out)⟩
              ·rw [if_neg c22] at H
               have c22b0 : (((rd_T71 l0 (ji19)).f0) == ((rd_T71 l0 x11_1).f0)) = false := beq_eq_false_iff_ne.mpr c22
               have c22b1 : (((rd_T71 l0 (ji19)).f0) != ((rd_T71 l0 x11_1).f0)) = true := bne_iff_ne.mpr c22
               have H' := Aside0.mk H
               clear H
               have p259 : 0 ≤ (x11_1 : Int) := of_decide_eq_true (by first | (with_reducible assumption) | assumption)
               have q259 : x11_1 < (l0.length : Int) := of_decide_eq_true (by first | (with_reducible assumption) | assumption)
               obtain ⟨ad259, e259, hx259_0, hx259_1⟩ := at_T71 HR0.out x11_1 p259 q259
               cases e259
               replace hx259_0 := (HB.out.cell (World.block_lt_of_cell? w _ hx259_0)).trans hx259_0
               replace hx259_1 := (HB.out.cell (World.block_lt_of_cell? w _ hx259_1)).trans hx259_1
               replace p259 := eq_true p259
               replace q259 := eq_true q259
               go_wp2_with (first | ((with_reducible refine gate_dst (N := 5) rfl ?_); refine box_event ?hg (N := 5) ?hd (cs := #[.int .i64 0, .int .i64 0]) (t := 71) ?hr ?_; (case hd => rfl); (case hg => rfl); (case hr => first | (go_simp; done) | (go_simp; rfl) | (go_simp; simp only [IntKind.wrap_u8, IntKind.wrap_u32]; congr 4; omega) | (go_simp; simp only [IntKind.wrap_u8, IntKind.wrap_u32]; congr 5; omega)); intro gb260 hg w25 hbox hb; have n0_ := Aside0.mk (below_step (by repeat (first | (with_reducible first | exact HB.out | apply below_alloc | apply pw_below_drewN | apply below_drew1) | exact HB.out)) hb); have n1_ := Aside0.mk (hbox); have n2_ := Aside0.mk ((by rw [hg]; exact (below_size (by repeat (first | (with_reducible first | exact HB.out | apply below_alloc | apply pw_below_drewN | apply below_drew1) | exact HB.out))) : w.heap.size ≤ gb260)); have n3_ := Aside0.mk ((by rw [hg]; exact (below_size (by repeat (first | (with_reducible first | exact HB.out | apply below_alloc | apply pw_below_drewN | apply below_drew1) | exact HB.out))) : w.heap.size ≤ gb260)); clear HB; have HB := n0_; have BK260 := n1_; have GW260 := n2_; have GE260 := n3_; clear n0_ n1_ n2_ n3_; clear hb hbox hg; have hcz26_0 : w25.cell? ⟨gb260, 0, none⟩ = some (.int .i64 0) := (blk_cell BK260.out 0).trans rfl; have hcz26_1 : w25.cell? ⟨gb260, 1, none⟩ = some (.int .i64 0) := (blk_cell BK260.out 1).trans rfl; have hfz26_0 := blk_frozen BK260.out 0; have hfz26_1 := blk_frozen BK260.out 1; have p261 : 0 ≤ ((ji19) : Int) := of_decide_eq_true (by first | (with_reducible assumption) | assumption); have q261 : (ji19) < (l0.length : Int) := of_decide_eq_true (by first | (with_reducible assumption) | assumption); obtain ⟨ad261, e261, hx261_0, hx261_1⟩ := at_T71 HR0.out (ji19) p261 q261; obtain rfl : ad259 = ad261 := (by injection e261); have hn261_0 : ad259.block ≠ gb260 := Nat.ne_of_lt (Nat.lt_of_lt_of_le (by have := World.block_lt_of_cell? _ _ hx261_0; first | rwa [add_block] at this | exact this) GW260.out); have hn261_1 : ad259.block ≠ gb260 := Nat.ne_of_lt (Nat.lt_of_lt_of_le (by have := World.block_lt_of_cell? _ _ hx261_0; first | rwa [add_block] at this | exact this) GW260.out); replace hx261_0 := (HB.out.cell (World.block_lt_of_cell? w _ hx261_0)).trans hx261_0; replace hx261_1 := (HB.out.cell (World.block_lt_of_cell? w _ hx261_1)).trans hx261_1; replace hx261_0 := (cell_far (p := ⟨gb260, 0, none⟩) (by first | (rw [add_block]; exact hn261_0) | (show (Addr.add _ _).block ≠ _; rw [add_block]; exact hn261_0) | exact hn261_0) (.int .i64 ((rd_T71 l0 x11_1).f0))).trans hx261_0; replace hx261_1 := (cell_far (p := ⟨gb260, 0, none⟩) (by first | (rw [add_block]; exact hn261_0) | (show (Addr.add _ _).block ≠ _; rw [add_block]; exact hn261_0) | exact hn261_0) (.int .i64 ((rd_T71 l0 x11_1).f0))).trans hx261_1; replace hx261_0 := (cell_far (p := ⟨gb260, 1, none⟩) (by first | (rw [add_block]; exact hn261_1) | (show (Addr.add _ _).block ≠ _; rw [add_block]; exact hn261_1) | exact hn261_1) (.int .i64 ((rd_T71 l0 x11_1).f1))).trans hx261_0; replace hx261_1 := (cell_far (p := ⟨gb260, 1, none⟩) (by first | (rw [add_block]; exact hn261_1) | (show (Addr.add _ _).block ≠ _; rw [add_block]; exact hn261_1) | exact hn261_1) (.int .i64 ((rd_T71 l0 x11_1).f1))).trans hx261_1; (try have hy261_0 := fun (n_ : Nat) => (show ((((w25.drewN n_).setCell ⟨gb260, 0, none⟩ (.int .i64 ((rd_T71 l0 x11_1).f0))).setCell ⟨gb260, 1, none⟩ (.int .i64 ((rd_T71 l0 x11_1).f1)))).cell? _ = some _ from hx261_0)); (try have hy261_1 := fun (n_ : Nat) => (show ((((w25.drewN n_).setCell ⟨gb260, 0, none⟩ (.int .i64 ((rd_T71 l0 x11_1).f0))).setCell ⟨gb260, 1, none⟩ (.int .i64 ((rd_T71 l0 x11_1).f1)))).cell? _ = some _ from hx261_1)); clear hn261_0; clear hn261_1; replace p261 := eq_true p261; replace q261 := eq_true q261))
               repeat (go_quiet (first | ((with_reducible refine gate_dst (N := 5) rfl ?_); refine box_event ?hg (N := 5) ?hd (cs := #[.int .i64 0, .int .i64 0]) (t := 71) ?hr ?_; (case hd => rfl); (case hg => rfl); (case hr => first | (go_simp; done) | (go_simp; rfl) | (go_simp; simp only [IntKind.wrap_u8, IntKind.wrap_u32]; congr 4; omega) | (go_simp; simp only [IntKind.wrap_u8, IntKind.wrap_u32]; congr 5; omega)); intro gb260 hg w25 hbox hb; have n0_ := Aside0.mk (below_step (by repeat (first | (with_reducible first | exact HB.out | apply below_alloc | apply pw_below_drewN | apply below_drew1) | exact HB.out)) hb); have n1_ := Aside0.mk (hbox); have n2_ := Aside0.mk ((by rw [hg]; exact (below_size (by repeat (first | (with_reducible first | exact HB.out | apply below_alloc | apply pw_below_drewN | apply below_drew1) | exact HB.out))) : w.heap.size ≤ gb260)); have n3_ := Aside0.mk ((by rw [hg]; exact (below_size (by repeat (first | (with_reducible first | exact HB.out | apply below_alloc | apply pw_below_drewN | apply below_drew1) | exact HB.out))) : w.heap.size ≤ gb260)); clear HB; have HB := n0_; have BK260 := n1_; have GW260 := n2_; have GE260 := n3_; clear n0_ n1_ n2_ n3_; clear hb hbox hg; have hcz26_0 : w25.cell? ⟨gb260, 0, none⟩ = some (.int .i64 0) := (blk_cell BK260.out 0).trans rfl; have hcz26_1 : w25.cell? ⟨gb260, 1, none⟩ = some (.int .i64 0) := (blk_cell BK260.out 1).trans rfl; have hfz26_0 := blk_frozen BK260.out 0; have hfz26_1 := blk_frozen BK260.out 1; have p261 : 0 ≤ ((ji19) : Int) := of_decide_eq_true (by first | (with_reducible assumption) | assumption); have q261 : (ji19) < (l0.length : Int) := of_decide_eq_true (by first | (with_reducible assumption) | assumption); obtain ⟨ad261, e261, hx261_0, hx261_1⟩ := at_T71 HR0.out (ji19) p261 q261; obtain rfl : ad259 = ad261 := (by injection e261); have hn261_0 : ad259.block ≠ gb260 := Nat.ne_of_lt (Nat.lt_of_lt_of_le (by have := World.block_lt_of_cell? _ _ hx261_0; first | rwa [add_block] at this | exact this) GW260.out); have hn261_1 : ad259.block ≠ gb260 := Nat.ne_of_lt (Nat.lt_of_lt_of_le (by have := World.block_lt_of_cell? _ _ hx261_0; first | rwa [add_block] at this | exact this) GW260.out); replace hx261_0 := (HB.out.cell (World.block_lt_of_cell? w _ hx261_0)).trans hx261_0; replace hx261_1 := (HB.out.cell (World.block_lt_of_cell? w _ hx261_1)).trans hx261_1; replace hx261_0 := (cell_far (p := ⟨gb260, 0, none⟩) (by first | (rw [add_block]; exact hn261_0) | (show (Addr.add _ _).block ≠ _; rw [add_block]; exact hn261_0) | exact hn261_0) (.int .i64 ((rd_T71 l0 x11_1).f0))).trans hx261_0; replace hx261_1 := (cell_far (p := ⟨gb260, 0, none⟩) (by first | (rw [add_block]; exact hn261_0) | (show (Addr.add _ _).block ≠ _; rw [add_block]; exact hn261_0) | exact hn261_0) (.int .i64 ((rd_T71 l0 x11_1).f0))).trans hx261_1; replace hx261_0 := (cell_far (p := ⟨gb260, 1, none⟩) (by first | (rw [add_block]; exact hn261_1) | (show (Addr.add _ _).block ≠ _; rw [add_block]; exact hn261_1) | exact hn261_1) (.int .i64 ((rd_T71 l0 x11_1).f1))).trans hx261_0; replace hx261_1 := (cell_far (p := ⟨gb260, 1, none⟩) (by first | (rw [add_block]; exact hn261_1) | (show (Addr.add _ _).block ≠ _; rw [add_block]; exact hn261_1) | exact hn261_1) (.int .i64 ((rd_T71 l0 x11_1).f1))).trans hx261_1; (try have hy261_0 := fun (n_ : Nat) => (show ((((w25.drewN n_).setCell ⟨gb260, 0, none⟩ (.int .i64 ((rd_T71 l0 x11_1).f0))).setCell ⟨gb260, 1, none⟩ (.int .i64 ((rd_T71 l0 x11_1).f1)))).cell? _ = some _ from hx261_0)); (try have hy261_1 := fun (n_ : Nat) => (show ((((w25.drewN n_).setCell ⟨gb260, 0, none⟩ (.int .i64 ((rd_T71 l0 x11_1).f0))).setCell ⟨gb260, 1, none⟩ (.int .i64 ((rd_T71 l0 x11_1).f1)))).cell? _ = some _ from hx261_1)); clear hn261_0; clear hn261_1; replace p261 := eq_true p261; replace q261 := eq_true q261)); try go_wp2_with (first | ((with_reducible refine gate_dst (N := 5) rfl ?_); refine box_event ?hg (N := 5) ?hd (cs := #[.int .i64 0, .int .i64 0]) (t := 71) ?hr ?_; (case hd => rfl); (case hg => rfl); (case hr => first | (go_simp; done) | (go_simp; rfl) | (go_simp; simp only [IntKind.wrap_u8, IntKind.wrap_u32]; congr 4; omega) | (go_simp; simp only [IntKind.wrap_u8, IntKind.wrap_u32]; congr 5; omega)); intro gb260 hg w25 hbox hb; have n0_ := Aside0.mk (below_step (by repeat (first | (with_reducible first | exact HB.out | apply below_alloc | apply pw_below_drewN | apply below_drew1) | exact HB.out)) hb); have n1_ := Aside0.mk (hbox); have n2_ := Aside0.mk ((by rw [hg]; exact (below_size (by repeat (first | (with_reducible first | exact HB.out | apply below_alloc | apply pw_below_drewN | apply below_drew1) | exact HB.out))) : w.heap.size ≤ gb260)); have n3_ := Aside0.mk ((by rw [hg]; exact (below_size (by repeat (first | (with_reducible first | exact HB.out | apply below_alloc | apply pw_below_drewN | apply below_drew1) | exact HB.out))) : w.heap.size ≤ gb260)); clear HB; have HB := n0_; have BK260 := n1_; have GW260 := n2_; have GE260 := n3_; clear n0_ n1_ n2_ n3_; clear hb hbox hg; have hcz26_0 : w25.cell? ⟨gb260, 0, none⟩ = some (.int .i64 0) := (blk_cell BK260.out 0).trans rfl; have hcz26_1 : w25.cell? ⟨gb260, 1, none⟩ = some (.int .i64 0) := (blk_cell BK260.out 1).trans rfl; have hfz26_0 := blk_frozen BK260.out 0; have hfz26_1 := blk_frozen BK260.out 1; have p261 : 0 ≤ ((ji19) : Int) := of_decide_eq_true (by first | (with_reducible assumption) | assumption); have q261 : (ji19) < (l0.length : Int) := of_decide_eq_true (by first | (with_reducible assumption) | assumption); obtain ⟨ad261, e261, hx261_0, hx261_1⟩ := at_T71 HR0.out (ji19) p261 q261; obtain rfl : ad259 = ad261 := (by injection e261); have hn261_0 : ad259.block ≠ gb260 := Nat.ne_of_lt (Nat.lt_of_lt_of_le (by have := World.block_lt_of_cell? _ _ hx261_0; first | rwa [add_block] at this | exact this) GW260.out); have hn261_1 : ad259.block ≠ gb260 := Nat.ne_of_lt (Nat.lt_of_lt_of_le (by have := World.block_lt_of_cell? _ _ hx261_0; first | rwa [add_block] at this | exact this) GW260.out); replace hx261_0 := (HB.out.cell (World.block_lt_of_cell? w _ hx261_0)).trans hx261_0; replace hx261_1 := (HB.out.cell (World.block_lt_of_cell? w _ hx261_1)).trans hx261_1; replace hx261_0 := (cell_far (p := ⟨gb260, 0, none⟩) (by first | (rw [add_block]; exact hn261_0) | (show (Addr.add _ _).block ≠ _; rw [add_block]; exact hn261_0) | exact hn261_0) (.int .i64 ((rd_T71 l0 x11_1).f0))).trans hx261_0; replace hx261_1 := (cell_far (p := ⟨gb260, 0, none⟩) (by first | (rw [add_block]; exact hn261_0) | (show (Addr.add _ _).block ≠ _; rw [add_block]; exact hn261_0) | exact hn261_0) (.int .i64 ((rd_T71 l0 x11_1).f0))).trans hx261_1; replace hx261_0 := (cell_far (p := ⟨gb260, 1, none⟩) (by first | (rw [add_block]; exact hn261_1) | (show (Addr.add _ _).block ≠ _; rw [add_block]; exact hn261_1) | exact hn261_1) (.int .i64 ((rd_T71 l0 x11_1).f1))).trans hx261_0; replace hx261_1 := (cell_far (p := ⟨gb260, 1, none⟩) (by first | (rw [add_block]; exact hn261_1) | (show (Addr.add _ _).block ≠ _; rw [add_block]; exact hn261_1) | exact hn261_1) (.int .i64 ((rd_T71 l0 x11_1).f1))).trans hx261_1; (try have hy261_0 := fun (n_ : Nat) => (show ((((w25.drewN n_).setCell ⟨gb260, 0, none⟩ (.int .i64 ((rd_T71 l0 x11_1).f0))).setCell ⟨gb260, 1, none⟩ (.int .i64 ((rd_T71 l0 x11_1).f1)))).cell? _ = some _ from hx261_0)); (try have hy261_1 := fun (n_ : Nat) => (show ((((w25.drewN n_).setCell ⟨gb260, 0, none⟩ (.int .i64 ((rd_T71 l0 x11_1).f0))).setCell ⟨gb260, 1, none⟩ (.int .i64 ((rd_T71 l0 x11_1).f1)))).cell? _ = some _ from hx261_1)); clear hn261_0; clear hn261_1; replace p261 := eq_true p261; replace q261 := eq_true q261)))
               go_roundg k1
               case measure => have := HK1.out; omega
               case rel => exact ⟨(wrap64 (x3_1 - ((rd_T71 l0 x11_1).f1))), (wrap64 (x11_1 + 1)), (by first | rfl | (simp; done) | (simp [*]; done) | (refine congrArg (Value.int _) ?_; omega) | (refine congrArg Value.bool ?_; generalize ByteArray.toList _ = z_; cases z_ <;> rfl)), (by first | rfl | (simp; done) | (simp [*]; done) | (refine congrArg (Value.int _) ?_; omega) | (refine congrArg Value.bool ?_; generalize ByteArray.toList _ = z_; cases z_ <;> rfl)), H', ⟨by have := HK1.out; omega⟩, ⟨by repeat (first | (with_reducible first | exact HB.out | apply below_alloc | apply pw_below_drewN | apply below_drew1 | refine below_set ?_ GE260.out) | exact HB.out)⟩⟩
             ·rw [if_neg c21] at H
              exact absurd H (by simp)
            ·rw [if_neg c20] at H
             exact absurd H (by simp)
           ·rw [if_neg c18] at H
            have c18b0 : decide (0 < x11_1) = false := decide_eq_false c18
            clear c18
            have H' := Aside0.mk H
            clear H
            have p259 : 0 ≤ (x11_1 : Int) := of_decide_eq_true (by first | (with_reducible assumption) | assumption)
            have q259 : x11_1 < (l0.length : Int) := of_decide_eq_true (by first | (with_reducible assumption) | assumption)
            obtain ⟨ad259, e259, hx259_0, hx259_1⟩ := at_T71 HR0.out x11_1 p259 q259
            cases e259
            replace hx259_0 := (HB.out.cell (World.block_lt_of_cell? w _ hx259_0)).trans hx259_0
            replace hx259_1 := (HB.out.cell (World.block_lt_of_cell? w _ hx259_1)).trans hx259_1
            replace p259 := eq_true p259
            replace q259 := eq_true q259
            go_wp2_with (first | ((with_reducible refine gate_dst (N := 5) rfl ?_); refine box_event ?hg (N := 5) ?hd (cs := #[.int .i64 0, .int .i64 0]) (t := 71) ?hr ?_; (case hd => rfl); (case hg => rfl); (case hr => first | (go_simp; done) | (go_simp; rfl) | (go_simp; simp only [IntKind.wrap_u8, IntKind.wrap_u32]; congr 4; omega) | (go_simp; simp only [IntKind.wrap_u8, IntKind.wrap_u32]; congr 5; omega)); intro gb260 hg w27 hbox hb; have n0_ := Aside0.mk (below_step (by repeat (first | (with_reducible first | exact HB.out | apply below_alloc | apply pw_below_drewN | apply below_drew1) | exact HB.out)) hb); have n1_ := Aside0.mk (hbox); have n2_ := Aside0.mk ((by rw [hg]; exact (below_size (by repeat (first | (with_reducible first | exact HB.out | apply below_alloc | apply pw_below_drewN | apply below_drew1) | exact HB.out))) : w.heap.size ≤ gb260)); have n3_ := Aside0.mk ((by rw [hg]; exact (below_size (by repeat (first | (with_reducible first | exact HB.out | apply below_alloc | apply pw_below_drewN | apply below_drew1) | exact HB.out))) : w.heap.size ≤ gb260)); clear HB; have HB := n0_; have BK260 := n1_; have GW260 := n2_; have GE260 := n3_; clear n0_ n1_ n2_ n3_; clear hb hbox hg; have hcz28_0 : w27.cell? ⟨gb260, 0, none⟩ = some (.int .i64 0) := (blk_cell BK260.out 0).trans rfl; have hcz28_1 : w27.cell? ⟨gb260, 1, none⟩ = some (.int .i64 0) := (blk_cell BK260.out 1).trans rfl; have hfz28_0 := blk_frozen BK260.out 0; have hfz28_1 := blk_frozen BK260.out 1))
            repeat (go_quiet (first | ((with_reducible refine gate_dst (N := 5) rfl ?_); refine box_event ?hg (N := 5) ?hd (cs := #[.int .i64 0, .int .i64 0]) (t := 71) ?hr ?_; (case hd => rfl); (case hg => rfl); (case hr => first | (go_simp; done) | (go_simp; rfl) | (go_simp; simp only [IntKind.wrap_u8, IntKind.wrap_u32]; congr 4; omega) | (go_simp; simp only [IntKind.wrap_u8, IntKind.wrap_u32]; congr 5; omega)); intro gb260 hg w27 hbox hb; have n0_ := Aside0.mk (below_step (by repeat (first | (with_reducible first | exact HB.out | apply below_alloc | apply pw_below_drewN | apply below_drew1) | exact HB.out)) hb); have n1_ := Aside0.mk (hbox); have n2_ := Aside0.mk ((by rw [hg]; exact (below_size (by repeat (first | (with_reducible first | exact HB.out | apply below_alloc | apply pw_below_drewN | apply below_drew1) | exact HB.out))) : w.heap.size ≤ gb260)); have n3_ := Aside0.mk ((by rw [hg]; exact (below_size (by repeat (first | (with_reducible first | exact HB.out | apply below_alloc | apply pw_below_drewN | apply below_drew1) | exact HB.out))) : w.heap.size ≤ gb260)); clear HB; have HB := n0_; have BK260 := n1_; have GW260 := n2_; have GE260 := n3_; clear n0_ n1_ n2_ n3_; clear hb hbox hg; have hcz28_0 : w27.cell? ⟨gb260, 0, none⟩ = some (.int .i64 0) := (blk_cell BK260.out 0).trans rfl; have hcz28_1 : w27.cell? ⟨gb260, 1, none⟩ = some (.int .i64 0) := (blk_cell BK260.out 1).trans rfl; have hfz28_0 := blk_frozen BK260.out 0; have hfz28_1 := blk_frozen BK260.out 1)); try go_wp2_with (first | ((with_reducible refine gate_dst (N := 5) rfl ?_); refine box_event ?hg (N := 5) ?hd (cs := #[.int .i64 0, .int .i64 0]) (t := 71) ?hr ?_; (case hd => rfl); (case hg => rfl); (case hr => first | (go_simp; done) | (go_simp; rfl) | (go_simp; simp only [IntKind.wrap_u8, IntKind.wrap_u32]; congr 4; omega) | (go_simp; simp only [IntKind.wrap_u8, IntKind.wrap_u32]; congr 5; omega)); intro gb260 hg w27 hbox hb; have n0_ := Aside0.mk (below_step (by repeat (first | (with_reducible first | exact HB.out | apply below_alloc | apply pw_below_drewN | apply below_drew1) | exact HB.out)) hb); have n1_ := Aside0.mk (hbox); have n2_ := Aside0.mk ((by rw [hg]; exact (below_size (by repeat (first | (with_reducible first | exact HB.out | apply below_alloc | apply pw_below_drewN | apply below_drew1) | exact HB.out))) : w.heap.size ≤ gb260)); have n3_ := Aside0.mk ((by rw [hg]; exact (below_size (by repeat (first | (with_reducible first | exact HB.out | apply below_alloc | apply pw_below_drewN | apply below_drew1) | exact HB.out))) : w.heap.size ≤ gb260)); clear HB; have HB := n0_; have BK260 := n1_; have GW260 := n2_; have GE260 := n3_; clear n0_ n1_ n2_ n3_; clear hb hbox hg; have hcz28_0 : w27.cell? ⟨gb260, 0, none⟩ = some (.int .i64 0) := (blk_cell BK260.out 0).trans rfl; have hcz28_1 : w27.cell? ⟨gb260, 1, none⟩ = some (.int .i64 0) := (blk_cell BK260.out 1).trans rfl; have hfz28_0 := blk_frozen BK260.out 0; have hfz28_1 := blk_frozen BK260.out 1)))
            go_roundg k1
            case measure => have := HK1.out; omega
            case rel => exact ⟨(wrap64 (x3_1 - ((rd_T71 l0 x11_1).f1))), (wrap64 (x11_1 + 1)), (by first | rfl | (simp; done) | (simp [*]; done) | (refine congrArg (Value.int _) ?_; omega) | (refine congrArg Value.bool ?_; generalize ByteArray.toList _ = z_; cases z_ <;> rfl)), (by first | rfl | (simp; done) | (simp [*]; done) | (refine congrArg (Value.int _) ?_; omega) | (refine congrArg Value.bool ?_; generalize ByteArray.toList _ = z_; cases z_ <;> rfl)), H', ⟨by have := HK1.out; omega⟩, ⟨by repeat (first | (with_reducible first | exact HB.out | apply below_alloc | apply pw_below_drewN | apply below_drew1 | refine below_set ?_ GE260.out) | exact HB.out)⟩⟩
      ·rw [if_neg c5] at H
       exact absurd H (by simp)
     ·rw [if_neg c4] at H
      exact absurd H (by simp)
    ·rw [if_neg c3] at H
     have c3b0 : decide (x11_1 < (l0.length : Int)) = false := decide_eq_false c3
     clear c3
     obtain rfl := Option.some.inj H
     go_wp2
     repeat (go_quiet (fail); try go_wp2)
     go_ret
     exact ⟨by first | rfl | (simp [errW_none, errW_some] <;> rfl) | (refine congrArg (fun z_ => Ending.returned (Value.bool z_)) (decide_eq_decide.mpr ?_); unfold wrap64; omega) | (simp [*, errW_none, errW_some] <;> rfl), by repeat (first | (with_reducible first | exact HB.out | apply below_alloc | apply pw_below_drewN | apply below_drew1) | exact HB.out)⟩

/-! ### lit_point: function 74 -/
end Go.Proofs.Ytbigeaknbhmniaa.PB
/- Written by a program of this session, wip/tools/patch_print.py, over the kit's print of the loaded functions. -/
namespace Go.Proofs.Ytbigeaknbhmniaa.H
end Go.Proofs.Ytbigeaknbhmniaa.H
namespace Go.Proofs.Ytbigeaknbhmniaa.PB
open Go.RowKit Go.Proofs.YtbigeaknbhmniaaW.PrintWords Go.Proofs.YtbigeaknbhmniaaW.PrintLast Go.Proofs.YtbigeaknbhmniaaW.PrintMore Go.Proofs.Ytbigeaknbhmniaa.H
attribute [local go_sem] max2_int min2_int max_two min_two max_three min_three max_four min_four   -- for this text's walks alone
set_option linter.unusedVariables false
set_option linter.unusedSimpArgs false

/-! ### gudgeonlaw17_few: function 16 -/
mutual
def gudgeonlaw17_few.j0 : Nat → List (S41) → Bool → Option (Bool)
 | 0, _, _ => none
 | k + 1, x2, x20 => if x20 = true then (some false) else (gudgeonlaw17_few.l0 k x2 0)
def gudgeonlaw17_few.l0 : Nat → List (S41) → Int → Option (Bool)
 | 0, _, _ => none
 | k + 1, x2, x7 => if x7 < (x2.length : Int) then (if 0 ≤ x7 then (if (((rd_T41 x2 x7).f1).length : Int) > 200 then (some false) else (gudgeonlaw17_few.l0 k x2 (wrap64 (x7 + 1)))) else (none)) else (some true)
end
def gudgeonlaw17_few.f (k : Nat) (l0 : List (S69)) (l1 : List (S69)) (l2 : List (S41)) : Option (Bool) := if (l0.length : Int) > 200 then (gudgeonlaw17_few.j0 k l2 true) else (if (l1.length : Int) > 200 then (gudgeonlaw17_few.j0 k l2 true) else (gudgeonlaw17_few.j0 k l2 (decide ((l2.length : Int) > 60))))
set_option maxHeartbeats 8000000 in
set_option maxRecDepth 100000 in
theorem gudgeonlaw17_few.calls (k : Nat) (A0 : Option Addr) (c0 : Nat) (l0 : List (S69)) (A1 : Option Addr) (c1 : Nat) (l1 : List (S69)) (A2 : Option Addr) (c2 : Nat) (l2 : List (S41)) (r : Bool) (w : World) (hr0 : Kd.C k69 w A0 l0.length l0) (hc0 : l0.length ≤ c0) (hr1 : Kd.C k69 w A1 l1.length l1) (hc1 : l1.length ≤ c1) (hr2 : Kd.C k41 w A2 l2.length l2) (hc2 : l2.length ≤ c2) (h : gudgeonlaw17_few.f k l0 l1 l2 = some r) :
  Calls Try.prog 16 #[.slice A0 l0.length c0, .slice A1 l1.length c1, .slice A2 l2.length c2] w fun e w' => e = .returned (.bool r) ∧ Drawn0 w w' := by
 have HR0 := Aside0.mk hr0
 have HC0 := Aside0.mk hc0
 clear hr0 hc0
 have HR1 := Aside0.mk hr1
 have HC1 := Aside0.mk hc1
 clear hr1 hc1
 have HR2 := Aside0.mk hr2
 have HC2 := Aside0.mk hc2
 clear hr2 hc2
 have H : (if (l0.length : Int) > 200 then (gudgeonlaw17_few.j0 k l2 true) else (if (l1.length : Int) > 200 then (gudgeonlaw17_few.j0 k l2 true) else (gudgeonlaw17_few.j0 k l2 (decide ((l2.length : Int) > 60))))) = some r := h
 clear h
 have HC4 := Aside0.mk H
 clear H
 go_enter Try.func16, Try.ntmps16
 go_upto_region 1 with (fail)
 go_cut [20] (fun v20 wc => ∃ (kq : Nat) (x20_3 : Bool), v20 = .bool x20_3 ∧ Aside0 (gudgeonlaw17_few.j0 kq l2 x20_3 = some r) ∧ Aside0 (kq ≤ k) ∧ Drawn0 w wc)
 case first =>
  have H := HC4.out
  clear HC4
  by_cases c5 : (l0.length : Int) > 200
  ·rw [if_pos c5] at H
   have c5b0 : decide (200 < (l0.length : Int)) = true := decide_eq_true c5
   have c5b1 : decide (200 < l0.length) = true := decide_eq_true (by omega)
   clear c5
   (first | rw [c5b0] | rw [c5b1] | (simp only [i64_w, i32_w]; rw [c5b0]) | skip)
   have H' := Aside0.mk H
   clear H
   go_wp2
   go_meet
   case rel => exact ⟨_, (true), (by first | rfl | (simp; done) | (simp [*]; done) | (refine congrArg (Value.int _) ?_; omega) | (refine congrArg Value.bool ?_; generalize ByteArray.toList _ = z_; cases z_ <;> rfl)), H', ⟨by first | omega | exact Nat.le_refl _⟩, by repeat (first | exact Drawn0.refl _ | apply Drawn0.step)⟩
  ·rw [if_neg c5] at H
   have c5b0 : decide (200 < (l0.length : Int)) = false := decide_eq_false c5
   have c5b1 : decide (200 < l0.length) = false := decide_eq_false (by omega)
   clear c5
   (first | rw [c5b0] | rw [c5b1] | (simp only [i64_w, i32_w]; rw [c5b0]) | skip)
   by_cases c6 : (l1.length : Int) > 200
   ·rw [if_pos c6] at H
    have c6b0 : decide (200 < (l1.length : Int)) = true := decide_eq_true c6
    have c6b1 : decide (200 < l1.length) = true := decide_eq_true (by omega)
    clear c6
    have H' := Aside0.mk H
    clear H
    go_wp2
    go_meet
    case rel => exact ⟨_, (true), (by first | rfl | (simp; done) | (simp [*]; done) | (refine congrArg (Value.int _) ?_; omega) | (refine congrArg Value.bool ?_; generalize ByteArray.toList _ = z_; cases z_ <;> rfl)), H', ⟨by first | omega | exact Nat.le_refl _⟩, by repeat (first | exact Drawn0.refl _ | apply Drawn0.step)⟩
   ·rw [if_neg c6] at H
    have c6b0 : decide (200 < (l1.length : Int)) = false := decide_eq_false c6
    have c6b1 : decide (200 < l1.length) = false := decide_eq_false (by omega)
    clear c6
    have H' := Aside0.mk H
    clear H
    go_wp2
    go_meet
    case rel => exact ⟨_, (decide ((l2.length : Int) > 60)), (by first | rfl | (simp; done) | (simp [*]; done) | (refine congrArg (Value.int _) ?_; omega) | (refine congrArg Value.bool ?_; generalize ByteArray.toList _ = z_; cases z_ <;> rfl)), H', ⟨by first | omega | exact Nat.le_refl _⟩, by repeat (first | exact Drawn0.refl _ | apply Drawn0.step)⟩
 case rest =>
  clear HC4
  try clear c1
  try clear c2
  try clear p2
  try clear c5
  try clear c5b0
  try clear c5b1
  try clear c6
  try clear c6b0
  try clear c6b1
  obtain ⟨kq, x20_3, rfl, HA, HJ3, ⟨mc3, rfl⟩⟩ := hcut
  cases kq with
  | zero => exact absurd HA.out (by simp [gudgeonlaw17_few.j0])
  | succ kj3 =>
   have H := HA.out
   clear HA
   simp only [gudgeonlaw17_few.j0] at H
   by_cases c7 : x20_3 = true
   ·subst c7
    have H1 : (some false) = some r := by rw [if_pos rfl] at H; exact H
    clear H
    have H := H1
    clear H1
    obtain rfl := Option.some.inj H
    go_wp2
    go_ret
    exact ⟨by first | rfl | (simp; done) | (simp [*]; done) | (refine congrArg (fun z_ => Ending.returned (Value.bool z_)) ?_; generalize ByteArray.toList _ = z_; cases z_ <;> rfl) | (refine congrArg (Value.int _) ?_; omega) | (refine congrArg Value.bool ?_; generalize ByteArray.toList _ = z_; cases z_ <;> rfl), by repeat (first | exact Drawn0.refl _ | apply Drawn0.step)⟩
   ·replace c7 := Bool.eq_false_iff.mpr c7
    subst c7
    have H1 : (gudgeonlaw17_few.l0 kj3 l2 0) = some r := by rw [if_neg (show ¬ (false = true) by decide)] at H; exact H
    clear H
    have H := H1
    clear H1
    have H' := Aside0.mk H
    clear H
    go_wp2
    go_loopg [7] kj3 (fun kq v7 w' => ∃ (x7_2 : Int), v7 = .int .i64 x7_2 ∧ Aside0 (gudgeonlaw17_few.l0 kq l2 x7_2 = some r) ∧ Aside0 (kq ≤ kj3) ∧ Drawn0 w w')
    case atStart => exact ⟨(0), (by first | rfl | (simp; done) | (simp [*]; done) | (refine congrArg (Value.int _) ?_; omega) | (refine congrArg Value.bool ?_; generalize ByteArray.toList _ = z_; cases z_ <;> rfl)), H', ⟨Nat.le_refl _⟩, by repeat (first | exact Drawn0.refl _ | apply Drawn0.step)⟩
    case round =>
     clear H'
     try clear c1
     try clear c2
     try clear p2
     try clear c3
     try clear c5
     try clear c5b0
     try clear c5b1
     try clear c6
     try clear c6b0
     try clear c6b1
     try clear c7
     try clear p2
     obtain ⟨x7_2, rfl, HA, HK2, ⟨m2, rfl⟩⟩ := hrel
     cases gk with
     | zero => exact absurd HA.out (by simp [gudgeonlaw17_few.l0])
     | succ k2 =>
      have H := HA.out
      clear HA
      simp only [gudgeonlaw17_few.l0] at H
      by_cases c8 : x7_2 < (l2.length : Int)
      ·rw [if_pos c8] at H
       have c8b0 : decide (x7_2 < (l2.length : Int)) = true := decide_eq_true c8
       clear c8
       by_cases c9 : 0 ≤ x7_2
       ·rw [if_pos c9] at H
        have c9b0 : decide (0 ≤ x7_2) = true := decide_eq_true c9
        clear c9
        by_cases c10 : (((rd_T41 l2 x7_2).f1).length : Int) > 200
        ·rw [if_pos c10] at H
         have c10b0 : decide (200 < (((rd_T41 l2 x7_2).f1).length : Int)) = true := decide_eq_true c10
         have c10b1 : decide (200 < ((rd_T41 l2 x7_2).f1).length) = true := decide_eq_true (by omega)
         clear c10
         obtain rfl := Option.some.inj H
         have p340 : 0 ≤ (x7_2 : Int) := of_decide_eq_true (by first | (with_reducible assumption) | assumption)
         have q340 : x7_2 < (l2.length : Int) := of_decide_eq_true (by first | (with_reducible assumption) | assumption)
         obtain ⟨ad340, A340_1, c340_1, e340, hx340_0, hx340_1, hl340_1, hi340_1⟩ := at_T41 HR2.out x7_2 p340 q340
         cases e340
         have HR340_1 := Aside0.mk hi340_1
         have HC340_1 := Aside0.mk hl340_1
         clear hi340_1 hl340_1
         replace p340 := eq_true p340
         replace q340 := eq_true q340
         go_wp2
         go_ret
         exact ⟨by first | rfl | (simp; done) | (simp [*]; done) | (refine congrArg (fun z_ => Ending.returned (Value.bool z_)) ?_; generalize ByteArray.toList _ = z_; cases z_ <;> rfl) | (refine congrArg (Value.int _) ?_; omega) | (refine congrArg Value.bool ?_; generalize ByteArray.toList _ = z_; cases z_ <;> rfl), by repeat (first | exact Drawn0.refl _ | apply Drawn0.step)⟩
        ·rw [if_neg c10] at H
         have c10b0 : decide (200 < (((rd_T41 l2 x7_2).f1).length : Int)) = false := decide_eq_false c10
         have c10b1 : decide (200 < ((rd_T41 l2 x7_2).f1).length) = false := decide_eq_false (by omega)
         clear c10
         have H' := Aside0.mk H
         clear H
         have p340 : 0 ≤ (x7_2 : Int) := of_decide_eq_true (by first | (with_reducible assumption) | assumption)
         have q340 : x7_2 < (l2.length : Int) := of_decide_eq_true (by first | (with_reducible assumption) | assumption)
         obtain ⟨ad340, A340_1, c340_1, e340, hx340_0, hx340_1, hl340_1, hi340_1⟩ := at_T41 HR2.out x7_2 p340 q340
         cases e340
         have HR340_1 := Aside0.mk hi340_1
         have HC340_1 := Aside0.mk hl340_1
         clear hi340_1 hl340_1
         replace p340 := eq_true p340
         replace q340 := eq_true q340
         go_wp2
         go_roundg k2
         case measure => have := HJ3.out; have := HK2.out; omega
         case rel => exact ⟨(wrap64 (x7_2 + 1)), (by first | rfl | (simp; done) | (simp [*]; done) | (refine congrArg (Value.int _) ?_; omega) | (refine congrArg Value.bool ?_; generalize ByteArray.toList _ = z_; cases z_ <;> rfl)), H', ⟨by have := HJ3.out; have := HK2.out; omega⟩, by repeat (first | exact Drawn0.refl _ | apply Drawn0.step)⟩
       ·rw [if_neg c9] at H
        exact absurd H (by simp)
      ·rw [if_neg c8] at H
       have c8b0 : decide (x7_2 < (l2.length : Int)) = false := decide_eq_false c8
       clear c8
       obtain rfl := Option.some.inj H
       go_wp2
       go_ret
       exact ⟨by first | rfl | (simp; done) | (simp [*]; done) | (refine congrArg (fun z_ => Ending.returned (Value.bool z_)) ?_; generalize ByteArray.toList _ = z_; cases z_ <;> rfl) | (refine congrArg (Value.int _) ?_; omega) | (refine congrArg Value.bool ?_; generalize ByteArray.toList _ = z_; cases z_ <;> rfl), by repeat (first | exact Drawn0.refl _ | apply Drawn0.step)⟩

/-! ### gudgeonref17_Text: function 45 -/
/-! ### gudgeonref07_Runs: function 101 -/
/-! ### gudgeonref08_text: function 76 -/
end Go.Proofs.Ytbigeaknbhmniaa.PB
/- Written by a program of this session, wip/tools/patch_print.py, over the kit's print of the loaded functions. -/
namespace Go.Proofs.Ytbigeaknbhmniaa.H
end Go.Proofs.Ytbigeaknbhmniaa.H
namespace Go.Proofs.Ytbigeaknbhmniaa.PB
open Go.RowKit Go.Proofs.YtbigeaknbhmniaaW.PrintWords Go.Proofs.YtbigeaknbhmniaaW.PrintLast Go.Proofs.YtbigeaknbhmniaaW.PrintMore Go.Proofs.Ytbigeaknbhmniaa.H
attribute [local go_sem] max2_int min2_int max_two min_two max_three min_three max_four min_four   -- for this text's walks alone
set_option linter.unusedVariables false
set_option linter.unusedSimpArgs false

theorem eqA71 (d : Nat) (w : World) (x0 y0 : Int) (x1 y1 : Int) :
  (Op.equalIn (d + 2) 71 (.agg #[.int .i64 x0, .int .i64 x1]) (.agg #[.int .i64 y0, .int .i64 y1])).run Try.prog w = .ok (x0 == y0 && (x1 == y1)) w := by
 refine eqA_of Try.underlying71 (by kernel_rfl) ?_
 refine eqf_cons (by rfl) (by go_simp; rfl) (by go_simp; rfl) (by go_simp) ?_
 exact eqf_last (by rfl) (by go_simp; rfl) (by go_simp; rfl) (by go_simp)
end Go.Proofs.Ytbigeaknbhmniaa.PB
/- slices.Grow of nothing, and slices.Concat of two rows of runs. -/
namespace Go.Proofs.Ytbigeaknbhmniaa.H
set_option linter.unusedSimpArgs false
set_option linter.unusedVariables false
open Go.RowKit Go.Proofs.YtbigeaknbhmniaaW.PrintWords Go.Proofs.YtbigeaknbhmniaaW.PrintLast Go.Proofs.YtbigeaknbhmniaaW.PrintMore Go.Proofs.Ytbigeaknbhmniaa.PB
theorem infoRun : (Try.prog.info? 71).map (fun i => (i.zero, i.size, i.bytes)) = some (some (.agg #[(.int .i64 0), (.int .i64 0)]), 2, 16) := by kernel_rfl
set_option maxHeartbeats 1000000 in
set_option maxRecDepth 100000 in
theorem grow_nil (n : Nat) (hn : n ≤ 1000000000000) (w : World) : Calls Try.prog 125 #[.slice none 0 0, .int .i64 (n : Int)] w fun e w' => ∃ v, e = .returned v ∧ Kd.R k71 71 w' w.heap.size (fun _ => True) v [] ∧ Below w.heap.size w w' := by
  have hw : wrap64 ((n : Int) - wrap64 (0 - 0)) = (n : Int) := by unfold wrap64; omega
  have c1 : decide ((n : Int) < 0) = false := decide_eq_false (by omega)
  have HW := Aside0.mk hw
  go_enter Try.func125, Try.ntmps125
  by_cases h0 : n = 0
  · subst h0
    go_wp2
    go_ret
    exact ⟨_, rfl, Kd.R_nil _ _ _ _ _, by repeat first | exact Below.refl _ _ | apply below_drew1⟩
  · have c2 : decide (0 < (n : Int)) = true := decide_eq_true (by omega)
    have c3 : decide (0 < n) = true := decide_eq_true (by omega)
    go_wp2_with ((with_reducible refine gate_builtin (b := .append) (xs := #[.tmp 20, .tmp 21]) rfl ?_); at_builtin; refine Kd.R_append_zeros k71 (w0 := w) w.heap.size rfl (.tmp 20) (.tmp 21) 22 3 71 (.agg #[(.int .i64 0), (.int .i64 0)]) 16 rfl Try.underlying22 Try.underlying3 infoRun rfl (by decide) (by omega) (.slice none 0 0) [] z71 (n : Int) (fun _ => True) rfl rfl (k71_mkM _ _ _ z71) (fun _ _ => trivial) (Kd.R_nil _ _ _ _ _) (by omega) (by repeat first | exact Below.refl _ _ | apply below_drew1) (Nat.le_refl _) (by simp only [List.length_nil, Int.toNat_natCast]; omega) ?_; intro v22 w22 ho hb hg hat; obtain ⟨Ao, co, eo⟩ := Kd.R_slice ho; subst eo; have HO := Aside0.mk (Kd.R_take (m := 0) ho (Nat.zero_le _)); have HB := Aside0.mk hb; have HL := Aside0.mk (Kd.R_reads' ho); clear ho hb hg hat)
    go_ret
    exact ⟨_, rfl, by simpa using HO.out, HB.out⟩
set_option maxHeartbeats 4000000 in
set_option maxRecDepth 100000 in
theorem concat_two (g : Nat) (A0 : Option Addr) (c0 : Nat) (l0 : List S71) (A1 : Option Addr) (c1 : Nat) (l1 : List S71) (w : World) (hr0 : Kd.C k71 w A0 l0.length l0) (hr1 : Kd.C k71 w A1 l1.length l1)
    (hlen : l0.length + l1.length ≤ 1000000000) (h0 : w.cell? ⟨g, 0, none⟩ = some (.slice A0 l0.length c0)) (h1 : w.cell? ⟨g, 1, none⟩ = some (.slice A1 l1.length c1)) :
    Calls Try.prog 102 #[.slice (some ⟨g, 0, none⟩) 2 2] w fun e w' => ∃ v, e = .returned v ∧ Kd.R k71 71 w' w.heap.size (fun _ => True) v (l0 ++ l1) ∧ Below w.heap.size w w' := by
  have HR0 := Aside0.mk hr0
  have HR1 := Aside0.mk hr1
  have HLEN := Aside0.mk hlen
  have HB0 := Aside0.mk (World.block_lt_of_cell? w _ h0)
  clear hr0 hr1 hlen
  have q1 : wrap64 ((l0.length : Nat) : Int) = (l0.length : Int) := by have := HLEN.out; unfold wrap64; omega
  have q2 : wrap64 ((l0.length : Int) + (l1.length : Int)) = (l0.length : Int) + (l1.length : Int) := by have := HLEN.out; unfold wrap64; omega
  have p1 : decide ((l0.length : Int) < 0) = false := decide_eq_false (by omega)
  have p2 : decide ((l0.length : Int) + (l1.length : Int) < 0) = false := decide_eq_false (by omega)
  have HG := Aside0.mk (fun W => grow_nil (l0.length + l1.length) (by have := HLEN.out; omega) W)
  rw [Int.natCast_add] at HG
  go_enter Try.func102, Try.ntmps102
  go_wp2
  refine wp_loop_rounds 3 ?_
  rw [rounds_succ]
  go_wp2
  rw [rounds_succ]
  go_wp2
  rw [rounds_succ]
  go_wp2_with (go_at_call 125; refine (HG.out _).mono ?_; rintro e w1 ⟨v1, rfl, ho, hb⟩; have HO1 := Aside0.mk ho; have HB1 := Aside0.mk hb; clear ho hb)
  have h01 := (HB1.out.cell (p := ⟨g, 0, none⟩) HB0.out).trans h0
  refine wp_loop_rounds 3 ?_
  rw [rounds_succ]
  go_wp2_with ((with_reducible refine gate_builtin (b := .append) (xs := #[.tmp 31, .tmp 32]) rfl ?_); at_builtin; refine Kd.R_append_rows k71 (w0 := w) w.heap.size rfl (.tmp 31) (.tmp 32) 22 71 (.agg #[(.int .i64 0), (.int .i64 0)]) 16 rfl Try.underlying22 infoRun rfl (by decide) (by omega) v1 [] l0 _ _ _ (fun _ => True) (fun _ => False) rfl rfl ?aO ?aR (fun _ _ h => h) (fun _ h => h.elim) (fun _ _ => trivial) ?aB ?aS ?aL ?_; (case aO => exact HO1.out); (case aR => exact Kd.C_below HR0.out HB1.out); (case aB => exact HB1.out); (case aS => exact below_size HB1.out); (case aL => have := HLEN.out; simp only [List.length_nil, List.nil_append]; omega); intro v2 w2 ho hb hg hat; have HO2 := Aside0.mk ho; have HB2 := Aside0.mk hb; clear ho hb hg hat)
  have h12 := (HB2.out.cell (p := ⟨g, 1, none⟩) HB0.out).trans h1
  rw [rounds_succ]
  go_wp2_with ((with_reducible refine gate_builtin (b := .append) (xs := #[.tmp 31, .tmp 32]) rfl ?_); at_builtin; refine Kd.R_append_rows k71 (w0 := w) w.heap.size rfl (.tmp 31) (.tmp 32) 22 71 (.agg #[(.int .i64 0), (.int .i64 0)]) 16 rfl Try.underlying22 infoRun rfl (by decide) (by omega) v2 ([] ++ l0) l1 _ _ _ (fun _ => True) (fun _ => False) rfl rfl ?aO ?aR (fun _ _ h => h) (fun _ h => h.elim) (fun _ _ => trivial) ?aB ?aS ?aL ?_; (case aO => exact HO2.out); (case aR => exact Kd.C_below HR1.out HB2.out); (case aB => exact HB2.out); (case aS => exact below_size HB2.out); (case aL => have := HLEN.out; simp only [List.length_nil, List.nil_append]; omega); intro v3 w3 ho hb hg hat; have HO3 := Aside0.mk ho; have HB3 := Aside0.mk hb; clear ho hb hg hat)
  rw [rounds_succ]
  go_wp2
  go_ret
  exact ⟨_, rfl, HO3.out, HB3.out⟩
end Go.Proofs.Ytbigeaknbhmniaa.H
/- slices.Delete of one run, out of a row of the call's own. -/
namespace Go.Proofs.Ytbigeaknbhmniaa.H
set_option linter.unusedSimpArgs false
set_option linter.unusedVariables false
open Go.RowKit Go.Proofs.YtbigeaknbhmniaaW.PrintWords Go.Proofs.YtbigeaknbhmniaaW.PrintLast Go.Proofs.YtbigeaknbhmniaaW.PrintMore Go.Proofs.Ytbigeaknbhmniaa.PB
/-! ### a row of runs as its cells -/
def enc2 : List S71 → List Value
  | [] => []
  | x :: r => .int .i64 x.f0 :: .int .i64 x.f1 :: enc2 r
theorem enc2_len : ∀ xs, (enc2 xs).length = xs.length * 2
  | [] => rfl
  | x :: r => by simp only [enc2, List.length_cons, enc2_len r]; omega
theorem enc2_append : ∀ xs ys, enc2 (xs ++ ys) = enc2 xs ++ enc2 ys
  | [], ys => rfl
  | x :: r, ys => by simp only [List.cons_append, enc2, enc2_append r ys]
theorem enc2_drop : ∀ (i : Nat) (xs : List S71), (enc2 xs).drop (i * 2) = enc2 (xs.drop i)
  | 0, xs => by simp
  | i + 1, [] => by simp [enc2]
  | i + 1, x :: r => by
    rw [show (i + 1) * 2 = i * 2 + 2 by omega]
    simp only [enc2, List.drop_succ_cons]
    exact enc2_drop i r
theorem enc2_take : ∀ (i : Nat) (xs : List S71), (enc2 xs).take (i * 2) = enc2 (xs.take i)
  | 0, xs => by simp [enc2]
  | i + 1, [] => by simp [enc2]
  | i + 1, x :: r => by
    rw [show (i + 1) * 2 = i * 2 + 2 by omega]
    simp only [enc2, List.take_succ_cons]
    rw [enc2_take i r]
theorem enc2_one : ∀ (xs : List S71) (u : Value), u ∈ enc2 xs → u.oneCell' = true
  | [], u, h => by cases h
  | x :: r, u, h => by
    simp only [enc2, List.mem_cons] at h
    rcases h with rfl | rfl | h
    · rfl
    · rfl
    · exact enc2_one r u h
theorem reps_enc2 (w : World) (base : Nat) (ok : Nat → Prop) (xs : List S71) : Reps (k71.M w base ok) 2 xs (enc2 xs) := by
  refine ⟨enc2_len xs, fun j p hj => ?_⟩
  rw [enc2_drop]
  obtain ⟨hl, rfl⟩ := List.getElem?_eq_some_iff.1 hj
  rw [List.drop_eq_getElem_cons hl]
  exact k71_mkM w base ok _
theorem enc2_of_reps {w : World} {base : Nat} {ok : Nat → Prop} : ∀ (xs : List S71) (inner : List Value), Reps (k71.M w base ok) 2 xs inner → inner = enc2 xs
  | [], inner, h => List.eq_nil_of_length_eq_zero (by rw [h.1]; rfl)
  | x :: r, inner, h => by
    have h1 := h.2 0 x rfl
    rw [Nat.zero_mul, List.drop_zero] at h1
    have h1 := k71_openM h1
    have h2 := Kd.reps_drop (m := 1) h
    rw [List.drop_succ_cons, List.drop_zero, Nat.one_mul] at h2
    have h3 := enc2_of_reps r _ h2
    rw [← List.take_append_drop 2 inner, h1, h3]
    rfl
theorem R2_own {w : World} {base : Nat} {ok : Nat → Prop} {v : Value} {xs : List S71} (h : Kd.R k71 71 w base ok v xs) : w.ownsRow base 71 2 v xs.length (enc2 xs) := by
  obtain ⟨_, inner, ho, hr⟩ := h
  rw [enc2_of_reps xs inner hr] at ho
  exact ho
theorem R2_of {w : World} {base : Nat} {v : Value} {xs : List S71} (h : w.ownsRow base 71 2 v xs.length (enc2 xs)) : Kd.R k71 71 w base (fun _ => True) v xs :=
  ⟨fun _ _ => trivial, enc2 xs, h, reps_enc2 _ _ _ _⟩
/-! ### cells that are set -/
def setL (cur : Array Value) (o : Nat) : List Value → Array Value
  | [] => cur
  | v :: r => setL (cur.setIfInBounds o v) (o + 1) r
theorem setL_size : ∀ (vs : List Value) (cur : Array Value) (o : Nat), (setL cur o vs).size = cur.size
  | [], cur, o => rfl
  | v :: r, cur, o => by unfold setL; rw [setL_size r]; simp
theorem heap_setCells {g t : Nat} : ∀ (vs : List Value) (o : Nat) (w : World) (cur : Array Value), w.heap[g]? = some (.cells cur t (0, 0)) → (w.setCells g o vs).heap[g]? = some (.cells (setL cur o vs) t (0, 0))
  | [], o, w, cur, h => h
  | v :: r, o, w, cur, h => heap_setCells r (o + 1) _ _ (blk_set h o v)
theorem setL_get : ∀ (vs : List Value) (o : Nat) (cur : Array Value), o + vs.length ≤ cur.size → (setL cur o vs).toList = cur.toList.take o ++ vs ++ cur.toList.drop (o + vs.length)
  | [], o, cur, h => by simp [setL]
  | v :: r, o, cur, h => by
    have h' : o + 1 + r.length ≤ cur.size := by simpa [Nat.add_assoc, Nat.add_comm 1] using h
    unfold setL
    rw [setL_get r (o + 1) _ (by simpa using h')]
    have ho : o < cur.toList.length := by rw [Array.length_toList]; omega
    have e1 : (cur.setIfInBounds o v).toList = cur.toList.set o v := by simp
    rw [e1, List.take_succ_eq_append_getElem (by simpa using ho), List.take_set_of_le (Nat.le_refl _), List.getElem_set_self, List.drop_set_of_lt (by omega)]
    simp [Nat.add_assoc, Nat.add_comm 1]
theorem grown_setCells {a : World} (g : Nat) : ∀ (vs : List Value) (o : Nat) (w : World), a.grownBy w (some g) → a.grownBy (w.setCells g o vs) (some g)
  | [], _, _, h => h
  | v :: r, o, w, h => grown_setCells g r (o + 1) _ (Go.Lib.grownBy_setB h o v)
theorem run_clear_one (w : World) (ty : TypeId) (g o c : Nat) (hc : ∀ j, j < 2 → (w.cell? ⟨g, o + j, none⟩).isSome = true) (hf : ∀ j, j < 2 → w.frozen? ⟨g, o + j, none⟩ = false) :
    (Builtin.clear_ #[22] ty #[.slice (some ⟨g, o, none⟩) 1 c]).run Try.prog w = .ok (.tuple #[]) (w.setCells g o [.int .i64 0, .int .i64 0]) := by
  have hst := run_storeCells_cells (P := Try.prog) g o [.int .i64 0, .int .i64 0] 0 w (by simpa using hc) (by simpa using hf) (by intro v hv; simp at hv; subst hv; rfl)
  have hv : ∀ w, (zeroValue 71).run Try.prog w = .ok (.agg #[.int .i64 0, .int .i64 0]) w := Try.zeroValue71
  have hzc : (Builtin.zeroCells (Value.agg #[.int .i64 0, .int .i64 0]).cells 1).toList = [.int .i64 0, .int .i64 0] := by first | decide | (simp [Builtin.zeroCells, Value.cells, Array.ofFn, List.ofFn]; done) | kernel_rfl
  simp only [Nat.add_zero] at hst
  simp [Builtin.clear_, run_underlying Try.underlying22, hv, hzc, hst]
set_option maxHeartbeats 4000000 in
set_option maxRecDepth 100000 in
theorem delete_one (xs : List S71) (g cap i base : Nat) (hi : i < xs.length) (hlen : xs.length ≤ 1000000000) (w : World) (ho : w.ownsRow base 71 2 (.slice (some ⟨g, 0, none⟩) xs.length cap) xs.length (enc2 xs)) :
    Calls Try.prog 103 #[.slice (some ⟨g, 0, none⟩) xs.length cap, .int .i64 (i : Int), .int .i64 ((i : Int) + 1)] w fun e w' => e = .returned (.slice (some ⟨g, 0, none⟩) (i + (xs.length - (i + 1))) cap) ∧
      w'.ownsRow base 71 2 (.slice (some ⟨g, 0, none⟩) (i + (xs.length - (i + 1))) cap) (i + (xs.length - (i + 1))) (enc2 (xs.take i ++ xs.drop (i + 1))) ∧ w.grownBy w' (some g) := by
  obtain ⟨hl0, ⟨hv, _⟩ | ⟨g', cap', cur, hv, hbase, hb, h1, h2, h3, h4⟩⟩ := ho
  · cases hv
  cases hv
  obtain ⟨i0, hinf, hz0, hz1, hz2⟩ := info_parts infoRun
  obtain ⟨news, hnews⟩ : ∃ news, news = enc2 (xs.drop (i + 1)) := ⟨_, rfl⟩
  have hnl : news.length = (xs.length - (i + 1)) * 2 := by rw [hnews, enc2_len, List.length_drop]
  have hcl : cur.toList.length = cap * 2 := by rw [Array.length_toList]; exact h3
  have e2 : (enc2 xs).drop ((i + 1) * 2) = news := by rw [enc2_drop, hnews]
  have cellAt : ∀ t u, news[t]? = some u → w.cell? ⟨g, (i + 1) * 2 + t, none⟩ = some u := by
    intro t u hu
    rw [blk_cell hb, ← Array.getElem?_toList]
    have h5 : (cur.toList.take (xs.length * 2))[(i + 1) * 2 + t]? = some u := by rw [h4, ← List.getElem?_drop, e2]; exact hu
    rw [List.getElem?_take] at h5
    split at h5
    · exact h5
    · cases h5
  have someAt : ∀ t, t < cap * 2 → (w.cell? ⟨g, t, none⟩).isSome = true := by
    intro t ht
    rw [blk_cell hb, Array.getElem?_eq_getElem (by omega)]; rfl
  obtain ⟨A, hA, hsrc⟩ : ∃ A : Addr, (if cap = i + 1 then some (⟨g, 0, none⟩ : Addr) else some ⟨g, (i + 1) * 2, none⟩) = some A ∧ ∀ t u, news[t]? = some u → w.drew.cell? (A.add t) = some u := by
    by_cases h : cap = i + 1
    · refine ⟨⟨g, 0, none⟩, by simp [h], fun t u hu => ?_⟩
      have h0 : news.length = 0 := by rw [hnl]; omega
      rw [List.length_eq_zero_iff.1 h0] at hu
      simp at hu
    · exact ⟨⟨g, (i + 1) * 2, none⟩, by simp [h], fun t u hu => by rw [Addr.add_lit]; exact cellAt t u hu⟩
  obtain ⟨W1, hW1⟩ : ∃ W1, W1 = w.drew.setCells g (0 + i * 2) news := ⟨_, rfl⟩
  have hb1 : W1.heap[g]? = some (.cells (setL cur (0 + i * 2) news) 71 (0, 0)) := by rw [hW1]; exact heap_setCells news _ _ cur hb
  have hclear : ∀ ty, (Builtin.clear_ #[22] ty #[.slice (some ⟨g, (i + (xs.length - (i + 1))) * 2, none⟩) (xs.length - (i + (xs.length - (i + 1)))) (cap - (i + (xs.length - (i + 1))))]).run Try.prog W1 = .ok (.tuple #[]) (W1.setCells g ((i + (xs.length - (i + 1))) * 2) [.int .i64 0, .int .i64 0]) := by
    intro ty
    rw [show xs.length - (i + (xs.length - (i + 1))) = 1 by omega]
    refine run_clear_one W1 ty g _ _ (fun j hj => ?_) (fun j hj => blk_frozen hb1 _)
    rw [blk_cell hb1, Array.getElem?_eq_getElem (by rw [setL_size]; omega)]; rfl
  have HS1 := Aside0.mk hnl
  have HS2 := Aside0.mk hsrc
  have HS3 := Aside0.mk (fun u (hu : u ∈ news) => enc2_one (xs.drop (i + 1)) u (hnews ▸ hu))
  have HS4 := Aside0.mk (fun t (ht : t < news.length) => (⟨by have := HS1.out; exact someAt _ (by omega), blk_frozen hb _⟩ : (w.drew.cell? ⟨g, 0 + i * 2 + t, none⟩).isSome = true ∧ w.drew.frozen? ⟨g, 0 + i * 2 + t, none⟩ = false))
  have HW := Aside0.mk hW1
  have HB1 := Aside0.mk hb1
  have HI := Aside0.mk hinf
  have HZ := Aside0.mk hz1
  have HC := Aside0.mk (show xs.length ≤ cap ∧ cap ≤ maxLen from ⟨h1, h2⟩)
  have HE := Aside0.mk hb
  have HL := Aside0.mk hcl
  have HT := Aside0.mk h4
  have H3 := Aside0.mk h3
  have hne : ¬ (cap = i + (xs.length - (i + 1))) := by omega
  have hic : i ≤ cap := by omega
  have hjc : i + 1 ≤ cap := by omega
  have hjn : i + 1 ≤ xs.length := hi
  have hnc : xs.length ≤ cap := h1
  have q2 : (0 ≤ (i : Int) + 1) = True := eq_true (by omega)
  have q3 : ((i : Int) + 1 ≤ (xs.length : Int)) = True := eq_true (by omega)
  have q4 : ((i : Int) + 1).toNat = i + 1 := by omega
  have q1 : wrap64 ((i : Int) + 1) = (i : Int) + 1 := by unfold wrap64; omega
  have mixed : Try.prog.follows Departure.mixedOrders = true := by kernel_rfl
  clear hnl hsrc hW1 hb1 hinf hz1 h1 h2 hb hcl e2 cellAt someAt h4 hl0 h3
  go_enter Try.func103, Try.ntmps103
  go_wp2_with fail
  go_region_law_o (refine step_append_room rfl (.tmp 22) (.tmp 25) 22 rfl 71 i0 2 Try.underlying22 HI.out HZ.out g 0 i cap (by simp [Act.eval, Act.put]) A (xs.length - (i + 1)) (cap - (i + 1)) news (by simp [Act.eval, Act.put]; try exact hA) HS1.out HS2.out HS3.out (by omega) HS4.out ?_; rw [← HW.out])
  go_wp2
  go_ret
  have hn2 : news.length = (xs.length - (i + 1)) * 2 := HS1.out
  have hsz1 : (setL cur (0 + i * 2) news).size = cap * 2 := by rw [setL_size]; exact H3.out
  have hsz2 : (setL cur (0 + i * 2) news).toList.length = cap * 2 := hsz1
  have hlt : (cur.toList.take (i * 2)).length = i * 2 := by rw [List.length_take, HL.out]; omega
  refine ⟨rfl, ⟨?_, .inr ⟨g, cap, _, rfl, hbase, heap_setCells _ _ _ _ HB1.out, by omega, HC.out.2, by rw [setL_size]; exact hsz1, ?_⟩⟩, ?_⟩
  · rw [enc2_len, List.length_append, List.length_take, List.length_drop]; omega
  · rw [setL_get _ _ _ (by rw [hsz1]; simp only [List.length_cons, List.length_nil]; omega), List.append_assoc, List.take_append_of_le_length (by rw [List.length_take, hsz2]; omega), List.take_take, Nat.min_self,
      setL_get _ _ _ (by rw [H3.out, hn2]; omega), Nat.zero_add, List.take_append_of_le_length (by rw [List.length_append, hlt, hn2]; omega), List.take_of_length_le (by rw [List.length_append, hlt, hn2]; omega), enc2_append, ← enc2_take, ← HT.out, List.take_take, Nat.min_eq_left (by omega), hnews]
  · refine grown_setCells g _ _ _ ?_
    rw [HW.out]
    exact grown_setCells g _ _ _ (World.grownBy.mk rfl rfl rfl (Nat.le_refl _) (fun _ _ _ => rfl))
end Go.Proofs.Ytbigeaknbhmniaa.H
/- runs.joined, in the printed shape. -/
namespace Go.Proofs.Ytbigeaknbhmniaa.H
set_option linter.unusedSimpArgs false
set_option linter.unusedVariables false
open Go.RowKit Go.Proofs.YtbigeaknbhmniaaW.PrintWords Go.Proofs.YtbigeaknbhmniaaW.PrintLast Go.Proofs.YtbigeaknbhmniaaW.PrintMore Go.Proofs.Ytbigeaknbhmniaa.PB
/-- Does a text end in what another one begins with? -/
def meets (a b : List S71) : Prop := a ≠ [] ∧ b ≠ [] ∧ (rd_T71 a ((a.length : Int) - 1)).f0 = (rd_T71 b 0).f0
set_option maxHeartbeats 4000000 in
set_option maxRecDepth 100000 in
theorem joined_apart (A0 : Option Addr) (c0 : Nat) (l0 : List S71) (A1 : Option Addr) (c1 : Nat) (l1 : List S71) (w : World) (hr0 : Kd.C k71 w A0 l0.length l0) (hr1 : Kd.C k71 w A1 l1.length l1) (hlen : l0.length + l1.length ≤ 1000000000) (h0 : ¬ meets l0 l1) :
    Calls Try.prog 81 #[.slice A0 l0.length c0, .slice A1 l1.length c1] w fun e w' => ∃ v0_ : Value, e = .returned (v0_) ∧ Kd.R k71 71 w' w.heap.size (fun _ => True) v0_ (l0 ++ l1) ∧ Below w.heap.size w w' := by
  have HR0 := Aside0.mk hr0
  have HR1 := Aside0.mk hr1
  have HLEN := Aside0.mk hlen
  clear hr0 hr1 hlen
  have mixed : Try.prog.follows Departure.mixedOrders = true := by kernel_rfl
  by_cases e0 : l0 = []
  · subst e0
    go_enter Try.func81, Try.ntmps81
    go_wp2_with (go_at_call 102; refine (concat_two w.heap.size A0 c0 [] A1 c1 l1 _ (Kd.C_below HR0.out (below_alloc (Below.refl _ _) _)) (Kd.C_below HR1.out (below_alloc (Below.refl _ _) _)) HLEN.out ((blk_cell (blk_new _ _) 0).trans rfl) ((blk_cell (blk_new _ _) 1).trans rfl)).mono ?_; rintro e w1 ⟨v1, rfl, ho, hb⟩; have HO := Aside0.mk ho; have HB := Aside0.mk (below_step (below_alloc (Below.refl _ _) _) hb); clear ho hb)
    go_region_o
    go_wp2
    go_ret
    exact ⟨_, rfl, Kd.R_lower HO.out (by simp), by repeat first | exact HB.out | apply below_drew1⟩
  have p0 : 0 < l0.length := List.length_pos_iff.2 e0
  have d0 : decide ((0 : Int) < (l0.length : Int)) = true := decide_eq_true (by omega)
  have d0' : decide (0 < l0.length) = true := decide_eq_true p0
  by_cases e1 : l1 = []
  · subst e1
    go_enter Try.func81, Try.ntmps81
    go_wp2_with (go_at_call 102; refine (concat_two w.heap.size A0 c0 l0 A1 c1 [] _ (Kd.C_below HR0.out (below_alloc (Below.refl _ _) _)) (Kd.C_below HR1.out (below_alloc (Below.refl _ _) _)) HLEN.out ((blk_cell (blk_new _ _) 0).trans rfl) ((blk_cell (blk_new _ _) 1).trans rfl)).mono ?_; rintro e w1 ⟨v1, rfl, ho, hb⟩; have HO := Aside0.mk ho; have HB := Aside0.mk (below_step (below_alloc (Below.refl _ _) _) hb); clear ho hb)
    go_region_o
    go_wp2
    go_ret
    exact ⟨_, rfl, Kd.R_lower HO.out (by simp), by repeat first | exact HB.out | apply below_drew1⟩
  have p1 : 0 < l1.length := List.length_pos_iff.2 e1
  have d1 : decide ((0 : Int) < (l1.length : Int)) = true := decide_eq_true (by omega)
  have d1' : decide (0 < l1.length) = true := decide_eq_true p1
  have hne : ¬ (rd_T71 l0 ((l0.length : Int) - 1)).f0 = (rd_T71 l1 0).f0 := fun z => h0 ⟨e0, e1, z⟩
  have b0 : ((rd_T71 l0 ((l0.length : Int) - 1)).f0 == (rd_T71 l1 0).f0) = false := beq_eq_false_iff_ne.2 hne
  obtain ⟨ad0, a0, hx0, hx1⟩ := at_T71 HR0.out ((l0.length : Int) - 1) (by omega) (by omega)
  obtain ⟨ad1, a1, hy0, hy1⟩ := at_T71 HR1.out 0 (by omega) (by omega)
  cases a0
  cases a1
  have k1 : (0 ≤ (l0.length : Int) - 1) = True := eq_true (by omega)
  have k2 : ((l0.length : Int) - 1 < (l0.length : Int)) = True := eq_true (by omega)
  have k3 : (0 < l1.length) = True := eq_true p1
  have k4 : ((0 : Int) < (l1.length : Int)) = True := eq_true (by omega)
  have q1 : wrap64 ((l0.length : Int) - 1) = (l0.length : Int) - 1 := by have := HLEN.out; unfold wrap64; omega
  have HX := Aside0.mk hx0
  have HY := Aside0.mk hy0
  clear hx0 hx1 hy0 hy1 h0 e0 e1
  go_enter Try.func81, Try.ntmps81
  go_wp2_with (go_at_call 102; refine (concat_two w.heap.size (some ad0) c0 l0 (some ad1) c1 l1 _ (Kd.C_below HR0.out (below_alloc (Below.refl _ _) _)) (Kd.C_below HR1.out (below_alloc (Below.refl _ _) _)) HLEN.out ((blk_cell (blk_new _ _) 0).trans rfl) ((blk_cell (blk_new _ _) 1).trans rfl)).mono ?_; rintro e w1 ⟨v1, rfl, ho, hb⟩; have HO := Aside0.mk ho; have HB := Aside0.mk (below_step (below_alloc (Below.refl _ _) _) hb); clear ho hb)
  have hx := (HB.out.cell (World.block_lt_of_cell? w _ HX.out)).trans HX.out
  have hx2 : w1.cell? (ad0.add ((l0.length - 1) * 2)) = some (.int .i64 (rd_T71 l0 ((l0.length : Int) - 1)).f0) := by
    have e : ((l0.length : Int) - 1).toNat = l0.length - 1 := by omega
    rw [e] at hx; exact hx
  have hy := (HB.out.cell (World.block_lt_of_cell? w _ HY.out)).trans HY.out
  have hy2 : w1.cell? ad1 = some (.int .i64 (rd_T71 l1 0).f0) := by
    have e : ad1.add ((0 : Int).toNat * 2) = ad1 := by cases ad1; rfl
    rw [e] at hy; exact hy
  go_big_region_o
  go_wp2
  go_ret
  exact ⟨_, rfl, Kd.R_lower HO.out (by simp), by repeat first | exact HB.out | apply below_drew1⟩
theorem enc2_set (n : Int) : ∀ (i : Nat) (xs : List S71) (h : i < xs.length), (enc2 xs).set (i * 2 + 1) (.int .i64 n) = enc2 (xs.set i ⟨xs[i].f0, n⟩)
  | 0, x :: r, _ => rfl
  | i + 1, x :: r, h => by
    rw [show (i + 1) * 2 + 1 = i * 2 + 1 + 2 by omega]
    simp only [enc2, List.set_cons_succ, List.getElem_cons_succ]
    rw [enc2_set n i r (by simpa using h)]
theorem enc2_at : ∀ (i : Nat) (xs : List S71) (h : i < xs.length), (enc2 xs)[i * 2 + 1]? = some (.int .i64 xs[i].f1)
  | 0, x :: r, _ => rfl
  | i + 1, x :: r, h => by
    rw [show (i + 1) * 2 + 1 = i * 2 + 1 + 2 by omega]
    simp only [enc2, List.getElem?_cons_succ, List.getElem_cons_succ]
    exact enc2_at i r (by simpa using h)
theorem own_set {w : World} {base g cap : Nat} {xs : List S71} (ho : w.ownsRow base 71 2 (.slice (some ⟨g, 0, none⟩) xs.length cap) xs.length (enc2 xs)) (i : Nat) (h : i < xs.length) (n : Int) :
    (w.setCell ⟨g, i * 2 + 1, none⟩ (.int .i64 n)).ownsRow base 71 2 (.slice (some ⟨g, 0, none⟩) xs.length cap) xs.length (enc2 (xs.set i ⟨xs[i].f0, n⟩)) := by
  obtain ⟨hl0, ⟨hv, _⟩ | ⟨g', cap', cur, hv, hbase, hb, h1, h2, h3, h4⟩⟩ := ho
  · cases hv
  cases hv
  refine ⟨by rw [enc2_len, List.length_set], .inr ⟨g, cap, _, rfl, hbase, blk_set hb _ _, h1, h2, by simpa using h3, ?_⟩⟩
  rw [← enc2_set n i xs h, ← h4, Array.toList_setIfInBounds, List.take_set]
theorem own_cell {w : World} {base g cap : Nat} {xs : List S71} (ho : w.ownsRow base 71 2 (.slice (some ⟨g, 0, none⟩) xs.length cap) xs.length (enc2 xs)) (i : Nat) (h : i < xs.length) :
    w.cell? ⟨g, i * 2 + 1, none⟩ = some (.int .i64 xs[i].f1) ∧ w.frozen? ⟨g, i * 2 + 1, none⟩ = false := by
  obtain ⟨hl0, ⟨hv, _⟩ | ⟨g', cap', cur, hv, hbase, hb, h1, h2, h3, h4⟩⟩ := ho
  · cases hv
  cases hv
  refine ⟨?_, blk_frozen hb _⟩
  rw [blk_cell hb, ← Array.getElem?_toList]
  have h5 := enc2_at i xs h
  rw [← h4, List.getElem?_take] at h5
  split at h5
  · exact h5
  · cases h5
set_option maxHeartbeats 4000000 in
set_option maxRecDepth 100000 in
theorem joined_meet (A0 : Option Addr) (c0 : Nat) (l0 : List S71) (A1 : Option Addr) (c1 : Nat) (l1 : List S71) (w : World) (hr0 : Kd.C k71 w A0 l0.length l0) (hr1 : Kd.C k71 w A1 l1.length l1) (hlen : l0.length + l1.length ≤ 1000000000) (h0 : meets l0 l1) :
    Calls Try.prog 81 #[.slice A0 l0.length c0, .slice A1 l1.length c1] w fun e w' => ∃ v0_ : Value, e = .returned (v0_) ∧ Kd.R k71 71 w' w.heap.size (fun _ => True) v0_ (((l0 ++ l1).set (l0.length - 1) ⟨((l0 ++ l1).getD (l0.length - 1) z71).f0, wrap64 (((l0 ++ l1).getD (l0.length - 1) z71).f1 + (rd_T71 l1 0).f1)⟩).eraseIdx l0.length) ∧ Below w.heap.size w w' := by
  have HR0 := Aside0.mk hr0
  have HR1 := Aside0.mk hr1
  have HLEN := Aside0.mk hlen
  clear hr0 hr1 hlen
  have mixed : Try.prog.follows Departure.mixedOrders = true := by kernel_rfl
  have e0 := h0.1
  have e1 := h0.2.1
  have p0 : 0 < l0.length := List.length_pos_iff.2 e0
  have d0 : decide ((0 : Int) < (l0.length : Int)) = true := decide_eq_true (by omega)
  have d0' : decide (0 < l0.length) = true := decide_eq_true p0
  have p1 : 0 < l1.length := List.length_pos_iff.2 e1
  have d1 : decide ((0 : Int) < (l1.length : Int)) = true := decide_eq_true (by omega)
  have d1' : decide (0 < l1.length) = true := decide_eq_true p1
  have hne : (rd_T71 l0 ((l0.length : Int) - 1)).f0 = (rd_T71 l1 0).f0 := h0.2.2
  have b0 : ((rd_T71 l0 ((l0.length : Int) - 1)).f0 == (rd_T71 l1 0).f0) = true := beq_iff_eq.2 hne
  obtain ⟨ad0, a0, hx0, hx1⟩ := at_T71 HR0.out ((l0.length : Int) - 1) (by omega) (by omega)
  obtain ⟨ad1, a1, hy0, hy1⟩ := at_T71 HR1.out 0 (by omega) (by omega)
  cases a0
  cases a1
  have k1 : (0 ≤ (l0.length : Int) - 1) = True := eq_true (by omega)
  have k2 : ((l0.length : Int) - 1 < (l0.length : Int)) = True := eq_true (by omega)
  have k3 : (0 < l1.length) = True := eq_true p1
  have k4 : ((0 : Int) < (l1.length : Int)) = True := eq_true (by omega)
  have q1 : wrap64 ((l0.length : Int) - 1) = (l0.length : Int) - 1 := by have := HLEN.out; unfold wrap64; omega
  have HX := Aside0.mk hx0
  have HY1 := Aside0.mk hy1
  have HY := Aside0.mk hy0
  clear hx0 hx1 hy0 hy1 h0 e0 e1
  have hln : (l0 ++ l1).length = l0.length + l1.length := List.length_append
  have hk : l0.length - 1 < (l0 ++ l1).length := by omega
  have egd : (l0 ++ l1).getD (l0.length - 1) z71 = (l0 ++ l1)[l0.length - 1] := by simp [List.getD, List.getElem?_eq_getElem hk]
  rw [egd]
  go_enter Try.func81, Try.ntmps81
  go_wp2_with (go_at_call 102; refine (concat_two w.heap.size (some ad0) c0 l0 (some ad1) c1 l1 _ (Kd.C_below HR0.out (below_alloc (Below.refl _ _) _)) (Kd.C_below HR1.out (below_alloc (Below.refl _ _) _)) HLEN.out ((blk_cell (blk_new _ _) 0).trans rfl) ((blk_cell (blk_new _ _) 1).trans rfl)).mono ?_; rintro e w1 ⟨v1, rfl, ho, hb⟩; have HO := Aside0.mk ho; have HB := Aside0.mk (below_step (below_alloc (Below.refl _ _) _) hb); clear ho hb)
  have hx := (HB.out.cell (World.block_lt_of_cell? w _ HX.out)).trans HX.out
  have hx2 : w1.cell? (ad0.add ((l0.length - 1) * 2)) = some (.int .i64 (rd_T71 l0 ((l0.length : Int) - 1)).f0) := by
    have e : ((l0.length : Int) - 1).toNat = l0.length - 1 := by omega
    rw [e] at hx; exact hx
  have hy := (HB.out.cell (World.block_lt_of_cell? w _ HY.out)).trans HY.out
  have hy2 : w1.cell? ad1 = some (.int .i64 (rd_T71 l1 0).f0) := by
    have e : ad1.add ((0 : Int).toNat * 2) = ad1 := by cases ad1; rfl
    rw [e] at hy; exact hy
  have hy3 : w1.cell? ⟨ad1.block, ad1.off + 1, none⟩ = some (.int .i64 (rd_T71 l1 0).f1) := by
    have h := (HB.out.cell (World.block_lt_of_cell? w _ HY1.out)).trans HY1.out
    have e : ad1.add ((0 : Int).toNat * 2) = ad1 := by cases ad1; rfl
    rw [e] at h; exact h
  obtain ⟨g, cap, hvs, hge⟩ : ∃ g cap, v1 = .slice (some ⟨g, 0, none⟩) (l0 ++ l1).length cap ∧ w.heap.size ≤ g := by
    obtain ⟨_, ⟨hv, hn⟩ | ⟨g, cap, cur, hv, hbs, _⟩⟩ := R2_own HO.out
    · omega
    · exact ⟨g, cap, hv, Nat.le_trans (by simp) hbs⟩
  subst hvs
  have HGE := Aside0.mk hge
  clear hge
  have hown := R2_own HO.out
  obtain ⟨hc, hf⟩ := own_cell hown (l0.length - 1) hk
  have hg1 := own_set hown (l0.length - 1) hk
  have HOWN := Aside0.mk hg1
  clear hown hg1
  have k5 : ((l0.length : Int) - 1 < (l0.length : Int) + (l1.length : Int)) = True := eq_true (by have := HLEN.out; omega)
  have k6 : ((l0.length : Int) - 1).toNat = l0.length - 1 := by omega
  go_big_region_o
  go_wp2
  go_big_region_o
  have HG0 := Aside0.mk (below_size HB.out)
  have q6 : wrap64 ((l0.length : Int) + 1) = (l0.length : Int) + 1 := by have := HLEN.out; unfold wrap64; omega
  obtain ⟨XS, hXS⟩ : ∃ XS, XS = (l0 ++ l1).set (l0.length - 1) ⟨(l0 ++ l1)[l0.length - 1].f0, wrap64 ((l0 ++ l1)[l0.length - 1].f1 + (rd_T71 l1 0).f1)⟩ := ⟨_, rfl⟩
  have hxl : XS.length = l0.length + l1.length := by rw [hXS, List.length_set, hln]
  have ho4 := HOWN.out (wrap64 ((l0 ++ l1)[l0.length - 1].f1 + (rd_T71 l1 0).f1))
  rw [← hXS, hln] at ho4
  have HO4 := Aside0.mk ho4
  have D := fun B W h => delete_one XS g cap l0.length B (by rw [hxl]; omega) (by rw [hxl]; exact HLEN.out) W h
  simp only [hxl] at D
  have HD := Aside0.mk D
  clear D ho4 HOWN
  go_wp2_with (go_at_call 103; refine (HD.out ?B _ ?ho).mono ?_; (case ho => exact HO4.out); rintro e w2 ⟨rfl, ho2, hg2⟩)
  go_ret
  have er : XS.eraseIdx l0.length = XS.take l0.length ++ XS.drop (l0.length + 1) := List.eraseIdx_eq_take_drop_succ _ _
  have el : (XS.take l0.length ++ XS.drop (l0.length + 1)).length = l0.length + (l0.length + l1.length - (l0.length + 1)) := by rw [List.length_append, List.length_take, List.length_drop, hxl]; omega
  refine ⟨_, rfl, ?_, ?_⟩
  · rw [← hXS, er]
    rw [← el] at ho2 ⊢
    exact Kd.R_lower (R2_of ho2) (by simp)
  · refine Below.grown (row := some g) ?_ hg2 ?_ (fun j hj => by cases hj; exact HGE.out)
    · repeat first | exact HB.out | apply below_drew1 | refine below_set ?_ HGE.out
    · have := HB.out.size; simpa using this
def meetsB (a b : List S71) : Bool := decide (0 < a.length) && decide (0 < b.length) && decide ((rd_T71 a ((a.length : Int) - 1)).f0 = (rd_T71 b 0).f0)
theorem meetsB_iff (a b : List S71) : meetsB a b = true ↔ meets a b := by
  unfold meetsB meets
  rw [Bool.and_eq_true, Bool.and_eq_true, decide_eq_true_eq, decide_eq_true_eq, decide_eq_true_eq, List.length_pos_iff, List.length_pos_iff, and_assoc]
def joinedL (l0 l1 : List S71) : List S71 := if meetsB l0 l1 = true then ((l0 ++ l1).set (l0.length - 1) ⟨((l0 ++ l1).getD (l0.length - 1) z71).f0, wrap64 (((l0 ++ l1).getD (l0.length - 1) z71).f1 + (rd_T71 l1 0).f1)⟩).eraseIdx l0.length else l0 ++ l1
def runs_joined.f (l0 l1 : List S71) : Option (List S71) := if l0.length + l1.length ≤ 1000000000 then some (joinedL l0 l1) else none
theorem runs_joined.calls (A0 : Option Addr) (c0 : Nat) (l0 : List (S71)) (A1 : Option Addr) (c1 : Nat) (l1 : List (S71)) (r : List (S71)) (w : World) (hr0 : Kd.C k71 w A0 l0.length l0) (hc0 : l0.length ≤ c0) (hr1 : Kd.C k71 w A1 l1.length l1) (hc1 : l1.length ≤ c1) (h : runs_joined.f l0 l1 = some r) :
    Calls Try.prog 81 #[.slice A0 l0.length c0, .slice A1 l1.length c1] w fun e w' => ∃ v0_ : Value, e = .returned (v0_) ∧ Kd.R k71 71 w' w.heap.size (fun _ => True) v0_ r ∧ Below w.heap.size w w' := by
  unfold runs_joined.f at h
  split at h
  · obtain rfl := Option.some.inj h
    unfold joinedL
    by_cases hm : meetsB l0 l1 = true
    · rw [if_pos hm]; exact joined_meet A0 c0 l0 A1 c1 l1 w hr0 hr1 ‹_› ((meetsB_iff _ _).1 hm)
    · rw [if_neg hm]; exact joined_apart A0 c0 l0 A1 c1 l1 w hr0 hr1 ‹_› (fun z => hm ((meetsB_iff _ _).2 z))
  · cases h
end Go.Proofs.Ytbigeaknbhmniaa.H
/- word.text: the first text of a variable, by slices.IndexFunc and a closure that reads the variable; in the printed shape. -/
namespace Go.Proofs.Ytbigeaknbhmniaa.H
set_option linter.unusedSimpArgs false
set_option linter.unusedVariables false
open Go.RowKit Go.Proofs.YtbigeaknbhmniaaW.PrintWords Go.Proofs.YtbigeaknbhmniaaW.PrintLast Go.Proofs.YtbigeaknbhmniaaW.PrintMore Go.Proofs.Ytbigeaknbhmniaa.PB
def idxT (v : Int) : List S41 → Int → Int
  | [], _ => -1
  | x :: r, i => if x.f0 = v then i else idxT v r (i + 1)
theorem idxT_step (v : Int) (l : List S41) (i : Nat) (h : i < l.length) : idxT v (l.drop i) (i : Int) = if (rd_T41 l (i : Int)).f0 = v then (i : Int) else idxT v (l.drop (i + 1)) ((i + 1 : Nat) : Int) := by
  have e : rd_T41 l (i : Int) = l[i] := by unfold rd_T41; rw [Int.toNat_natCast]; simp [h]
  rw [List.drop_eq_getElem_cons h, e]
  rfl
theorem idxT_range (v : Int) : ∀ (l : List S41) (i : Int), idxT v l i = -1 ∨ (i ≤ idxT v l i ∧ idxT v l i < i + l.length)
  | [], i => .inl rfl
  | x :: r, i => by
    unfold idxT
    by_cases h : x.f0 = v
    · rw [if_pos h]; right; simp only [List.length_cons]; omega
    · rw [if_neg h]
      have := idxT_range v r (i + 1)
      simp only [List.length_cons]; omega
set_option maxHeartbeats 1000000 in
theorem clo_text (v x0 : Int) (A1 : Option Addr) (n1 c1 g : Nat) (w : World) (hg : w.cell? ⟨g, 0, none⟩ = some (.int .i64 v)) :
    Calls Try.prog 79 #[.agg #[.int .i64 x0, .slice A1 n1 c1], .pointer (some ⟨g, 0, none⟩)] w fun e w' => e = .returned (.bool (x0 == v)) ∧ Below w.heap.size w w' := by
  have hlt := World.block_lt_of_cell? w _ hg
  have hu := Try.underlying41
  go_enter Try.func79, Try.ntmps79
  go_wp2
  go_ret
  exact ⟨rfl, by repeat first | exact Below.refl _ _ | apply below_drew1 | apply below_alloc⟩
set_option maxHeartbeats 4000000 in
set_option maxRecDepth 100000 in
theorem index_text (v : Int) (g : Nat) (A0 : Option Addr) (c0 : Nat) (l : List S41) (w : World) (hr : Kd.C k41 w A0 l.length l) (hl : l.length ≤ 1000000000) (hg : w.cell? ⟨g, 0, none⟩ = some (.int .i64 v)) :
    Calls Try.prog 78 #[.slice A0 l.length c0, .func (.func 79) #[] #[.pointer (some ⟨g, 0, none⟩)]] w fun e w' => e = .returned (.int .i64 (idxT v l 0)) ∧ Below w.heap.size w w' := by
  have HR := Aside0.mk hr
  have HL := Aside0.mk hl
  have HG := Aside0.mk hg
  have hu := Try.underlying41
  clear hr hl hg
  go_enter Try.func78, Try.ntmps78
  go_wp2
  go_loopw [8] (fun v8 wr => ∃ i : Nat, v8 = .int .i64 (i : Int) ∧ Aside0 (i ≤ l.length) ∧ Aside0 (idxT v (l.drop i) (i : Int) = idxT v l 0) ∧ Aside0 (Below w.heap.size w wr)) (fun v8 _ => l.length - (RowKit.intOf v8).toNat)
  case atStart => exact ⟨0, rfl, ⟨Nat.zero_le _⟩, ⟨rfl⟩, ⟨Below.refl _ _⟩⟩
  case round =>
    obtain ⟨i, rfl, HI, HE, HB⟩ := hrel
    by_cases hlt : i < l.length
    · have hL := HL.out
      have hst := idxT_step v l i hlt
      rw [HE.out] at hst
      have hw : wrap64 ((i : Int) + 1) = ((i + 1 : Nat) : Int) := by unfold wrap64; omega
      have HW := Aside0.mk hw
      clear hw
      obtain ⟨ad, A1, c1, e, hx0, hx1, hl1, hi1⟩ := at_T41 (Kd.C_below HR.out HB.out) (i : Int) (by omega) (by omega)
      cases e
      rw [Int.toNat_natCast] at hx0 hx1
      have hgc := Aside0.mk ((HB.out.cell (World.block_lt_of_cell? w _ HG.out)).trans HG.out)
      have c1' : decide ((i : Int) < (l.length : Int)) = true := decide_eq_true (by omega)
      have c2' : decide (i < l.length) = true := decide_eq_true hlt
      have p1 : (0 ≤ (i : Int)) = True := eq_true (by omega)
      have q1 : ((i : Int) < (l.length : Int)) = True := eq_true (by omega)
      by_cases hv : (rd_T41 l (i : Int)).f0 = v
      · rw [if_pos hv] at hst
        have HST := Aside0.mk hst
        have hb : ((rd_T41 l (i : Int)).f0 == v) = true := beq_iff_eq.2 hv
        have HBE := Aside0.mk hb
        clear hst hv hb hl1 hi1
        go_wp2_with (go_at_call 79; (with_reducible refine (clo_text v _ _ _ _ g _ ?side).mono ?_); (case side => exact hgc.out); rw [HBE.out]; rintro e w1 ⟨rfl, hb1⟩; have HB1 := Aside0.mk (below_step HB.out hb1); clear hb1)
        go_ret
        exact ⟨by first | (rw [HST.out]; done) | (rw [HST.out]; rfl), by repeat first | exact HB1.out | apply below_drew1⟩
      · rw [if_neg hv] at hst
        have HST := Aside0.mk hst
        have hb : ((rd_T41 l (i : Int)).f0 == v) = false := beq_eq_false_iff_ne.2 hv
        have HBE := Aside0.mk hb
        clear hst hv hb hl1 hi1
        go_wp2_with (go_at_call 79; (with_reducible refine (clo_text v _ _ _ _ g _ ?side).mono ?_); (case side => exact hgc.out); rw [HBE.out]; rintro e w1 ⟨rfl, hb1⟩; have HB1 := Aside0.mk (below_step HB.out hb1); clear hb1)
        go_roundw
        case rel => exact ⟨i + 1, by go_num, ⟨by omega⟩, ⟨HST.out.symm⟩, ⟨by repeat first | exact HB1.out | apply below_drew1⟩⟩
        case measure => simp [RowKit.intOf, HW.out]; omega
    · have hi := HI.out
      have he : i = l.length := by omega
      subst he
      have hE : idxT v l 0 = -1 := by rw [← HE.out, List.drop_eq_nil_of_le (Nat.le_refl _)]; rfl
      have HE2 := Aside0.mk hE
      have c1' : decide ((l.length : Int) < (l.length : Int)) = false := decide_eq_false (by omega)
      have c2' : decide (l.length < l.length) = false := decide_eq_false (by omega)
      clear hE hlt
      go_wp2
      go_ret
      exact ⟨by rw [HE2.out]; rfl, HB.out⟩
def word_text.f (k : Nat) (a0 : Int) (l1 : List S41) : Option (List S71) := if l1.length ≤ 1000000000 then (if idxT a0 l1 0 < 0 then some [] else (runs_May.f k (rd_T41 l1 (idxT a0 l1 0)).f1).bind fun b => if b = true then some (rd_T41 l1 (idxT a0 l1 0)).f1 else some []) else none
set_option maxHeartbeats 4000000 in
set_option maxRecDepth 100000 in
theorem word_text.calls (k : Nat) (a0 : Int) (P1_ : Nat → Prop) (A1 : Option Addr) (c1 : Nat) (l1 : List (S41)) (r : List (S71)) (w : World) (hs1 : Kd.V k41 41 w w.heap.size (fun k_ => P1_ k_) (.slice A1 l1.length c1) l1) (h : word_text.f k a0 l1 = some r) :
    Calls Try.prog 47 #[.int .i64 a0, .slice A1 l1.length c1] w fun e w' => ∃ v0_ : Value, e = .returned (v0_) ∧ Kd.V k71 71 w' w.heap.size (fun k_ => (P1_ k_ ∨ w.heap.size ≤ k_)) v0_ r ∧ Below w.heap.size w w' := by
  unfold word_text.f at h
  split at h
  case isFalse => cases h
  case isTrue hlen =>
  have HS := Aside0.mk hs1
  have hr := (Kd.V_reads' hs1).2.2
  have HR := Aside0.mk hr
  have HL := Aside0.mk hlen
  have hrg := idxT_range a0 l1 0
  have hbA := below_alloc (Below.refl w.heap.size w) (.cells #[.int .i64 a0] 3 (0, 0))
  have HI : ∀ W, Below w.heap.size w W → W.cell? ⟨w.heap.size, 0, none⟩ = some (.int .i64 a0) → Calls Try.prog 78 #[.slice A1 l1.length c1, .func (.func 79) #[] #[.pointer (some ⟨w.heap.size, 0, none⟩)]] W fun e w' => e = .returned (.int .i64 (idxT a0 l1 0)) ∧ Below W.heap.size W w' :=
    fun W hb hc => index_text a0 w.heap.size A1 c1 l1 W (Kd.C_below hr hb) hlen hc
  have HIX := Aside0.mk HI
  clear hs1 hr hlen HI hbA
  generalize hj : idxT a0 l1 0 = j at h hrg HIX
  clear hj
  by_cases hn : j < 0
  · rw [if_pos hn] at h
    obtain rfl := Option.some.inj h
    have d1 : decide (j < 0) = true := decide_eq_true hn
    clear h hn hrg
    go_enter Try.func47, Try.ntmps47
    go_wp2_with (go_at_call 78; (with_reducible refine (HIX.out _ ?sb ?sc).mono ?_); (case sb => repeat first | exact Below.refl _ _ | apply below_drew1 | apply below_alloc); (case sc => exact (blk_cell (blk_new _ _) 0).trans rfl); rintro e w1 ⟨rfl, hb1⟩; have HB1 := Aside0.mk (below_step (below_alloc (Below.refl _ _) _) hb1); clear hb1)
    go_ret
    exact ⟨_, rfl, Kd.V_nil _ _ _ _ _, by repeat first | exact HB1.out | apply below_drew1⟩
  · rw [if_neg hn] at h
    obtain ⟨b, hm, h⟩ := Option.bind_eq_some_iff.1 h
    have h0 : 0 ≤ j := by omega
    have h1 : j < (l1.length : Int) := by omega
    have d1 : decide (j < 0) = false := decide_eq_false hn
    obtain ⟨ad, A2, c2, e, hx0, hx1, hl2, hi2⟩ := at_T41 HR.out j h0 h1
    cases e
    obtain ⟨ce, hce, hMe, hcc⟩ := Kd.V_get HS.out z41 j h0 h1
    obtain ⟨ua, uc, rfl, ul, ge⟩ := k41_openF hMe
    have hv := hcc 1 _ rfl
    rw [add_field _ _ 1 (by omega)] at hv
    replace hv := Option.some.inj (hv.symm.trans hx1)
    injection hv with hva hvn hvc
    subst hva
    subst hvc
    have HV := Aside0.mk (show Kd.V k71 71 w w.heap.size _ _ (rd_T41 l1 j).f1 from Kd.V_mk ul ge)
    have HM := Aside0.mk hm
    have HX := Aside0.mk hx1
    have HC2 := Aside0.mk hi2
    have HL2 := Aside0.mk hl2
    have p1 := eq_true h0
    have q1 := eq_true h1
    clear hrg hn hx0 hx1 hl2 hi2 hce hMe hcc hvn ul ge hm h0 h1
    cases b with
    | false =>
      obtain rfl := Option.some.inj h
      clear h
      go_enter Try.func47, Try.ntmps47
      go_wp2_with (first
        | (go_at_call 78; (with_reducible refine (HIX.out _ ?sb ?sc).mono ?_); (case sb => repeat first | exact Below.refl _ _ | apply below_drew1 | apply below_alloc); (case sc => exact (blk_cell (blk_new _ _) 0).trans rfl); rintro e w1 ⟨rfl, hb1⟩; have HB1 := Aside0.mk (below_step (below_alloc (Below.refl _ _) _) hb1); have hx := (HB1.out.cell (World.block_lt_of_cell? w _ HX.out)).trans HX.out; clear hb1)
        | (go_at_call 38; (with_reducible refine (runs_May.calls k _ _ _ false _ ?sa ?sd HM.out).mono ?_); (case sa => exact Kd.C_below HC2.out HB1.out); (case sd => exact HL2.out); rintro e w2 ⟨rfl, hb2⟩; have HB2 := Aside0.mk (below_step HB1.out hb2); have hx := (HB2.out.cell (World.block_lt_of_cell? w _ HX.out)).trans HX.out; clear hb2))
      go_ret
      exact ⟨_, rfl, Kd.V_nil _ _ _ _ _, by repeat first | exact HB2.out | apply below_drew1 | apply pw_below_drewN⟩
    | true =>
      obtain rfl := Option.some.inj h
      clear h
      go_enter Try.func47, Try.ntmps47
      go_wp2_with (first
        | (go_at_call 78; (with_reducible refine (HIX.out _ ?sb ?sc).mono ?_); (case sb => repeat first | exact Below.refl _ _ | apply below_drew1 | apply below_alloc); (case sc => exact (blk_cell (blk_new _ _) 0).trans rfl); rintro e w1 ⟨rfl, hb1⟩; have HB1 := Aside0.mk (below_step (below_alloc (Below.refl _ _) _) hb1); have hx := (HB1.out.cell (World.block_lt_of_cell? w _ HX.out)).trans HX.out; clear hb1)
        | (go_at_call 38; (with_reducible refine (runs_May.calls k _ _ _ true _ ?sa ?sd HM.out).mono ?_); (case sa => exact Kd.C_below HC2.out HB1.out); (case sd => exact HL2.out); rintro e w2 ⟨rfl, hb2⟩; have HB2 := Aside0.mk (below_step HB1.out hb2); have hx := (HB2.out.cell (World.block_lt_of_cell? w _ HX.out)).trans HX.out; clear hb2))
      go_ret
      exact ⟨_, rfl, Kd.V_mono (by (with_reducible repeat (first | apply Kd.V_drewN | apply Kd.V_drew)); exact Kd.V_below HV.out HB2.out) (fun _ hk => .inl hk), by repeat first | exact HB2.out | apply below_drew1 | apply pw_below_drewN⟩
end Go.Proofs.Ytbigeaknbhmniaa.H
