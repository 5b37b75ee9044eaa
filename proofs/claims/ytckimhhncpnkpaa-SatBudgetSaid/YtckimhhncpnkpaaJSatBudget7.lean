/- Joined by wip/tools/shake.py for the claim of SatBudget: HSmt, HSmu, HSmv, LawSB, HOpen, LawSatBudget. -/
import Derived.Test.YtckimhhncpnkpaaJSatBudget6
import Derived.Conc.LoneSelect
import Derived.Laws.Rows
import Derived.Conc.EventLaws
import Derived.Conc.SmallLaws
import Derived.Test.YtckimhhncpnkpaaJSatBudget2
import Derived.Deep.SlicePairs
import Derived.ChangeArms
import Derived.WalkKit
import Derived.Test.YtckimhhncpnkpaaRows
import Derived.ProofKit
import Derived.OpenShut
import Derived.ShutString
import Derived.ChangeOld
import Derived.Below
import Derived.SizedLaws
import Derived.Lib.SmallJoins
import Derived.ChangeSlices
/- The meter: Over. -/
namespace Go.Proofs.Ytckimhhncpnkpaa.H
set_option linter.unusedSimpArgs false
set_option linter.unusedVariables false
open Go.Conc Go.RowKit
set_option maxRecDepth 100000 in
set_option maxHeartbeats 1000000 in
theorem q_Over {w : World} {gm gc : Nat} {ov : Bool} (h2 : w.cell? ⟨gm, 2, none⟩ = some (.chan (some gc))) (hc : w.heap[gc]? = some (.chan 0 #[] ov 0 0 false)) :
    Calls Try.prog 20 #[.pointer (some ⟨gm, 0, none⟩)] w fun e w' => e = .returned (.bool ov) ∧ w = w' := by
  refine calls_of_loneTo fun cs => ?_
  have e : Frame.enter Try.prog 20 #[.pointer (some ⟨gm, 0, none⟩)] .normal = (base 20).at ⟨#[.pointer (some ⟨gm, 0, none⟩), undef, undef, undef, undef, undef, undef, undef, undef, undef, undef, undef], []⟩ [.code (Try.f20.body.getD .skip)] := by
    simp [Frame.enter, Frame.at, Try.func20, base, Try.f20]
  rw [e]
  refine LoneTo.goes (n := 60) ?_
  simp only [Try.f20, Option.getD_some]
  cases ov with
  | false =>
    s_c stepG_seq
    s_reg
    s_op
    s_c stepG_region_end
    s_c stepG_seq
    s_c stepG_seq
    s_reg
    s_op
    s_op
    s_c stepG_region_end
    s_cond false
    s_c stepG_skip
    s_c stepG_seq
    s_reg
    s_op
    s_op
    s_op
    s_op
    s_c stepG_region_end
    s_c stepG_seq
    s_reg
    s_stop
    refine LoneTo.step (step_lone_select_default (c := gc) (z := .agg #[]) (cap := 0) (s := 0) (r := 0) (tm := false) (stepG_comm (cases := #[rcase gc (.agg #[])]) (blocking := false) (shape := .select) (w' := w) rfl rfl (by decide) (by simp [go_sem, execOp, rcase, Act.eval])) hc) ?_
    rw [Frame.finish_at]
    walk_nrm
    refine LoneTo.goes (n := 40) ?_
    s_op
    s_op
    s_c stepG_region_end
    s_c stepG_block
    s_cond false
    s_c stepG_seq
    s_reg
    s_op
    s_c stepG_region_end
    s_c stepG_ret'
    s_stop
    refine LoneTo.done ⟨.returned (.bool false), _, rfl, ⟨rfl, rfl⟩, rfl, rfl, rfl, rfl, _, Try.func20, by simp [results, Try.f20, Frame.at]⟩
  | true =>
    s_c stepG_seq
    s_reg
    s_op
    s_c stepG_region_end
    s_c stepG_seq
    s_c stepG_seq
    s_reg
    s_op
    s_op
    s_c stepG_region_end
    s_cond false
    s_c stepG_skip
    s_c stepG_seq
    s_reg
    s_op
    s_op
    s_op
    s_op
    s_c stepG_region_end
    s_c stepG_seq
    s_reg
    s_stop
    refine LoneTo.step (step_lone_select_recv_shut (c := gc) (z := .agg #[]) (cap := 0) (s := 0) (r := 0) (tm := false) (stepG_comm (cases := #[rcase gc (.agg #[])]) (blocking := false) (shape := .select) (w' := w) rfl rfl (by decide) (by simp [go_sem, execOp, rcase, Act.eval])) hc) ?_
    rw [Frame.finish_at]
    walk_nrm
    refine LoneTo.goes (n := 40) ?_
    s_op
    s_op
    s_c stepG_region_end
    s_c stepG_block
    s_cond true
    s_c stepG_seq
    s_reg
    s_op
    s_c stepG_region_end
    s_c stepG_ret'
    s_stop
    refine LoneTo.done ⟨.returned (.bool true), _, rfl, ⟨rfl, rfl⟩, rfl, rfl, rfl, rfl, _, Try.func20, by simp [results, Try.f20, Frame.at]⟩
end Go.Proofs.Ytckimhhncpnkpaa.H
/- The meter: Spend, New. -/
namespace Go.Proofs.Ytckimhhncpnkpaa.H
set_option linter.unusedSimpArgs false
set_option linter.unusedVariables false
open Go.RowKit Go.Proofs.YtckimhhncpnkpaaW.PrintWords Go.Proofs.YtckimhhncpnkpaaW.PrintLast Go.Proofs.YtckimhhncpnkpaaW.PrintMore Go.Proofs.Ytckimhhncpnkpaa.Sep Go.Proofs.Ytckimhhncpnkpaa.Sat
/-- A channel that nobody waits at. -/
def cch (g : Nat) (ov : Bool) : Ch where
  sat w fp := w.heap[g]? = some (.chan 0 #[] ov 0 0 false) ∧ ∀ k, fp k ↔ k = g
  keep h hk := ⟨(hk g ((h.2 g).2 rfl)).trans h.1, h.2⟩
  live h k hk := by
    obtain rfl := (h.2 k).1 hk
    exact (Array.getElem?_eq_some_iff.1 h.1).1
/-- A meter. -/
def mtr (gm gc : Nat) : Option Mtr → Ch
  | none => fact False
  | some x => star [fact (0 ≤ x.spent ∧ x.spent ≤ 4611686018427387904 ∧ -9223372036854775808 ≤ x.budget ∧ x.budget ≤ 9223372036854775807), blk gm #[.int .i64 x.budget, .int .i64 x.spent, .chan (some gc)] 63, cch gc x.over]
theorem st_cch {w0 w : World} {U : Nat → Prop} {L : List Ch} {i g : Nat} {ov : Bool} (h : St w0 U w L) (hi : L[i]? = some (cch g ov)) : w.heap[g]? = some (.chan 0 #[] ov 0 0 false) := by
  obtain ⟨fp, ⟨h1, _⟩, _⟩ := h.sat hi
  exact h1
theorem ev_close {ops : Array Oper} {o_ : Oper} {rest : List Oper} {a : Act} {Q : Exit → Act → World → Prop} {w0 W : World} {U : Nat → Prop} {L : List Ch} {k : Nat} (hgd : o_.guard = none) (H : St w0 U W L) {g : Nat} (hi : L[k]? = some (cch g false)) {x : Operand} {t : TypeId} (ho : o_.op = .call { callee := .builtin .close, args := #[x], argTypes := #[t] })
    (hx : a.eval x = .chan (some g)) (h : ∀ w1, St w0 U w1 (L.set k (cch g true)) → wpList Try.prog ops Q rest (a.put o_.dst (.tuple #[])) w1) : wpList Try.prog ops Q (o_ :: rest) a W := by
  have hr := run_close_open (P := Try.prog) #[t] o_.type (st_cch H hi)
  obtain ⟨fp, ⟨h1, h2⟩, hk⟩ := H.upd hi
  have hg : g < W.heap.size := (Array.getElem?_eq_some_iff.1 h1).1
  refine Kd.event_run hgd (v := .tuple #[]) ?_ (h _ (hk { W with heap := W.heap.setIfInBounds g (.chan 0 #[] true 0 0 false) } (cch g true) fp ⟨by simp [hg], h2⟩ (fun k hk => .inl hk) ⟨rfl, rfl, rfl, by simp, fun k _ hk2 => by
    have : g ≠ k := fun e => hk2 ((h2 k).2 e.symm)
    simp [this]⟩))
  unfold execOp
  simp only [ho, resolve, invoke, builtin, Sem.run_bind, Sem.run_pure, Result.andThen_ok, List.map_toArray, List.map_cons, List.map_nil, hx, hr]
theorem mtr_open {w : World} {gm gc : Nat} {x : Mtr} {L : List Ch} {U : Nat → Prop} (h : Sep w (mtr gm gc (some x) :: L) U) : (0 ≤ x.spent ∧ x.spent ≤ 4611686018427387904 ∧ -9223372036854775808 ≤ x.budget ∧ x.budget ≤ 9223372036854775807) ∧ Sep w (blk gm #[.int .i64 x.budget, .int .i64 x.spent, .chan (some gc)] 63 :: cch gc x.over :: L) U := open_fact (open_star h)
theorem mtr_shut {w w0 : World} {gm gc : Nat} {x : Mtr} {L : List Ch} {U : Nat → Prop} (hx : 0 ≤ x.spent ∧ x.spent ≤ 4611686018427387904 ∧ -9223372036854775808 ≤ x.budget ∧ x.budget ≤ 9223372036854775807) (h : St w0 U w (blk gm #[.int .i64 x.budget, .int .i64 x.spent, .chan (some gc)] 63 :: cch gc x.over :: L)) : St w0 U w (mtr gm gc (some x) :: L) := ⟨h.keeps, shut_star (L1 := [_, _, _]) (shut_fact hx h.sep), h.up⟩
theorem newsp {sp : Int} (h0 : 0 ≤ sp) (h1 : sp ≤ 4611686018427387904) : (wrap64 (sp + min (max 1 0) (wrap64 (4611686018427387904 - sp)))) = (sp + min 1 (4611686018427387904 - sp)) := by
  rw [show wrap64 (4611686018427387904 - sp) = 4611686018427387904 - sp from Go.IntWalk.wrap64_in _ (by omega), show max (1 : Int) 0 = 1 from rfl, Go.IntWalk.wrap64_in _ (by omega)]
set_option maxHeartbeats 2000000 in
set_option maxRecDepth 100000 in
theorem q_Spend (gm gc : Nat) : Spends (.pointer (some ⟨gm, 0, none⟩)) (mtr gm gc) := fun w m => by
  have mixed : Try.prog.follows Departure.mixedOrders = true := by kernel_rfl
  refine does_intro fun U hs => ?_
  cases m with
  | none => exact (open_fact hs.sep).1.elim
  | some m =>
  obtain ⟨bu, sp, ov⟩ := m
  obtain ⟨hx, h1⟩ := mtr_open hs.sep
  dsimp only at hx h1
  replace hs : St w U w _ := ⟨hs.keeps, h1, hs.up⟩
  clear h1
  have HX := Aside0.mk hx
  cases ov with
  | true =>
    have H := Aside0.mk (show St w U w [blk gm #[.int .i64 bu, .int .i64 sp, .chan (some gc)] 63, cch gc true] from hs)
    have cS := H.out.cell (i := 0) rfl
    have fS := H.out.frz (i := 0) rfl
    have H1_ := Aside0.mk (cS 2)
    have H2_ := Aside0.mk (st_cch H.out (i := 1) rfl)
    clear hs hx
    go_enter Try.func43, Try.ntmps43
    go_wp2_with (first
      | (go_at_call 20; (with_reducible refine (q_Over H1_.out H2_.out).mono ?_); rintro e w' ⟨rfl, rfl⟩))
    go_ret
    exact ⟨[_], ⟨rfl, rfl⟩, mtr_shut (x := ⟨bu, sp, true⟩) HX.out H.out⟩
  | false =>
    by_cases hb : bu < 1
    · have H := Aside0.mk (show St w U w [blk gm #[.int .i64 bu, .int .i64 sp, .chan (some gc)] 63, cch gc false] from hs)
      have cS := H.out.cell (i := 0) rfl
      have fS := H.out.frz (i := 0) rfl
      have H1_ := Aside0.mk (cS 2)
      have H2_ := Aside0.mk (st_cch H.out (i := 1) rfl)
      have d1 : decide (bu < 1) = true := decide_eq_true hb
      have HE := Aside0.mk (show spend (some ⟨bu, sp, false⟩) = (some ⟨bu, (sp + min 1 (4611686018427387904 - sp)), false⟩, true) by simp [spend, hb])
      clear hs hx hb
      go_enter Try.func43, Try.ntmps43
      go_wp2_with (first
        | (go_at_call 20; (with_reducible refine (q_Over H1_.out H2_.out).mono ?_); rintro e w' ⟨rfl, rfl⟩))
      refine start_ (n := 15) (S := fun w' => w' = w.drew) (ds := [14]) #[false, false, false, false, false, false, false, false, false, false, false, false, false, false, false] (by kernel_rfl) rfl rfl (rfl) (fun hHeld => ?_)
      refine pure_ (i := 0) (N := some 19) (v := ?_) (a' := ?_) #[true, false, false, false, false, false, false, false, false, false, false, false, false, false, false] rfl rfl (by kernel_rfl) (fun _ _ _ h => h) (Or.inl ⟨by rfl, ?_⟩) ?_ ?_
      rotate_left
      · intro w'
        go_simp
        with_reducible rfl
      rotate_left
      · simp only [Act.put, List.setIfInBounds_toArray, List.set_cons_zero, List.set_cons_succ, i64_w, i32_w]
        rfl
      refine pure_ (i := 1) (N := some 20) (v := ?_) (a' := ?_) #[true, true, false, false, false, false, false, false, false, false, false, false, false, false, false] rfl rfl (by kernel_rfl) (fun _ _ _ h => h) (Or.inl ⟨by rfl, ?_⟩) ?_ ?_
      rotate_left
      · intro w'
        go_simp
        with_reducible rfl
      rotate_left
      · simp only [Act.put, List.setIfInBounds_toArray, List.set_cons_zero, List.set_cons_succ, i64_w, i32_w]
        rfl
      refine pure_ (i := 2) (N := some 21) (v := ?_) (a' := ?_) #[true, true, true, false, false, false, false, false, false, false, false, false, false, false, false] rfl rfl (by kernel_rfl) (fun _ _ _ h => h) (Or.inl ⟨by rfl, ?_⟩) ?_ ?_
      rotate_left
      · intro w'
        go_simp
        with_reducible rfl
      rotate_left
      · simp only [Act.put, List.setIfInBounds_toArray, List.set_cons_zero, List.set_cons_succ, i64_w, i32_w]
        rfl
      refine pure_ (i := 4) (N := some 23) (v := ?_) (a' := ?_) #[true, true, true, false, true, false, false, false, false, false, false, false, false, false, false] rfl rfl (by kernel_rfl) (fun _ _ _ h => h) (Or.inl ⟨by rfl, ?_⟩) ?_ ?_
      rotate_left
      · intro w'
        go_simp
        with_reducible rfl
      rotate_left
      · simp only [Act.put, List.setIfInBounds_toArray, List.set_cons_zero, List.set_cons_succ, i64_w, i32_w]
        rfl
      refine pure_ (i := 5) (N := some 24) (v := ?_) (a' := ?_) #[true, true, true, false, true, true, false, false, false, false, false, false, false, false, false] rfl rfl (by kernel_rfl) (fun _ _ _ h => h) (Or.inl ⟨by rfl, ?_⟩) ?_ ?_
      rotate_left
      · intro w'
        go_simp
        with_reducible rfl
      rotate_left
      · simp only [Act.put, List.setIfInBounds_toArray, List.set_cons_zero, List.set_cons_succ, i64_w, i32_w]
        rfl
      refine pure_ (i := 6) (N := some 25) (v := ?_) (a' := ?_) #[true, true, true, false, true, true, true, false, false, false, false, false, false, false, false] rfl rfl (by kernel_rfl) (fun _ _ _ h => h) (Or.inl ⟨by rfl, ?_⟩) ?_ ?_
      rotate_left
      · intro w'
        go_simp
        with_reducible rfl
      rotate_left
      · simp only [Act.put, List.setIfInBounds_toArray, List.set_cons_zero, List.set_cons_succ, i64_w, i32_w]
        rfl
      refine pure_ (i := 7) (N := some 26) (v := ?_) (a' := ?_) #[true, true, true, false, true, true, true, true, false, false, false, false, false, false, false] rfl rfl (by kernel_rfl) (fun _ _ _ h => h) (Or.inl ⟨by rfl, ?_⟩) ?_ ?_
      rotate_left
      · intro w'
        go_simp
        with_reducible rfl
      rotate_left
      · simp only [Act.put, List.setIfInBounds_toArray, List.set_cons_zero, List.set_cons_succ, i64_w, i32_w]
        rfl
      refine take_ (i := 3) (N := some 22) (v := ?_) (a' := ?_) #[true, true, true, true, true, true, true, true, false, false, false, false, false, false, false] rfl rfl (by kernel_rfl) (fun _ _ _ h => h) (Or.inl ⟨by rfl, ?_⟩) hHeld ?_ ?_
      rotate_left
      · intro w' s0
        go_simp
        with_reducible rfl
      rotate_left
      · simp only [Act.put, List.setIfInBounds_toArray, List.set_cons_zero, List.set_cons_succ, i64_w, i32_w]
        rfl
      refine take_ (i := 8) (N := some 27) (v := ?_) (a' := ?_) #[true, true, true, true, true, true, true, true, true, false, false, false, false, false, false] rfl rfl (by kernel_rfl) (fun _ _ _ h => h) (Or.inl ⟨by rfl, ?_⟩) hHeld ?_ ?_
      rotate_left
      · intro w' s0
        go_simp
        with_reducible rfl
      rotate_left
      · simp only [Act.put, List.setIfInBounds_toArray, List.set_cons_zero, List.set_cons_succ, i64_w, i32_w]
        rfl
      refine pure_ (i := 9) (N := some 28) (v := ?_) (a' := ?_) #[true, true, true, true, true, true, true, true, true, true, false, false, false, false, false] rfl rfl (by kernel_rfl) (fun _ _ _ h => h) (Or.inl ⟨by rfl, ?_⟩) ?_ ?_
      rotate_left
      · intro w'
        go_simp
        with_reducible rfl
      rotate_left
      · simp only [Act.put, List.setIfInBounds_toArray, List.set_cons_zero, List.set_cons_succ, i64_w, i32_w]
        rfl
      refine pure_ (i := 10) (N := some 29) (v := ?_) (a' := ?_) #[true, true, true, true, true, true, true, true, true, true, true, false, false, false, false] rfl rfl (by kernel_rfl) (fun _ _ _ h => h) (Or.inl ⟨by rfl, ?_⟩) ?_ ?_
      rotate_left
      · intro w'
        go_simp
        with_reducible rfl
      rotate_left
      · simp only [Act.put, List.setIfInBounds_toArray, List.set_cons_zero, List.set_cons_succ, i64_w, i32_w]
        rfl
      refine pure_ (i := 11) (N := some 30) (v := ?_) (a' := ?_) #[true, true, true, true, true, true, true, true, true, true, true, true, false, false, false] rfl rfl (by kernel_rfl) (fun _ _ _ h => h) (Or.inl ⟨by rfl, ?_⟩) ?_ ?_
      rotate_left
      · intro w'
        go_simp
        with_reducible rfl
      rotate_left
      · simp only [Act.put, List.setIfInBounds_toArray, List.set_cons_zero, List.set_cons_succ, i64_w, i32_w]
        rfl
      refine pure_ (i := 12) (N := some 31) (v := ?_) (a' := ?_) #[true, true, true, true, true, true, true, true, true, true, true, true, true, false, false] rfl rfl (by kernel_rfl) (fun _ _ _ h => h) (Or.inl ⟨by rfl, ?_⟩) ?_ ?_
      rotate_left
      · intro w'
        go_simp
        with_reducible rfl
      rotate_left
      · simp only [Act.put, List.setIfInBounds_toArray, List.set_cons_zero, List.set_cons_succ, i64_w, i32_w]
        rfl
      refine pure_ (i := 13) (N := some 32) (v := ?_) (a' := ?_) #[true, true, true, true, true, true, true, true, true, true, true, true, true, true, false] rfl rfl (by kernel_rfl) (fun _ _ _ h => h) (Or.inl ⟨by rfl, ?_⟩) ?_ ?_
      rotate_left
      · intro w'
        go_simp
        with_reducible rfl
      rotate_left
      · simp only [Act.put, List.setIfInBounds_toArray, List.set_cons_zero, List.set_cons_succ, i64_w, i32_w]
        rfl
      refine last_ (i := 14) (N := none) #[true, true, true, true, true, true, true, true, true, true, true, true, true, true, true] rfl rfl (by kernel_rfl) (by decide) (fun K hK => ?_)
      refine st_store (by rfl) rfl H.out.drew (i := 0) rfl 1 (.int .i64 (wrap64 (sp + min (max 1 0) (wrap64 (4611686018427387904 - sp))))) rfl ?hr ?_
      (case hr => first | (go_simp; done) | (go_simp; rfl))
      intro w21_ H1
      clear H cS fS
      have H := Aside0.mk (show St w U w21_ [blk gm #[.int .i64 bu, .int .i64 (wrap64 (sp + min (max 1 0) (wrap64 (4611686018427387904 - sp)))), .chan (some gc)] 63, cch gc false] from H1)
      clear H1
      refine hK.out _ _ ?_
      clear hK K
      refine done_ (by kernel_rfl) ?_

      go_wp2_with fail
      go_ret
      rw [newsp HX.out.1 HX.out.2.1] at H
      rw [HE.out]
      exact ⟨[_], ⟨rfl, rfl⟩, mtr_shut (x := ⟨bu, (sp + min 1 (4611686018427387904 - sp)), false⟩) (by have := HX.out; dsimp only at this ⊢; omega) H.out⟩
    · by_cases hc : bu - sp < 1
      · have H := Aside0.mk (show St w U w [blk gm #[.int .i64 bu, .int .i64 sp, .chan (some gc)] 63, cch gc false] from hs)
        have cS := H.out.cell (i := 0) rfl
        have fS := H.out.frz (i := 0) rfl
        have H1_ := Aside0.mk (cS 2)
        have H2_ := Aside0.mk (st_cch H.out (i := 1) rfl)
        have d1 : decide (bu < 1) = false := decide_eq_false hb
        have d2 : decide (wrap64 (bu - sp) < max 1 0) = true := decide_eq_true (by rw [Go.IntWalk.wrap64_in (bu - sp) (by omega)]; exact hc)
        have HE := Aside0.mk (show spend (some ⟨bu, sp, false⟩) = (some ⟨bu, sp, true⟩, false) by simp [spend, hb, hc])
        clear hs hx hb hc
        go_enter Try.func43, Try.ntmps43
        go_wp2_with (first
          | (go_at_call 20; (with_reducible refine (q_Over H1_.out H2_.out).mono ?_); rintro e w' ⟨rfl, rfl⟩))
        go_quiet (fail)
        rename_i nq
        have H0 := Aside0.mk (H.out.drewN nq)
        clear H
        have H := H0
        clear H0
        go_wp2_with (first
          | ((with_reducible refine gate_builtin (b := .close) (xs := #[.tmp 48]) rfl ?_); refine ev_close rfl H.out (k := 1) rfl (x := .tmp 48) rfl rfl ?_; intro w9_ H9; clear H cS fS; have H := Aside0.mk (show St w U w9_ [blk gm #[.int .i64 bu, .int .i64 sp, .chan (some gc)] 63, cch gc true] from H9); clear H9))
        go_ret
        rw [HE.out]
        exact ⟨[_], ⟨rfl, rfl⟩, mtr_shut (x := ⟨bu, sp, true⟩) HX.out H.out⟩
      · have H := Aside0.mk (show St w U w [blk gm #[.int .i64 bu, .int .i64 sp, .chan (some gc)] 63, cch gc false] from hs)
        have cS := H.out.cell (i := 0) rfl
        have fS := H.out.frz (i := 0) rfl
        have H1_ := Aside0.mk (cS 2)
        have H2_ := Aside0.mk (st_cch H.out (i := 1) rfl)
        have d1 : decide (bu < 1) = false := decide_eq_false hb
        have d2 : decide (wrap64 (bu - sp) < max 1 0) = false := decide_eq_false (by rw [Go.IntWalk.wrap64_in (bu - sp) (by omega)]; exact hc)
        have HE := Aside0.mk (show spend (some ⟨bu, sp, false⟩) = (some ⟨bu, (sp + min 1 (4611686018427387904 - sp)), false⟩, true) by simp [spend, hb, hc])
        clear hs hx hb hc
        go_enter Try.func43, Try.ntmps43
        go_wp2_with (first
          | (go_at_call 20; (with_reducible refine (q_Over H1_.out H2_.out).mono ?_); rintro e w' ⟨rfl, rfl⟩))
        go_quiet (fail)
        rename_i nq
        have H0 := Aside0.mk (H.out.drewN nq)
        clear H
        have H := H0
        clear H0
        go_wp2_with fail
        refine start_ (n := 15) (S := fun w' => w' = (w.drewN nq).drew) (ds := [14]) #[false, false, false, false, false, false, false, false, false, false, false, false, false, false, false] (by kernel_rfl) rfl rfl (rfl) (fun hHeld => ?_)
        refine pure_ (i := 0) (N := some 49) (v := ?_) (a' := ?_) #[true, false, false, false, false, false, false, false, false, false, false, false, false, false, false] rfl rfl (by kernel_rfl) (fun _ _ _ h => h) (Or.inl ⟨by rfl, ?_⟩) ?_ ?_
        rotate_left
        · intro w'
          go_simp
          with_reducible rfl
        rotate_left
        · simp only [Act.put, List.setIfInBounds_toArray, List.set_cons_zero, List.set_cons_succ, i64_w, i32_w]
          rfl
        refine pure_ (i := 1) (N := some 50) (v := ?_) (a' := ?_) #[true, true, false, false, false, false, false, false, false, false, false, false, false, false, false] rfl rfl (by kernel_rfl) (fun _ _ _ h => h) (Or.inl ⟨by rfl, ?_⟩) ?_ ?_
        rotate_left
        · intro w'
          go_simp
          with_reducible rfl
        rotate_left
        · simp only [Act.put, List.setIfInBounds_toArray, List.set_cons_zero, List.set_cons_succ, i64_w, i32_w]
          rfl
        refine pure_ (i := 2) (N := some 51) (v := ?_) (a' := ?_) #[true, true, true, false, false, false, false, false, false, false, false, false, false, false, false] rfl rfl (by kernel_rfl) (fun _ _ _ h => h) (Or.inl ⟨by rfl, ?_⟩) ?_ ?_
        rotate_left
        · intro w'
          go_simp
          with_reducible rfl
        rotate_left
        · simp only [Act.put, List.setIfInBounds_toArray, List.set_cons_zero, List.set_cons_succ, i64_w, i32_w]
          rfl
        refine pure_ (i := 4) (N := some 53) (v := ?_) (a' := ?_) #[true, true, true, false, true, false, false, false, false, false, false, false, false, false, false] rfl rfl (by kernel_rfl) (fun _ _ _ h => h) (Or.inl ⟨by rfl, ?_⟩) ?_ ?_
        rotate_left
        · intro w'
          go_simp
          with_reducible rfl
        rotate_left
        · simp only [Act.put, List.setIfInBounds_toArray, List.set_cons_zero, List.set_cons_succ, i64_w, i32_w]
          rfl
        refine pure_ (i := 5) (N := some 54) (v := ?_) (a' := ?_) #[true, true, true, false, true, true, false, false, false, false, false, false, false, false, false] rfl rfl (by kernel_rfl) (fun _ _ _ h => h) (Or.inl ⟨by rfl, ?_⟩) ?_ ?_
        rotate_left
        · intro w'
          go_simp
          with_reducible rfl
        rotate_left
        · simp only [Act.put, List.setIfInBounds_toArray, List.set_cons_zero, List.set_cons_succ, i64_w, i32_w]
          rfl
        refine pure_ (i := 6) (N := some 55) (v := ?_) (a' := ?_) #[true, true, true, false, true, true, true, false, false, false, false, false, false, false, false] rfl rfl (by kernel_rfl) (fun _ _ _ h => h) (Or.inl ⟨by rfl, ?_⟩) ?_ ?_
        rotate_left
        · intro w'
          go_simp
          with_reducible rfl
        rotate_left
        · simp only [Act.put, List.setIfInBounds_toArray, List.set_cons_zero, List.set_cons_succ, i64_w, i32_w]
          rfl
        refine pure_ (i := 7) (N := some 56) (v := ?_) (a' := ?_) #[true, true, true, false, true, true, true, true, false, false, false, false, false, false, false] rfl rfl (by kernel_rfl) (fun _ _ _ h => h) (Or.inl ⟨by rfl, ?_⟩) ?_ ?_
        rotate_left
        · intro w'
          go_simp
          with_reducible rfl
        rotate_left
        · simp only [Act.put, List.setIfInBounds_toArray, List.set_cons_zero, List.set_cons_succ, i64_w, i32_w]
          rfl
        refine take_ (i := 3) (N := some 52) (v := ?_) (a' := ?_) #[true, true, true, true, true, true, true, true, false, false, false, false, false, false, false] rfl rfl (by kernel_rfl) (fun _ _ _ h => h) (Or.inl ⟨by rfl, ?_⟩) hHeld ?_ ?_
        rotate_left
        · intro w' s0
          go_simp
          with_reducible rfl
        rotate_left
        · simp only [Act.put, List.setIfInBounds_toArray, List.set_cons_zero, List.set_cons_succ, i64_w, i32_w]
          rfl
        refine take_ (i := 8) (N := some 57) (v := ?_) (a' := ?_) #[true, true, true, true, true, true, true, true, true, false, false, false, false, false, false] rfl rfl (by kernel_rfl) (fun _ _ _ h => h) (Or.inl ⟨by rfl, ?_⟩) hHeld ?_ ?_
        rotate_left
        · intro w' s0
          go_simp
          with_reducible rfl
        rotate_left
        · simp only [Act.put, List.setIfInBounds_toArray, List.set_cons_zero, List.set_cons_succ, i64_w, i32_w]
          rfl
        refine pure_ (i := 9) (N := some 58) (v := ?_) (a' := ?_) #[true, true, true, true, true, true, true, true, true, true, false, false, false, false, false] rfl rfl (by kernel_rfl) (fun _ _ _ h => h) (Or.inl ⟨by rfl, ?_⟩) ?_ ?_
        rotate_left
        · intro w'
          go_simp
          with_reducible rfl
        rotate_left
        · simp only [Act.put, List.setIfInBounds_toArray, List.set_cons_zero, List.set_cons_succ, i64_w, i32_w]
          rfl
        refine pure_ (i := 10) (N := some 59) (v := ?_) (a' := ?_) #[true, true, true, true, true, true, true, true, true, true, true, false, false, false, false] rfl rfl (by kernel_rfl) (fun _ _ _ h => h) (Or.inl ⟨by rfl, ?_⟩) ?_ ?_
        rotate_left
        · intro w'
          go_simp
          with_reducible rfl
        rotate_left
        · simp only [Act.put, List.setIfInBounds_toArray, List.set_cons_zero, List.set_cons_succ, i64_w, i32_w]
          rfl
        refine pure_ (i := 11) (N := some 60) (v := ?_) (a' := ?_) #[true, true, true, true, true, true, true, true, true, true, true, true, false, false, false] rfl rfl (by kernel_rfl) (fun _ _ _ h => h) (Or.inl ⟨by rfl, ?_⟩) ?_ ?_
        rotate_left
        · intro w'
          go_simp
          with_reducible rfl
        rotate_left
        · simp only [Act.put, List.setIfInBounds_toArray, List.set_cons_zero, List.set_cons_succ, i64_w, i32_w]
          rfl
        refine pure_ (i := 12) (N := some 61) (v := ?_) (a' := ?_) #[true, true, true, true, true, true, true, true, true, true, true, true, true, false, false] rfl rfl (by kernel_rfl) (fun _ _ _ h => h) (Or.inl ⟨by rfl, ?_⟩) ?_ ?_
        rotate_left
        · intro w'
          go_simp
          with_reducible rfl
        rotate_left
        · simp only [Act.put, List.setIfInBounds_toArray, List.set_cons_zero, List.set_cons_succ, i64_w, i32_w]
          rfl
        refine pure_ (i := 13) (N := some 62) (v := ?_) (a' := ?_) #[true, true, true, true, true, true, true, true, true, true, true, true, true, true, false] rfl rfl (by kernel_rfl) (fun _ _ _ h => h) (Or.inl ⟨by rfl, ?_⟩) ?_ ?_
        rotate_left
        · intro w'
          go_simp
          with_reducible rfl
        rotate_left
        · simp only [Act.put, List.setIfInBounds_toArray, List.set_cons_zero, List.set_cons_succ, i64_w, i32_w]
          rfl
        refine last_ (i := 14) (N := none) #[true, true, true, true, true, true, true, true, true, true, true, true, true, true, true] rfl rfl (by kernel_rfl) (by decide) (fun K hK => ?_)
        refine st_store (by rfl) rfl H.out.drew (i := 0) rfl 1 (.int .i64 (wrap64 (sp + min (max 1 0) (wrap64 (4611686018427387904 - sp))))) rfl ?hr ?_
        (case hr => first | (go_simp; done) | (go_simp; rfl))
        intro w21_ H1
        clear H cS fS
        have H := Aside0.mk (show St w U w21_ [blk gm #[.int .i64 bu, .int .i64 (wrap64 (sp + min (max 1 0) (wrap64 (4611686018427387904 - sp)))), .chan (some gc)] 63, cch gc false] from H1)
        clear H1
        refine hK.out _ _ ?_
        clear hK K
        refine done_ (by kernel_rfl) ?_

        go_wp2_with fail
        go_ret
        rw [newsp HX.out.1 HX.out.2.1] at H
        rw [HE.out]
        exact ⟨[_], ⟨rfl, rfl⟩, mtr_shut (x := ⟨bu, (sp + min 1 (4611686018427387904 - sp)), false⟩) (by have := HX.out; dsimp only at this ⊢; omega) H.out⟩
end Go.Proofs.Ytckimhhncpnkpaa.H
/- The meter: New, Over. -/
namespace Go.Proofs.Ytckimhhncpnkpaa.H
set_option linter.unusedSimpArgs false
set_option linter.unusedVariables false
open Go.RowKit Go.Proofs.YtckimhhncpnkpaaW.PrintWords Go.Proofs.YtckimhhncpnkpaaW.PrintLast Go.Proofs.YtckimhhncpnkpaaW.PrintMore Go.Proofs.Ytckimhhncpnkpaa.Sep Go.Proofs.Ytckimhhncpnkpaa.Sat
theorem ev_mkchan {ops : Array Oper} {o_ : Oper} {rest : List Oper} {a : Act} {Q : Exit → Act → World → Prop} {w0 W : World} {U : Nat → Prop} {L : List Ch} (hgd : o_.guard = none) (H : St w0 U W L) {t e : TypeId} {dir : ChanDir} {i : TypeInfo} {N : Tmp} (ht : Try.prog.underlying t = some (.chan dir e)) (hi : Try.prog.info? e = some i) (hb : (i.bytes : Int) * (0 : Nat) ≤ 281474976710544) (ho : o_.op = .makeChan t (.const (.int .i64 (0 : Nat))))
    (hN : o_.dst = some N) (h : ∀ g w1, St w0 U w1 (cch g false :: L) → wpList Try.prog ops Q rest (a.put (some N) (.chan (some g))) w1) : wpList Try.prog ops Q (o_ :: rest) a W := by
  have hr := Go.Conc.run_makeChan (P := Try.prog) (w := W) ht hi .i64 0 (by decide) hb
  have h1 := H.new (below_alloc (Below.refl W.heap.size W) _) (A := cch W.heap.size false) (fp := fun k => k = W.heap.size) ⟨blk_new W (.chan 0 #[] false 0 0 false), fun _ => Iff.rfl⟩ (fun k hk => Nat.le_of_eq hk.symm)
  have hk := h _ _ h1
  rw [← hN] at hk
  refine Kd.event_run hgd (v := .chan (some W.heap.size)) ?_ hk
  unfold execOp
  simp only [ho, Sem.run_bind, Sem.run_pure, Result.andThen_ok, Act.eval, hr]
set_option maxHeartbeats 1000000 in
set_option maxRecDepth 100000 in
theorem q_MNew (w : World) (bu : Int) (hb : -9223372036854775808 ≤ bu ∧ bu ≤ 9223372036854775807) : Go.Proofs.Ytckimhhncpnkpaa.Sep.Does Try.prog 19 #[.int .i64 bu] w [] fun e L => ∃ gm gc, e = .returned (.pointer (some ⟨gm, 0, none⟩)) ∧ L = [mtr gm gc (some ⟨bu, 0, false⟩)] := by
  have mixed : Try.prog.follows Departure.mixedOrders = true := by kernel_rfl
  refine does_intro fun U hs => ?_
  have HB := Aside0.mk hb
  have H := Aside0.mk (show St w U w [] from hs)
  clear hs hb
  go_enter Try.func19, Try.ntmps19
  go_wp2_with (first
    | ((with_reducible refine gate_dst (N := 4) rfl ?_); refine ev_mkchan rfl H.out (N := 4) rfl rfl (by decide) rfl rfl ?_; intro gc w9_ H9; clear H; have H := Aside0.mk H9; clear H9)
    | ((with_reducible refine gate_dst (N := 6) rfl ?_); refine ev_box rfl H.out (cs := #[.int .i64 bu, .int .i64 0, .chan (some gc)]) (t := 63) ?hr ?_; (case hr => first | (go_simp; done) | (go_simp; rfl)); intro gm w1_ H1; clear H; have H := Aside0.mk (show St w U w1_ [blk gm #[.int .i64 bu, .int .i64 0, .chan (some gc)] 63, cch gc false] from H1); clear H1))
  go_ret
  exact ⟨[_], ⟨_, _, rfl, rfl⟩, mtr_shut (x := ⟨bu, 0, false⟩) ⟨Int.le_refl 0, (by decide : (0 : Int) ≤ 4611686018427387904), HB.out⟩ H.out⟩
/-- Over, asked where the meter's memory stands. -/
theorem q_OverS {w0 w : World} {U : Nat → Prop} {L : List Ch} {i gm gc : Nat} {x : Mtr} (h : St w0 U w L) (hi : L[i]? = some (mtr gm gc (some x))) :
    Calls Try.prog 20 #[.pointer (some ⟨gm, 0, none⟩)] w fun e w' => e = .returned (.bool x.over) ∧ w = w' := by
  obtain ⟨fp, hs, _⟩ := h.sat hi
  have h1 : Sep w (mtr gm gc (some x) :: []) fp := ⟨fp, hs, fun _ hk => hk, trivial⟩
  obtain ⟨_, h2⟩ := mtr_open h1
  have h3 : St w (fun _ => True) w _ := St.start (h2.mono (fun _ _ => trivial)) (fun _ _ => trivial)
  exact q_Over (h3.cell (i := 0) rfl 2) (st_cch h3 (i := 1) rfl)
end Go.Proofs.Ytckimhhncpnkpaa.H
/- SatBudget. -/
namespace Go.Proofs.Ytckimhhncpnkpaa.H
set_option linter.unusedSimpArgs false
set_option linter.unusedVariables false
open Go.RowKit Go.Proofs.YtckimhhncpnkpaaW.PrintWords Go.Proofs.YtckimhhncpnkpaaW.PrintLast Go.Proofs.YtckimhhncpnkpaaW.PrintMore Go.Proofs.Ytckimhhncpnkpaa.Sep Go.Proofs.Ytckimhhncpnkpaa.Sat
theorem ans_two {gs : List (List Int)} {am : List Int} {v r v' r' : Int} {out out' : List Bool} {m m' : Option Mtr} (h : Ans gs am v out r m) (h' : Ans gs am v' out' r' m') (hr : r ≠ 3) (hr' : r' ≠ 3) : r = r' ∧ (r = 1 ∨ r = 2) := by
  rcases h with ⟨e, a, ha, hb, _⟩ | ⟨e, _, hno⟩ | ⟨e, _⟩
  · rcases h' with ⟨e', _⟩ | ⟨e', _, hno⟩ | ⟨e', _⟩
    · exact ⟨by omega, .inl e⟩
    · obtain ⟨x, hx, he⟩ := hno a ha
      rw [hb x hx] at he; cases he
    · exact absurd e' hr'
  · rcases h' with ⟨e', a, ha, hb, _⟩ | ⟨e', _⟩ | ⟨e', _⟩
    · obtain ⟨x, hx, he⟩ := hno a ha
      rw [hb x hx] at he; cases he
    · exact ⟨by omega, .inr e⟩
    · exact absurd e' hr'
  · exact absurd e hr
/-- What the three answers are together. -/
theorem budget_says {gs : List (List Int)} {am : List Int} {v1 v2 v3 r1 r2 r3 : Int} {o1 o2 o3 : List Bool} {m' : Option Mtr} (h1 : Ans gs am v1 o1 r1 m') (h2 : Ans gs am v2 o2 r2 none) (n2 : r2 ≠ 3) (h3 : Ans gs am v3 o3 r3 none) (n3 : r3 ≠ 3) :
    r3 = r2 ∧ ((r1 = 3 ∧ o1 = [] ∧ ∃ x, m' = some x ∧ x.over = true ∧ r2 = 1) ∨ (r1 = 3 ∧ o1 = [] ∧ ∃ x, m' = some x ∧ x.over = true ∧ r2 = 2) ∨ (r1 = 1 ∧ r2 = 1) ∨ (r1 = 2 ∧ r2 = 2)) := by
  obtain ⟨e, e2⟩ := ans_two h3 h2 n3 n2
  refine ⟨e, ?_⟩
  by_cases hr : r1 = 3
  · rcases h1 with ⟨k, _⟩ | ⟨k, _⟩ | ⟨k, ho, x, hm, hx⟩
    · omega
    · omega
    · rcases e2 with e2 | e2
      · exact .inl ⟨k, ho, x, hm, hx, by omega⟩
      · exact .inr (.inl ⟨k, ho, x, hm, hx, by omega⟩)
  · obtain ⟨k, k2⟩ := ans_two h1 h2 hr n2
    rcases k2 with k2 | k2
    · exact .inr (.inr (.inl ⟨k2, by omega⟩))
    · exact .inr (.inr (.inr ⟨k2, by omega⟩))
set_option maxHeartbeats 4000000 in
set_option maxRecDepth 100000 in
theorem law_SatBudget {w : World} {A D : Option Addr} {c d : Nat} {vs : List Value} {ls : List (List Int)} {am : List Int} (seed bu : Int) (hr : RR w A vs ls) (ha : Rd w D am) (hn : am.length ≤ 9223372036854775807) (hbu : -9223372036854775808 ≤ bu ∧ bu ≤ 9223372036854775807) :
    Calls Try.prog 7 #[.slice A ls.length c, .slice D am.length d, .int .i64 seed, .int .i64 bu] w fun e w' => e = .returned (.bool true) ∧ Below w.heap.size w w' := by
  have mixed : Try.prog.follows Departure.mixedOrders = true := by kernel_rfl
  have HR := Aside0.mk hr
  have HA := Aside0.mk ha
  have HAN := Aside0.mk hn
  have HBU := Aside0.mk hbu
  have H0 := Aside0.mk (old_start w)
  clear hr ha hn hbu
  go_enter Try.func7, Try.ntmps7
  cases hlit : am.all isLit with
  | false =>
    have HLT := Aside0.mk hlit
    clear hlit
    go_wp2_with (first
      | (go_at_call 8; (refine (q_awake _).mono ?_); rintro e w1 ⟨rfl, hb1⟩; have H1 := H0.out.quiet hb1; clear H0 hb1; have H0 := Aside0.mk H1; clear H1)
      | (go_at_call 9; (refine (q_few (st_rr H0.out (i := 0) rfl HR.out) (H0.out.lets (i := 0) rfl (Lets.old HA.out)) (by omega)).mono ?_); rintro e w2 ⟨b, rfl, hfew, hb1⟩; have H1 := H0.out.quiet hb1; clear H0 hb1; have H0 := Aside0.mk H1; clear H1; have HF := Aside0.mk hfew; clear hfew; cases b)
      | (go_at_call 11; (refine (q_LiteralsW (H0.out.lets (i := 0) rfl (Lets.old HA.out)) HAN.out).mono ?_); rintro e w4 ⟨rfl, hb1⟩; have H1 := H0.out.quiet hb1; clear H0 hb1; have H0 := Aside0.mk H1; clear H1; rw [HLT.out])
      | (go_at_call 19; (refine (St.does (L1 := []) (L2 := [old w]) H0.out (q_MNew _ bu HBU.out)).mono ?_); rintro e w5 ⟨L1', ⟨gm, gc, rfl, rfl⟩, H1⟩; clear H0; have H0 := Aside0.mk (show St w (fun _ => True) w5 [mtr gm gc (some ⟨bu, 0, false⟩), old w] from H1); clear H1))
    all_goals
      go_ret
      exact ⟨rfl, H0.out.oldBelow (i := 1) rfl⟩
  | true =>
    have HLT := Aside0.mk hlit
    have t0_ := Aside0.mk True.intro
    clear hlit
    go_wp2_with (first
      | (go_at_call 8; (refine (q_awake _).mono ?_); rintro e w1 ⟨rfl, hb1⟩; have H1 := H0.out.quiet hb1; clear H0 hb1; have H0 := Aside0.mk H1; clear H1)
      | (go_at_call 9; (refine (q_few (st_rr H0.out (i := 0) rfl HR.out) (H0.out.lets (i := 0) rfl (Lets.old HA.out)) (by omega)).mono ?_); rintro e w2 ⟨b, rfl, hfew, hb1⟩; have H1 := H0.out.quiet hb1; clear H0 hb1; have H0 := Aside0.mk H1; clear H1; have HF := Aside0.mk hfew; clear hfew; cases b)
      | (go_at_call 11; (refine (q_LiteralsW (H0.out.lets (i := 0) rfl (Lets.old HA.out)) HAN.out).mono ?_); rintro e w4 ⟨rfl, hb1⟩; have H1 := H0.out.quiet hb1; clear H0 hb1; have H0 := Aside0.mk H1; clear H1; rw [HLT.out])
      | (go_at_call 19; (refine (St.does (L1 := []) (L2 := [old w]) H0.out (q_MNew _ bu HBU.out)).mono ?_); rintro e w5 ⟨L1', ⟨gm, gc, rfl, rfl⟩, H1⟩; clear H0; have H0 := Aside0.mk (show St w (fun _ => True) w5 [mtr gm gc (some ⟨bu, 0, false⟩), old w] from H1); clear H1))
    · go_ret
      exact ⟨rfl, H0.out.oldBelow (i := 1) rfl⟩
    go_wp2_with (first
      | (go_at_call 11; (refine (q_LiteralsW (H0.out.lets (i := 0) rfl (Lets.old HA.out)) HAN.out).mono ?_); rintro e w4 ⟨rfl, hb1⟩; have H1 := H0.out.quiet hb1; clear H0 hb1; have H0 := Aside0.mk H1; clear H1; rw [HLT.out])
      | (go_at_call 19; (refine (St.does (L1 := []) (L2 := [old w]) H0.out (q_MNew _ bu HBU.out)).mono ?_); rintro e w5 ⟨L1', ⟨gm, gc, rfl, rfl⟩, H1⟩; clear H0; have H0 := Aside0.mk (show St w (fun _ => True) w5 [mtr gm gc (some ⟨bu, 0, false⟩), old w] from H1); clear H1)
      | (go_at_call 10; have tk := t0_; have hF := HF.out (by first | rfl | trivial); have HFW := Aside0.mk hF; clear hF HF; have HX := Aside0.mk (show ∀ x ∈ am, x.natAbs < 15 from fun x hx => by obtain ⟨n, hn, hnb, hgn, han⟩ := good_most (v := 14) HFW.out HLT.out; have := (han x hx).2; omega); (refine (St.does (L1 := [old w]) (L2 := [mtr gm gc (some ⟨bu, 0, false⟩)]) (H0.out.perm (perm_idx [1, 0] (by rfl) rfl)) (q_made (N := 15) (B0 := 14348907) HR.out (by have := HFW.out.rows; omega) HFW.out.each (fun l hl x hx => by have := few_var HFW.out (.inl (List.mem_filter.1 hl).1) hx (goods_lit l hl x hx); omega) (by omega) (miss_le 15 []) (by omega))).mono ?_); rintro e w6 ⟨L1', ⟨b, S, rfl, rfl, hRN⟩, H1⟩; clear H0; have H0 := Aside0.mk (show St w (fun _ => True) w6 [sol b S, old w, mtr gm gc (some ⟨bu, 0, false⟩)] from H1); clear H1; have HRN0 := Aside0.mk (RestN_mono hRN (show _ ≤ 14349100 by have := HFW.out.rows; omega)); clear hRN; clear tk t0_; have t1_ := Aside0.mk True.intro)
      | (go_at_call 13; have tk := t1_; obtain ⟨S1, m', out, r, n1, hRs, _, hAns, hD⟩ := q_SolveR (cA := d) (q_Spend gm gc) HRN0.out (by omega) (by omega) (by omega) (Lets.old HA.out) (List.all_eq_true.1 HLT.out) HX.out (by have := HFW.out.amN; omega) seed (some ⟨bu, 0, false⟩); (refine (St.does (L1 := [mtr gm gc (some ⟨bu, 0, false⟩), sol b S, old w]) (L2 := []) (H0.out.perm (perm_idx [2, 0, 1] (by rfl) rfl)) (hD _ _)).mono ?_); rintro e w7 ⟨L1', ⟨B', c', rfl, rfl⟩, H1⟩; clear H0 hD; have H0 := Aside0.mk (show St w (fun _ => True) w7 [br B' out.length c' out, mtr gm gc m', sol b S1, old w] from H1); clear H1; have HR1_ := Aside0.mk hRs; have HA1 := Aside0.mk hAns; clear hAns hRs; clear tk t1_; have t2_ := Aside0.mk True.intro)
      | (go_at_call 13; have tk := t2_; obtain ⟨S2, out2, r2, n2, hRs, hr3, hAns, hD⟩ := q_SolveN (cA := d) (.inl ⟨_, HR1_.out⟩) (by omega) (by omega) (by omega) (Lets.old HA.out) (List.all_eq_true.1 HLT.out) HX.out (by have := HFW.out.amN; omega) seed; (refine (St.does (L1 := [sol b S1, old w]) (L2 := [br B' out.length c' out, mtr gm gc m']) (H0.out.perm (perm_idx [2, 3, 0, 1] (by rfl) rfl)) (hD _ _)).mono ?_); rintro e w8 ⟨L1', ⟨B2, c2, rfl, rfl⟩, H1⟩; clear H0 hD HR1_; have H0 := Aside0.mk (show St w (fun _ => True) w8 [old w, br B' out.length c' out, mtr gm gc m'] from H1.drop.drop); clear H1; have HA2 := Aside0.mk (And.intro hr3 hAns); clear hAns hr3 hRs; clear tk t2_; have t3_ := Aside0.mk True.intro)
      | (go_at_call 10; have tk := t3_; (refine (St.does (L1 := [old w]) (L2 := [br B' out.length c' out, mtr gm gc m']) (H0.out) (q_made (N := 15) (B0 := 14348907) HR.out (by have := HFW.out.rows; omega) HFW.out.each (fun l hl x hx => by have := few_var HFW.out (.inl (List.mem_filter.1 hl).1) hx (goods_lit l hl x hx); omega) (by omega) (miss_le 15 []) (by omega))).mono ?_); rintro e w9 ⟨L1', ⟨b5, S5, rfl, rfl, hRN⟩, H1⟩; clear H0; have H0 := Aside0.mk (show St w (fun _ => True) w9 [sol b5 S5, old w, br B' out.length c' out, mtr gm gc m'] from H1); clear H1; have HRN3 := Aside0.mk (RestN_mono hRN (show _ ≤ 14349100 by have := HFW.out.rows; omega)); clear hRN; clear tk t3_; have t4_ := Aside0.mk True.intro)
      | (go_at_call 13; have tk := t4_; obtain ⟨S6, out3, r3, n3, hRs, hr3, hAns, hD⟩ := q_SolveN (cA := d) HRN3.out (by omega) (by omega) (by omega) (Lets.old HA.out) (List.all_eq_true.1 HLT.out) HX.out (by have := HFW.out.amN; omega) seed; (refine (St.does (L1 := [sol b5 S5, old w]) (L2 := [br B' out.length c' out, mtr gm gc m']) H0.out (hD _ _)).mono ?_); rintro e w10 ⟨L1', ⟨B3, c3, rfl, rfl⟩, H1⟩; clear H0 hD HRN3; have H0 := Aside0.mk (show St w (fun _ => True) w10 [old w, br B' out.length c' out, mtr gm gc m'] from H1.drop.drop); clear H1; obtain ⟨rfl, hc⟩ := budget_says HA1.out HA2.out.2 HA2.out.1 hAns hr3; clear hAns hr3 hRs HA1 HA2; clear tk t4_; have t5_ := Aside0.mk True.intro; rcases hc with ⟨rfl, rfl, x, rfl, ho, rfl⟩ | ⟨rfl, rfl, x, rfl, ho, rfl⟩ | ⟨rfl, rfl⟩ | ⟨rfl, rfl⟩))
    · have HO := Aside0.mk ho
      clear ho
      go_wp2_with (first
        | (go_at_call 20; (refine (q_OverS H0.out (i := 2) rfl).mono ?_); rintro e w' ⟨rfl, rfl⟩; rw [HO.out]))
      go_ret
      exact ⟨rfl, H0.out.oldBelow (i := 0) rfl⟩
    · have HO := Aside0.mk ho
      clear ho
      go_wp2_with (first
        | (go_at_call 20; (refine (q_OverS H0.out (i := 2) rfl).mono ?_); rintro e w' ⟨rfl, rfl⟩; rw [HO.out]))
      go_ret
      exact ⟨rfl, H0.out.oldBelow (i := 0) rfl⟩
    · go_ret
      exact ⟨rfl, H0.out.oldBelow (i := 0) rfl⟩
    · go_ret
      exact ⟨rfl, H0.out.oldBelow (i := 0) rfl⟩
end Go.Proofs.Ytckimhhncpnkpaa.H
/- What is read as data, of any shape: a kind's reading, type by type. -/
namespace Go.Proofs.Ytckimhhncpnkpaa.H
open Go.RowKit Go.Proofs.YtckimhhncpnkpaaW.PrintWords
/-- Whatever reads as data of the type is of the kind. -/
def Opens {α : Type} (P : Program) (d : Kd α) (t : TypeId) (g : α → Prop) : Prop := P.cellsOf t = d.sz ∧
  ∀ (H : Type) (enc : TypeId × Value → H) (w : World) (base : Nat) (spare : Nat → Bool) (held : Bool) (fuel : Nat) (cs : List Value) (x : DataW H × List MemPlace), DataW.trod enc P w base spare held fuel t cs = some x → ∃ v, d.K w v cs ∧ g v
theorem Opens.int {P : Program} {t : TypeId} {k : IntKind} (ht : P.underlying t = some (.int k)) (hc : P.cellsOf t = 1) : Opens P (Kd.int k) t (fun v => (Lit.int k v).wf = true) :=
  ⟨hc, fun H enc w base spare held fuel cs x h => by obtain ⟨n, e, _, hw⟩ := DataW.trod_int ht h; exact ⟨n, e, hw⟩⟩
theorem Opens.bool {P : Program} {t : TypeId} (ht : P.underlying t = some .bool) (hc : P.cellsOf t = 1) : Opens P Kd.bool t (fun _ => True) :=
  ⟨hc, fun H enc w base spare held fuel cs x h => by obtain ⟨n, e, _⟩ := DataW.trod_bool ht h; exact ⟨n, e, trivial⟩⟩
theorem reads_of_each {α : Type} {P : Program} {d : Kd α} {e : TypeId} {g : α → Prop} {H : Type} {enc : TypeId × Value → H} {w : World} {base : Nat} {spare : Nat → Bool} {held : Bool} {a : Addr} {len m n : Nat} {D : Nat → DataW H} {Pl : Nat → List MemPlace}
    (he : Opens P d e g) (hlm : len ≤ m) (hlen : len ≤ maxLen) (hx : ∀ i, i < m → ∃ cs', w.cells? base (a.add (i * P.cellsOf e)) (P.cellsOf e) = some cs' ∧ DataW.trod enc P w base spare held n e cs' = some (D i, Pl i)) :
    ∃ l : List α, l.length = len ∧ d.C w (some a) len l ∧ ∀ x ∈ l, g x := by
  by_cases h0 : len = 0
  · subst h0; exact ⟨[], rfl, ⟨rfl, Nat.zero_le _, fun h => absurd h (Nat.lt_irrefl 0)⟩, by simp⟩
  have each : ∀ i, i < len → ∃ v : α, (∃ cs', w.cells? base (a.add (i * P.cellsOf e)) (P.cellsOf e) = some cs' ∧ d.K w v cs') ∧ g v := by
    intro i hi
    obtain ⟨cs', h1, h2⟩ := hx i (by omega)
    obtain ⟨v, h3, h4⟩ := he.2 _ _ _ _ _ _ _ _ _ h2
    exact ⟨v, ⟨cs', h1, h3⟩, h4⟩
  haveI : Inhabited α := ⟨(each 0 (by omega)).choose⟩
  obtain ⟨q, hq⟩ := Go.Deep.choose_lt each
  refine ⟨(List.range len).map q, by simp, ⟨by simp, Nat.le_trans hlen (by decide), fun hn => ⟨a, rfl, fun j p hp => ?_⟩⟩, fun x hx => ?_⟩
  · rw [List.getElem?_map] at hp
    obtain ⟨j', hj', rfl⟩ := Option.map_eq_some_iff.1 hp
    obtain ⟨hjl, rfl⟩ := List.getElem?_eq_some_iff.1 hj'
    rw [List.length_range] at hjl
    simp only [List.getElem_range]
    obtain ⟨cs', h1, h2⟩ := (hq j hjl).1
    obtain ⟨_, hl, hc⟩ := World.cells?_some h1
    rw [he.1] at hl hc
    refine ⟨cs', hl, h2, fun i u hu => ?_⟩
    have hi : i < cs'.length := (List.getElem?_eq_some_iff.1 hu).1
    have := hc i (by omega)
    rw [Go.Deep.add_add] at this
    exact this.trans hu
  · obtain ⟨j, hj, rfl⟩ := List.mem_map.1 hx
    exact (hq j (List.mem_range.1 hj)).2
theorem Opens.slice {α : Type} {P : Program} {d : Kd α} {t e : TypeId} {g : α → Prop} (ht : P.underlying t = some (.slice e)) (hc : P.cellsOf t = 1) (he : Opens P d e g) : Opens P (Kd.slice e d) t (fun l => ∀ x ∈ l, g x) :=
  ⟨hc, fun H enc w base spare held fuel cs x h => by
    rcases Go.Deep.open_slice ht h with ⟨rfl, _⟩ | ⟨a, len, cap, m, n, D, Pl, rfl, hb, hl, hm, hmm, _, hx⟩
    · exact ⟨[], ⟨none, 0, rfl, Nat.le_refl _, ⟨rfl, Nat.zero_le _, fun h => absurd h (Nat.lt_irrefl 0)⟩⟩, by simp⟩
    · have hlm : len ≤ m := by rw [hmm]; split <;> omega
      obtain ⟨l, rfl, h1, h2⟩ := reads_of_each he hlm (Nat.le_trans hl hm) hx
      exact ⟨l, ⟨some a, cap, rfl, hl, h1⟩, h2⟩⟩
/-- The fields from a place on. -/
def OpensAt {α : Type} (P : Program) (N : Nat) (d : Kd α) (fs : List Field) (o : Nat) (g : α → Prop) : Prop := o + d.sz = N ∧
  ∀ (H : Type) (enc : TypeId × Value → H) (w : World) (base : Nat) (spare : Nat → Bool) (held : Bool) (n : Nat) (cs : List Value), cs.length = N → (∀ f ∈ fs, ∃ x, DataW.trod enc P w base spare held n f.type ((cs.drop f.offset).take (P.cellsOf f.type)) = some x) → ∃ v, d.K w v (cs.drop o) ∧ g v
theorem OpensAt.last {α : Type} {P : Program} {N : Nat} {d : Kd α} {f : Field} {o : Nat} {g : α → Prop} (ho : f.offset = o) (h : Opens P d f.type g) (hN : o + d.sz = N) : OpensAt P N d [f] o g :=
  ⟨hN, fun H enc w base spare held n cs hl hf => by
    obtain ⟨x, hx⟩ := hf f List.mem_cons_self
    rw [ho, List.take_of_length_le (by rw [List.length_drop, h.1]; omega)] at hx
    exact h.2 _ _ _ _ _ _ _ _ _ hx⟩
theorem OpensAt.cons {α β : Type} {P : Program} {N : Nat} {d : Kd α} {d' : Kd β} {f : Field} {r : List Field} {o : Nat} {g : α → Prop} {g' : β → Prop} (ho : f.offset = o) (h : Opens P d f.type g) (hr : OpensAt P N d' r (o + d.sz) g') : OpensAt P N (Kd.pair d d') (f :: r) o (fun x => g x.1 ∧ g' x.2) :=
  ⟨by have := hr.1; show o + (d.sz + d'.sz) = N; omega, fun H enc w base spare held n cs hl hf => by
    obtain ⟨x, hx⟩ := hf f List.mem_cons_self
    rw [ho, h.1] at hx
    obtain ⟨v, h1, h2⟩ := h.2 _ _ _ _ _ _ _ _ _ hx
    obtain ⟨v', h3, h4⟩ := hr.2 H enc w base spare held n cs hl (fun f' hf' => hf f' (List.mem_cons_of_mem _ hf'))
    refine ⟨(v, v'), ⟨_, _, ?_, h1, h3⟩, h2, h4⟩
    rw [← List.drop_drop, List.take_append_drop]⟩
theorem Opens.struct {α : Type} {P : Program} {d : Kd α} {t : TypeId} {fs : Array Field} {g : α → Prop} (ht : P.underlying t = some (.struct fs)) (hc : P.cellsOf t = d.sz) (h : OpensAt P d.sz d fs.toList 0 g) : Opens P d t g :=
  ⟨hc, fun H enc w base spare held fuel cs x hx => by
    obtain ⟨xs, n, _, _, hl, hxl, hf⟩ := DataW.trod_struct ht hx
    obtain ⟨v, h1, h2⟩ := h.2 H enc w base spare held n cs (hl.trans hc) (fun f hfm => by
      obtain ⟨i, hi⟩ := List.getElem?_of_mem hfm
      have h1 : fs[i]? = some f := by rw [← Array.getElem?_toList]; exact hi
      have h2 := hf i f h1
      have hlt : i < xs.length := by rw [hxl]; exact (Array.getElem?_eq_some_iff.1 h1).1
      rw [List.getElem?_eq_getElem hlt] at h2
      exact ⟨_, h2⟩)
    exact ⟨v, h1, h2⟩⟩
/-- An argument that is a slice. -/
theorem Opens.arg_slice {α : Type} {P : Program} {d : Kd α} {t e : TypeId} {g : α → Prop} {H : Type} {enc : TypeId × Value → H} {w : World} {base : Nat} {spare : Nat → Bool} {held : Bool} {A : Option Addr} {len cap : Nat} {D : DataW H} {pl : List MemPlace}
    (ht : P.underlying t = some (.slice e)) (he : Opens P d e g) (h : DataW.Trod enc P w base spare held t (.slice A len cap) D pl) :
    ∃ l : List α, l.length = len ∧ len ≤ cap ∧ d.C w A len l ∧ ∀ x ∈ l, g x := by
  obtain ⟨fuel, hf⟩ := h
  rcases Go.Deep.open_slice ht hf with ⟨hcs, _⟩ | ⟨a, len', cap', m, n, D, Pl, hcs, hb, hl, hm, hmm, _, hx⟩
  · simp [Value.cells] at hcs
    obtain ⟨rfl, rfl, rfl⟩ := hcs
    exact ⟨[], rfl, Nat.le_refl _, ⟨rfl, Nat.zero_le _, fun h => absurd h (Nat.lt_irrefl 0)⟩, by simp⟩
  · simp [Value.cells] at hcs
    obtain ⟨rfl, rfl, rfl⟩ := hcs
    have hlm : len ≤ m := by rw [hmm]; split <;> omega
    obtain ⟨l, h0, h1, h2⟩ := reads_of_each he hlm (Nat.le_trans hl hm) hx
    exact ⟨l, h0, hl, h1, h2⟩
end Go.Proofs.Ytckimhhncpnkpaa.H
/- Written by wip/tools/rows.py. -/
namespace Go.Proofs.Ytckimhhncpnkpaa.satBudget
open Go.ChangeShapes Go.WideShapes Go.ChangeAt Go.RowKit
open Go.ChangeMaps (open_string shut_string)
set_option linter.unusedVariables false
theorem own : ownKnob Try.prog.godebug = none := by kernel_rfl
theorem laidOut : laidOutB Try.prog = true := by kernel_rfl
def IsRow (k : IntKind) (w : World) (a : Option Addr) (len cap : Nat) (zs : List Int) : Prop :=
  (a = none ∧ len = 0 ∧ cap = 0 ∧ zs = []) ∨
  ∃ x, a = some x ∧ len ≤ cap ∧ cap ≤ maxLen ∧ zs.length = cap ∧ (∀ i, i < zs.length → w.cell? (x.add i) = some (.int k (zs.getD i 0))) ∧ ∀ n ∈ zs, (Lit.int k n).wf = true
set_option maxRecDepth 100000 in
theorem lifted (os : Os) (started : os.Started) (H : Type) (enc : TypeId × Value → H) :
    ReturnsInHanded {} Try.checked os 7 .any (Rows.satBudgetSpec.pre6 enc Try.prog Try.f7 Rows.satBudgetRow.domain false) (Rows.satBudgetSpec.post enc Try.prog Try.f7 false true false false) := by
  refine returnsInHanded_of_change_sized (C := Try.checked) own started (by kernel_rfl) Try.func7
    (ChangeSpec.witness6 (enc := enc) (C := Try.checked) false ⟨#[], #[.slice none 0 0, .slice none 0 0, .int .i64 0, .int .i64 0], []⟩ 8 (by kernel_rfl) (by kernel_rfl) (by kernel_rfl) (by kernel_rfl)) ?_
  intro W base args ds gs before hval0 hW hcnd hsz0 _
  have hsz : (DataW.weightsEach Try.prog (Try.f7.params.toList ++ Rows.satBudgetSpec.plain.varTypes Try.prog) (ds ++ gs)).all (· ≤ reachBytes) = true := hsz0
  have hval : ∀ (j : Nat) t v, Try.f7.params[j]? = some t → args[j]? = some v → Value.okWide Try.prog W .any base t v := hval0
  have hW' := hW
  obtain ⟨p, q, hA0, hV, rfl, hfz, hnd⟩ := hW
  have hA : DataW.TrodAll enc Try.prog W 0 (fun _ => true) true Try.f7.params.toList args.toList ds p := hA0
  rw [Try.params7] at hA hval hsz
  obtain ⟨v0, vs0, d0, ds0, p0, q0, hargs, rfl, rfl, h0, r0⟩ := trodAll_cons hA
  obtain ⟨v1, vs1, d1, ds1, p1, q1, rfl, rfl, rfl, h1, r1⟩ := trodAll_cons r0
  obtain ⟨v2, vs2, d2, ds2, p2, q2, rfl, rfl, rfl, h2, r2⟩ := trodAll_cons r1
  obtain ⟨v3, vs3, d3, ds3, p3, q3, rfl, rfl, rfl, h3, r3⟩ := trodAll_cons r2
  obtain ⟨rfl, rfl, rfl⟩ := trodAll_nil r3
  obtain rfl : args = #[v0, v1, v2, v3] := by cases args; simp_all
  obtain ⟨rfl, rfl⟩ := trodVars_none hV
  obtain ⟨A0, len0, cap0, rfl⟩ := okWide_slice Try.underlying22 (hval 0 22 v0 rfl rfl)
  have k0 := h0
  have lt0 : ∀ x ∈ p0, x.block < W.heap.size := by obtain ⟨m, hm⟩ := k0; exact DataW.trod_lt m _ _ _ hm
  obtain ⟨l0, hll0, hlc0, hr0, hm0⟩ := Go.Proofs.Ytckimhhncpnkpaa.H.Opens.arg_slice (d := Go.Proofs.YtckimhhncpnkpaaW.PrintWords.Kd.slice 3 (Go.Proofs.YtckimhhncpnkpaaW.PrintWords.Kd.int .i64)) Try.underlying22 (Go.Proofs.Ytckimhhncpnkpaa.H.Opens.slice (by kernel_rfl) (by kernel_rfl) (Go.Proofs.Ytckimhhncpnkpaa.H.Opens.int (by kernel_rfl) (by kernel_rfl))) h0
  subst hll0
  obtain ⟨A1, len1, cap1, rfl⟩ := okWide_slice Try.underlying23 (hval 1 23 v1 rfl rfl)
  have k1 := h1
  have lt1 : ∀ x ∈ p1, x.block < W.heap.size := by obtain ⟨m, hm⟩ := k1; exact DataW.trod_lt m _ _ _ hm
  obtain ⟨l1, hll1, hlc1, hr1, hm1⟩ := Go.Proofs.Ytckimhhncpnkpaa.H.Opens.arg_slice (d := Go.Proofs.YtckimhhncpnkpaaW.PrintWords.Kd.int .i64) Try.underlying23 (Go.Proofs.Ytckimhhncpnkpaa.H.Opens.int (by kernel_rfl) (by kernel_rfl)) h1
  subst hll1
  obtain ⟨a2, rfl, rfl, rfl, w2⟩ := open_int Try.underlying3 (hval 2 3 v2 rfl rfl) h2
  have hb2 := (bounds_i64 w2)
  obtain ⟨a3, rfl, rfl, rfl, w3⟩ := open_int Try.underlying3 (hval 3 3 v3 rfl rfl) h3
  have hb3 := (bounds_i64 w3)
  clear hA0 hval0 hsz0 hsz
  refine (Go.Proofs.Ytckimhhncpnkpaa.H.law_SatBudget a2 a3 (Go.Proofs.Ytckimhhncpnkpaa.H.rr_of_C hr0).choose_spec (Go.Proofs.Ytckimhhncpnkpaa.H.rd_of_C hr1) hr1.2.1 (bounds_i64 w3)).mono fun e W' ⟨he, bel⟩ => ?_
  subst he
  exact ⟨_, rfl, _, _, _, [], _, [], hW', trodAll_mk1 (shut_bool Try.underlying4 _), (trodAll_cons_mk (Below.trod laidOut (by kernel_rfl) (of_decide_eq_true (by kernel_rfl)) k0 bel lt0) (trodAll_cons_mk (Below.trod laidOut (by kernel_rfl) (of_decide_eq_true (by kernel_rfl)) k1 bel lt1) (trodAll_cons_mk (shut_int Try.underlying3 w2) (trodAll_cons_mk (shut_int Try.underlying3 w3) trodAll_mk0)))), rfl, bel.frame _, fun h => by cases h⟩
theorem over : Rows.satBudgetRow.holds Try.pinned (OpenSpec.ofChange Rows.satBudgetSpec) :=
  OpenClaim.holds_of_wide 7 Try.f7 rfl rfl rfl rfl rfl rfl rfl ⟨rfl, rfl, rfl, rfl, rfl⟩ rfl rfl rfl rfl rfl (by kernel_rfl) Try.func7 (by kernel_rfl)
    (of_decide_eq_true (by kernel_rfl)) (by unfold Func.isWrapper; first | (rw [if_pos (by decide +kernel)]; kernel_rfl) | (rw [if_neg (by decide +kernel)]; exact ⟨rfl, rfl⟩))
    (fun os started H enc _ => lifted os started H enc)
theorem proved : Rows.SatBudgetSaid := over
end Go.Proofs.Ytckimhhncpnkpaa.satBudget
namespace Go.Proofs.Ytckimhhncpnkpaa
/-- The row, under a short name, for the claim. -/
theorem satBudget_holds : Rows.SatBudgetSaid := satBudget.proved
end Go.Proofs.Ytckimhhncpnkpaa
